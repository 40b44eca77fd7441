/- A region that draws its order and holds calls whose answers are not told to the letter (slices in new memory): walked once in the order of the text; of each such answer something is told that lasts while old memory stays as it is. No condition. -/
import Derived.Test.YtpjdicndjakeoaaF
import Derived.Test.YtpjdicndjakeoaaK
namespace Go.Proofs.Ytpjdicndjakeoaa
open Go.RowKit
set_option linter.unusedVariables false
/-- What is told of an operation's value. -/
inductive Spec where
  | exact (c : Value)
  | loose (T : Value → World → Prop)
def Spec.holds : Spec → Value → World → Prop
  | .exact c, v, _ => v = c
  | .loose T, v, w => T v w
def Spec.fact : Spec → Value → World → Prop
  | .exact _, _ => fun _ => True
  | .loose T, v => T v
def Spec.mono : Spec → Prop
  | .exact _ => True
  | .loose T => ∀ v w w', Below w.heap.size w w' → T v w → T v w'
def yes : World → Prop := fun _ => True
/-- The walk in the order of the text. -/
def Loose (P : Program) (ops : Array Oper) (Q : Exit → Act → World → Prop) (S : World → Prop) : List Spec → List Oper → List Oper → Act → List (World → Prop) → Prop
  | [], [], suf, a, H => ∀ w, S w → (∀ f ∈ H, f w) → wpList P ops Q suf a w
  | .exact c :: L, o :: rest, suf, a, H => (∀ w, S w → (∀ j ∈ depsOf o, (H.getD j yes) w) → Does P ops o a w fun v w' => v = c ∧ Below w.heap.size w w') ∧ Loose P ops Q S L rest suf (a.put o.dst c) (H ++ [yes])
  | .loose T :: L, o :: rest, suf, a, H => (∀ v w w', Below w.heap.size w w' → T v w → T v w') ∧ (∀ w, S w → (∀ j ∈ depsOf o, (H.getD j yes) w) → Does P ops o a w fun v w' => T v w' ∧ Below w.heap.size w w') ∧ ∀ v, Loose P ops Q S L rest suf (a.put o.dst v) (H ++ [T v])
  | _, _, _, _, _ => False
section
variable {P : Program} {ops : Array Oper} {Q : Exit → Act → World → Prop} {S : World → Prop} {m : Nat}
theorem Loose.nil {suf : List Oper} {a : Act} {H : List (World → Prop)} (h : ∀ w, S w → (∀ f ∈ H, f w) → wpList P ops Q suf a w) : Loose P ops Q S [] [] suf a H := h
theorem Loose.exact {L : List Spec} {o : Oper} {rest suf : List Oper} {a a2 : Act} {H : List (World → Prop)} {c : Value}
    (h : ∀ w, S w → (∀ j ∈ depsOf o, (H.getD j yes) w) → Does P ops o a w fun v w' => v = c ∧ Below w.heap.size w w') (he : a.put o.dst c = a2) (hr : Loose P ops Q S L rest suf a2 (H ++ [yes])) :
    Loose P ops Q S (.exact c :: L) (o :: rest) suf a H := ⟨h, he ▸ hr⟩
theorem Loose.loose {L : List Spec} {o : Oper} {rest suf : List Oper} {a : Act} {a2 : Value → Act} {H : List (World → Prop)} (T : Value → World → Prop) (hm : ∀ v w w', Below w.heap.size w w' → T v w → T v w')
    (h : ∀ w, S w → (∀ j ∈ depsOf o, (H.getD j yes) w) → Does P ops o a w fun v w' => T v w' ∧ Below w.heap.size w w') (he : ∀ v, a.put o.dst v = a2 v) (hr : ∀ v, Loose P ops Q S L rest suf (a2 v) (H ++ [T v])) :
    Loose P ops Q S (.loose T :: L) (o :: rest) suf a H := ⟨hm, h, fun v => by rw [he v]; exact hr v⟩

def factsOf (vs : Nat → Value) : List Spec → Nat → List (World → Prop)
  | [], _ => []
  | s :: L, k => (match s with | .exact _ => yes | .loose T => T (vs k)) :: factsOf vs L (k + 1)
theorem getD_factsOf (vs : Nat → Value) : ∀ (L : List Spec) (k j : Nat) (s : Spec), L[j]? = some s → (factsOf vs L k).getD j yes = (match s with | .exact _ => yes | .loose T => T (vs (k + j)))
  | s :: L, k, 0, s', h => by
    simp at h
    subst h
    cases s <;> rfl
  | s :: L, k, j + 1, s', h => by
    have := getD_factsOf vs L (k + 1) j s' (by simpa using h)
    rw [show k + 1 + j = k + (j + 1) from by omega] at this
    rw [← this]
    simp [factsOf]
theorem length_factsOf (vs : Nat → Value) : ∀ (L : List Spec) (k : Nat), (factsOf vs L k).length = L.length
  | [], _ => rfl
  | s :: L, k => by simp [factsOf, length_factsOf vs L (k + 1)]
theorem getD_left {α : Type} (H G : List α) (d : α) {i : Nat} (h : i < H.length) : (H ++ G).getD i d = H.getD i d := by
  simp only [List.getD_eq_getElem?_getD, List.getElem?_append_left h]
theorem Loose.out {a0 : Act} (vs : Nat → Value) : ∀ (L : List Spec) (pre suf : List Oper) (k : Nat) (a : Act) (H : List (World → Prop)), H.length = k → a = actAt ops a0 vs k →
    (∀ j o, pre[j]? = some o → ops[k + j]? = some o) → (∀ j o, pre[j]? = some o → ∀ i ∈ depsOf o, i < k + j) → (∀ j c, L[j]? = some (.exact c) → vs (k + j) = c) → Loose P ops Q S L pre suf a H →
    L.length = pre.length ∧ (∀ (j : Nat) (s : Spec), L[j]? = some s → s.mono) ∧
    (∀ (j : Nat) (o : Oper) (s : Spec), pre[j]? = some o → L[j]? = some s → ∀ w, S w → (∀ i ∈ depsOf o, ((H ++ factsOf vs L k).getD i yes) w) → Does P ops o (actAt ops a0 vs (k + j)) w fun v w' => s.holds v w' ∧ Below w.heap.size w w') ∧
    ∀ w, S w → (∀ f ∈ H ++ factsOf vs L k, f w) → wpList P ops Q suf (actAt ops a0 vs (k + pre.length)) w
  | [], [], suf, k, a, H, hH, ha, hp, hb, he, h => by
    subst ha
    refine ⟨rfl, fun j s h => by simp at h, fun j o s h => by simp at h, fun w hS hf => ?_⟩
    exact h w hS fun f hf' => hf f (by simp [hf'])
  | [], o :: rest, suf, k, a, H, hH, ha, hp, hb, he, h => h.elim
  | .exact c :: L, [], suf, k, a, H, hH, ha, hp, hb, he, h => h.elim
  | .loose T :: L, [], suf, k, a, H, hH, ha, hp, hb, he, h => h.elim
  | .exact c :: L, o :: rest, suf, k, a, H, hH, ha, hp, hb, he, h => by
    obtain ⟨h1, h2⟩ := h
    have h0 := hp 0 o rfl
    have hd : dstAt ops k = o.dst := by unfold dstAt; rw [Nat.add_zero] at h0; rw [h0]; rfl
    have hc := he 0 c rfl
    obtain ⟨i1, i2, i3, i4⟩ := Loose.out vs L rest suf (k + 1) (a.put o.dst c) (H ++ [yes]) (by simp [hH]) (by rw [actAt, ha, hd, ← hc]; rfl)
      (fun j o' hj => by have := hp (j + 1) o' (by simpa using hj); rwa [show k + 1 + j = k + (j + 1) from by omega])
      (fun j o' hj i hi => by have := hb (j + 1) o' (by simpa using hj) i hi; omega)
      (fun j c' hj => by have := he (j + 1) c' (by simpa using hj); rwa [show k + 1 + j = k + (j + 1) from by omega]) h2
    have e : H ++ [yes] ++ factsOf vs L (k + 1) = H ++ factsOf vs (.exact c :: L) k := by simp [factsOf]
    rw [e] at i3 i4
    refine ⟨by simp [i1], fun j s hj => ?_, fun j o' s hj hs w hw hf => ?_, fun w hw hf => ?_⟩
    · cases j with
      | zero => simp at hj; subst hj; trivial
      | succ j => exact i2 j s (by simpa using hj)
    · cases j with
      | zero =>
        simp at hj hs
        subst hj hs
        subst ha
        refine h1 w hw fun i hi => ?_
        have := hf i hi
        rwa [getD_left _ _ _ (by have := hb 0 o rfl i hi; omega)] at this
      | succ j =>
        have := i3 j o' s (by simpa using hj) (by simpa using hs) w hw hf
        rwa [show k + 1 + j = k + (j + 1) from by omega] at this
    · have := i4 w hw hf
      rw [List.length_cons]
      rwa [show k + 1 + rest.length = k + (rest.length + 1) from by omega] at this
  | .loose T :: L, o :: rest, suf, k, a, H, hH, ha, hp, hb, he, h => by
    obtain ⟨hm, h1, h2⟩ := h
    have h0 := hp 0 o rfl
    have hd : dstAt ops k = o.dst := by unfold dstAt; rw [Nat.add_zero] at h0; rw [h0]; rfl
    obtain ⟨i1, i2, i3, i4⟩ := Loose.out vs L rest suf (k + 1) (a.put o.dst (vs k)) (H ++ [T (vs k)]) (by simp [hH]) (by rw [actAt, ha, hd])
      (fun j o' hj => by have := hp (j + 1) o' (by simpa using hj); rwa [show k + 1 + j = k + (j + 1) from by omega])
      (fun j o' hj i hi => by have := hb (j + 1) o' (by simpa using hj) i hi; omega)
      (fun j c' hj => by have := he (j + 1) c' (by simpa using hj); rwa [show k + 1 + j = k + (j + 1) from by omega]) (h2 (vs k))
    have e : H ++ [T (vs k)] ++ factsOf vs L (k + 1) = H ++ factsOf vs (.loose T :: L) k := by simp [factsOf]
    rw [e] at i3 i4
    refine ⟨by simp [i1], fun j s hj => ?_, fun j o' s hj hs w hw hf => ?_, fun w hw hf => ?_⟩
    · cases j with
      | zero => simp at hj; subst hj; exact hm
      | succ j => exact i2 j s (by simpa using hj)
    · cases j with
      | zero =>
        simp at hj hs
        subst hj hs
        subst ha
        refine h1 w hw fun i hi => ?_
        have := hf i hi
        rwa [getD_left _ _ _ (by have := hb 0 o rfl i hi; omega)] at this
      | succ j =>
        have := i3 j o' s (by simpa using hj) (by simpa using hs) w hw hf
        rwa [show k + 1 + j = k + (j + 1) from by omega] at this
    · have := i4 w hw hf
      rw [List.length_cons]
      rwa [show k + 1 + rest.length = k + (rest.length + 1) from by omega] at this
theorem Inv.turn {a b : Act} {vs us : Nat → Value} {L : Nat → Prop} (h : Inv ops m a vs L b) (he : ∀ j, L j → us j = vs j) : Inv ops m a us L b :=
  ⟨h.defers, h.size, fun i t hi hL hd ht => by rw [he i hL]; exact h.told i t hi hL hd ht, h.kept⟩
/-- What the rule asks of the walk, for whatever values. -/
structure LooseOut (P : Program) (ops : Array Oper) (Q : Exit → Act → World → Prop) (S : World → Prop) (m : Nat) (a : Act) (L : List Spec) (vs : Nat → Value) : Prop where
  step : ∀ i o s, i < m → ops[i]? = some o → L[i]? = some s → ∀ w, S w → (∀ j ∈ depsOf o, ((factsOf vs L 0).getD j yes) w) → Does P ops o (actAt ops a vs i) w fun v w' => s.holds v w' ∧ Below w.heap.size w w'
  last : ∀ w, S w → (∀ f ∈ factsOf vs L 0, f w) → wpList P ops Q (ops.toList.drop m) (actAt ops a vs m) w
theorem wpAny_loose (F : FreeOk ops m) {a : Act} {L : List Spec} (hlen : L.length = m) (hmono : ∀ (j : Nat) (s : Spec), L[j]? = some s → s.mono) (hSm : ∀ w w', Below w.heap.size w w' → S w → S w')
    (hd : ∀ vs : Nat → Value, (∀ j c, L[j]? = some (.exact c) → vs j = c) → LooseOut P ops Q S m a L vs) :
    ∀ (fuel : Nat) (listed : Array Bool) (b : Act) (w : World) (vs : Nat → Value), listed.size = ops.size → (∀ i o, ops[i]? = some o → listed.getD i false = true → ∀ k ∈ depsOf o, listed.getD k false = true) → (∀ i, m ≤ i → listed.getD i false = false) →
      (∀ j c, L[j]? = some (.exact c) → vs j = c) → (∀ j, listed.getD j false = true → ((factsOf vs L 0).getD j yes) w) →
      Inv ops m a vs (fun i => listed.getD i false = true) b → S w → (List.range ops.size).countP (fun i => !listed.getD i false) ≤ fuel → wpAny P .any ops Q fuel listed b w := by
  have spec : ∀ i, i < m → ∃ s, L[i]? = some s := fun i hi => ⟨_, List.getElem?_eq_getElem (by omega)⟩
  have allf : ∀ (vs : Nat → Value) (w : World), (∀ j, j < m → ((factsOf vs L 0).getD j yes) w) → ∀ f ∈ factsOf vs L 0, f w := fun vs w h f hf => by
    obtain ⟨j, hj, e⟩ := List.getElem_of_mem hf
    rw [length_factsOf] at hj
    have := h j (by omega)
    rw [List.getD_eq_getElem?_getD, List.getElem?_eq_getElem (by rw [length_factsOf]; exact hj), e] at this
    exact this
  intro fuel
  induction fuel with
  | zero =>
    intro listed b w vs hs hc hm hx hf hI hS hfu
    have hall : ∀ i, i < ops.size → listed.getD i false = true := fun i hi => by
      cases hl : listed.getD i false with
      | true => rfl
      | false =>
        have : 0 < (List.range ops.size).countP (fun i => !listed.getD i false) := List.countP_pos_iff.2 ⟨i, List.mem_range.2 hi, by simp only [hl]; rfl⟩
        omega
    have hmn : ops.size ≤ m := by
      rcases Nat.lt_or_ge m ops.size with h | h
      · have := hall m h; rw [hm m (Nat.le_refl _)] at this; cases this
      · exact h
    have hle := F.le
    have e := Inv.whole hI (Inv.at_ F m (Nat.le_refl _)) fun d hd => ⟨fun _ => hd, fun _ => hall d (by omega)⟩
    subst e
    exact wpAny_tail F 0 m listed _ w (Nat.le_refl _) F.le hs (fun i hi => ⟨fun _ => by omega, fun _ => hall i hi⟩) (by omega) ((hd vs hx).last w hS (allf vs w fun j hj => hf j (hall j (by omega))))
  | succ fuel ih =>
    intro listed b w vs hs hc hm hx hf hI hS hfu
    have hle := F.le
    by_cases hall : ∀ i, i < m → listed.getD i false = true
    · have e := Inv.whole hI (Inv.at_ F m (Nat.le_refl _)) fun d hd => ⟨fun _ => hd, fun _ => hall d hd⟩
      subst e
      have hL : ∀ i, i < ops.size → (listed.getD i false = true ↔ i < m) := fun i hi => by
        refine ⟨fun h => ?_, hall i⟩
        rcases Nat.lt_or_ge i m with h' | h'
        · exact h'
        · rw [hm i h'] at h; cases h
      refine wpAny_tail F (fuel + 1) m listed _ w (Nat.le_refl _) F.le hs hL ?_ ((hd vs hx).last w hS (allf vs w fun j hj => hf j (hall j hj)))
      have : (List.range ops.size).countP (fun i => !listed.getD i false) = ops.size - m := by
        have e1 : (List.range ops.size).countP (fun i => !listed.getD i false) = (List.range ops.size).countP (fun i => decide (m ≤ i)) := by
          apply List.countP_congr
          intro i hi
          have := hL i (List.mem_range.1 hi)
          cases hl : listed.getD i false
          · simp only [hl] at this ⊢; simp at this ⊢; omega
          · simp only [hl] at this ⊢; simp at this ⊢; omega
        rw [e1]
        have : ∀ n, (List.range n).countP (fun i => decide (m ≤ i)) = n - m := by
          intro n
          induction n with
          | zero => simp
          | succ n ihn =>
            rw [List.range_succ, List.countP_append, ihn]
            by_cases h : m ≤ n
            · simp [h]; omega
            · simp [h]; omega
        exact this _
      omega
    · refine ⟨fun hr => absurd (fun i hi => ready_none F.back hs hr i (by omega)) hall, fun i hi => ?_⟩
      obtain ⟨h1, h2, o, ho, h3⟩ := (mem_ready hs).1 hi
      have him : i < m := by
        rcases Nat.lt_or_ge i m with h' | h'
        · exact h'
        · exact absurd (fun k hk => F.forced i o ho h' (fun j => listed.getD j false = true) hc h3 k (by omega)) hall
      have hagree : ∀ t ∈ o.looksAt ops, b.tmps[t]? = (actAt ops a vs i).tmps[t]? := fun t ht =>
        hI.same (Inv.at_ F i (by omega)) fun d hd hdt => by
          rcases F.apart i o t d him ho ht hd hdt with rfl | h' | ⟨o', ho', h'⟩
          · exact ⟨fun h => (by rw [h2] at h; cases h), fun h => by omega⟩
          · exact ⟨fun _ => F.back i o ho d h', fun _ => h3 d h'⟩
          · have hlt := F.back d o' ho' i h'
            exact ⟨fun h => (by have := hc d o' ho' h i h'; rw [h2] at this; cases this), fun h => by omega⟩
      obtain ⟨s, hsp⟩ := spec i him
      have hD := ((hd vs hx).step i o s him ho hsp w hS fun k hk => hf k (h3 k hk)).of_same (F.nosel i o him ho) hagree
      have hdst : dstAt ops i = o.dst := by simp [dstAt, ho]
      refine hD.wpOp ho fun v w' ⟨hv, hB⟩ => ?_
      obtain ⟨us, hus⟩ : ∃ us : Nat → Value, us = fun j => if j = i then v else vs j := ⟨_, rfl⟩
      have ui : us i = v := by rw [hus]; simp
      have uj : ∀ j, j ≠ i → us j = vs j := fun j hj => by rw [hus]; simp [hj]
      rw [← hdst, ← ui]
      have hfact : ∀ j, listed.getD j false = true → ((factsOf us L 0).getD j yes) w' := fun j hj => by
        have hne : j ≠ i := fun e => by subst e; rw [h2] at hj; cases hj
        have hjm : j < m := by
          rcases Nat.lt_or_ge j m with h' | h'
          · exact h'
          · rw [hm j h'] at hj; cases hj
        obtain ⟨sj, hsj⟩ := spec j hjm
        have := hf j hj
        rw [getD_factsOf vs L 0 j sj hsj] at this
        rw [getD_factsOf us L 0 j sj hsj]
        cases sj with
        | exact c => trivial
        | loose T =>
          simp only [Nat.zero_add] at this ⊢
          rw [uj j hne]
          exact hmono j _ hsj _ _ _ hB this
      refine ih _ _ w' us (by simpa using hs) (fun j o' ho' hj k hk => ?_) (fun j hj => ?_) (fun j c hj => ?_) (fun j hj => ?_) ((hI.turn fun j hj => uj j fun e => by subst e; rw [h2] at hj; cases hj).put F him (by simp only [h2]; simp) fun j => getD_set (by omega)) (hSm _ _ hB hS) ?_
      · rw [getD_set (by omega)] at hj ⊢
        rcases hj with hj | rfl
        · exact .inl (hc j o' ho' hj k hk)
        · rw [ho] at ho'
          injection ho' with ho'
          subst ho'
          exact .inl (h3 k hk)
      · cases hl : (listed.setIfInBounds i true).getD j false with
        | false => rfl
        | true =>
          rcases (getD_set (by omega)).1 hl with h' | h'
          · rw [hm j hj] at h'; cases h'
          · omega
      · by_cases e : j = i
        · subst e
          rw [hsp] at hj
          injection hj with hj
          subst hj
          rw [ui]
          exact hv
        · rw [uj j e]
          exact hx j c hj
      · rcases (getD_set (by omega)).1 hj with h' | rfl
        · exact hfact j h'
        · rw [getD_factsOf us L 0 j s hsp]
          cases s with
          | exact c => trivial
          | loose T =>
            simp only [Nat.zero_add]
            rw [ui]
            exact hv
      · have := countP_less (p := fun i => !listed.getD i false) (q := fun j => !(listed.setIfInBounds i true).getD j false) (i := i)
          (fun j hj => by
            cases hl : listed.getD j false with
            | false => rfl
            | true =>
              have := (getD_set (listed := listed) (i := i) (j := j) (by omega)).2 (.inl hl)
              have hj' : (!(listed.setIfInBounds i true).getD j false) = true := hj
              rw [this] at hj'
              cases hj')
          (by show (!listed.getD i false) = true; rw [h2]; rfl) (by have := (getD_set (listed := listed) (i := i) (j := i) (by omega)).2 (.inr rfl); show (!(listed.setIfInBounds i true).getD i false) = false; rw [this]; rfl) (List.range ops.size) (List.mem_range.2 h1)
        omega
/-- THE RULE. -/
theorem wp_region_loose {id : Nat} {a : Act} {w : World} (hmix : P.follows .mixedOrders = true) (S : World → Prop) (m : Nat) (hF : freeOk ops m = true) (hSm : ∀ w w', Below w.heap.size w w' → S w → S w') (hS : S w.drew) {L : List Spec}
    (h : Loose P ops Q S L (ops.toList.take m) (ops.toList.drop m) a []) : (Code.region id ops true).wp P Q a w := by
  have F := freeOk_spec hF
  have hle := F.le
  have hlen : (ops.toList.take m).length = m := by simp; omega
  have hp : ∀ j o, (ops.toList.take m)[j]? = some o → ops[0 + j]? = some o := fun j o hj => by
    rw [Nat.zero_add]
    rw [List.getElem?_take] at hj
    split at hj
    · rwa [Array.getElem?_toList] at hj
    · cases hj
  have hb : ∀ j o, (ops.toList.take m)[j]? = some o → ∀ i ∈ depsOf o, i < 0 + j := fun j o hj i hi => F.back _ o (hp j o hj) i hi
  have get := fun (vs : Nat → Value) (hx : ∀ j c, L[j]? = some (.exact c) → vs j = c) => Loose.out (a0 := a) vs L (ops.toList.take m) (ops.toList.drop m) 0 a [] rfl rfl hp hb (fun j c hj => by rw [Nat.zero_add]; exact hx j c hj) h
  obtain ⟨v0, h0⟩ : ∃ v0 : Nat → Value, ∀ j c, L[j]? = some (.exact c) → v0 j = c := ⟨fun j => match L[j]? with | some (.exact c) => c | _ => undef, fun j c hj => by simp only [hj]⟩
  obtain ⟨g1, g2, -, -⟩ := get v0 h0
  rw [hlen] at g1
  refine wp_region_any hmix (wpAny_loose (S := S) F g1 g2 hSm (fun vs hx => ?_) ops.size _ a _ v0 (by simp) (fun i o _ hi => ?_) (fun i _ => ?_) h0 (fun i hi => ?_) (.start fun i _ => ?_) hS ?_)
  · obtain ⟨-, -, g3, g4⟩ := get vs hx
    rw [hlen] at g4
    refine ⟨fun i o s hi ho hs w hw hf => ?_, fun w hw hf => ?_⟩
    · have := g3 i o s (by rw [List.getElem?_take, if_pos hi, Array.getElem?_toList]; exact ho) hs w hw (by simpa using hf)
      rwa [Nat.zero_add] at this
    · have := g4 w hw (by simpa using hf)
      rwa [Nat.zero_add] at this
  · simp [Array.getD_eq_getD_getElem?, Array.getElem?_replicate] at hi
    split at hi <;> cases hi
  · simp [Array.getD_eq_getD_getElem?, Array.getElem?_replicate]
    split <;> rfl
  · simp [Array.getD_eq_getD_getElem?, Array.getElem?_replicate] at hi
    split at hi <;> cases hi
  · intro hi
    simp [Array.getD_eq_getD_getElem?, Array.getElem?_replicate] at hi
    split at hi <;> cases hi
  · exact Nat.le_trans List.countP_le_length (by simp)
theorem wp_region_loose_all {id : Nat} {l : List Oper} {a : Act} {w : World} (hmix : P.follows .mixedOrders = true) (S : World → Prop) (hF : freeOk l.toArray l.length = true) (hSm : ∀ w w', Below w.heap.size w w' → S w → S w') (hS : S w.drew) {L : List Spec}
    (h : Loose P l.toArray Q S L l [] a []) : (Code.region id l.toArray true).wp P Q a w := wp_region_loose hmix S l.length hF hSm hS (by simpa using h)
end
end Go.Proofs.Ytpjdicndjakeoaa
