/- A region that draws its order, walked once in the order of the text: its first operations give each one value and keep S, whatever the order; the rest is forced. No condition. -/
import Derived.WalkKit
import Derived.KernelRfl
import Derived.Orders
namespace Go.Proofs.Ytpjdicndjakeoaa
set_option linter.unusedVariables false
/-- What an operation gives: its value, and the world behind it. -/
def Give (P : Program) (G : Value → World → Prop) : Result Next → Prop
  | .ok (.value v) w => G v w
  | .ok .skip w => G undef w
  | .ok (.enter f args) w => Calls P f args w fun e w' => ∃ v, e = .returned v ∧ G v w'
  | _ => False
theorem Give_value (P : Program) (G : Value → World → Prop) (v : Value) (w : World) : Give P G (.ok (.value v) w) = G v w := rfl
theorem Give_skip (P : Program) (G : Value → World → Prop) (w : World) : Give P G (.ok .skip w) = G undef w := rfl
theorem Give_enter (P : Program) (G : Value → World → Prop) (f : FuncId) (args : Array Value) (w : World) :
    Give P G (.ok (.enter f args) w) = Calls P f args w fun e w' => ∃ v, e = .returned v ∧ G v w' := rfl
theorem upon_of_give {P : Program} {o : Oper} {a : Act} {next : Act → World → Prop} {Q : Exit → Act → World → Prop} {G : Value → World → Prop} {r : Result Next}
    (h : Give P G r) (hn : ∀ v w, G v w → next (a.put o.dst v) w) : o.upon P a next Q r := by
  cases r with
  | ok n w =>
    cases n <;> simp only [Give] at h <;> first | exact hn _ _ h | (exact Calls.mono h fun e w' ⟨v, he, hg⟩ => by subst he; exact hn _ _ hg) | exact h.elim
  | halt x w => exact h.elim
/-- An operation under its guard. -/
def Does (P : Program) (ops : Array Oper) (o : Oper) (a : Act) (w : World) (G : Value → World → Prop) : Prop :=
  if Region.wanted o (yielded ops a.tmps) then Give P G ((execOp a.eval o).run P w) else G undef w
theorem Does.mono {P : Program} {ops : Array Oper} {o : Oper} {a : Act} {w : World} {G G' : Value → World → Prop} (h : Does P ops o a w G) (hg : ∀ v w, G v w → G' v w) : Does P ops o a w G' := by
  unfold Does at *
  split
  · rename_i hw
    rw [if_pos hw] at h
    revert h
    generalize (execOp a.eval o).run P w = r
    intro h
    cases r with
    | ok n w => cases n <;> simp only [Give] at h ⊢ <;> first | exact hg _ _ h | (exact Calls.mono h fun e w' ⟨v, he, hh⟩ => ⟨v, he, hg _ _ hh⟩) | exact h.elim
    | halt x w => exact h.elim
  · rename_i hw
    rw [if_neg hw] at h
    exact hg _ _ h
theorem Does.wpOp {P : Program} {ops : Array Oper} {Q : Exit → Act → World → Prop} {i : Nat} {o : Oper} {a : Act} {w : World} {K : Act → World → Prop} (ho : ops[i]? = some o) {G : Value → World → Prop}
    (h : Does P ops o a w G) (hk : ∀ v w, G v w → K (a.put o.dst v) w) : wpOp P ops Q i K a w := by
  unfold Go.wpOp
  simp only [ho]
  unfold Does at h
  split
  · rename_i hw
    rw [if_pos hw] at h
    exact .inl (upon_of_give h hk)
  · rename_i hw
    rw [if_neg hw] at h
    exact hk _ _ h
/-- The walk in the order of the text. -/
def Free (P : Program) (ops : Array Oper) (Q : Exit → Act → World → Prop) (S : World → Prop) : List Oper → List Oper → Act → Prop
  | [], suf, a => ∀ w, S w → wpList P ops Q suf a w
  | o :: rest, suf, a => ∃ v, (∀ w, S w → Does P ops o a w fun v' w' => v' = v ∧ S w') ∧ Free P ops Q S rest suf (a.put o.dst v)
theorem Free.nil {P : Program} {ops : Array Oper} {Q : Exit → Act → World → Prop} {S : World → Prop} {suf : List Oper} {a : Act} (h : ∀ w, S w → wpList P ops Q suf a w) : Free P ops Q S [] suf a := h
theorem Free.cons {P : Program} {ops : Array Oper} {Q : Exit → Act → World → Prop} {S : World → Prop} {o : Oper} {rest suf : List Oper} {a : Act} (v : Value)
    (h : ∀ w, S w → Does P ops o a w fun v' w' => v' = v ∧ S w') (hr : Free P ops Q S rest suf (a.put o.dst v)) : Free P ops Q S (o :: rest) suf a := ⟨v, h, hr⟩

theorem Free.next {P : Program} {ops : Array Oper} {Q : Exit → Act → World → Prop} {S : World → Prop} {o : Oper} {rest suf : List Oper} {a a2 : Act} {v : Value}
    (h : ∀ w, S w → Does P ops o a w fun v' w' => v' = v ∧ S w') (he : a.put o.dst v = a2) (hr : Free P ops Q S rest suf a2) : Free P ops Q S (o :: rest) suf a := ⟨v, h, he ▸ hr⟩

def depsOf (o : Oper) : List Nat := (o.after.toList.filter (Region.binds .any)).map (·.on)
def dstAt (ops : Array Oper) (i : Nat) : Option Tmp := (ops[i]?).bind (·.dst)
def noSelect : Op → Bool
  | .select .. => false
  | _ => true
/-- An operation waits for another one, through at most so many ones. -/
def reach (ops : Array Oper) : Nat → Nat → Nat → Bool
  | 0, _, _ => false
  | f + 1, i, k => (depsOf (ops.getD i default)).contains k || (depsOf (ops.getD i default)).any fun j => reach ops f j k
theorem reach_spec {ops : Array Oper} {L : Nat → Prop} (hL : ∀ j o, ops[j]? = some o → L j → ∀ k ∈ depsOf o, L k) : ∀ (f i k : Nat), reach ops f i k = true → (∀ d ∈ depsOf (ops.getD i default), L d) → L k
  | 0, i, k, h, hd => by cases h
  | f + 1, i, k, h, hd => by
    rw [reach, Bool.or_eq_true, List.any_eq_true] at h
    rcases h with h | ⟨j, hj, h⟩
    · exact hd k (List.contains_iff_mem.1 h)
    · refine reach_spec hL f j k h fun d hdj => ?_
      cases hj' : ops[j]? with
      | none =>
        rw [Array.getD_eq_getD_getElem?, hj'] at hdj
        exact absurd hdj (by show ¬ d ∈ ([] : List Nat); simp)
      | some o =>
        rw [Array.getD_eq_getD_getElem?, hj'] at hdj
        exact hL j o hj' (hd j hj) d hdj
/-- What is asked of the region's text. -/
def freeOk (ops : Array Oper) (m : Nat) : Bool :=
  decide (m ≤ ops.size) &&
  ((List.range ops.size).all fun i => (depsOf (ops.getD i default)).all fun k => decide (k < i)) &&
  ((List.range ops.size).all fun i => decide (i < m) || (List.range i).all fun k => reach ops 3 i k) &&
  ((List.range m).all fun i => noSelect (ops.getD i default).op &&
    ((List.range m).all fun j => i == j || (dstAt ops i).isNone || dstAt ops i != dstAt ops j) &&
    (((ops.getD i default).looksAt ops).all fun t => (List.range m).all fun d => dstAt ops d != some t || d == i || (depsOf (ops.getD i default)).contains d || (depsOf (ops.getD d default)).contains i))

section
variable {P : Program} {ops : Array Oper} {Q : Exit → Act → World → Prop} {S : World → Prop} {m : Nat}
structure FreeOk (ops : Array Oper) (m : Nat) : Prop where
  le : m ≤ ops.size
  back : ∀ i o, ops[i]? = some o → ∀ k ∈ depsOf o, k < i
  forced : ∀ i o, ops[i]? = some o → m ≤ i → ∀ L : Nat → Prop, (∀ j o, ops[j]? = some o → L j → ∀ k ∈ depsOf o, L k) → (∀ k ∈ depsOf o, L k) → ∀ k, k < i → L k
  nosel : ∀ i o, i < m → ops[i]? = some o → ∀ cs b, o.op ≠ .select cs b
  uniq : ∀ i j t, i < m → j < m → dstAt ops i = some t → dstAt ops j = some t → i = j
  apart : ∀ i o t d, i < m → ops[i]? = some o → t ∈ o.looksAt ops → d < m → dstAt ops d = some t → d = i ∨ d ∈ depsOf o ∨ ∃ o', ops[d]? = some o' ∧ i ∈ depsOf o'
theorem freeOk_spec (h : freeOk ops m = true) : FreeOk ops m := by
  unfold freeOk at h
  simp only [Bool.and_eq_true, decide_eq_true_eq, List.all_eq_true, List.mem_range, Bool.or_eq_true] at h
  obtain ⟨⟨⟨h1, h2⟩, h3⟩, h4⟩ := h
  have get : ∀ i o, ops[i]? = some o → i < ops.size ∧ ops.getD i default = o := fun i o ho => by
    have hi := (Array.getElem?_eq_some_iff.1 ho).1
    exact ⟨hi, by simp [Array.getD_eq_getD_getElem?, ho]⟩
  refine ⟨h1, fun i o ho k hk => ?_, fun i o ho hm L hL hd k hk => ?_, fun i o hi ho cs b hc => ?_, fun i j t hi hj h5 h6 => ?_, fun i o t d hi ho ht hd h5 => ?_⟩
  · obtain ⟨hi, e⟩ := get i o ho
    exact h2 i hi k (by rw [e]; exact hk)
  · obtain ⟨hi, e⟩ := get i o ho
    rcases h3 i hi with h | h
    · omega
    · exact reach_spec hL 3 i k (h k hk) (by rw [e]; exact hd)
  · obtain ⟨hi', e⟩ := get i o ho
    have := (h4 i hi).1.1
    rw [e, hc] at this
    simp [noSelect] at this
  · have := (h4 i hi).1.2 j hj
    rw [h5, h6] at this
    simpa using this
  · obtain ⟨hi', e⟩ := get i o ho
    have hdl : d < ops.size := by omega
    have := (h4 i hi).2 t (by rw [e]; exact ht) d hd
    rw [h5, e] at this
    simp only [bne_self_eq_false, Bool.false_eq_true, false_or, beq_iff_eq, List.contains_iff_mem] at this
    rcases this with (h | h) | h
    · exact .inl h
    · exact .inr (.inl h)
    · exact .inr (.inr ⟨ops[d], Array.getElem?_eq_getElem hdl, by rwa [Array.getD_eq_getD_getElem?, Array.getElem?_eq_getElem hdl] at h⟩)

/-- The state in which operation i stands in the order of the text. -/
def actAt (ops : Array Oper) (a : Act) (vs : Nat → Value) : Nat → Act
  | 0 => a
  | i + 1 => (actAt ops a vs i).put (dstAt ops i) (vs i)
structure Inv (ops : Array Oper) (m : Nat) (a : Act) (vs : Nat → Value) (L : Nat → Prop) (b : Act) : Prop where
  defers : b.defers = a.defers
  size : b.tmps.size = a.tmps.size
  told : ∀ i t, i < m → L i → dstAt ops i = some t → t < a.tmps.size → b.tmps[t]? = some (vs i)
  kept : ∀ t, (∀ i, i < m → L i → dstAt ops i ≠ some t) → b.tmps[t]? = a.tmps[t]?
theorem Inv.start {a : Act} {vs : Nat → Value} {L : Nat → Prop} (h : ∀ i, i < m → ¬ L i) : Inv ops m a vs L a :=
  ⟨rfl, rfl, fun i _ hi hL => (h i hi hL).elim, fun _ _ => rfl⟩
theorem Inv.put {a b : Act} {vs : Nat → Value} {L L' : Nat → Prop} (F : FreeOk ops m) (h : Inv ops m a vs L b) {i : Nat} (hi : i < m) (hn : ¬ L i) (hL : ∀ j, L' j ↔ L j ∨ j = i) :
    Inv ops m a vs L' (b.put (dstAt ops i) (vs i)) := by
  obtain ⟨h1, h2, h3, h4⟩ := h
  cases hd : dstAt ops i with
  | none =>
    refine ⟨h1, h2, fun j t hj hLj hdj ht => ?_, fun t ht => h4 t fun j hj hLj => ht j hj ((hL j).2 (.inl hLj))⟩
    rcases (hL j).1 hLj with h | rfl
    · exact h3 j t hj h hdj ht
    · rw [hd] at hdj; cases hdj
  | some d =>
    refine ⟨h1, by simp [Act.put, h2], fun j t hj hLj hdj ht => ?_, fun t ht => ?_⟩
    · rcases (hL j).1 hLj with h | rfl
      · have hne : d ≠ t := fun e => by
          subst e
          have := F.uniq i j d hi hj hd hdj
          subst this
          exact hn h
        simp only [Act.put]
        rw [Array.getElem?_setIfInBounds_ne hne]
        exact h3 j t hj h hdj ht
      · rw [hd] at hdj
        injection hdj with hdj
        subst hdj
        simp only [Act.put]
        rw [Array.getElem?_setIfInBounds_self_of_lt (h2 ▸ ht)]
    · have hne : d ≠ t := fun e => ht i hi ((hL i).2 (.inr rfl)) (by rw [hd, e])
      simp only [Act.put]
      rw [Array.getElem?_setIfInBounds_ne hne]
      exact h4 t fun j hj hLj => ht j hj ((hL j).2 (.inl hLj))
theorem Inv.at_ {a : Act} {vs : Nat → Value} (F : FreeOk ops m) : ∀ k, k ≤ m → Inv ops m a vs (· < k) (actAt ops a vs k)
  | 0, _ => .start fun i _ h => by omega
  | k + 1, hk => (Inv.at_ F k (by omega)).put F (i := k) (by omega) (by omega) fun j => by omega
theorem Inv.same {a b c : Act} {vs : Nat → Value} {L L' : Nat → Prop} (h : Inv ops m a vs L b) (h' : Inv ops m a vs L' c) {t : Tmp} (ht : ∀ d, d < m → dstAt ops d = some t → (L d ↔ L' d)) : b.tmps[t]? = c.tmps[t]? := by
  by_cases hx : ∃ d, d < m ∧ dstAt ops d = some t ∧ L d
  · obtain ⟨d, hd, hdt, hLd⟩ := hx
    by_cases hs : t < a.tmps.size
    · rw [h.told d t hd hLd hdt hs, h'.told d t hd ((ht d hd hdt).1 hLd) hdt hs]
    · have hs' : a.tmps.size ≤ t := Nat.le_of_not_lt hs
      rw [Array.getElem?_eq_none (by rw [h.size]; exact hs'), Array.getElem?_eq_none (by rw [h'.size]; exact hs')]
  · rw [h.kept t fun i hi hL hd => hx ⟨i, hi, hd, hL⟩, h'.kept t fun i hi hL hd => hx ⟨i, hi, hd, (ht i hi hd).2 hL⟩]
theorem Inv.whole {a b c : Act} {vs : Nat → Value} {L L' : Nat → Prop} (h : Inv ops m a vs L b) (h' : Inv ops m a vs L' c) (ht : ∀ d, d < m → (L d ↔ L' d)) : b = c := by
  obtain ⟨bt, bd⟩ := b
  obtain ⟨ct, cd⟩ := c
  have e1 : bt = ct := Array.ext_getElem? fun t => h.same h' fun d hd _ => ht d hd
  have e2 : bd = cd := h.defers.trans h'.defers.symm
  rw [e1, e2]
theorem Does.of_same {o : Oper} {a b : Act} {w : World} {G : Value → World → Prop} (hs : ∀ cs c, o.op ≠ .select cs c) (ht : ∀ t ∈ o.looksAt ops, b.tmps[t]? = a.tmps[t]?) (h : Does P ops o a w G) : Does P ops o b w G := by
  have e1 : execOp b.eval o = execOp a.eval o := execOp_congr o hs fun x hx => by
    cases x with
    | tmp t =>
      have := ht t (List.mem_append_left _ (List.mem_filterMap.2 ⟨.tmp t, by simpa using hx, rfl⟩))
      simp only [Act.eval, Array.getD_eq_getD_getElem?, this]
    | _ => rfl
  have e2 : Region.wanted o (yielded ops b.tmps) = Region.wanted o (yielded ops a.tmps) := by
    unfold Region.wanted
    cases hg : o.guard with
    | none => rfl
    | some gw =>
      obtain ⟨g, want⟩ := gw
      have : yielded ops b.tmps g = yielded ops a.tmps g := by
        unfold yielded
        cases hd : (ops[g]?).bind (·.dst) with
        | none => rfl
        | some t =>
          have := ht t (by simp [Oper.looksAt, hg, hd])
          simp only [Option.bind_some, this]
      simp only [this]
  unfold Does at *
  rw [e1, e2]
  exact h

theorem Free.out : ∀ (pre suf : List Oper) (k : Nat) (a : Act), (∀ j o, pre[j]? = some o → ops[k + j]? = some o) → Free P ops Q S pre suf a →
    ∃ vs : Nat → Value, (∀ j o, pre[j]? = some o → ∀ w, S w → Does P ops o (actAt (ops.extract k ops.size) a vs j) w fun v' w' => v' = vs j ∧ S w') ∧ ∀ w, S w → wpList P ops Q suf (actAt (ops.extract k ops.size) a vs pre.length) w
  | [], suf, k, a, _, h => ⟨fun _ => undef, fun j o hj => by simp at hj, h⟩
  | o :: rest, suf, k, a, hp, h => by
    obtain ⟨v, h1, h2⟩ := h
    have h0 := hp 0 o rfl
    obtain ⟨vs, h3, h4⟩ := Free.out rest suf (k + 1) _ (fun j o' hj => by have := hp (j + 1) o' hj; rwa [show k + 1 + j = k + (j + 1) from by omega]) h2
    have hd : ∀ j, dstAt (ops.extract k ops.size) (j + 1) = dstAt (ops.extract (k + 1) ops.size) j := fun j => by
      unfold dstAt
      rw [Array.getElem?_extract, Array.getElem?_extract]
      simp only [show k + (j + 1) = k + 1 + j from by omega]
      by_cases hlt : k + 1 + j < ops.size
      · rw [if_pos (by omega), if_pos (by omega)]
      · rw [if_neg (by omega), if_neg (by omega)]
    have hk : k < ops.size := by have := (Array.getElem?_eq_some_iff.1 h0).1; omega
    have hd0 : dstAt (ops.extract k ops.size) 0 = o.dst := by
      unfold dstAt
      rw [Array.getElem?_extract, if_pos (by omega)]
      rw [h0]; rfl
    let us : Nat → Value := fun j => match j with | 0 => v | j + 1 => vs j
    have ha : ∀ j, actAt (ops.extract k ops.size) a us (j + 1) = actAt (ops.extract (k + 1) ops.size) (a.put o.dst v) vs j := by
      intro j
      induction j with
      | zero => simp [actAt, us, hd0]
      | succ j ih => rw [actAt, ih, actAt, hd]
    refine ⟨us, fun j o' hj w hw => ?_, fun w hw => ?_⟩
    · cases j with
      | zero =>
        simp at hj
        subst hj
        exact h1 w hw
      | succ j =>
        have := h3 j o' (by simpa using hj) w hw
        rw [ha]
        exact this
    · rw [List.length_cons, ha]
      exact h4 w hw

theorem mem_ready {listed : Array Bool} (hs : listed.size = ops.size) {i : Nat} : i ∈ Region.ready .any ops listed ↔ i < ops.size ∧ listed.getD i false = false ∧ ∃ o, ops[i]? = some o ∧ ∀ k ∈ depsOf o, listed.getD k false = true := by
  unfold Region.ready
  simp only [List.mem_filter, List.mem_range, Bool.and_eq_true, Bool.not_eq_true']
  constructor
  · rintro ⟨h1, h2, h3⟩
    have e : ops[i]? = some ops[i] := Array.getElem?_eq_getElem h1
    rw [e] at h3
    simp only [Option.map_some, Option.getD_some, Array.all_eq_true_iff_forall_mem, Bool.or_eq_true, Bool.not_eq_true'] at h3
    refine ⟨h1, ?_, ops[i], e, fun k hk => ?_⟩
    · rw [Array.getD_eq_getD_getElem?, Array.getElem?_eq_getElem (by omega)] at h2 ⊢; exact h2
    · unfold depsOf at hk
      obtain ⟨ed, he, rfl⟩ := List.mem_map.1 hk
      obtain ⟨he1, he2⟩ := List.mem_filter.1 he
      rcases h3 ed (Array.mem_toList_iff.1 he1) with h | h
      · rw [he2] at h; cases h
      · exact h
  · rintro ⟨h1, h2, o, e, h3⟩
    refine ⟨h1, ?_, ?_⟩
    · rw [Array.getD_eq_getD_getElem?, Array.getElem?_eq_getElem (by omega)] at h2 ⊢; exact h2
    · rw [e]
      simp only [Option.map_some, Option.getD_some, Array.all_eq_true_iff_forall_mem, Bool.or_eq_true, Bool.not_eq_true']
      intro ed he
      by_cases hb : Region.binds .any ed = true
      · exact .inr (h3 _ (List.mem_map.2 ⟨ed, List.mem_filter.2 ⟨Array.mem_toList_iff.2 he, hb⟩, rfl⟩))
      · exact .inl (by simpa using hb)
theorem getD_set {listed : Array Bool} {i j : Nat} (hi : i < listed.size) : (listed.setIfInBounds i true).getD j false = true ↔ listed.getD j false = true ∨ j = i := by
  simp only [Array.getD_eq_getD_getElem?]
  by_cases h : i = j
  · subst h
    simp [Array.getElem?_setIfInBounds_self_of_lt hi]
  · rw [Array.getElem?_setIfInBounds_ne h]
    constructor
    · exact .inl
    · rintro (h' | h')
      · exact h'
      · exact absurd h'.symm h
theorem ready_none {listed : Array Bool} (hb : ∀ i o, ops[i]? = some o → ∀ k ∈ depsOf o, k < i) (hs : listed.size = ops.size) (h : Region.ready .any ops listed = []) : ∀ i, i < ops.size → listed.getD i false = true := by
  intro i
  induction i using Nat.strongRecOn with
  | _ i ih =>
    intro hi
    cases hl : listed.getD i false with
    | true => rfl
    | false =>
      have : i ∈ Region.ready .any ops listed := (mem_ready hs).2 ⟨hi, hl, ops[i], Array.getElem?_eq_getElem hi, fun k hk => by
        have hlt := hb i _ (Array.getElem?_eq_getElem hi) k hk
        exact ih k hlt (by omega)⟩
      rw [h] at this
      cases this
theorem wpList_cons_op {k : Nat} {o : Oper} {rest : List Oper} {a : Act} {w : World} (ho : ops[k]? = some o) (h : wpList P ops Q (o :: rest) a w) : wpOp P ops Q k (wpList P ops Q rest) a w := by
  unfold wpOp
  simp only [ho]
  unfold wpList at h
  exact h
theorem wpAny_tail (F : FreeOk ops m) : ∀ (fuel k : Nat) (listed : Array Bool) (b : Act) (w : World), m ≤ k → k ≤ ops.size → listed.size = ops.size → (∀ i, i < ops.size → (listed.getD i false = true ↔ i < k)) → ops.size - k ≤ fuel →
    wpList P ops Q (ops.toList.drop k) b w → wpAny P .any ops Q fuel listed b w := by
  intro fuel
  induction fuel with
  | zero =>
    intro k listed b w hm hk hs hL hf h
    have e : k = ops.size := by omega
    subst e
    rw [List.drop_of_length_le (by simp)] at h
    refine ⟨?_, h⟩
    apply List.eq_nil_iff_forall_not_mem.2
    intro i hi
    obtain ⟨h1, h2, _⟩ := (mem_ready hs).1 hi
    rw [(hL i h1).2 h1] at h2
    cases h2
  | succ fuel ih =>
    intro k listed b w hm hk hs hL hf h
    rcases Nat.lt_or_ge k ops.size with hlt | hge
    · have e : ops[k]? = some ops[k] := Array.getElem?_eq_getElem hlt
      have hd : ops.toList.drop k = ops[k] :: ops.toList.drop (k + 1) := by
        rw [List.drop_eq_getElem_cons (by simpa using hlt)]; rfl
      rw [hd] at h
      refine ⟨fun hr => ?_, fun i hi => ?_⟩
      · have := ready_none F.back hs hr k hlt
        have := (hL k hlt).1 this
        omega
      · obtain ⟨h1, h2, o, ho, h3⟩ := (mem_ready hs).1 hi
        have hik : k ≤ i := by
          rcases Nat.lt_or_ge i k with h' | h'
          · rw [(hL i h1).2 h'] at h2; cases h2
          · exact h'
        have : i = k := by
          rcases Nat.lt_or_ge k i with h' | h'
          · have := F.forced i o ho (by omega) (fun j => listed.getD j false = true) (fun j o' ho' hj d hd => by
              have hjs := (Array.getElem?_eq_some_iff.1 ho').1
              have hjk := (hL j hjs).1 hj
              have := F.back j o' ho' d hd
              exact (hL d (by omega)).2 (by omega)) h3 k h'
            have := (hL k hlt).1 this
            omega
          · omega
        subst this
        refine wpOp_mono (fun a' w' h' => ih (i + 1) _ a' w' (by omega) (by omega) (by simpa using hs) (fun j hj => ?_) (by omega) h') (wpList_cons_op e h)
        rw [getD_set (by omega), hL j hj]
        omega
    · have e : k = ops.size := by omega
      subst e
      rw [List.drop_of_length_le (by simp)] at h
      refine ⟨fun _ => h, fun i hi => ?_⟩
      obtain ⟨h1, h2, _⟩ := (mem_ready hs).1 hi
      rw [(hL i h1).2 h1] at h2
      cases h2
theorem countP_less {p q : Nat → Bool} {i : Nat} (hq : ∀ j, q j = true → p j = true) (hp : p i = true) (hi : q i = false) : ∀ l : List Nat, i ∈ l → l.countP q + 1 ≤ l.countP p
  | x :: l, h => by
    have hle : l.countP q ≤ l.countP p := List.countP_mono_left fun j _ => hq j
    rcases List.mem_cons.1 h with rfl | h
    · rw [List.countP_cons_of_neg (by simp [hi]), List.countP_cons_of_pos hp]
      omega
    · have := countP_less hq hp hi l h
      by_cases hx : q x = true
      · rw [List.countP_cons_of_pos hx, List.countP_cons_of_pos (hq x hx)]; omega
      · rw [List.countP_cons_of_neg hx]
        by_cases hy : p x = true
        · rw [List.countP_cons_of_pos hy]; omega
        · rw [List.countP_cons_of_neg hy]; omega
theorem wpAny_free (F : FreeOk ops m) {a : Act} {vs : Nat → Value} (hd : ∀ i o, i < m → ops[i]? = some o → ∀ w, S w → Does P ops o (actAt ops a vs i) w fun v' w' => v' = vs i ∧ S w') (hend : ∀ w, S w → wpList P ops Q (ops.toList.drop m) (actAt ops a vs m) w) :
    ∀ (fuel : Nat) (listed : Array Bool) (b : Act) (w : World), listed.size = ops.size → (∀ i o, ops[i]? = some o → listed.getD i false = true → ∀ k ∈ depsOf o, listed.getD k false = true) → (∀ i, m ≤ i → listed.getD i false = false) →
      Inv ops m a vs (fun i => listed.getD i false = true) b → S w → (List.range ops.size).countP (fun i => !listed.getD i false) ≤ fuel → wpAny P .any ops Q fuel listed b w := by
  intro fuel
  induction fuel with
  | zero =>
    intro listed b w hs hc hm hI hS hf
    have hall : ∀ i, i < ops.size → listed.getD i false = true := fun i hi => by
      cases hl : listed.getD i false with
      | true => rfl
      | false =>
        have : 0 < (List.range ops.size).countP (fun i => !listed.getD i false) := List.countP_pos_iff.2 ⟨i, List.mem_range.2 hi, by simp only [hl]; rfl⟩
        omega
    have hmn : ops.size ≤ m := by
      rcases Nat.lt_or_ge m ops.size with h | h
      · have := hall m h; rw [hm m (Nat.le_refl _)] at this; cases this
      · exact h
    have hle := F.le
    have e := Inv.whole hI (Inv.at_ F m (Nat.le_refl _)) fun d hd => ⟨fun _ => hd, fun _ => hall d (by omega)⟩
    subst e
    exact wpAny_tail F 0 m listed _ w (Nat.le_refl _) F.le hs (fun i hi => ⟨fun _ => by omega, fun _ => hall i hi⟩) (by omega) (hend w hS)
  | succ fuel ih =>
    intro listed b w hs hc hm hI hS hf
    have hle := F.le
    by_cases hall : ∀ i, i < m → listed.getD i false = true
    · have e := Inv.whole hI (Inv.at_ F m (Nat.le_refl _)) fun d hd => ⟨fun _ => hd, fun _ => hall d hd⟩
      subst e
      have hL : ∀ i, i < ops.size → (listed.getD i false = true ↔ i < m) := fun i hi => by
        refine ⟨fun h => ?_, hall i⟩
        rcases Nat.lt_or_ge i m with h' | h'
        · exact h'
        · rw [hm i h'] at h; cases h
      refine wpAny_tail F (fuel + 1) m listed _ w (Nat.le_refl _) F.le hs hL ?_ (hend w hS)
      have : (List.range ops.size).countP (fun i => !listed.getD i false) = ops.size - m := by
        have e1 : (List.range ops.size).countP (fun i => !listed.getD i false) = (List.range ops.size).countP (fun i => decide (m ≤ i)) := by
          apply List.countP_congr
          intro i hi
          have := hL i (List.mem_range.1 hi)
          cases hl : listed.getD i false
          · simp only [hl] at this ⊢; simp at this ⊢; omega
          · simp only [hl] at this ⊢; simp at this ⊢; omega
        rw [e1]
        have : ∀ n, (List.range n).countP (fun i => decide (m ≤ i)) = n - m := by
          intro n
          induction n with
          | zero => simp
          | succ n ihn =>
            rw [List.range_succ, List.countP_append, ihn]
            by_cases h : m ≤ n
            · simp [h]; omega
            · simp [h]; omega
        exact this _
      omega
    · refine ⟨fun hr => absurd (fun i hi => ready_none F.back hs hr i (by omega)) hall, fun i hi => ?_⟩
      obtain ⟨h1, h2, o, ho, h3⟩ := (mem_ready hs).1 hi
      have him : i < m := by
        rcases Nat.lt_or_ge i m with h' | h'
        · exact h'
        · exact absurd (fun k hk => F.forced i o ho h' (fun j => listed.getD j false = true) hc h3 k (by omega)) hall
      have hagree : ∀ t ∈ o.looksAt ops, b.tmps[t]? = (actAt ops a vs i).tmps[t]? := fun t ht =>
        hI.same (Inv.at_ F i (by omega)) fun d hd hdt => by
          rcases F.apart i o t d him ho ht hd hdt with rfl | h' | ⟨o', ho', h'⟩
          · exact ⟨fun h => (by rw [h2] at h; cases h), fun h => by omega⟩
          · exact ⟨fun _ => F.back i o ho d h', fun _ => h3 d h'⟩
          · have hlt := F.back d o' ho' i h'
            exact ⟨fun h => (by have := hc d o' ho' h i h'; rw [h2] at this; cases this), fun h => by omega⟩
      have hD := (hd i o him ho w hS).of_same (F.nosel i o him ho) hagree
      have hdst : dstAt ops i = o.dst := by simp [dstAt, ho]
      refine hD.wpOp ho fun v w' ⟨hv, hS'⟩ => ?_
      subst hv
      rw [← hdst]
      refine ih _ _ w' (by simpa using hs) (fun j o' ho' hj k hk => ?_) (fun j hj => ?_) (hI.put F him (by simp only [h2]; simp) fun j => getD_set (by omega)) hS' ?_
      · rw [getD_set (by omega)] at hj ⊢
        rcases hj with hj | rfl
        · exact .inl (hc j o' ho' hj k hk)
        · rw [ho] at ho'
          injection ho' with ho'
          subst ho'
          exact .inl (h3 k hk)
      · cases hl : (listed.setIfInBounds i true).getD j false with
        | false => rfl
        | true =>
          rcases (getD_set (by omega)).1 hl with h' | h'
          · rw [hm j hj] at h'; cases h'
          · omega
      · have := countP_less (p := fun i => !listed.getD i false) (q := fun j => !(listed.setIfInBounds i true).getD j false) (i := i)
          (fun j hj => by
            cases hl : listed.getD j false with
            | false => rfl
            | true =>
              have := (getD_set (listed := listed) (i := i) (j := j) (by omega)).2 (.inl hl)
              have hj' : (!(listed.setIfInBounds i true).getD j false) = true := hj
              rw [this] at hj'
              cases hj')
          (by show (!listed.getD i false) = true; rw [h2]; rfl) (by have := (getD_set (listed := listed) (i := i) (j := i) (by omega)).2 (.inr rfl); show (!(listed.setIfInBounds i true).getD i false) = false; rw [this]; rfl) (List.range ops.size) (List.mem_range.2 h1)
        omega
/-- THE RULE. -/
theorem wp_region_free {id : Nat} {a : Act} {w : World} (hmix : P.follows .mixedOrders = true) (S : World → Prop) (m : Nat) (hF : freeOk ops m = true) (hS : S w.drew) (h : Free P ops Q S (ops.toList.take m) (ops.toList.drop m) a) :
    (Code.region id ops true).wp P Q a w := by
  have F := freeOk_spec hF
  have hle := F.le
  obtain ⟨vs, h1, h2⟩ := Free.out (ops.toList.take m) (ops.toList.drop m) 0 a (fun j o hj => by
    rw [Nat.zero_add]
    rw [List.getElem?_take] at hj
    split at hj
    · rwa [Array.getElem?_toList] at hj
    · cases hj) h
  have e0 : ops.extract 0 ops.size = ops := by simp
  rw [e0] at h1 h2
  have hlen : (ops.toList.take m).length = m := by simp; omega
  rw [hlen] at h2
  refine wp_region_any hmix (wpAny_free (S := S) F (fun i o hi ho => h1 i o (by rw [List.getElem?_take, if_pos hi, Array.getElem?_toList]; exact ho)) h2 ops.size _ a _ (by simp) (fun i o _ hi => ?_) (fun i _ => ?_) (.start fun i _ => ?_) hS ?_)
  · simp [Array.getD_eq_getD_getElem?, Array.getElem?_replicate] at hi
    split at hi <;> cases hi
  · simp [Array.getD_eq_getD_getElem?, Array.getElem?_replicate]
    split <;> rfl
  · intro hi
    simp [Array.getD_eq_getD_getElem?, Array.getElem?_replicate] at hi
    split at hi <;> cases hi
  · exact Nat.le_trans List.countP_le_length (by simp)
theorem wp_region_free_lit {id : Nat} {l : List Oper} {a : Act} {w : World} (hmix : P.follows .mixedOrders = true) (S : World → Prop) (m : Nat) (hF : freeOk l.toArray m = true) (hS : S w.drew) (h : Free P l.toArray Q S (l.take m) (l.drop m) a) :
    (Code.region id l.toArray true).wp P Q a w := wp_region_free hmix S m hF hS (by simpa using h)
theorem wp_region_free_all {id : Nat} {l : List Oper} {a : Act} {w : World} (hmix : P.follows .mixedOrders = true) (S : World → Prop) (hF : freeOk l.toArray l.length = true) (hS : S w.drew) (h : Free P l.toArray Q S l [] a) :
    (Code.region id l.toArray true).wp P Q a w := wp_region_free hmix S l.length hF hS (by simpa using h)
end
end Go.Proofs.Ytpjdicndjakeoaa
