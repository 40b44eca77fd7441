/- The engine: regions that draw their order. No condition. -/
import Derived.Test.YtpjdicndjakeoaaE20
import Derived.Test.YtpjdicndjakeoaaG2
namespace Go.Proofs.Ytpjdicndjakeoaa
open Go.RowKit
set_option linter.unusedVariables false
set_option linter.unusedSimpArgs false
section
variable {P : Program} {E : Env} {F : Nat → Prop} {φ : Nat → RS} {H : Heap} {w : World} {N : Nat} {T : Tmps} {a : Act}
theorem memB_iff {i : Nat} {l : List Nat} : memB i l = true ↔ i ∈ l := by
  induction l with
  | nil => simp [memB]
  | cons b l ih => simp [memB, ih]
theorem maskT_look {ops : List Oper} {deps : List Nat} {T : Tmps} {t : Nat} : ∀ (k : Nat), (lookT (maskT ops deps T k) t = lookT T t ∧ ∀ i, i < k → dstOf ops i = some t → i ∈ deps) ∨ lookT (maskT ops deps T k) t = .undef
  | 0 => .inl ⟨rfl, fun i hi => absurd hi (Nat.not_lt_zero _)⟩
  | k + 1 => by
    have ih := maskT_look (ops := ops) (deps := deps) (T := T) (t := t) k
    rw [maskT]
    cases hd : dstOf ops k with
    | none =>
      simp only
      rcases ih with ⟨h1, h2⟩ | h
      · refine .inl ⟨h1, fun i hi hdi => ?_⟩
        rcases Nat.lt_or_ge i k with h | h
        · exact h2 i h hdi
        · have : i = k := by omega
          subst this
          rw [hd] at hdi
          cases hdi
      · exact .inr h
    | some d =>
      simp only [Bool.cond_eq_ite]
      split
      · rename_i hm
        rcases ih with ⟨h1, h2⟩ | h
        · refine .inl ⟨h1, fun i hi hdi => ?_⟩
          rcases Nat.lt_or_ge i k with h | h
          · exact h2 i h hdi
          · have : i = k := by omega
            subst this
            exact memB_iff.1 hm
        · exact .inr h
      · rename_i hm
        rw [lookT_cons]
        by_cases e : t = d
        · rw [if_pos e]; exact .inr rfl
        · rw [if_neg e]
          rcases ih with ⟨h1, h2⟩ | h
          · refine .inl ⟨h1, fun i hi hdi => ?_⟩
            rcases Nat.lt_or_ge i k with h | h
            · exact h2 i h hdi
            · have : i = k := by omega
              subst this
              rw [hd] at hdi
              injection hdi with hdi
              exact absurd hdi.symm e
          · exact .inr h
/-- What is known of the temporaries while the operations of a region are told one by one. -/
structure PInv (F : Nat → Prop) (φ : Nat → RS) (H : Heap) (S : World → Prop) (N : Nat) (ops : List Oper) (k : Nat) (T : Tmps) (a : Act) (Hs : List (World → Prop)) : Prop where
  size : a.tmps.size = N
  defers : a.defers = []
  len : Hs.length = k
  get : ∀ t w, S w → (∀ i, i < k → dstOf ops i = some t → (Hs.getD i yes) w) → RV (cx F φ H w) (lookT T t) (a.tmps.getD t undef)
theorem PInv.mask {S : World → Prop} {ops : List Oper} {k : Nat} {Hs : List (World → Prop)} (h : PInv F φ H S N ops k T a Hs) {deps : List Nat} {w : World} (hS : S w) (hd : ∀ j ∈ deps, (Hs.getD j yes) w) : TRel F φ H w N (maskT ops deps T k) a := by
  refine ⟨h.size, fun t => ?_, h.defers⟩
  rcases maskT_look (ops := ops) (deps := deps) (T := T) (t := t) k with ⟨h1, h2⟩ | h1
  · rw [h1]
    exact h.get t w hS fun i hi hdi => hd i (h2 i hi hdi)
  · rw [h1]; trivial
theorem PInv.all {S : World → Prop} {ops : List Oper} {k : Nat} {Hs : List (World → Prop)} (h : PInv F φ H S N ops k T a Hs) {w : World} (hS : S w) (hd : ∀ f ∈ Hs, f w) : TRel F φ H w N T a := by
  refine ⟨h.size, fun t => h.get t w hS fun i hi hdi => ?_, h.defers⟩
  rw [List.getD_eq_getElem?_getD, List.getElem?_eq_getElem (by rw [h.len]; exact hi)]
  exact hd _ (List.getElem_mem _)
/-- One operation told: what it gives is known as a fact of its own. -/
theorem PInv.next {S : World → Prop} {ops : List Oper} {k : Nat} {Hs : List (World → Prop)} (h : PInv F φ H S N ops k T a Hs) {o : Oper} (ho : ops[k]? = some o) (huniq : ∀ i t, i < k → dstOf ops i = some t → o.dst ≠ some t) (v : AV) (u : Value) {T' : Tmps} (hT' : (o.dst = none ∧ T' = T) ∨ ∃ d, o.dst = some d ∧ d < N ∧ T' = (d, v) :: T) :
    PInv F φ H S N ops (k + 1) T' (a.put o.dst u) (Hs ++ [fun w => RV (cx F φ H w) v u]) := by
  have hk : dstOf ops k = o.dst := by simp [dstOf, ho]
  have hlast : (Hs ++ [fun w => RV (cx F φ H w) v u]).getD k yes = fun w => RV (cx F φ H w) v u := by
    rw [List.getD_eq_getElem?_getD, List.getElem?_append_right (by rw [h.len]; exact Nat.le_refl _), h.len]
    simp
  have hold : ∀ i, i < k → (Hs ++ [fun w => RV (cx F φ H w) v u]).getD i yes = Hs.getD i yes := fun i hi => getD_left _ _ _ (by rw [h.len]; exact hi)
  rcases hT' with ⟨hd, rfl⟩ | ⟨d, hd, hdN, rfl⟩
  · rw [hd]
    refine ⟨h.size, h.defers, by simp [h.len], fun t w hS hf => h.get t w hS fun i hi hdi => ?_⟩
    have := hf i (by omega) hdi
    rwa [hold i hi] at this
  · rw [hd]
    refine ⟨by simp [Act.put, h.size], h.defers, by simp [h.len], fun t w hS hf => ?_⟩
    rw [lookT_cons]
    by_cases e : t = d
    · subst e
      rw [if_pos rfl]
      have h1 : (a.put (some t) u).tmps.getD t undef = u := by simp [Act.put, Array.getD_eq_getD_getElem?, h.size, hdN]
      rw [h1]
      have := hf k (by omega) (by rw [hk, hd])
      rwa [hlast] at this
    · rw [if_neg e]
      have h1 : (a.put (some d) u).tmps.getD t undef = a.tmps.getD t undef := by
        simp only [Act.put, Array.getD_eq_getD_getElem?]
        rw [Array.getElem?_setIfInBounds_ne (Ne.symm e)]
      rw [h1]
      refine h.get t w hS fun i hi hdi => ?_
      have := hf i (by omega) hdi
      rwa [hold i hi] at this
theorem putK_cases {dst : Option Tmp} {v : AV} {T : Tmps} {K : Tmps → Prop} (h : putK N dst v T K) : ∃ T', K T' ∧ ((dst = none ∧ T' = T) ∨ ∃ d, dst = some d ∧ d < N ∧ T' = (d, v) :: T) := by
  unfold putK at h
  cases dst with
  | none => exact ⟨T, h, .inl ⟨rfl, rfl⟩⟩
  | some d =>
    simp only [Bool.cond_eq_ite] at h
    split at h
    · rename_i hd
      rw [force_eq] at h
      exact ⟨_, h, .inr ⟨d, rfl, by simpa using hd, rfl⟩⟩
    · exact h.elim
variable {φ0 : Nat → RS} {H0 : Heap} {w0 : World}
theorem below_le {w' : World} (hb : Below w.heap.size w w') : (cx F φ H w).Le (cx F φ H w') := ⟨fun _ _ => rfl, Nat.le_refl _, fun _ _ h => h, hb.size, fun b hb' _ => hb.block b hb', fun _ _ h => h⟩
theorem Give.mono {G G' : Value → World → Prop} {r : Result Next} (h : Give P G r) (hg : ∀ v w, G v w → G' v w) : Give P G' r := by
  cases r with
  | ok n w => cases n <;> simp only [Give] at h ⊢ <;> first | exact hg _ _ h | (exact Calls.mono h fun e w' ⟨v, he, hh⟩ => ⟨v, he, hg _ _ hh⟩) | exact h.elim
  | halt x w => exact h.elim
theorem preK_get {o : Oper} {T0 T : Tmps} {K : Tmps → Prop} (h : preK E N o T0 T H K) : ∃ r v, opD E o.op (rho T0) H.lock = some r ∧ r.need ∧ closeV H.n r.H r.v = some v ∧ putK N o.dst v T K := by
  unfold preK at h
  split at h
  · rename_i need know v0 H' hr
    obtain ⟨h1, h2⟩ := h
    split at h2
    · rename_i v hv
      exact ⟨_, v, hr, h1, hv, h2⟩
    · exact h2.elim
  · exact h.elim
theorem preK_does (hE : E.Ok P) {o : Oper} {T0 : Tmps} {r : Res} {v : AV} (h1 : opD E o.op (rho T0) H.lock = some r) (h2 : r.need) (h3 : closeV H.n r.H r.v = some v) (hR : Rel F φ H w) (hT : TRel F φ H w N T0 a) :
    Give P (fun u w' => RV (cx F φ H w') v u ∧ Below w.heap.size w w') ((execOp a.eval o).run P w) := by
  obtain ⟨-, h4⟩ := op_ok hE hR.lock (rho_ok (hT.mono lock_le)) h1 h2
  refine h4.mono fun u w' ⟨φ', hv, hR', hX⟩ => ⟨closeV_ok hR' hX hR h3 hv, hX.os, hX.tape, hX.output, hX.le.size, fun b hb => hX.le.blk b hb lock_wr⟩
theorem pre_ok (hE : E.Ok P) {ops : Array Oper} {Q : Exit → Act → World → Prop} {suf : List Oper} {S : World → Prop} (hSR : ∀ w, S w → Rel F φ H w)
    {K : Tmps → Prop} (hK : ∀ T a Hs k, K T → PInv F φ H S N ops.toList k T a Hs → ∀ w, S w → (∀ f ∈ Hs, f w) → wpList P ops Q suf a w) :
    ∀ (rest : List Oper) (k : Nat) (T : Tmps), (∀ j o, rest[j]? = some o → ops.toList[k + j]? = some o) → (∀ j o, rest[j]? = some o → ∀ i t, i < k + j → dstOf ops.toList i = some t → o.dst ≠ some t) →
      preD E N ops.toList H rest k T K → ∃ L, ∀ a Hs, PInv F φ H S N ops.toList k T a Hs → Loose P ops Q S L rest suf a Hs
  | [], k, T, hat, hu, h => ⟨[], fun a Hs hI => Loose.nil fun w hS hf => hK T a Hs k h hI w hS hf⟩
  | o :: rest, k, T, hat, hu, h => by
    have ho : ops.toList[k]? = some o := hat 0 o rfl
    have hat' : ∀ j o, rest[j]? = some o → ops.toList[k + 1 + j]? = some o := fun j o' hj => by
      have := hat (j + 1) o' (by simpa using hj)
      rwa [show k + (j + 1) = k + 1 + j from by omega] at this
    have hu' : ∀ j o, rest[j]? = some o → ∀ i t, i < k + 1 + j → dstOf ops.toList i = some t → o.dst ≠ some t := fun j o' hj i t hi => hu (j + 1) o' (by simpa using hj) i t (by omega)
    have hu0 := hu 0 o rfl
    have go : ∀ (v : AV) (T' : Tmps) (T1 : Tmps), (∀ a Hs, PInv F φ H S N ops.toList k T a Hs → PInv F φ H S N ops.toList k T1 a Hs) → preD E N ops.toList H rest (k + 1) T' K → ((o.dst = none ∧ T' = T1) ∨ ∃ d, o.dst = some d ∧ d < N ∧ T' = (d, v) :: T1) →
        (∀ a Hs, PInv F φ H S N ops.toList k T a Hs → ∀ w, S w → (∀ j ∈ depsOf o, (Hs.getD j yes) w) → Does P ops o a w fun u w' => RV (cx F φ H w') v u ∧ Below w.heap.size w w') → ∃ L, ∀ a Hs, PInv F φ H S N ops.toList k T a Hs → Loose P ops Q S L (o :: rest) suf a Hs := fun v T' T1 hI1 hr hT' hd => by
      obtain ⟨L, hL⟩ := pre_ok hE hSR hK rest (k + 1) T' hat' hu' hr
      exact ⟨.loose (fun u w => RV (cx F φ H w) v u) :: L, fun a Hs hI => Loose.loose _ (fun u w w' hb hv => hv.mono (below_le hb)) (hd a Hs hI) (fun _ => rfl) fun u => hL _ _ ((hI1 a Hs hI).next ho (fun i t hi => hu0 i t (by omega)) v u hT')⟩
    rw [preD] at h
    split at h
    · rename_i hg
      obtain ⟨r, v, h1, h2, h3, h4⟩ := preK_get h
      obtain ⟨T', h5, h6⟩ := putK_cases h4
      refine go v T' T (fun _ _ h => h) h5 h6 fun a Hs hI w hS hd => ?_
      have hw : Region.wanted o (yielded ops a.tmps) = true := by simp [Region.wanted, hg]
      unfold Does
      rw [if_pos hw]
      exact preK_does hE h1 h2 h3 (hSR w hS) (hI.mask hS hd)
    · rename_i j want hg
      split at h
      · exact h.elim
      · rename_i d hd
        split at h
        · rename_i b hb
          rw [Bool.cond_eq_ite] at h
          split at h
          · rename_i hlt
            have hlt : d < N := by simpa using hlt
            have hbT : lookT T d = .bool b := by
              rcases maskT_look (ops := ops.toList) (deps := depsOf o) (T := T) (t := d) k with ⟨h1, -⟩ | h1
              · rw [← h1]; exact hb
              · rw [h1] at hb; cases hb
            have hwant : ∀ a Hs, PInv F φ H S N ops.toList k T a Hs → ∀ w, S w → (∀ j ∈ depsOf o, (Hs.getD j yes) w) → Region.wanted o (yielded ops a.tmps) = (b == want) := fun a Hs hI w hS hf => by
              have hT0 := hI.mask (deps := depsOf o) hS hf
              have hv := rv_bool_inv (by have := hT0.get d; rwa [hb] at this)
              have hy := yielded_get hd hv (by rw [hI.size]; exact hlt)
              simp [Region.wanted, hg, hy]
            have known : ∀ c, b = c → ∀ a Hs, PInv F φ H S N ops.toList k T a Hs → PInv F φ H S N ops.toList k ((d, .bool c) :: T) a Hs := fun c hc a Hs hI => by
              refine ⟨hI.size, hI.defers, hI.len, fun t w hS hf => ?_⟩
              rw [lookT_cons]
              split
              · rename_i e
                subst e
                have := hI.get t w hS hf
                rwa [hbT, hc] at this
              · exact hI.get t w hS hf
            by_cases e : b = want
            · obtain ⟨r, v, h1, h2, h3, h4⟩ := preK_get (h.1 e)
              obtain ⟨T', h5, h6⟩ := putK_cases h4
              refine go v T' _ (known want e) h5 h6 fun a Hs hI w hS hf => ?_
              unfold Does
              rw [hwant a Hs hI w hS hf, if_pos (by simpa using e)]
              exact preK_does hE h1 h2 h3 (hSR w hS) ((hI.mask hS hf).known hb e)
            · have e' : b = !want := by cases b <;> cases want <;> simp_all
              obtain ⟨T', h5, h6⟩ := putK_cases (h.2 e')
              refine go (.tup []) T' _ (known (!want) e') h5 h6 fun a Hs hI w hS hf => ?_
              unfold Does
              rw [hwant a Hs hI w hS hf, if_neg (by simpa using e)]
              exact ⟨rv_skip, Below.refl _ _⟩
          · exact h.elim
        · rename_i hb
          have hbT : lookT T d = .tup [] := by
            rcases maskT_look (ops := ops.toList) (deps := depsOf o) (T := T) (t := d) k with ⟨h1, -⟩ | h1
            · rw [← h1]; exact hb
            · rw [h1] at hb; cases hb
          obtain ⟨T', h5, h6⟩ := putK_cases h
          refine go (.tup []) T' T (fun _ _ h => h) h5 h6 fun a Hs hI w hS hf => ?_
          have hT0 := hI.mask (deps := depsOf o) hS hf
          have hv := hT0.get d
          rw [hb] at hv
          obtain ⟨vs, e, hr⟩ := hv
          have e0 : vs = [] := by cases vs <;> first | rfl | exact hr.elim
          subst e0
          have hy := yielded_none hd e
          have hw : Region.wanted o (yielded ops a.tmps) = false := by simp [Region.wanted, hg, hy]
          unfold Does
          rw [hw, if_neg (by decide)]
          exact ⟨rv_skip, Below.refl _ _⟩
        · exact h.elim
/-- A region that draws its order. -/
theorem draw_ok (hE : E.Ok P) (hmix : P.follows .mixedOrders = true) {ops : Array Oper} {id m : Nat} {Q : Exit → Act → World → Prop} {K : Tmps → Heap → Prop} (h : drawD E N ops.toList m T H K) (hB : Base F φ0 H0 w0 φ H w) (hT : TRel F φ H w N T a)
    (hQ : ∀ T' H' φ' w' a', K T' H' → Base F φ0 H0 w0 φ' H' w' → TRel F φ' H' w' N T' a' → Q .normal a' w') : (Code.region id ops true).wp P Q a w := by
  obtain ⟨hfree, h⟩ := h
  simp only [Array.toArray_toList] at hfree
  have hF := freeOk_spec hfree
  have hat : ∀ j o, (ops.toList.take m)[j]? = some o → ops.toList[0 + j]? = some o ∧ j < m := fun j o hj => by
    rw [List.getElem?_take] at hj
    split at hj
    · rename_i hlt
      rw [Nat.zero_add]
      exact ⟨hj, hlt⟩
    · cases hj
  have dstA : ∀ i, dstOf ops.toList i = dstAt ops i := fun i => by
    unfold dstOf dstAt
    rw [Array.getElem?_toList]
    cases ops[i]? <;> rfl
  let S : World → Prop := fun x => Below w.heap.size w x
  have hSB : ∀ x, S x → Base F φ0 H0 w0 φ H x := fun x hx => by
    obtain ⟨g1, g2⟩ := hB.rel.below hx
    exact ⟨g1, hB.ext.trans g2, hB.lt0⟩
  obtain ⟨L, hL⟩ := pre_ok (P := P) (Q := Q) (S := S) (suf := ops.toList.drop m) hE (fun x hx => (hSB x hx).rel) (fun T' a' Hs k hk hI x hx hf =>
      reg_ok hE (ops.toList.drop m) T' H φ x a' K hk (hSB x hx) (hI.all hx hf) hQ) (ops.toList.take m) 0 T (fun j o hj => (hat j o hj).1) (fun j o hj i t hi hdi he => by
        obtain ⟨h1, h2⟩ := hat j o hj
        rw [Nat.zero_add] at h1 hi
        have h3 : dstAt ops j = some t := by rw [← dstA, dstOf, h1]; exact he
        have := hF.uniq i j t (by omega) h2 (by rw [← dstA]; exact hdi) h3
        omega) h
  refine wp_region_loose hmix S m hfree (fun x x' hb hx => Below.trans hx (hb.mono hx.size)) (Below.drew (Below.refl _ _)) (L := L) (hL a [] ⟨hT.size, hT.defers, rfl, fun t x hx _ => (hT.get t).mono (below_le hx)⟩)
/-! ### regions that draw their order and write -/
theorem maskT_iff {ops : List Oper} {deps : List Nat} {T : Tmps} {t : Nat} : ∀ (k : Nat), ((∀ i, i < k → dstOf ops i = some t → i ∈ deps) ∧ lookT (maskT ops deps T k) t = lookT T t) ∨ ((¬ ∀ i, i < k → dstOf ops i = some t → i ∈ deps) ∧ lookT (maskT ops deps T k) t = .undef)
  | 0 => .inl ⟨fun i hi => absurd hi (Nat.not_lt_zero _), rfl⟩
  | k + 1 => by
    have ih := maskT_iff (ops := ops) (deps := deps) (T := T) (t := t) k
    have up : (∀ i, i < k → dstOf ops i = some t → i ∈ deps) → (dstOf ops k = some t → k ∈ deps) → ∀ i, i < k + 1 → dstOf ops i = some t → i ∈ deps := fun h1 h2 i hi hd => by
      rcases Nat.lt_or_ge i k with h | h
      · exact h1 i h hd
      · have : i = k := by omega
        subst this
        exact h2 hd
    have down : (¬ ∀ i, i < k → dstOf ops i = some t → i ∈ deps) → ¬ ∀ i, i < k + 1 → dstOf ops i = some t → i ∈ deps := fun h1 h2 => h1 fun i hi hd => h2 i (by omega) hd
    rw [maskT]
    cases hd : dstOf ops k with
    | none =>
      simp only
      rcases ih with ⟨h1, h2⟩ | ⟨h1, h2⟩
      · exact .inl ⟨up h1 (fun h => by rw [hd] at h; cases h), h2⟩
      · exact .inr ⟨down h1, h2⟩
    | some d =>
      simp only [Bool.cond_eq_ite]
      split
      · rename_i hm
        rcases ih with ⟨h1, h2⟩ | ⟨h1, h2⟩
        · exact .inl ⟨up h1 fun _ => memB_iff.1 hm, h2⟩
        · exact .inr ⟨down h1, h2⟩
      · rename_i hm
        rw [lookT_cons]
        by_cases e : t = d
        · subst e
          rw [if_pos rfl]
          refine .inr ⟨fun h => hm (memB_iff.2 (h k (by omega) hd)), rfl⟩
        · rw [if_neg e]
          rcases ih with ⟨h1, h2⟩ | ⟨h1, h2⟩
          · exact .inl ⟨up h1 (fun h => by rw [hd] at h; injection h with h; exact absurd h.symm e), h2⟩
          · exact .inr ⟨down h1, h2⟩
theorem TRel.remask {ops : List Oper} {deps : List Nat} {m : Nat} {T' : Tmps} (h : TRel F φ H w N (maskT ops deps T m) a) (he : ∀ t, (∀ i, i < m → dstOf ops i = some t → i ∈ deps) → lookT T t = lookT T' t) : TRel F φ H w N (maskT ops deps T' m) a := by
  refine ⟨h.size, fun t => ?_, h.defers⟩
  have h1 := h.get t
  rcases maskT_iff (ops := ops) (deps := deps) (T := T) (t := t) m with ⟨g1, g2⟩ | ⟨g1, g2⟩ <;> rcases maskT_iff (ops := ops) (deps := deps) (T := T') (t := t) m with ⟨k1, k2⟩ | ⟨k1, k2⟩
  · rw [k2, ← he t k1, ← g2]; exact h1
  · exact absurd g1 k1
  · exact absurd k1 g1
  · rw [k2]; trivial
theorem ne_not {b want : Bool} (h : ¬ b = want) : b = !want := by cases b <;> cases want <;> first | rfl | exact absurd rfl h
theorem not_true {b : Bool} (h : ¬ b = true) : b = false := by cases b <;> first | rfl | exact absurd rfl h
theorem memN_iff {i : Nat} {l : List Nat} : memN i l = true ↔ i ∈ l := by
  induction l with
  | nil => simp [memN]
  | cons b l ih =>
    rw [memN, Bool.cond_eq_ite]
    split
    · rename_i h
      have := Nat.eq_of_beq_eq_true h
      subst this
      simp
    · rename_i h
      rw [ih, List.mem_cons]
      constructor
      · exact .inr
      · rintro (rfl | h')
        · exact absurd (Nat.beq_refl _) h
        · exact h'
theorem memP_iff {i j : Nat} {l : List (Nat × Nat)} (h : memP i j l = true) : (i, j) ∈ l := by
  induction l with
  | nil => cases h
  | cons b l ih =>
    obtain ⟨x, y⟩ := b
    rw [memP, Bool.cond_eq_ite] at h
    split at h
    · rename_i hc
      simp only [Bool.and_eq_true] at hc
      rw [Nat.eq_of_beq_eq_true hc.1, Nat.eq_of_beq_eq_true hc.2]
      exact List.mem_cons_self
    · exact List.mem_cons_of_mem _ (ih h)
theorem cntW_succ (W : List Nat) (i : Nat) : cntW W (i + 1) = if memN i W then cntW W i + 1 else cntW W i := by
  rw [cntW, Bool.cond_eq_ite]
theorem cntW_mono {W : List Nat} {i j : Nat} (h : i ≤ j) : cntW W i ≤ cntW W j := by
  induction h with
  | refl => exact Nat.le_refl _
  | step h ih => rw [cntW_succ]; split <;> omega
theorem cntW_lt {W : List Nat} {i j : Nat} (h : i < j) (hi : memN i W = true) : cntW W i < cntW W j := by
  have := cntW_mono (W := W) (Nat.succ_le_of_lt h)
  rw [Nat.succ_eq_add_one, cntW_succ, if_pos hi] at this
  omega
theorem cntW_hit {W : List Nat} {q : Nat} : ∀ (j : Nat), q < cntW W j → ∃ f, f < j ∧ memN f W = true ∧ cntW W f = q
  | 0, h => absurd h (Nat.not_lt_zero _)
  | j + 1, h => by
    rw [cntW_succ] at h
    split at h
    · rename_i hm
      by_cases e : q < cntW W j
      · obtain ⟨f, h1, h2, h3⟩ := cntW_hit j e
        exact ⟨f, by omega, h2, h3⟩
      · exact ⟨j, by omega, hm, by omega⟩
    · obtain ⟨f, h1, h2, h3⟩ := cntW_hit j h
      exact ⟨f, by omega, h2, h3⟩
theorem sameV_ok {C : Cx} {v u : AV} {x : Value} (h : sameV v u) (hv : RV C v x) : RV C u x := by
  unfold sameV at h
  split at h
  · trivial
  · split at h
    · rw [← h]; exact hv
    · exact h.elim
  · rw [← h]; exact hv
/-- What is known of an operation that doesn't write. -/
def Fact (P : Program) (opsA : Array Oper) (m : Nat) (N : Nat) (Tf : Tmps) (Hj : Heap) (o : Oper) : Prop :=
  ∀ (F : Nat → Prop) φ w a, Rel F φ Hj w → TRel F φ Hj w N (maskT opsA.toList (depsOf o) Tf m) a → Does P opsA o a w fun u w' => RV (cx F φ Hj w') (valOf o Tf) u ∧ Below w.heap.size w w'
/-- What is known of one that writes. -/
def WFact (P : Program) (opsA : Array Oper) (m : Nat) (N : Nat) (Tf : Tmps) (Hj Hk : Heap) (o : Oper) : Prop :=
  ∀ (F : Nat → Prop) φ w a, Rel F φ Hj w → TRel F φ Hj w N (maskT opsA.toList (depsOf o) Tf m) a → Does P opsA o a w fun u w' => ∃ φ', Rel F φ' Hk w' ∧ Ext F φ Hj w φ' Hk w' ∧ RV (cx F φ' Hk w') (valOf o Tf) u
theorem valOf_put {o : Oper} {v : AV} {T T1 Tf : Tmps} (h : (o.dst = none ∧ T = T1) ∨ ∃ d, o.dst = some d ∧ d < N ∧ T = (d, v) :: T1) (he : ∀ d, o.dst = some d → lookT Tf d = lookT T d) : valOf o Tf = v ∨ valOf o Tf = .undef := by
  rcases h with ⟨h1, -⟩ | ⟨d, h1, -, rfl⟩
  · right; simp [valOf, h1]
  · left
    simp only [valOf, h1, he d h1, lookT_cons, if_pos]
theorem rv_valOf {C : Cx} {o : Oper} {v : AV} {Tf : Tmps} {x : Value} (h : valOf o Tf = v ∨ valOf o Tf = .undef) (hv : RV C v x) : RV C (valOf o Tf) x := by
  rcases h with h | h <;> rw [h]
  · exact hv
  · trivial
theorem guard_want {opsA : Array Oper} {o : Oper} {deps : List Nat} {m j d : Nat} {want b : Bool} (hT : TRel F φ H w N T a) (hg : o.guard = some (j, want)) (hd : dstOf opsA.toList j = some d) (hb : lookT T d = .bool b) (hlt : d < N) : Region.wanted o (yielded opsA a.tmps) = (b == want) := by
  have hv := rv_bool_inv (by have := hT.get d; rwa [hb] at this)
  have hy := yielded_get hd hv (by rw [hT.size]; exact hlt)
  simp [Region.wanted, hg, hy]
theorem guard_skip {opsA : Array Oper} {o : Oper} {j d : Nat} {want : Bool} (hT : TRel F φ H w N T a) (hg : o.guard = some (j, want)) (hd : dstOf opsA.toList j = some d) (hb : lookT T d = .tup []) : Region.wanted o (yielded opsA a.tmps) = false := by
  have hv := hT.get d
  rw [hb] at hv
  obtain ⟨vs, e, hr⟩ := hv
  have e0 : vs = [] := by cases vs <;> first | rfl | exact hr.elim
  subst e0
  have hy := yielded_none hd e
  simp [Region.wanted, hg, hy]
set_option maxHeartbeats 1000000 in
theorem plan_ok (hE : E.Ok P) {opsA : Array Oper} {m : Nat} {W : List Nat} {K : Tmps → Heap → List Heap → Prop} :
    ∀ (rest : List Oper) (k : Nat) (T : Tmps) (H : Heap) (Hs : List Heap), k + rest.length = m → (∀ j o, rest[j]? = some o → opsA.toList[k + j]? = some o) →
      (∀ i j t, i < m → j < m → dstOf opsA.toList i = some t → dstOf opsA.toList j = some t → i = j) → (∀ i o, i < m → opsA.toList[i]? = some o → ∀ d ∈ depsOf o, d < i) → Hs.length = cntW W k →
      planD E N opsA.toList m W rest k T H Hs K → ∃ Tf Hf Hsf, K Tf Hf Hsf ∧ (∀ t, (∀ i, k ≤ i → i < m → dstOf opsA.toList i ≠ some t) → lookT Tf t = lookT T t) ∧ Hsf.length = cntW W m ∧
        (∀ j, j ≤ Hs.length → stAt (Hf :: Hsf) j = stAt (H :: Hs) j) ∧
        (∀ i o, k ≤ i → i < m → opsA.toList[i]? = some o → memN i W = false → ∃ Hj, stAt (Hf :: Hsf) (cntW W i) = some Hj ∧ Fact P opsA m N Tf Hj o) ∧
        (∀ i o, k ≤ i → i < m → opsA.toList[i]? = some o → memN i W = true → ∃ Hj Hk, stAt (Hf :: Hsf) (cntW W i) = some Hj ∧ stAt (Hf :: Hsf) (cntW W i + 1) = some Hk ∧ WFact P opsA m N Tf Hj Hk o)
  | [], k, T, H, Hs, hk, hat, hu, hb, hl, h => by
    simp at hk
    subst hk
    exact ⟨T, H, Hs, h, fun t _ => rfl, hl, fun _ _ => rfl, fun i o h1 h2 => by omega, fun i o h1 h2 => by omega⟩
  | o :: rest, k, T, H, Hs, hk, hat, hu, hb, hl, h => by
    simp only [List.length_cons] at hk
    have hkm : k < m := by omega
    have ho : opsA.toList[k]? = some o := hat 0 o rfl
    have hdk : dstOf opsA.toList k = o.dst := by simp only [dstOf, ho]
    have hat' : ∀ j o, rest[j]? = some o → opsA.toList[k + 1 + j]? = some o := fun j o' hj => by
      have := hat (j + 1) o' (by simpa using hj)
      rwa [show k + (j + 1) = k + 1 + j from by omega] at this
    -- what stays the same up to the end
    have keep : ∀ (v : AV) (T1 T' Tf : Tmps), (∀ t, lookT T1 t = lookT T t) → ((o.dst = none ∧ T' = T1) ∨ ∃ d, o.dst = some d ∧ d < N ∧ T' = (d, v) :: T1) →
        (∀ t, (∀ i, k + 1 ≤ i → i < m → dstOf opsA.toList i ≠ some t) → lookT Tf t = lookT T' t) → (∀ t, (∀ i, k ≤ i → i < m → dstOf opsA.toList i ≠ some t) → lookT Tf t = lookT T t) ∧ (valOf o Tf = v ∨ valOf o Tf = .undef) := fun v T1 T' Tf h1 h2 h3 => by
      refine ⟨fun t ht => ?_, valOf_put h2 fun d hd => h3 d fun i hi hm he => ?_⟩
      · rw [h3 t fun i hi => ht i (by omega)]
        rcases h2 with ⟨-, rfl⟩ | ⟨d, h2, -, rfl⟩
        · exact h1 t
        · rw [lookT_cons, if_neg, h1]
          intro e
          subst e
          exact ht k (by omega) hkm (by rw [hdk, h2])
      · have := hu k i d hkm hm (by rw [hdk, hd]) he
        omega
    have mask : ∀ (Tf : Tmps), (∀ t, (∀ i, k ≤ i → i < m → dstOf opsA.toList i ≠ some t) → lookT Tf t = lookT T t) → ∀ (F : Nat → Prop) φ H w a, TRel F φ H w N (maskT opsA.toList (depsOf o) Tf m) a → TRel F φ H w N (maskT opsA.toList (depsOf o) T m) a := fun Tf hT F φ H w a h => h.remask fun t ht => hT t fun i hi hm he => by
      have := hb k o hkm ho i (ht i hm he)
      omega
    -- an operation that doesn't write
    have plain : ∀ (v : AV) (T1 T' : Tmps), memN k W = false → (∀ t, lookT T1 t = lookT T t) → ((o.dst = none ∧ T' = T1) ∨ ∃ d, o.dst = some d ∧ d < N ∧ T' = (d, v) :: T1) → planD E N opsA.toList m W rest (k + 1) T' H Hs K →
        (∀ (F : Nat → Prop) φ w a, Rel F φ H w → TRel F φ H w N (maskT opsA.toList (depsOf o) T m) a → Does P opsA o a w fun u w' => RV (cx F φ H w') v u ∧ Below w.heap.size w w') → ∃ Tf Hf Hsf, K Tf Hf Hsf ∧ (∀ t, (∀ i, k ≤ i → i < m → dstOf opsA.toList i ≠ some t) → lookT Tf t = lookT T t) ∧ Hsf.length = cntW W m ∧
        (∀ j, j ≤ Hs.length → stAt (Hf :: Hsf) j = stAt (H :: Hs) j) ∧
        (∀ i o, k ≤ i → i < m → opsA.toList[i]? = some o → memN i W = false → ∃ Hj, stAt (Hf :: Hsf) (cntW W i) = some Hj ∧ Fact P opsA m N Tf Hj o) ∧
        (∀ i o, k ≤ i → i < m → opsA.toList[i]? = some o → memN i W = true → ∃ Hj Hk, stAt (Hf :: Hsf) (cntW W i) = some Hj ∧ stAt (Hf :: Hsf) (cntW W i + 1) = some Hk ∧ WFact P opsA m N Tf Hj Hk o) := fun v T1 T' hW h1 h2 hr hd => by
      obtain ⟨Tf, Hf, Hsf, g1, g2, g3, g4, g5, g6⟩ := plan_ok hE rest (k + 1) T' H Hs (by omega) hat' hu hb (by rw [cntW_succ, hW, if_neg (by decide)]; exact hl) hr
      obtain ⟨k1, k2⟩ := keep v T1 T' Tf h1 h2 g2
      refine ⟨Tf, Hf, Hsf, g1, k1, g3, g4, fun i o' hi hm ho' hw => ?_, fun i o' hi hm ho' hw => ?_⟩
      · rcases Nat.lt_or_ge k i with h | h
        · exact g5 i o' h hm ho' hw
        · have : i = k := by omega
          subst this
          rw [ho] at ho'
          injection ho' with ho'
          subst ho'
          refine ⟨H, by rw [← hl, g4 _ (Nat.le_refl _), stAt, Nat.beq_refl]; rfl, fun F φ w a hB hT => (hd F φ w a hB (mask Tf k1 F φ H w a hT)).mono fun u w' ⟨p1, p2⟩ => ⟨rv_valOf k2 p1, p2⟩⟩
      · rcases Nat.lt_or_ge k i with h | h
        · exact g6 i o' h hm ho' hw
        · have : i = k := by omega
          subst this
          rw [hW] at hw
          cases hw
    -- one that writes
    have wr : ∀ (v : AV) (T1 T' : Tmps) (H' : Heap), memN k W = true → (∀ t, lookT T1 t = lookT T t) → ((o.dst = none ∧ T' = T1) ∨ ∃ d, o.dst = some d ∧ d < N ∧ T' = (d, v) :: T1) → planD E N opsA.toList m W rest (k + 1) T' H' (H :: Hs) K →
        (∀ (F : Nat → Prop) φ w a, Rel F φ H w → TRel F φ H w N (maskT opsA.toList (depsOf o) T m) a → Does P opsA o a w fun u w' => ∃ φ', Rel F φ' H' w' ∧ Ext F φ H w φ' H' w' ∧ RV (cx F φ' H' w') v u) → ∃ Tf Hf Hsf, K Tf Hf Hsf ∧ (∀ t, (∀ i, k ≤ i → i < m → dstOf opsA.toList i ≠ some t) → lookT Tf t = lookT T t) ∧ Hsf.length = cntW W m ∧
        (∀ j, j ≤ Hs.length → stAt (Hf :: Hsf) j = stAt (H :: Hs) j) ∧
        (∀ i o, k ≤ i → i < m → opsA.toList[i]? = some o → memN i W = false → ∃ Hj, stAt (Hf :: Hsf) (cntW W i) = some Hj ∧ Fact P opsA m N Tf Hj o) ∧
        (∀ i o, k ≤ i → i < m → opsA.toList[i]? = some o → memN i W = true → ∃ Hj Hk, stAt (Hf :: Hsf) (cntW W i) = some Hj ∧ stAt (Hf :: Hsf) (cntW W i + 1) = some Hk ∧ WFact P opsA m N Tf Hj Hk o) := fun v T1 T' H' hW h1 h2 hr hd => by
      obtain ⟨Tf, Hf, Hsf, g1, g2, g3, g4, g5, g6⟩ := plan_ok hE rest (k + 1) T' H' (H :: Hs) (by omega) hat' hu hb (by rw [cntW_succ, hW, if_pos rfl, List.length_cons, hl]) hr
      obtain ⟨k1, k2⟩ := keep v T1 T' Tf h1 h2 g2
      have st : ∀ j, j ≤ Hs.length → stAt (Hf :: Hsf) j = stAt (H :: Hs) j := fun j hj => by
        rw [g4 j (by simp; omega), stAt]
        have : Nat.beq j (H :: Hs).length = false := by
          cases hb : Nat.beq j (H :: Hs).length with
          | false => rfl
          | true => have := Nat.eq_of_beq_eq_true hb; simp at this; omega
        rw [this]; rfl
      refine ⟨Tf, Hf, Hsf, g1, k1, g3, st, fun i o' hi hm ho' hw => ?_, fun i o' hi hm ho' hw => ?_⟩
      · rcases Nat.lt_or_ge k i with h | h
        · exact g5 i o' h hm ho' hw
        · have : i = k := by omega
          subst this
          rw [hW] at hw
          cases hw
      · rcases Nat.lt_or_ge k i with h | h
        · exact g6 i o' h hm ho' hw
        · have : i = k := by omega
          subst this
          rw [ho] at ho'
          injection ho' with ho'
          subst ho'
          refine ⟨H, H', by rw [← hl, st _ (Nat.le_refl _), stAt, Nat.beq_refl]; rfl, by rw [← hl, g4 _ (by simp), stAt, List.length_cons, Nat.beq_refl]; rfl, fun F φ w a hB hT => (hd F φ w a hB (mask Tf k1 F φ H w a hT)).mono fun u w' ⟨φ', p1, p2, p3⟩ => ⟨φ', p1, p2, rv_valOf k2 p3⟩⟩
    have doesW : ∀ (T0 : Tmps) (need know : Prop) (v : AV) (H' : Heap), opD E o.op (rho T0) H = some ⟨need, know, v, H'⟩ → need → ∀ (F : Nat → Prop) φ w a, Rel F φ H w → TRel F φ H w N T0 a → Give P (fun u w' => ∃ φ', Rel F φ' H' w' ∧ Ext F φ H w φ' H' w' ∧ RV (cx F φ' H' w') v u) ((execOp a.eval o).run P w) := fun T0 need know v H' h1 h2 F φ w a hB hT => by
      obtain ⟨-, h4⟩ := op_ok hE hB (rho_ok hT) h1 h2
      exact h4.mono fun u w' ⟨φ', hv, hR', hX⟩ => ⟨φ', hR', hX, hv⟩
    have same : ∀ t, lookT T t = lookT T t := fun _ => rfl
    rw [planD] at h
    split at h
    · rename_i hg
      have wanted : ∀ a : Act, Region.wanted o (yielded opsA a.tmps) = true := fun a => by simp [Region.wanted, hg]
      rw [Bool.cond_eq_ite] at h
      split at h
      · rename_i hW
        split at h
        · rename_i need know v H' hr
          obtain ⟨h1, h2⟩ := h
          obtain ⟨T', h5, h6⟩ := putK_cases h2
          rw [forceH_eq] at h5
          refine wr v T T' H' hW same h6 h5 fun F φ w a hB hT => ?_
          unfold Does
          rw [if_pos (wanted a)]
          exact doesW _ _ _ _ _ hr h1 F φ w a hB hT
        · exact h.elim
      · rename_i hW
        obtain ⟨r, v, h1, h2, h3, h4⟩ := preK_get h
        obtain ⟨T', h5, h6⟩ := putK_cases h4
        refine plain v T T' (not_true hW) same h6 h5 fun F φ w a hB hT => ?_
        unfold Does
        rw [if_pos (wanted a)]
        exact preK_does hE h1 h2 h3 hB hT
    · rename_i j want hg
      split at h
      · exact h.elim
      · rename_i d hd
        split at h
        · rename_i b hb1
          rw [Bool.cond_eq_ite] at h
          split at h
          · rename_i hlt
            have hlt : d < N := by rwa [Nat.blt_eq] at hlt
            have hbT : lookT T d = .bool b := by
              rcases maskT_look (ops := opsA.toList) (deps := depsOf o) (T := T) (t := d) m with ⟨h1, -⟩ | h1
              · rw [← h1]; exact hb1
              · rw [h1] at hb1; cases hb1
            have wanted : ∀ (F : Nat → Prop) φ H w a, TRel F φ H w N (maskT opsA.toList (depsOf o) T m) a → Region.wanted o (yielded opsA a.tmps) = (b == want) := fun F φ H w a hT => guard_want (deps := []) (m := 0) hT hg hd hb1 hlt
            have known : ∀ c, b = c → ∀ t, lookT ((d, .bool c) :: T) t = lookT T t := fun c hc t => by
              rw [lookT_cons]
              split
              · rename_i e; rw [e, hbT, hc]
              · rfl
            by_cases e : b = want
            · have h := h.1 e
              rw [Bool.cond_eq_ite] at h
              split at h
              · rename_i hW
                split at h
                · rename_i need know v H' hr
                  obtain ⟨h1, h2⟩ := h
                  obtain ⟨T', h5, h6⟩ := putK_cases h2
                  rw [forceH_eq] at h5
                  refine wr v _ T' H' hW (known want e) h6 h5 fun F φ w a hB hT => ?_
                  unfold Does
                  rw [wanted F φ H w a hT, if_pos (beq_iff_eq.2 e)]
                  exact doesW _ _ _ _ _ hr h1 F φ w a hB (hT.known hb1 e)
                · exact h.elim
              · rename_i hW
                obtain ⟨r, v, h1, h2, h3, h4⟩ := preK_get h
                obtain ⟨T', h5, h6⟩ := putK_cases h4
                refine plain v _ T' (not_true hW) (known want e) h6 h5 fun F φ w a hB hT => ?_
                unfold Does
                rw [wanted F φ H w a hT, if_pos (beq_iff_eq.2 e)]
                exact preK_does hE h1 h2 h3 hB (hT.known hb1 e)
            · have e' : b = !want := ne_not e
              obtain ⟨T', h5, h6⟩ := putK_cases (h.2 e')
              rw [Bool.cond_eq_ite] at h5
              split at h5
              · rename_i hW
                refine wr (.tup []) _ T' H hW (known (!want) e') h6 h5 fun F φ w a hB hT => ?_
                unfold Does
                rw [wanted F φ H w a hT, if_neg (fun h => e (beq_iff_eq.1 h))]
                exact ⟨φ, hB, Ext.refl _ _ _ _, rv_skip⟩
              · rename_i hW
                refine plain (.tup []) _ T' (not_true hW) (known (!want) e') h6 h5 fun F φ w a hB hT => ?_
                unfold Does
                rw [wanted F φ H w a hT, if_neg (fun h => e (beq_iff_eq.1 h))]
                exact ⟨rv_skip, Below.refl _ _⟩
          · exact h.elim
        · rename_i hb1
          have skip : ∀ (F : Nat → Prop) φ H w a, TRel F φ H w N (maskT opsA.toList (depsOf o) T m) a → Region.wanted o (yielded opsA a.tmps) = false := fun F φ H w a hT => guard_skip hT hg hd hb1
          obtain ⟨T', h5, h6⟩ := putK_cases h
          rw [Bool.cond_eq_ite] at h5
          split at h5
          · rename_i hW
            refine wr (.tup []) _ T' H hW same h6 h5 fun F φ w a hB hT => ?_
            unfold Does
            rw [skip F φ H w a hT, if_neg (by decide)]
            exact ⟨φ, hB, Ext.refl _ _ _ _, rv_skip⟩
          · rename_i hW
            refine plain (.tup []) _ T' (not_true hW) same h6 h5 fun F φ w a hB hT => ?_
            unfold Does
            rw [skip F φ H w a hT, if_neg (by decide)]
            exact ⟨rv_skip, Below.refl _ _⟩
        · exact h.elim
theorem chk_ok (hE : E.Ok P) {opsA : Array Oper} {m : Nat} {o : Oper} {Tf : Tmps} {Hj : Heap} (h : chk1 E N o opsA.toList m Tf Hj) : Fact P opsA m N Tf Hj o := by
  intro F φ w a hB hT
  have run : chkV E o opsA.toList m Tf Hj → Give P (fun u w' => RV (cx F φ Hj w') (valOf o Tf) u ∧ Below w.heap.size w w') ((execOp a.eval o).run P w) := fun h => by
    unfold chkV at h
    split at h
    · rename_i need know v0 H' hr
      obtain ⟨h1, h2⟩ := h
      split at h2
      · rename_i v hv
        exact (preK_does hE hr h1 hv hB hT).mono fun u w' ⟨p1, p2⟩ => ⟨sameV_ok h2 p1, p2⟩
      · exact h2.elim
    · exact h.elim
  unfold chk1 at h
  unfold Does
  split at h
  · rename_i hg
    rw [if_pos (by simp [Region.wanted, hg])]
    exact run h
  · rename_i j want hg
    split at h
    · exact h.elim
    · rename_i d hd
      split at h
      · rename_i c hc
        rw [Bool.cond_eq_ite] at h
        split at h
        case isFalse => exact h.elim
        rename_i hlt
        rw [guard_want (deps := []) (m := 0) hT hg hd hc (by rwa [Nat.blt_eq] at hlt)]
        rw [Bool.cond_eq_ite] at h
        by_cases e : c = want
        · rw [if_pos (by simpa using e)]
          rw [if_pos (by rw [e]; cases want <;> rfl)] at h
          exact run h
        · rw [if_neg (by simpa using e)]
          rw [if_neg (by cases c <;> cases want <;> simp_all [eqBb])] at h
          exact ⟨sameV_ok h rv_skip, Below.refl _ _⟩
      · rename_i hc
        rw [guard_skip hT hg hd hc, if_neg (by decide)]
        exact ⟨sameV_ok h rv_skip, Below.refl _ _⟩
      · exact h.elim
theorem checkD_get {ops : List Oper} {m : Nat} {Hs : List Heap} {i j : Nat} {o : Oper} : ∀ {Z : List (Nat × Nat)}, checkD E N ops m T Hs Z → (i, j) ∈ Z → ops[i]? = some o → ∃ Hj, stAt Hs j = some Hj ∧ chk1 E N o ops m T Hj
  | (x, y) :: Z, h, hm, ho => by
    obtain ⟨h1, h2⟩ := h
    rcases List.mem_cons.1 hm with e | hm
    · injection e with e1 e2
      subst e1 e2
      rw [ho] at h1
      simp only at h1
      split at h1
      · rename_i Hj hj; exact ⟨Hj, hj, h1⟩
      · exact h1.elim
    · exact checkD_get h2 hm ho
set_option maxHeartbeats 1000000 in
theorem drawE_ok (hE : E.Ok P) (hmix : P.follows .mixedOrders = true) {ops : Array Oper} {id m : Nat} {W : List Nat} {Z : List (Nat × Nat)} {Q : Exit → Act → World → Prop} {K : Tmps → Heap → Prop} (h : drawE E N ops.toList m W Z T H K) (hB : Base F φ0 H0 w0 φ H w) (hT : TRel F φ H w N T a)
    (hQ : ∀ T' H' φ' w' a', K T' H' → Base F φ0 H0 w0 φ' H' w' → TRel F φ' H' w' N T' a' → Q .normal a' w') : (Code.region id ops true).wp P Q a w := by
  obtain ⟨hfree, hwr, h⟩ := h
  simp only [Array.toArray_toList] at hfree hwr
  have hF := freeOk_spec hfree
  have hle := hF.le
  have hget : ∀ i : Nat, ops.toList[i]? = ops[i]? := fun i => by rw [Array.getElem?_toList]
  have dstA : ∀ i, dstOf ops.toList i = dstAt ops i := fun i => by
    unfold dstOf dstAt
    rw [Array.getElem?_toList]
    cases ops[i]? <;> rfl
  obtain ⟨Tf, Hf, Hsf, ⟨hc, hreg⟩, agree, hlen, hst, hplain, hwrite⟩ := plan_ok (P := P) (N := N) (opsA := ops) (m := m) (W := W) hE (ops.toList.take m) 0 T H [] (by simp; omega) (fun j o hj => by
      rw [List.getElem?_take] at hj
      split at hj
      · rw [Nat.zero_add]; exact hj
      · cases hj) (fun i j t hi hj h1 h2 => hF.uniq i j t hi hj (by rw [← dstA]; exact h1) (by rw [← dstA]; exact h2)) (fun i o hi ho d hd => hF.back i o (by rw [← hget]; exact ho) d hd) rfl h
  unfold wrOk at hwr
  simp only [Bool.and_eq_true, List.all_eq_true, List.mem_range, Bool.or_eq_true, Bool.not_eq_true'] at hwr
  obtain ⟨⟨hdst, hchain⟩, hcov⟩ := hwr
  have hdN : ∀ i t, i < m → dstOf ops.toList i = some t → t < N := fun i t hi h => by
    have := hdst i hi
    rw [dstA] at h
    rw [h] at this
    rwa [Nat.blt_eq] at this
  -- an operation that doesn't write, wherever it may run
  have fact : ∀ i o j, i < m → ops[i]? = some o → memN i W = false → j ≤ cntW W m → (∀ e, e < m → memN e W = true → (cntW W e < j → reach ops 6 e i = false) ∧ (¬ cntW W e < j → reach ops 6 i e = false)) → ∀ Hj, stAt (Hf :: Hsf) j = some Hj → Fact P ops m N Tf Hj o := fun i o j hi ho hW hj hp Hj hHj => by
    rcases hcov i hi with h1 | h1
    · rw [hW] at h1; cases h1
    · rcases h1 j (by omega) with (h2 | h2) | h2
      · have := Nat.eq_of_beq_eq_true h2
        subst this
        obtain ⟨Hj', g1, g2⟩ := hplain i o (Nat.zero_le _) hi (by rw [hget]; exact ho) hW
        rw [hHj] at g1
        injection g1 with g1
        subst g1
        exact g2
      · exfalso
        have : possB ops m W i j = true := by
          unfold possB
          simp only [List.all_eq_true, List.mem_range, Bool.or_eq_true, Bool.not_eq_true']
          intro e he
          cases hw : memN e W with
          | false => exact .inl rfl
          | true =>
            right
            obtain ⟨p1, p2⟩ := hp e he hw
            rw [Bool.cond_eq_ite]
            split
            · rename_i hlt; rw [p1 (by rwa [Nat.blt_eq] at hlt)]; rfl
            · rename_i hlt; rw [p2 (by rwa [Nat.blt_eq] at hlt)]; rfl
        rw [this] at h2
        cases h2
      · obtain ⟨Hj', g1, g2⟩ := checkD_get hc (memP_iff h2) (by rw [hget]; exact ho)
        rw [hHj] at g1
        injection g1 with g1
        subst g1
        exact chk_ok hE g2
  obtain ⟨hd0, hs0⟩ := hB.rel.below (Below.drew (Below.refl w.heap.size w))
  let J : (Nat → Prop) → (Nat → Value) → World → Prop := fun L vs x => (∀ i o, i < m → ops[i]? = some o → L i → ∀ k ∈ depsOf o, L k) ∧ ∃ j φ' Hj, j ≤ cntW W m ∧ (∀ e, e < m → memN e W = true → (L e ↔ cntW W e < j)) ∧ stAt (Hf :: Hsf) j = some Hj ∧ Base F φ0 H0 w0 φ' Hj x ∧ Ext F φ H w φ' Hj x ∧
    ∀ i o, i < m → ops[i]? = some o → L i → RV (cx F φ' Hj x) (valOf o Tf) (vs i)
  -- the temporaries, as far as an operation may look at them
  have temps : ∀ (L : Nat → Prop) vs φ' Hj x k deps, k ≤ m → Ext F φ H w φ' Hj x → (∀ d ∈ deps, d < k ∧ L d) → (∀ i o, i < m → ops[i]? = some o → L i → RV (cx F φ' Hj x) (valOf o Tf) (vs i)) → TRel F φ' Hj x N (maskT ops.toList deps Tf m) (actAt ops a vs k) := fun L vs φ' Hj x k deps hk hX hd hv => by
    have hA := Inv.at_ (a := a) (vs := vs) hF k hk
    refine ⟨by rw [hA.size, hT.size], fun t => ?_, by rw [hA.defers, hT.defers]⟩
    rcases maskT_iff (ops := ops.toList) (deps := deps) (T := Tf) (t := t) m with ⟨h1, h2⟩ | ⟨-, h2⟩
    · rw [h2]
      by_cases hx : ∃ i, i < m ∧ dstOf ops.toList i = some t
      · obtain ⟨i, hi, hit⟩ := hx
        obtain ⟨hik, hLi⟩ := hd i (h1 i hi hit)
        have ho : ops[i]? = some ops[i] := Array.getElem?_eq_getElem (by omega)
        have hdst : (ops[i]).dst = some t := by
          have := hit
          rw [dstA, dstAt, ho] at this
          exact this
        have hval := hv i _ hi ho hLi
        rw [show valOf ops[i] Tf = lookT Tf t from by simp only [valOf, hdst]] at hval
        by_cases hts : t < a.tmps.size
        · have := hA.told i t hi hik (by rw [← dstA]; exact hit) hts
          rw [Array.getD_eq_getD_getElem?, this]
          exact hval
        · have : lookT Tf t = .undef ∨ True := .inr trivial
          have hn : (actAt ops a vs k).tmps[t]? = none := by
            rw [Array.getElem?_eq_none]
            rw [hA.size]; omega
          exact absurd (hdN i t hi hit) (by rw [hT.size] at hts; exact hts)
      · have ht : ∀ i, i < m → dstOf ops.toList i ≠ some t := fun i hi he => hx ⟨i, hi, he⟩
        rw [agree t fun i _ hi => ht i hi]
        have := hA.kept t fun i hi _ => by rw [← dstA]; exact ht i hi
        rw [Array.getD_eq_getD_getElem?, this, ← Array.getD_eq_getD_getElem?]
        exact (hT.get t).mono hX.le
    · rw [h2]; trivial
  have clos : ∀ (L : Nat → Prop) i o, (∀ i o, i < m → ops[i]? = some o → L i → ∀ k ∈ depsOf o, L k) → i < m → ops[i]? = some o → (∀ k ∈ depsOf o, L k) → ∀ f k, reach ops f i k = true → L k := fun L i o hcl hi ho hdL f k hr => by
    refine (reach_spec (L := fun k => L k ∧ k < m) (fun j o' hj' hL d hd => ⟨hcl j o' hL.2 hj' hL.1 d hd, by have := hF.back j o' hj' d hd; have := hL.2; omega⟩) f i k hr fun d hd => ?_).1
    rw [Array.getD_eq_getD_getElem?, ho] at hd
    exact ⟨hdL d hd, by have := hF.back i o ho d hd; omega⟩
  refine wp_region_ghost hmix m hfree (J := J) (fun L L' vs us x hL hu ⟨j1, j, φ', Hj, j2, j3, j4, j5, j6, j7⟩ => ?_) ?_ (fun i o L vs x hi ho hnL hdL ⟨j1, j, φ', Hj, j2, j3, j4, j5, j6, j7⟩ => ?_) (fun vs x ⟨j1, j, φ', Hj, j2, j3, j4, j5, j6, j7⟩ => ?_)
  · refine ⟨fun i o hi ho hLi k hk => ?_, j, φ', Hj, j2, fun e he hw => by rw [← hL e he]; exact j3 e he hw, j4, j5, j6, fun i o hi ho hLi => ?_⟩
    · have := hF.back i o ho k hk
      exact (hL k (by omega)).1 (j1 i o hi ho ((hL i hi).2 hLi) k hk)
    · rw [hu i hi ((hL i hi).2 hLi)]
      exact j7 i o hi ho ((hL i hi).2 hLi)
  · refine ⟨fun i o hi ho hL => hL.elim, 0, φ, H, Nat.zero_le _, fun e he hw => ⟨fun h => h.elim, fun h => absurd h (Nat.not_lt_zero _)⟩, by rw [hst 0 (Nat.le_refl _)]; rfl, ⟨hd0, hB.ext.trans hs0, hB.lt0⟩, hs0, fun i o hi ho hL => hL.elim⟩
  · have hTm : TRel F φ' Hj x N (maskT ops.toList (depsOf o) Tf m) (actAt ops a vs i) := temps L vs φ' Hj x i (depsOf o) (by omega) j6 (fun d hd => ⟨hF.back i o ho d hd, hdL d hd⟩) j7
    have close2 : ∀ (i' : Nat) (o' : Oper), i' < m → ops[i']? = some o' → (L i' ∨ i' = i) → ∀ k ∈ depsOf o', L k ∨ k = i := fun i' o' hi' ho' hL k hk => by
      rcases hL with hL | rfl
      · exact .inl (j1 i' o' hi' ho' hL k hk)
      · rw [ho] at ho'
        injection ho' with ho'
        subst ho'
        exact .inl (hdL k hk)
    cases hW : memN i W with
    | false =>
      refine (fact i o j hi ho hW j2 (fun e he hw => ⟨fun hlt => ?_, fun hlt => ?_⟩) Hj j4 F φ' x _ j5.rel hTm).mono fun u x' ⟨p1, p2⟩ => ?_
      · cases hr : reach ops 6 e i with
        | false => rfl
        | true =>
          have hLe := (j3 e he hw).2 hlt
          have hoe : ops[e]? = some ops[e] := Array.getElem?_eq_getElem (by omega)
          exact absurd (clos L e _ j1 he hoe (j1 e _ he hoe hLe) 6 i hr) hnL
      · cases hr : reach ops 6 i e with
        | false => rfl
        | true => exact absurd ((j3 e he hw).1 (clos L i o j1 hi ho hdL 6 e hr)) hlt
      · obtain ⟨g1, g2⟩ := j5.rel.below p2
        refine ⟨close2, j, φ', Hj, j2, fun e he hw => ?_, j4, ⟨g1, j5.ext.trans g2, j5.lt0⟩, j6.trans g2, fun i' o' hi' ho' hL => ?_⟩
        · rw [← j3 e he hw]
          refine ⟨fun h => ?_, Or.inl⟩
          rcases h with h | rfl
          · exact h
          · rw [hW] at hw; cases hw
        · by_cases e : i' = i
          · subst e
            rw [ho] at ho'
            injection ho' with ho'
            subst ho'
            show RV _ _ (if i' = i' then u else vs i')
            rw [if_pos rfl]
            exact p1
          · show RV _ _ (if i' = i then u else vs i')
            rw [if_neg e]
            exact (j7 i' o' hi' ho' (hL.resolve_right e)).mono g2.le
    | true =>
      have hge : ¬ cntW W i < j := fun h => hnL ((j3 i hi hW).2 h)
      have hj : j = cntW W i := by
        rcases Nat.lt_or_ge j (cntW W i) with h | h
        · obtain ⟨f, f1, f2, f3⟩ := cntW_hit i h
          have hch := hchain i hi
          rcases hch with h' | h'
          · rw [hW] at h'; cases h'
          · rcases h' f f1 with h'' | h''
            · rw [f2] at h''; cases h''
            · have := (j3 f (by omega) f2).1 (clos L i o j1 hi ho hdL 6 f h'')
              omega
        · omega
      subst hj
      obtain ⟨Ha, Hb, g1, g2, g3⟩ := hwrite i o (Nat.zero_le _) hi (by rw [hget]; exact ho) hW
      rw [j4] at g1
      injection g1 with g1
      subst g1
      have hlt := cntW_lt hi hW
      refine (g3 F φ' x _ j5.rel hTm).mono fun u x' ⟨φ2, p1, p2, p3⟩ => ⟨close2, cntW W i + 1, φ2, Hb, by omega, fun e he hw => ?_, g2, ⟨p1, j5.ext.trans p2, j5.lt0⟩, j6.trans p2, fun i' o' hi' ho' hL => ?_⟩
      · constructor
        · rintro (h | rfl)
          · have := (j3 e he hw).1 h; omega
          · omega
        · intro h
          by_cases h' : cntW W e < cntW W i
          · exact .inl ((j3 e he hw).2 h')
          · right
            rcases Nat.lt_trichotomy e i with h1 | h1 | h1
            · have := cntW_lt h1 hw; omega
            · exact h1
            · have := cntW_lt h1 hW; omega
      · by_cases e : i' = i
        · subst e
          rw [ho] at ho'
          injection ho' with ho'
          subst ho'
          show RV _ _ (if i' = i' then u else vs i')
          rw [if_pos rfl]
          exact p3
        · show RV _ _ (if i' = i then u else vs i')
          rw [if_neg e]
          exact (j7 i' o' hi' ho' (hL.resolve_right e)).mono p2.le
  · have hj : j = cntW W m := by
      rcases Nat.lt_or_ge j (cntW W m) with h | h
      · obtain ⟨f, f1, f2, f3⟩ := cntW_hit m h
        have := (j3 f f1 f2).1 f1
        omega
      · omega
    subst hj
    have hHj : Hj = Hf := by
      rw [stAt, hlen, Nat.beq_refl] at j4
      injection j4 with j4
      exact j4.symm
    subst hHj
    have hTm : TRel F φ' Hj x N Tf (actAt ops a vs m) := by
      have := temps (fun i => i < m) vs φ' Hj x m (List.range m) (Nat.le_refl _) j6 (fun d hd => ⟨List.mem_range.1 hd, List.mem_range.1 hd⟩) j7
      refine ⟨this.size, fun t => ?_, this.defers⟩
      have h1 := this.get t
      rcases maskT_iff (ops := ops.toList) (deps := List.range m) (T := Tf) (t := t) m with ⟨-, h2⟩ | ⟨h2, -⟩
      · rw [← h2]; exact h1
      · exact absurd (fun i hi _ => List.mem_range.2 hi) h2
    exact reg_ok hE (ops.toList.drop m) Tf Hj φ' x _ K hreg j5 hTm hQ
end
end Go.Proofs.Ytpjdicndjakeoaa
