/- The engine: regions that draw their order. No condition. -/
import Derived.Test.YtopbgpmajkcboaaE20
namespace Go.Proofs.Ytopbgpmajkcboaa
open Go.RowKit
set_option linter.unusedVariables false
set_option linter.unusedSimpArgs false
section
variable {P : Program} {E : Env} {F : Nat → Prop} {φ : Nat → RS} {H : Heap} {w : World} {N : Nat} {T : Tmps} {a : Act}
theorem memB_iff {i : Nat} {l : List Nat} : memB i l = true ↔ i ∈ l := by
  induction l with
  | nil => simp [memB]
  | cons b l ih => simp [memB, ih]
theorem maskT_look {ops : List Oper} {deps : List Nat} {T : Tmps} {t : Nat} : ∀ (k : Nat), (lookT (maskT ops deps T k) t = lookT T t ∧ ∀ i, i < k → dstOf ops i = some t → i ∈ deps) ∨ lookT (maskT ops deps T k) t = .undef
  | 0 => .inl ⟨rfl, fun i hi => absurd hi (Nat.not_lt_zero _)⟩
  | k + 1 => by
    have ih := maskT_look (ops := ops) (deps := deps) (T := T) (t := t) k
    rw [maskT]
    cases hd : dstOf ops k with
    | none =>
      simp only
      rcases ih with ⟨h1, h2⟩ | h
      · refine .inl ⟨h1, fun i hi hdi => ?_⟩
        rcases Nat.lt_or_ge i k with h | h
        · exact h2 i h hdi
        · have : i = k := by omega
          subst this
          rw [hd] at hdi
          cases hdi
      · exact .inr h
    | some d =>
      simp only [Bool.cond_eq_ite]
      split
      · rename_i hm
        rcases ih with ⟨h1, h2⟩ | h
        · refine .inl ⟨h1, fun i hi hdi => ?_⟩
          rcases Nat.lt_or_ge i k with h | h
          · exact h2 i h hdi
          · have : i = k := by omega
            subst this
            exact memB_iff.1 hm
        · exact .inr h
      · rename_i hm
        rw [lookT_cons]
        by_cases e : t = d
        · rw [if_pos e]; exact .inr rfl
        · rw [if_neg e]
          rcases ih with ⟨h1, h2⟩ | h
          · refine .inl ⟨h1, fun i hi hdi => ?_⟩
            rcases Nat.lt_or_ge i k with h | h
            · exact h2 i h hdi
            · have : i = k := by omega
              subst this
              rw [hd] at hdi
              injection hdi with hdi
              exact absurd hdi.symm e
          · exact .inr h
/-- What is known of the temporaries while the operations of a region are told one by one. -/
structure PInv (F : Nat → Prop) (φ : Nat → RS) (H : Heap) (S : World → Prop) (N : Nat) (ops : List Oper) (k : Nat) (T : Tmps) (a : Act) (Hs : List (World → Prop)) : Prop where
  size : a.tmps.size = N
  defers : a.defers = []
  len : Hs.length = k
  get : ∀ t w, S w → (∀ i, i < k → dstOf ops i = some t → (Hs.getD i yes) w) → RV (cx F φ H w) (lookT T t) (a.tmps.getD t undef)
theorem PInv.mask {S : World → Prop} {ops : List Oper} {k : Nat} {Hs : List (World → Prop)} (h : PInv F φ H S N ops k T a Hs) {deps : List Nat} {w : World} (hS : S w) (hd : ∀ j ∈ deps, (Hs.getD j yes) w) : TRel F φ H w N (maskT ops deps T k) a := by
  refine ⟨h.size, fun t => ?_, h.defers⟩
  rcases maskT_look (ops := ops) (deps := deps) (T := T) (t := t) k with ⟨h1, h2⟩ | h1
  · rw [h1]
    exact h.get t w hS fun i hi hdi => hd i (h2 i hi hdi)
  · rw [h1]; trivial
theorem PInv.all {S : World → Prop} {ops : List Oper} {k : Nat} {Hs : List (World → Prop)} (h : PInv F φ H S N ops k T a Hs) {w : World} (hS : S w) (hd : ∀ f ∈ Hs, f w) : TRel F φ H w N T a := by
  refine ⟨h.size, fun t => h.get t w hS fun i hi hdi => ?_, h.defers⟩
  rw [List.getD_eq_getElem?_getD, List.getElem?_eq_getElem (by rw [h.len]; exact hi)]
  exact hd _ (List.getElem_mem _)
/-- One operation told: what it gives is known as a fact of its own. -/
theorem PInv.next {S : World → Prop} {ops : List Oper} {k : Nat} {Hs : List (World → Prop)} (h : PInv F φ H S N ops k T a Hs) {o : Oper} (ho : ops[k]? = some o) (huniq : ∀ i t, i < k → dstOf ops i = some t → o.dst ≠ some t) (v : AV) (u : Value) {T' : Tmps} (hT' : (o.dst = none ∧ T' = T) ∨ ∃ d, o.dst = some d ∧ d < N ∧ T' = (d, v) :: T) :
    PInv F φ H S N ops (k + 1) T' (a.put o.dst u) (Hs ++ [fun w => RV (cx F φ H w) v u]) := by
  have hk : dstOf ops k = o.dst := by simp [dstOf, ho]
  have hlast : (Hs ++ [fun w => RV (cx F φ H w) v u]).getD k yes = fun w => RV (cx F φ H w) v u := by
    rw [List.getD_eq_getElem?_getD, List.getElem?_append_right (by rw [h.len]; exact Nat.le_refl _), h.len]
    simp
  have hold : ∀ i, i < k → (Hs ++ [fun w => RV (cx F φ H w) v u]).getD i yes = Hs.getD i yes := fun i hi => getD_left _ _ _ (by rw [h.len]; exact hi)
  rcases hT' with ⟨hd, rfl⟩ | ⟨d, hd, hdN, rfl⟩
  · rw [hd]
    refine ⟨h.size, h.defers, by simp [h.len], fun t w hS hf => h.get t w hS fun i hi hdi => ?_⟩
    have := hf i (by omega) hdi
    rwa [hold i hi] at this
  · rw [hd]
    refine ⟨by simp [Act.put, h.size], h.defers, by simp [h.len], fun t w hS hf => ?_⟩
    rw [lookT_cons]
    by_cases e : t = d
    · subst e
      rw [if_pos rfl]
      have h1 : (a.put (some t) u).tmps.getD t undef = u := by simp [Act.put, Array.getD_eq_getD_getElem?, h.size, hdN]
      rw [h1]
      have := hf k (by omega) (by rw [hk, hd])
      rwa [hlast] at this
    · rw [if_neg e]
      have h1 : (a.put (some d) u).tmps.getD t undef = a.tmps.getD t undef := by
        simp only [Act.put, Array.getD_eq_getD_getElem?]
        rw [Array.getElem?_setIfInBounds_ne (Ne.symm e)]
      rw [h1]
      refine h.get t w hS fun i hi hdi => ?_
      have := hf i (by omega) hdi
      rwa [hold i hi] at this
theorem putK_cases {dst : Option Tmp} {v : AV} {T : Tmps} {K : Tmps → Prop} (h : putK N dst v T K) : ∃ T', K T' ∧ ((dst = none ∧ T' = T) ∨ ∃ d, dst = some d ∧ d < N ∧ T' = (d, v) :: T) := by
  unfold putK at h
  cases dst with
  | none => exact ⟨T, h, .inl ⟨rfl, rfl⟩⟩
  | some d =>
    simp only [Bool.cond_eq_ite] at h
    split at h
    · rename_i hd
      rw [force_eq] at h
      exact ⟨_, h, .inr ⟨d, rfl, by simpa using hd, rfl⟩⟩
    · exact h.elim
variable {φ0 : Nat → RS} {H0 : Heap} {w0 : World}
theorem below_le {w' : World} (hb : Below w.heap.size w w') : (cx F φ H w).Le (cx F φ H w') := ⟨fun _ _ => rfl, Nat.le_refl _, fun _ _ h => h, hb.size, fun b hb' _ => hb.block b hb', fun _ _ h => h⟩
theorem Give.mono {G G' : Value → World → Prop} {r : Result Next} (h : Give P G r) (hg : ∀ v w, G v w → G' v w) : Give P G' r := by
  cases r with
  | ok n w => cases n <;> simp only [Give] at h ⊢ <;> first | exact hg _ _ h | (exact Calls.mono h fun e w' ⟨v, he, hh⟩ => ⟨v, he, hg _ _ hh⟩) | exact h.elim
  | halt x w => exact h.elim
theorem preK_get {o : Oper} {T0 T : Tmps} {K : Tmps → Prop} (h : preK E N o T0 T H K) : ∃ r v, opD E o.op (rho T0) H.lock = some r ∧ r.need ∧ closeV H.n r.H r.v = some v ∧ putK N o.dst v T K := by
  unfold preK at h
  split at h
  · rename_i need know v0 H' hr
    obtain ⟨h1, h2⟩ := h
    split at h2
    · rename_i v hv
      exact ⟨_, v, hr, h1, hv, h2⟩
    · exact h2.elim
  · exact h.elim
theorem preK_does (hE : E.Ok P) {o : Oper} {T0 : Tmps} {r : Res} {v : AV} (h1 : opD E o.op (rho T0) H.lock = some r) (h2 : r.need) (h3 : closeV H.n r.H r.v = some v) (hR : Rel F φ H w) (hT : TRel F φ H w N T0 a) :
    Give P (fun u w' => RV (cx F φ H w') v u ∧ Below w.heap.size w w') ((execOp a.eval o).run P w) := by
  obtain ⟨-, h4⟩ := op_ok hE hR.lock (rho_ok (hT.mono lock_le)) h1 h2
  refine h4.mono fun u w' ⟨φ', hv, hR', hX⟩ => ⟨closeV_ok hR' hX hR h3 hv, hX.os, hX.tape, hX.output, hX.le.size, fun b hb => hX.le.blk b hb lock_wr⟩
theorem pre_ok (hE : E.Ok P) {ops : Array Oper} {Q : Exit → Act → World → Prop} {suf : List Oper} {S : World → Prop} (hSR : ∀ w, S w → Rel F φ H w)
    {K : Tmps → Prop} (hK : ∀ T a Hs k, K T → PInv F φ H S N ops.toList k T a Hs → ∀ w, S w → (∀ f ∈ Hs, f w) → wpList P ops Q suf a w) :
    ∀ (rest : List Oper) (k : Nat) (T : Tmps), (∀ j o, rest[j]? = some o → ops.toList[k + j]? = some o) → (∀ j o, rest[j]? = some o → ∀ i t, i < k + j → dstOf ops.toList i = some t → o.dst ≠ some t) →
      preD E N ops.toList H rest k T K → ∃ L, ∀ a Hs, PInv F φ H S N ops.toList k T a Hs → Loose P ops Q S L rest suf a Hs
  | [], k, T, hat, hu, h => ⟨[], fun a Hs hI => Loose.nil fun w hS hf => hK T a Hs k h hI w hS hf⟩
  | o :: rest, k, T, hat, hu, h => by
    have ho : ops.toList[k]? = some o := hat 0 o rfl
    have hat' : ∀ j o, rest[j]? = some o → ops.toList[k + 1 + j]? = some o := fun j o' hj => by
      have := hat (j + 1) o' (by simpa using hj)
      rwa [show k + (j + 1) = k + 1 + j from by omega] at this
    have hu' : ∀ j o, rest[j]? = some o → ∀ i t, i < k + 1 + j → dstOf ops.toList i = some t → o.dst ≠ some t := fun j o' hj i t hi => hu (j + 1) o' (by simpa using hj) i t (by omega)
    have hu0 := hu 0 o rfl
    have go : ∀ (v : AV) (T' : Tmps) (T1 : Tmps), (∀ a Hs, PInv F φ H S N ops.toList k T a Hs → PInv F φ H S N ops.toList k T1 a Hs) → preD E N ops.toList H rest (k + 1) T' K → ((o.dst = none ∧ T' = T1) ∨ ∃ d, o.dst = some d ∧ d < N ∧ T' = (d, v) :: T1) →
        (∀ a Hs, PInv F φ H S N ops.toList k T a Hs → ∀ w, S w → (∀ j ∈ depsOf o, (Hs.getD j yes) w) → Does P ops o a w fun u w' => RV (cx F φ H w') v u ∧ Below w.heap.size w w') → ∃ L, ∀ a Hs, PInv F φ H S N ops.toList k T a Hs → Loose P ops Q S L (o :: rest) suf a Hs := fun v T' T1 hI1 hr hT' hd => by
      obtain ⟨L, hL⟩ := pre_ok hE hSR hK rest (k + 1) T' hat' hu' hr
      exact ⟨.loose (fun u w => RV (cx F φ H w) v u) :: L, fun a Hs hI => Loose.loose _ (fun u w w' hb hv => hv.mono (below_le hb)) (hd a Hs hI) (fun _ => rfl) fun u => hL _ _ ((hI1 a Hs hI).next ho (fun i t hi => hu0 i t (by omega)) v u hT')⟩
    rw [preD] at h
    split at h
    · rename_i hg
      obtain ⟨r, v, h1, h2, h3, h4⟩ := preK_get h
      obtain ⟨T', h5, h6⟩ := putK_cases h4
      refine go v T' T (fun _ _ h => h) h5 h6 fun a Hs hI w hS hd => ?_
      have hw : Region.wanted o (yielded ops a.tmps) = true := by simp [Region.wanted, hg]
      unfold Does
      rw [if_pos hw]
      exact preK_does hE h1 h2 h3 (hSR w hS) (hI.mask hS hd)
    · rename_i j want hg
      split at h
      · exact h.elim
      · rename_i d hd
        split at h
        · rename_i b hb
          rw [Bool.cond_eq_ite] at h
          split at h
          · rename_i hlt
            have hlt : d < N := by simpa using hlt
            have hbT : lookT T d = .bool b := by
              rcases maskT_look (ops := ops.toList) (deps := depsOf o) (T := T) (t := d) k with ⟨h1, -⟩ | h1
              · rw [← h1]; exact hb
              · rw [h1] at hb; cases hb
            have hwant : ∀ a Hs, PInv F φ H S N ops.toList k T a Hs → ∀ w, S w → (∀ j ∈ depsOf o, (Hs.getD j yes) w) → Region.wanted o (yielded ops a.tmps) = (b == want) := fun a Hs hI w hS hf => by
              have hT0 := hI.mask (deps := depsOf o) hS hf
              have hv := rv_bool_inv (by have := hT0.get d; rwa [hb] at this)
              have hy := yielded_get hd hv (by rw [hI.size]; exact hlt)
              simp [Region.wanted, hg, hy]
            have known : ∀ c, b = c → ∀ a Hs, PInv F φ H S N ops.toList k T a Hs → PInv F φ H S N ops.toList k ((d, .bool c) :: T) a Hs := fun c hc a Hs hI => by
              refine ⟨hI.size, hI.defers, hI.len, fun t w hS hf => ?_⟩
              rw [lookT_cons]
              split
              · rename_i e
                subst e
                have := hI.get t w hS hf
                rwa [hbT, hc] at this
              · exact hI.get t w hS hf
            by_cases e : b = want
            · obtain ⟨r, v, h1, h2, h3, h4⟩ := preK_get (h.1 e)
              obtain ⟨T', h5, h6⟩ := putK_cases h4
              refine go v T' _ (known want e) h5 h6 fun a Hs hI w hS hf => ?_
              unfold Does
              rw [hwant a Hs hI w hS hf, if_pos (by simpa using e)]
              exact preK_does hE h1 h2 h3 (hSR w hS) ((hI.mask hS hf).known hb e)
            · have e' : b = !want := by cases b <;> cases want <;> simp_all
              obtain ⟨T', h5, h6⟩ := putK_cases (h.2 e')
              refine go (.tup []) T' _ (known (!want) e') h5 h6 fun a Hs hI w hS hf => ?_
              unfold Does
              rw [hwant a Hs hI w hS hf, if_neg (by simpa using e)]
              exact ⟨rv_skip, Below.refl _ _⟩
          · exact h.elim
        · rename_i hb
          have hbT : lookT T d = .tup [] := by
            rcases maskT_look (ops := ops.toList) (deps := depsOf o) (T := T) (t := d) k with ⟨h1, -⟩ | h1
            · rw [← h1]; exact hb
            · rw [h1] at hb; cases hb
          obtain ⟨T', h5, h6⟩ := putK_cases h
          refine go (.tup []) T' T (fun _ _ h => h) h5 h6 fun a Hs hI w hS hf => ?_
          have hT0 := hI.mask (deps := depsOf o) hS hf
          have hv := hT0.get d
          rw [hb] at hv
          obtain ⟨vs, e, hr⟩ := hv
          have e0 : vs = [] := by cases vs <;> first | rfl | exact hr.elim
          subst e0
          have hy := yielded_none hd e
          have hw : Region.wanted o (yielded ops a.tmps) = false := by simp [Region.wanted, hg, hy]
          unfold Does
          rw [hw, if_neg (by decide)]
          exact ⟨rv_skip, Below.refl _ _⟩
        · exact h.elim
/-- A region that draws its order. -/
theorem draw_ok (hE : E.Ok P) (hmix : P.follows .mixedOrders = true) {ops : Array Oper} {id m : Nat} {Q : Exit → Act → World → Prop} {K : Tmps → Heap → Prop} (h : drawD E N ops.toList m T H K) (hB : Base F φ0 H0 w0 φ H w) (hT : TRel F φ H w N T a)
    (hQ : ∀ T' H' φ' w' a', K T' H' → Base F φ0 H0 w0 φ' H' w' → TRel F φ' H' w' N T' a' → Q .normal a' w') : (Code.region id ops true).wp P Q a w := by
  obtain ⟨hfree, h⟩ := h
  simp only [Array.toArray_toList] at hfree
  have hF := freeOk_spec hfree
  have hat : ∀ j o, (ops.toList.take m)[j]? = some o → ops.toList[0 + j]? = some o ∧ j < m := fun j o hj => by
    rw [List.getElem?_take] at hj
    split at hj
    · rename_i hlt
      rw [Nat.zero_add]
      exact ⟨hj, hlt⟩
    · cases hj
  have dstA : ∀ i, dstOf ops.toList i = dstAt ops i := fun i => by
    unfold dstOf dstAt
    rw [Array.getElem?_toList]
    cases ops[i]? <;> rfl
  let S : World → Prop := fun x => Below w.heap.size w x
  have hSB : ∀ x, S x → Base F φ0 H0 w0 φ H x := fun x hx => by
    obtain ⟨g1, g2⟩ := hB.rel.below hx
    exact ⟨g1, hB.ext.trans g2, hB.lt0⟩
  obtain ⟨L, hL⟩ := pre_ok (P := P) (Q := Q) (S := S) (suf := ops.toList.drop m) hE (fun x hx => (hSB x hx).rel) (fun T' a' Hs k hk hI x hx hf =>
      reg_ok hE (ops.toList.drop m) T' H φ x a' K hk (hSB x hx) (hI.all hx hf) hQ) (ops.toList.take m) 0 T (fun j o hj => (hat j o hj).1) (fun j o hj i t hi hdi he => by
        obtain ⟨h1, h2⟩ := hat j o hj
        rw [Nat.zero_add] at h1 hi
        have h3 : dstAt ops j = some t := by rw [← dstA, dstOf, h1]; exact he
        have := hF.uniq i j t (by omega) h2 (by rw [← dstA]; exact hdi) h3
        omega) h
  refine wp_region_loose hmix S m hfree (fun x x' hb hx => Below.trans hx (hb.mono hx.size)) (Below.drew (Below.refl _ _)) (L := L) (hL a [] ⟨hT.size, hT.defers, rfl, fun t x hx _ => (hT.get t).mono (below_le hx)⟩)
end
end Go.Proofs.Ytopbgpmajkcboaa
