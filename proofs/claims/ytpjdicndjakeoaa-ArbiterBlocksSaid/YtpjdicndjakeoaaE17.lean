/- The engine: calls by contract. No condition. -/
import Derived.Test.YtpjdicndjakeoaaE16
namespace Go.Proofs.Ytpjdicndjakeoaa
open Go.RowKit
set_option linter.unusedVariables false
set_option linter.unusedSimpArgs false
section
variable {P : Program} {F : Nat → Prop} {φ : Nat → RS} {H : Heap} {w : World}
theorem Rel.below (h : Rel F φ H w) {w' : World} (hb : Below w.heap.size w w') : Rel F φ H w' ∧ Ext F φ H w φ H w' := by
  refine Rel.gen h h.lt (Nat.le_refl _) (fun _ _ => rfl) hb.size (fun b hb' _ => hb.block b hb') (fun _ _ h => h) (fun _ _ h => h) (fun _ _ h _ => h) (fun le id k hk => .inl ⟨hk, fun hn => hb.block _ ((h.blk _ _ hk).lt hn)⟩) h.inj h.forb hb.os hb.tape hb.output
/-! ### slices that are lent -/
def lend1 (any : Bool) (p a : AV) (H : Heap) : Option (AV × Heap) :=
  match p with
  | .vsl _ _ => match a with
    | .slc id => match H.get id with
      | some (.seq ro e t xs) => bif any || !ro then some (.vsl t xs, H.put id none) else none
      | _ => none
    | a => some (a, H)
  | _ => some (a, H)
def lendL (any : Bool) : List AV → List AV → Heap → Option (List AV × Heap)
  | p :: ps, a :: as, H => match lend1 any p a H with
    | some (b, H1) => match lendL any ps as H1 with
      | some (bs, H2) => some (b :: bs, H2)
      | none => none
    | none => none
  | [], [], H => some ([], H)
  | _, _, _ => none
theorem lend1_ok {any : Bool} {p a b : AV} {H1 : Heap} {v : Value} (h : lend1 any p a H = some (b, H1)) (hR : Rel F φ H w) (hv : RV1 (cx F φ H w) a v) :
    Rel F φ H1 w ∧ (cx F φ H w).Le (cx F φ H1 w) ∧ RV1 (cx F φ H1 w) b v ∧ H1.n = H.n ∧ (any = false → Ext F φ H w φ H1 w) := by
  have same : some (a, H) = some (b, H1) → Rel F φ H1 w ∧ (cx F φ H w).Le (cx F φ H1 w) ∧ RV1 (cx F φ H1 w) b v ∧ H1.n = H.n ∧ (any = false → Ext F φ H w φ H1 w) := fun e => by
    cases e
    exact ⟨hR, Cx.Le.refl _, hv, rfl, fun _ => Ext.refl _ _ _ _⟩
  unfold lend1 at h
  split at h
  · split at h
    · rename_i id
      split at h
      · rename_i ro e t xs hg
        rw [Bool.cond_eq_ite] at h
        split at h
        · rename_i hany
          cases h
          obtain ⟨d1, d2⟩ := hR.dropR id
          refine ⟨d1, d2, ?_, rfl, fun ha => ?_⟩
          · have h1 : v = ((cx F φ H w).φ id).sl := (rv_slc_inv (rv_of_rv1 hv)).1
            rw [h1]
            exact freeze_ok hR hg
          · have hr : ro = false := by rw [ha] at hany; simpa using hany
            exact (hR.drop id (fun k hk => by rw [hg] at hk; injection hk with hk; rw [← hk]; exact hr)).2
        · cases h
      · cases h
    · exact same h
  · exact same h
theorem lend_ok {any : Bool} : ∀ (ps as : List AV) (H : Heap) (bs : List AV) (H1 : Heap) (vs : List Value), lendL any ps as H = some (bs, H1) → Rel F φ H w → RVs (cx F φ H w) as vs →
    Rel F φ H1 w ∧ (cx F φ H w).Le (cx F φ H1 w) ∧ RVs (cx F φ H1 w) bs vs ∧ H1.n = H.n ∧ (any = false → Ext F φ H w φ H1 w)
  | [], [], H, bs, H1, vs, h, hR, hv => by
    cases h
    exact ⟨hR, Cx.Le.refl _, hv, rfl, fun _ => Ext.refl _ _ _ _⟩
  | [], _ :: _, H, bs, H1, vs, h, hR, hv => by cases h
  | _ :: _, [], H, bs, H1, vs, h, hR, hv => by cases h
  | p :: ps, a :: as, H, bs, H1, [], h, hR, hv => hv.elim
  | p :: ps, a :: as, H, bs, H1, v :: vs, h, hR, hv => by
    rw [lendL] at h
    split at h
    · rename_i b H2 h1
      split at h
      · rename_i bs' H' hl
        cases h
        obtain ⟨d1, d2, d3, d4, d5⟩ := lend1_ok h1 hR hv.1
        obtain ⟨i1, i2, i3, i4, i5⟩ := lend_ok ps as H2 bs' H1 vs hl d1 (hv.2.mono d2)
        exact ⟨i1, d2.trans i2, ⟨d3.mono i2, i3⟩, i4.trans d4, fun ha => (d5 ha).trans (i5 ha)⟩
      · cases h
    · cases h
/-! ### the contract's memory in ours -/
def Fc (F : Nat → Prop) (φ : Nat → RS) (ι : List Nat) (H Hc : Heap) (b : Nat) : Prop := F b ∨ ∃ id k, H.get id = some k ∧ (¬ ∃ j pb, Hc.get j = some pb ∧ ι[j]? = some id) ∧ (φ id).nil = false ∧ (φ id).blk = b
def φc (φ : Nat → RS) (ι : List Nat) (j : Nat) : RS := φ (ι.getD j 0)
theorem φc_get {φ : Nat → RS} {ι : List Nat} {j id : Nat} (h : ι[j]? = some id) : φc φ ι j = φ id := by simp [φc, List.getD_eq_getElem?_getD, h]
variable {ι : List Nat} {Hc : Heap}
theorem sub_ok (hR : Rel F φ H w) (hlt : ∀ id k, Hc.get id = some k → id < Hc.n) (hlen : ι.length = Hc.n) (hH : leHn ι H Hc Hc.n) : Sub ι (cx F φ H w) (cx (Fc F φ ι H Hc) (φc φ ι) Hc w) := by
  refine ⟨fun id' id h => ⟨?_, φc_get h⟩, fun b hb hm => ?_, rfl⟩
  · have := (List.getElem?_eq_some_iff.1 h).1
    simp only [cx]
    omega
  · rintro (⟨j, pb, hj, hn, he⟩ | hf | ⟨id, k, hid, -, hn, he⟩)
    · obtain ⟨id, b', h1, h2, -⟩ := leHn_get hH j pb (hlt _ _ hj) hj
      rw [φc_get h1] at hn he
      exact hm (.inl ⟨id, b', h2, hn, he⟩)
    · exact hm (.inr hf)
    · exact hm (.inl ⟨id, k, hid, hn, he⟩)
theorem sub_rel (hR : Rel F φ H w) (hlt : ∀ id k, Hc.get id = some k → id < Hc.n) (hlen : ι.length = Hc.n) (hH : leHn ι H Hc Hc.n) (hnd : nodupB ι = true) : Rel (Fc F φ ι H Hc) (φc φ ι) Hc w := by
  have hS := sub_ok hR hlt hlen hH
  refine ⟨hlt, fun j pb hj => ?_, fun j j' k k' hj hj' hn hn' he => ?_, fun j k hj hn => ?_, fun b hb => ?_⟩
  · obtain ⟨id, b', h1, h2, h3⟩ := leHn_get hH j pb (hlt _ _ hj) hj
    have hb := hR.blk _ _ h2
    rw [φc_get h1]
    cases b' with
    | obj ro cs =>
      cases pb with
      | seq _ _ _ _ => exact h3.elim
      | map _ _ _ => exact h3.elim
      | obj ro' cs' =>
        obtain ⟨a1, vs, e, a2, a3⟩ := hb
        exact ⟨a1, vs, e, a2, leL_ok hS h3.2 a3⟩
    | seq ro e t xs =>
      cases pb with
      | obj _ _ => exact h3.elim
      | map _ _ _ => exact h3.elim
      | seq ro' e' t' xs' =>
        obtain ⟨-, rfl, rfl, hx⟩ := h3
        have := eq_of_heq hx
        subst this
        obtain ⟨a1, a2, us, a3, a4⟩ := hb
        refine ⟨a1, a2, us, a3.typed hS.mt hS.w ?_, a4⟩
        intro a ha
        obtain ⟨x, -, hx⟩ := List.mem_flatMap.1 ha
        cases t <;> simp only [enc, List.mem_cons, List.not_mem_nil, or_false] at hx <;> (repeat' (rcases hx with rfl | hx)) <;> first | rfl | (subst hx; rfl)
    | map ro t es =>
      cases pb with
      | obj _ _ => exact h3.elim
      | seq _ _ _ _ => exact h3.elim
      | map ro' t' es' =>
        obtain ⟨-, rfl, hx⟩ := h3
        have := eq_of_heq hx
        subst this
        obtain ⟨a1, vs, a2, a3⟩ := hb
        have henc : ∀ (x : t.den), ∀ a ∈ enc t x, (match a with | .ptr _ _ => false | .slc _ => false | .hdl _ _ => false | _ => true) = true := fun x a hx => by
          cases t <;> simp only [enc, List.mem_cons, List.not_mem_nil, or_false] at hx <;> (repeat' (rcases hx with rfl | hx)) <;> first | rfl | (subst hx; rfl)
        refine ⟨a1, vs, a2.imp fun e v h => ⟨h.key, h.wf, ?_⟩, a3⟩
        have h4 := h.val
        unfold RX at h4 ⊢
        by_cases ha : t.agg = true
        · rw [if_pos ha] at h4 ⊢
          obtain ⟨us, e1, h5⟩ := h4
          exact ⟨us, e1, h5.typed hS.mt hS.w (henc _)⟩
        · rw [if_neg ha] at h4 ⊢
          exact h4.typed hS.mt hS.w (henc _)
  · obtain ⟨id, b', h1, h2, h3⟩ := leHn_get hH j k (hlt _ _ hj) hj
    obtain ⟨id', b'', g1, g2, g3⟩ := leHn_get hH j' k' (hlt _ _ hj') hj'
    rw [φc_get h1] at hn he
    rw [φc_get g1] at hn' he
    have := hR.inj _ _ _ _ h2 g2 hn hn' he
    subst this
    exact nodupB_inj hnd h1 g1
  · obtain ⟨id, b', h1, h2, h3⟩ := leHn_get hH j k (hlt _ _ hj) hj
    rw [φc_get h1] at hn ⊢
    rintro (hf | ⟨id2, k2, g1, g2, g3, g4⟩)
    · exact hR.forb _ _ h2 hn hf
    · have := hR.inj _ _ _ _ g1 h2 g3 hn g4
      subst this
      exact g2 ⟨j, k, hj, h1⟩
  · rcases hb with hb | ⟨id, k, h1, -, h2, h3⟩
    · exact hR.flt _ hb
    · have := (hR.blk _ _ h1).lt h2
      rw [h3] at this
      exact this
end
end Go.Proofs.Ytpjdicndjakeoaa
