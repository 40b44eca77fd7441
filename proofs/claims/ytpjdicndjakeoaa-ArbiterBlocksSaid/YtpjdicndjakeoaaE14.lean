/- The engine: what an operation comes to. No condition. -/
import Derived.Test.YtpjdicndjakeoaaE13
namespace Go.Proofs.Ytpjdicndjakeoaa
open Go.RowKit
set_option linter.unusedVariables false
set_option linter.unusedSimpArgs false
section
variable {P : Program} {E : Env} {F : Nat → Prop} {φ : Nat → RS} {H : Heap} {w : World}
theorem post_ptr {vs : Array Value} {cs : List AV} {e : TypeId} (hR : Rel F φ H w) (hr : Reps (cx F φ H w) cs vs.toList) : Post F φ H w ⟨True, True, .ptr H.n ⟨0, 0, 0, none⟩, H.new (.obj false cs)⟩ (.pointer (some ⟨w.heap.size, 0, none⟩)) (w.alloc (.cells vs e)) := by
  obtain ⟨h1, h2⟩ := new_obj hR hr e
  refine ⟨_, ?_, h1, h2⟩
  have := rv_ptr (C := cx F (upd φ H.n ⟨w.heap.size, 0, 0, false⟩) (H.new (.obj false cs)) (w.alloc (.cells vs e))) (id := H.n) ⟨0, 0, 0, none⟩ (Nat.lt_succ_self _)
  simpa [cx, upd_same, Path.off, Path.inn, Path.jn] using this
theorem rvs_map {C : Cx} {ρ : Operand → AV} {ev : Operand → Value} (hρ : ∀ x, RV C (ρ x) (ev x)) : ∀ (xs : List Operand), (∀ x ∈ xs, ∀ l, ρ x ≠ .tup l) → RVs C (xs.map ρ) (xs.map ev)
  | [], _ => trivial
  | x :: xs, h => by
    refine ⟨?_, rvs_map hρ xs fun y hy => h y (by simp [hy])⟩
    have := hρ x
    cases e : ρ x <;> rw [e] at this <;> simp only [RV] at this <;> first | exact this | exact absurd e (h x (by simp) _)
theorem builtin_ok (hE : E.Ok P) (hR : Rel F φ H w) {b : Builtin} {ts : Array TypeId} {args : List AV} {vs : List Value} {o : TypeId} {cn : Array Bool} {r : Res} (h : builtinD E b ts args H = some r) (hn : r.need) (hl : args.length = vs.length) (hv : ∀ (j : Nat) a v, args[j]? = some a → vs[j]? = some v → RV (cx F φ H w) a v) :
    r.know ∧ Give P (Post F φ H w r) ((builtin b ts o cn vs.toArray).run P w) := by
  unfold builtinD at h
  split at h
  · rename_i x
    match vs, hl with
    | [v], _ =>
      have hx := hv 0 _ _ rfl rfl
      split at h
      · rename_i t hts
        split at h
        · rename_i ti hT
          split at h
          · rename_i p n hlen
            injection h with h
            subst h
            have hts' : ts = #[t] := by rw [← Array.toArray_toList (xs := ts), hts]
            subst hts'
            obtain ⟨h1, h2, h3⟩ := len_ok hE hR (o := o) hT hlen hx
            refine ⟨h1, ?_⟩
            simp only [builtin]
            refine give_v h3 (post_same hR (rv_int ?_))
            simp only [maxLen] at h2
            have : IntKind.i64.min = -9223372036854775808 := by decide
            rw [this, IntKind.max_i64]
            omega
          · cases h
        · cases h
      · cases h
  · rename_i k a k' b'
    match vs, hl with
    | [v1, v2], _ =>
      obtain ⟨rfl, h1⟩ := rv_int_inv (hv 0 _ _ rfl rfl)
      obtain ⟨rfl, h2⟩ := rv_int_inv (hv 1 _ _ rfl rfl)
      rw [Bool.cond_eq_ite] at h
      split at h
      · rename_i hk
        have hk := of_decide_eq_true hk
        subst hk
        injection h with h
        subst h
        refine ⟨trivial, ?_⟩
        simp only [builtin]
        exact give_v (v := .int k (if b' < a then b' else a)) (w' := w) (by simp [Builtin.min_, Builtin.min2]) (post_same hR (rv_int (by split <;> assumption)))
      · cases h
  · rename_i k a k' b'
    match vs, hl with
    | [v1, v2], _ =>
      obtain ⟨rfl, h1⟩ := rv_int_inv (hv 0 _ _ rfl rfl)
      obtain ⟨rfl, h2⟩ := rv_int_inv (hv 1 _ _ rfl rfl)
      rw [Bool.cond_eq_ite] at h
      split at h
      · rename_i hk
        have hk := of_decide_eq_true hk
        subst hk
        injection h with h
        subst h
        refine ⟨trivial, ?_⟩
        simp only [builtin]
        exact give_v (v := .int k (if a < b' then b' else a)) (w' := w) (by simp [Builtin.max_, Builtin.max2]) (post_same hR (rv_int (by split <;> assumption)))
      · cases h
  · rename_i x y
    match vs, hl with
    | [v1, v2], _ =>
      have hx := hv 0 _ _ rfl rfl
      have hy := hv 1 _ _ rfl rfl
      split at h
      · rename_i t t' hts
        rw [Bool.cond_eq_ite] at h
        split at h
        · rename_i htt
          have htt := Nat.eq_of_beq_eq_true htt
          subst htt
          have hts' : ts = #[t, t] := by rw [← Array.toArray_toList (xs := ts), hts]
          subst hts'
          split at h
          · rename_i ti hT
            split at h
            · rename_i e hk
              split at h
              · rename_i te hTe
                split at h
                · split at h
                  · rename_i ty hty
                    split at h
                    · rename_i ys hs
                      rw [Bool.cond_eq_ite] at h
                      split at h
                      · rename_i hc
                        injection h with h
                        subst h
                        simp only [Bool.and_eq_true] at hc
                        obtain ⟨⟨c1, c2⟩, c3⟩ := hc
                        have := rv_nils_inv hx
                        subst this
                        obtain ⟨h1, v, w', h2, h3⟩ := append_nils hE hR (o := o) hT hk hTe hs hy (Nat.eq_of_beq_eq_true c1) (by simpa using c2) hn
                        refine ⟨h1, ?_⟩
                        simp only [builtin]
                        exact give_v h2 h3
                      · cases h
                    · cases h
                  · cases h
                · rename_i id
                  split at h
                  · rename_i e' ty xs hg
                    split at h
                    · rename_i ys hs
                      rw [Bool.cond_eq_ite] at h
                      split at h
                      · rename_i hc
                        injection h with h
                        subst h
                        simp only [Bool.and_eq_true] at hc
                        obtain ⟨⟨⟨c0, c1⟩, c2⟩, c3⟩ := hc
                        have c0 := Nat.eq_of_beq_eq_true c0
                        subst c0
                        simp only at hn
                        have hb : 0 < te.bytes := by simpa using c3
                        have hle : xs.length + ys.length ≤ (xs.length + ys.length) * te.bytes := Nat.le_mul_of_pos_right _ hb
                        have hml : xs.length + ys.length ≤ maxLen := by simp only [maxLen]; omega
                        obtain ⟨v, w', h2, h3⟩ := append_slc hE hR (o := o) hT hk hTe hg hx hs hy (Nat.eq_of_beq_eq_true c1) (by simpa using c2) hn hml
                        refine ⟨by simpa [maxLen] using hml, ?_⟩
                        simp only [builtin]
                        exact give_v h2 h3
                      · cases h
                    · cases h
                  · cases h
                · cases h
              · cases h
            · cases h
          · cases h
        · cases h
      · cases h
  · rename_i id y
    match vs, hl with
    | [v1, v2], _ =>
      have hx := hv 0 _ _ rfl rfl
      have hy := hv 1 _ _ rfl rfl
      split at h
      · rename_i t t' hts
        have hts' : ts = #[t, t'] := by rw [← Array.toArray_toList (xs := ts), hts]
        subst hts'
        split at h
        · rename_i ti hT
          split at h
          · rename_i e hk
            split at h
            · rename_i te hTe
              split at h
              · rename_i e' ty xs hg
                split at h
                · rename_i ys hs
                  rw [Bool.cond_eq_ite] at h
                  split at h
                  · rename_i hc
                    injection h with h
                    subst h
                    obtain ⟨v, w', h2, h3⟩ := copy_ok hE hR (o := o) (t' := t') hT hk hTe hg hx hs hy (Nat.eq_of_beq_eq_true hc)
                    refine ⟨trivial, ?_⟩
                    simp only [builtin]
                    exact give_v h2 h3
                  · cases h
                · cases h
              · cases h
            · cases h
          · cases h
        · cases h
      · cases h
  · rename_i m n
    match vs, hl with
    | [v1, v2], _ =>
      have hx := hv 0 _ _ rfl rfl
      obtain ⟨rfl, hy⟩ := rv_int_inv (hv 1 _ _ rfl rfl)
      split at h
      · rename_i t k hts
        have hts' : ts = #[t, k] := by rw [← Array.toArray_toList (xs := ts), hts]
        subst hts'
        split at h
        · rename_i H' hd
          injection h with h
          subst h
          obtain ⟨w', h1, h2, h3⟩ := del_ok hE hR (o := o) hd hx hy
          refine ⟨trivial, ?_⟩
          simp only [builtin]
          exact give_v h1 ⟨φ, ⟨[], rfl, trivial⟩, h2, h3⟩
        · cases h
      · cases h
  · cases h
end
end Go.Proofs.Ytpjdicndjakeoaa
