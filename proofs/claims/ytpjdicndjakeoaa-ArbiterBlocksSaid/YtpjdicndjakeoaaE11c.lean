/- The engine: the first part of a slice of its own memory. No condition. -/
import Derived.Test.YtpjdicndjakeoaaE11
namespace Go.Proofs.Ytpjdicndjakeoaa
open Go.RowKit
set_option linter.unusedVariables false
set_option linter.unusedSimpArgs false
section
variable {P : Program} {E : Env} {F : Nat → Prop} {φ : Nat → RS} {H : Heap} {w : World}
theorem rel_cut (hR : Rel F φ H w) {id e : Nat} {t : Ty} {xs : List t.den} (hg : H.get id = some (.seq false e t xs)) {h : Nat} (hh : h ≤ xs.length) :
    Rel F (upd φ H.n ⟨(φ id).blk, h, (φ id).cap, (φ id).nil⟩) ((H.put id none).new (.seq false e t (xs.take h))) w ∧ Ext F φ H w (upd φ H.n ⟨(φ id).blk, h, (φ id).cap, (φ id).nil⟩) ((H.put id none).new (.seq false e t (xs.take h))) w := by
  have hid := hR.lt _ _ hg
  have key : ∀ j k, ((H.put id none).new (.seq false e t (xs.take h))).get j = some k → (j = H.n ∧ k = .seq false e t (xs.take h)) ∨ (j ≠ H.n ∧ j ≠ id ∧ H.get j = some k) := fun j k hj => by
    by_cases e1 : j = H.n
    · subst e1
      have := Heap.get_new_same (H.put id none) (.seq false e t (xs.take h))
      have h2 : ((H.put id none).new (.seq false e t (xs.take h))).get H.n = some (.seq false e t (xs.take h)) := this
      rw [h2] at hj
      injection hj with hj
      exact .inl ⟨rfl, hj.symm⟩
    · have h2 := Heap.get_new_ne (H.put id none) (.seq false e t (xs.take h)) (j := j) e1
      rw [h2] at hj
      by_cases e2 : j = id
      · subst e2
        rw [Heap.get_put_same] at hj
        cases hj
      · rw [Heap.get_put_ne _ _ e2] at hj
        exact .inr ⟨e1, e2, hj⟩
  refine Rel.gen hR (fun j k hj => ?_) (Nat.le_succ _) (fun j hj => upd_ne _ _ (Nat.ne_of_lt hj)) (Nat.le_refl _) (fun _ _ _ => rfl) (fun b hb hm => ?_) (fun b hb hm => ?_) (fun j k hj hro => ?_) (fun le j k hj => ?_) (fun j j' k k' hj hj' hn hn' he => ?_) (fun j k hj hn => ?_) rfl rfl rfl
  · rcases key j k hj with ⟨rfl, -⟩ | ⟨-, -, hj⟩
    · exact Nat.lt_succ_self _
    · exact Nat.lt_succ_of_lt (hR.lt _ _ hj)
  · rintro ⟨j, k, hj, hn, he⟩
    rcases key j k hj with ⟨rfl, -⟩ | ⟨hne, -, hj'⟩
    · rw [upd_same] at hn he
      exact hm ⟨id, _, hg, hn, he⟩
    · rw [upd_ne _ _ hne] at hn he
      exact hm ⟨j, k, hj', hn, he⟩
  · rintro ⟨j, k, hj, hr, hn, he⟩
    rcases key j k hj with ⟨rfl, -⟩ | ⟨hne, -, hj'⟩
    · rw [upd_same] at hn he
      exact hm ⟨id, _, hg, rfl, hn, he⟩
    · rw [upd_ne _ _ hne] at hn he
      exact hm ⟨j, k, hj', hr, hn, he⟩
  · have h1 : j ≠ id := fun e1 => by
      subst e1
      rw [hg] at hj
      injection hj with hj
      rw [← hj] at hro
      cases hro
    have h2 : j ≠ H.n := Nat.ne_of_lt (hR.lt _ _ hj)
    have h3 := Heap.get_new_ne (H.put id none) (.seq false e t (xs.take h)) (j := j) h2
    rw [h3, Heap.get_put_ne _ _ h1]
    exact hj
  · rcases key j k hj with ⟨rfl, rfl⟩ | ⟨-, -, hj'⟩
    · right
      rw [upd_same]
      obtain ⟨hl, hn, us, hr, ho⟩ := hR.blk _ _ hg
      have hr2 := hr.mono le
      have e0 : xs.flatMap (enc t) = (xs.take h).flatMap (enc t) ++ (xs.drop h).flatMap (enc t) := by rw [← List.flatMap_append, List.take_append_drop]
      rw [e0] at hr2
      obtain ⟨u1, u2, rfl, h1, h2⟩ := hr2.append_inv
      have hlen : u1.length = h * t.sz := by rw [h1.length, flat_cells, List.length_take, Nat.min_eq_left hh]
      refine ⟨by rw [List.length_take, Nat.min_eq_left hh], fun hx => ?_, u1, h1, ?_⟩
      · have := hn hx
        rw [this, List.take_nil]
      · rw [List.length_take, Nat.min_eq_left hh]
        refine ⟨hlen, ?_⟩
        cases hx : (φ id).nil with
        | true =>
          left
          have := hn hx
          subst this
          refine ⟨by simp [RS.sl], by simpa using hh⟩
        | false =>
          right
          rcases ho.2 with ⟨h3, _⟩ | ⟨g, cap, cur, h3, h4, h5, h6, h7, h8, h9⟩
          · simp [RS.sl, hx] at h3
          · simp only [RS.sl, hx, Bool.false_eq_true, if_false, Value.slice.injEq, Option.some.injEq, Addr.mk.injEq, and_true] at h3
            obtain ⟨rfl, hl2, rfl⟩ := h3
            refine ⟨(φ id).blk, (φ id).cap, cur, by simp [RS.sl], h4, h5, by omega, h7, h8, ?_⟩
            have h10 := congrArg (List.take (h * t.sz)) h9
            rw [List.take_take, List.take_left' hlen] at h10
            rwa [Nat.min_eq_left (Nat.mul_le_mul_right _ hh)] at h10
    · exact .inl ⟨hj', fun _ => rfl⟩
  · rcases key j k hj with ⟨rfl, -⟩ | ⟨h1, h1', g1⟩ <;> rcases key j' k' hj' with ⟨rfl, -⟩ | ⟨h2, h2', g2⟩
    · rfl
    · rw [upd_same] at hn he
      rw [upd_ne _ _ h2] at hn' he
      exact absurd (hR.inj _ _ _ _ hg g2 hn hn' he).symm h2'
    · rw [upd_same] at hn' he
      rw [upd_ne _ _ h1] at hn he
      exact absurd (hR.inj _ _ _ _ g1 hg hn hn' he) h1'
    · rw [upd_ne _ _ h1] at hn he
      rw [upd_ne _ _ h2] at hn' he
      exact hR.inj _ _ _ _ g1 g2 hn hn' he
  · rcases key j k hj with ⟨rfl, -⟩ | ⟨h1, -, g1⟩
    · rw [upd_same] at hn ⊢
      exact hR.forb _ _ hg hn
    · rw [upd_ne _ _ h1] at hn ⊢
      exact hR.forb _ _ g1 hn
end
end Go.Proofs.Ytpjdicndjakeoaa
