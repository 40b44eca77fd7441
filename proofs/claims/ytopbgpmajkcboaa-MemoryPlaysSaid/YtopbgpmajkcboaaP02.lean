/- Plain laws of layer 2: the reference's Split and Join are the program's, of tokens that may be. -/
import Derived.Test.YtopbgpmajkcboaaD
namespace Go.Proofs.Ytopbgpmajkcboaa
open Go.RowKit
set_option linter.unusedVariables false
set_option linter.unusedSimpArgs false
theorem right_nn {b : Bun} (h : bcheck b (max b.c 0) = 0) : 0 ≤ b.c := by
  obtain ⟨c, o, hs, d⟩ := b
  unfold bcheck at h
  cases o <;> cases hs <;> simp at h ⊢ <;> omega
theorem right_iff (c : Int) (o hs : Bool) (d : Int) (t : Int) : bcheck ⟨c, o, hs, d⟩ t = 0 ↔ (0 ≤ c ∧ c ≤ t) ∧ (c = 0 → o = false ∧ hs = false) ∧ (o = true → hs = true) ∧ (hs = false → d = 0) := by
  unfold bcheck
  cases o <;> cases hs <;> simp <;> omega
theorem rsplitN_eq {c : Int} {o hs : Bool} {d : Int} (h1 : c ≤ 9223372036854775807) (h0 : 0 ≤ c) (hz : c = 0 → o = false) (count : Int) (p : Bool) :
    rsplitN ⟨c, o, hs, d⟩ count p = (if (o && !(p && o && decide (0 < clamp count 0 c))) = true then min (clamp count 0 c) (wrap64 (c - 1)) else clamp count 0 c, p && o && decide (0 < clamp count 0 c)) := by
  have e : (if c < (if count < 0 then 0 else count) then c else (if count < 0 then 0 else count)) = clamp count 0 c := by
    unfold clamp; split <;> split <;> omega
  unfold rsplitN
  simp only [e]
  have hle : clamp count 0 c ≤ c ∧ 0 ≤ clamp count 0 c := by unfold clamp; omega
  generalize clamp count 0 c = n at hle
  have e1 : wrap64 (c - 1) = c - 1 := by unfold wrap64; omega
  rw [e1]
  cases o
  · simp
  · have : c ≠ 0 := fun h => by simpa using hz h
    cases p
    · simp only [Bool.false_and, Bool.not_false, Bool.and_true, if_true]
      by_cases hn : n = c
      · subst hn; rw [e1]; simp; omega
      · simp [hn]; omega
    · by_cases hn : 0 < n
      · simp [hn]
      · have : n ≠ c := by omega
        simp [hn, this]; omega
theorem rsplit_split {b : Bun} (h1 : b.c ≤ 9223372036854775807) (hr : bcheck b b.c = 0) (count : Int) (p q : Bool) : rsplit b count p q = split b count p q := by
  obtain ⟨c, o, hs, d⟩ := b
  simp only at h1
  rw [right_iff] at hr
  obtain ⟨⟨h0, -⟩, hz, ho, hd⟩ := hr
  have hN := rsplitN_eq (hs := hs) (d := d) h1 h0 (fun h => (hz h).1) count p
  unfold rsplit split splitW
  simp only [hN, show max c 0 = c from by omega]
  have hle : clamp count 0 c ≤ c ∧ 0 ≤ clamp count 0 c := by unfold clamp; omega
  generalize clamp count 0 c = n0 at hle
  generalize (p && o && decide (0 < n0)) = own
  have e1 : wrap64 (c - 1) = c - 1 := by unfold wrap64; omega
  rw [e1]
  generalize hn : (if (o && !own) = true then min n0 (c - 1) else n0) = n
  have hnc : n ≤ c := by rw [← hn]; split <;> omega
  clear hN e1 hn
  by_cases hlt : n < 1
  · rw [if_pos hlt, if_pos (Or.inr (by omega))]
  · rw [if_neg hlt, if_neg (by omega)]
    by_cases hc : n = c
    · rw [if_pos hc, if_neg (show ¬ n < c from by omega)]
      rfl
    · rw [if_neg hc, if_pos (show n < c from by omega)]
      cases hs
      · simp [valued, hd rfl]
      · rfl
theorem rjoin_join {a b : Bun} (ha : bcheck a (max a.c 0) = 0) (hb : bcheck b (max b.c 0) = 0) : rjoin a b = join a b := by
  obtain ⟨c1, o1, h1, d1⟩ := a
  obtain ⟨c2, o2, h2, d2⟩ := b
  rw [right_iff] at ha hb
  obtain ⟨-, -, -, ha⟩ := ha
  unfold rjoin join valued
  cases h1 <;> cases h2 <;> simp at ha ⊢
  exact ha
/-- What is known of the two parts of tokens that may be. -/
theorem split_facts {b x y : Bun} {count : Int} {p q : Bool} (h1 : b.c ≤ 9223372036854775807) (hr : bcheck b b.c = 0) (hs : split b count p q = (x, y)) :
    bcheck x b.c = 0 ∧ bcheck y b.c = 0 ∧ 0 ≤ x.c ∧ 0 ≤ y.c ∧ x.c + y.c = b.c ∧ (x.o || y.o) = b.o ∧ (x.o && y.o) = false ∧ (x.o = true → x.h = true ∧ x.d = b.d) ∧ (y.o = true → y.h = true ∧ y.d = b.d) ∧
    ((x.h || y.h) = true → (x.h = true → x.d = b.d) ∧ (y.h = true → y.d = b.d) ∧ b.h = true) ∧ ((x.h || y.h) = false → b.o = false) ∧ (count < 1 → x = bun0) ∧ x.c ≤ max count 0 := by
  obtain ⟨c, o, hs', d⟩ := b
  simp only at h1 hr
  rw [right_iff] at hr
  obtain ⟨⟨h0, -⟩, hz, ho, hd⟩ := hr
  unfold split splitW at hs
  simp only at hs
  rw [show max c 0 = c from by omega] at hs
  generalize hn0 : clamp count 0 c = n0 at hs
  have hle : n0 ≤ c ∧ 0 ≤ n0 ∧ n0 ≤ max count 0 := by rw [← hn0]; unfold clamp; omega
  generalize hown : (p && o && decide (0 < n0)) = own at hs
  have hw1 : wrap64 (c - 1) = c - 1 := by unfold wrap64; omega
  rw [hw1] at hs
  generalize hn : (if (o && !own) = true then min n0 (c - 1) else n0) = n at hs
  have hnle : n ≤ n0 := by rw [← hn]; split <;> omega
  have hn1 : (o && !own) = true → n ≤ c - 1 := by intro h; rw [if_pos h] at hn; omega
  have hown1 : own = true → o = true := by intro h; rw [h] at hown; revert hown; cases o <;> simp
  by_cases hlt : n < 1
  · rw [if_pos hlt] at hs
    obtain ⟨rfl, rfl⟩ := Prod.mk.inj hs
    have hown2 : own = false ∨ n = n0 := by
      cases own
      · exact Or.inl rfl
      · right; rw [← hn]; simp
    refine ⟨by rw [bun0, right_iff]; exact ⟨⟨by omega, h0⟩, by simp, by simp, by simp⟩, (right_iff ..).2 ⟨⟨h0, Int.le_refl _⟩, hz, ho, hd⟩, by simp [bun0], h0, by simp [bun0], by simp [bun0], by simp [bun0], by simp [bun0], fun h => ⟨ho h, rfl⟩, by simp [bun0], ?_, by simp, by simp [bun0]; omega⟩
    simp only [bun0, Bool.false_or]
    intro h
    cases o
    · rfl
    · exact absurd (ho rfl) (by simp [h])
  · rw [if_neg hlt] at hs
    obtain ⟨rfl, rfl⟩ := Prod.mk.inj hs
    have hc : 1 ≤ c := by omega
    by_cases hnc : n < c
    · rw [if_pos hnc]
      have hw : wrap64 (c - n) = c - n := by unfold wrap64; omega
      simp only [hw, right_iff, valued, bun0]
      cases o <;> cases own <;> cases hs' <;> cases q <;> simp at ho hd hown1 ⊢ <;> omega
    · rw [if_neg hnc]
      have : n = c := by omega
      subst this
      simp only [right_iff, valued, bun0]
      cases o <;> cases own <;> cases hs' <;> cases q <;> simp at ho hd hown1 hn1 ⊢ <;> omega
end Go.Proofs.Ytopbgpmajkcboaa
