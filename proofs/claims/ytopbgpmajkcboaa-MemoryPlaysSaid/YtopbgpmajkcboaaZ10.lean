/- Layer 10's plain law: what the memory's lists of tokens do. No program. -/
import Derived.Test.YtopbgpmajkcboaaY3
namespace Go.Proofs.Ytopbgpmajkcboaa
open Go.RowKit
set_option linter.unusedVariables false
set_option linter.unusedSimpArgs false
theorem bneB' (a b : Bun) : (a.c == b.c && (a.o == b.o && (a.h == b.h && (a.d == b.d && true)))) = decide (a = b) := by
  obtain ⟨c, o, h, d⟩ := a
  obtain ⟨c', o', h', d'⟩ := b
  simp only [Bun.mk.injEq, Bool.decide_and, Bool.and_true]
  rfl
theorem inB_iff {xs : List Bun} {i : Int} : inB xs i = true ↔ 0 ≤ i ∧ i < xs.length := by simp [inB]
theorem len_put (xs : List Bun) (i : Int) (b : Bun) : (putB xs i b).length = xs.length := by unfold putB; split <;> simp
theorem len_take (xs : List Bun) (i n : Int) (o d : Bool) : (takeB xs i n o d).2.length = xs.length := by unfold takeB; split <;> simp
theorem len_new (s t : Int) : (newB s t).length = (clamp s 0 64).toNat := by simp [newB]
theorem len_new64 (s t : Int) : (newB s t).length ≤ 64 := by rw [len_new]; unfold clamp; omega
theorem inB_put (xs : List Bun) (i : Int) (b : Bun) (j : Int) : inB (putB xs i b) j = inB xs j := by unfold inB; rw [len_put]
theorem inB_take (xs : List Bun) (i n : Int) (o d : Bool) (j : Int) : inB (takeB xs i n o d).2 j = inB xs j := by unfold inB; rw [len_take]
theorem take_out {xs : List Bun} {i : Int} (h : inB xs i = false) (n : Int) (o d : Bool) : takeB xs i n o d = (bun0, xs) := by simp [takeB, h]
theorem put_out {xs : List Bun} {i : Int} (h : inB xs i = false) (b : Bun) : putB xs i b = xs := by simp [putB, h]
theorem get_out {xs : List Bun} {i : Int} (h : inB xs i = false) : getB xs i = bun0 := by simp [getB, h]
theorem get_set {xs : List Bun} {i j : Int} (h : inB xs i = true) (v : Bun) : getB (xs.set i.toNat v) j = if j = i then v else getB xs j := by
  rw [inB_iff] at h
  by_cases hj : inB xs j = true
  · have hj2 : inB (xs.set i.toNat v) j = true := by rw [inB_iff] at hj ⊢; simpa using hj
    rw [inB_iff] at hj
    by_cases e : j = i
    · subst e
      rw [if_pos rfl]
      unfold getB
      rw [if_pos hj2, List.getD_eq_getElem?_getD, List.getElem?_set_self (by omega)]
      rfl
    · rw [if_neg e]
      unfold getB
      rw [if_pos hj2, if_pos (inB_iff.2 hj), List.getD_eq_getElem?_getD, List.getElem?_set_ne (by omega), ← List.getD_eq_getElem?_getD]
  · have hj2 : ¬ inB (xs.set i.toNat v) j = true := by rw [inB_iff] at hj ⊢; simpa using hj
    have : j ≠ i := fun e => hj (by rw [e]; exact inB_iff.2 h)
    rw [if_neg this]
    unfold getB
    rw [if_neg hj2, if_neg hj]
theorem get_put {xs : List Bun} {i j : Int} (b : Bun) : getB (putB xs i b) j = if inB xs i = true ∧ j = i then join (getB xs j) b else getB xs j := by
  unfold putB
  by_cases h : inB xs i = true
  · rw [if_pos h, get_set h]
    by_cases e : j = i
    · subst e; simp [h]
    · simp [e]
  · simp [h]
theorem get_take {xs : List Bun} {i j n : Int} {o d : Bool} : getB (takeB xs i n o d).2 j = if inB xs i = true ∧ j = i then (split (getB xs j) n o d).2 else getB xs j := by
  unfold takeB
  by_cases h : inB xs i = true
  · rw [if_pos h]
    simp only []
    rw [get_set h]
    by_cases e : j = i
    · subst e; simp [h]
    · simp [e]
  · simp [h]
theorem get_new {s t i : Int} : getB (newB s t) i = if inB (newB s t) i = true then full t 0 else bun0 := by
  unfold getB
  by_cases h : inB (newB s t) i = true
  · rw [if_pos h, if_pos h]
    have h2 := inB_iff.1 h
    rw [len_new] at h2
    unfold newB
    rw [List.getD_eq_getElem?_getD, List.getElem?_replicate, if_pos (by omega)]
    rfl
  · rw [if_neg h, if_neg h]
theorem full_nn (t d : Int) : 0 ≤ (full t d).c := by
  unfold full
  split
  · simp [bun0]
  · show 0 ≤ t
    omega
theorem new_nn (s t i : Int) : 0 ≤ (getB (newB s t) i).c := by
  rw [get_new]
  split
  · exact full_nn t 0
  · simp [bun0]
theorem split_cnt {b : Bun} (h0 : 0 ≤ b.c) (h1 : b.c ≤ 1099511627776) (n : Int) (o d : Bool) : (split b n o d).1.c + (split b n o d).2.c = b.c ∧ 0 ≤ (split b n o d).1.c ∧ 0 ≤ (split b n o d).2.c := by
  have hc : 0 ≤ clamp n 0 (max b.c 0) ∧ clamp n 0 (max b.c 0) ≤ b.c := by unfold clamp; omega
  unfold split splitW
  simp only []
  generalize hnn : (if (b.o && !(o && b.o && decide (0 < clamp n 0 (max b.c 0)))) = true then min (clamp n 0 (max b.c 0)) (wrap64 (b.c - 1)) else clamp n 0 (max b.c 0)) = nn
  have hk : nn ≤ b.c := by
    rw [← hnn]
    split <;> omega
  split
  · exact ⟨by simp [bun0], by simp [bun0], h0⟩
  · rename_i hx
    by_cases hy : nn < b.c
    · rw [if_pos hy]
      have : wrap64 (b.c - nn) = b.c - nn := by unfold wrap64; omega
      simp only [valued, this]
      omega
    · rw [if_neg hy]
      simp only [valued, bun0]
      omega
/-- What stays true of the memory's list. -/
def inv (L : Nat) (k : Nat) (xs : List Bun) : Prop := xs.length = L ∧ L ≤ 64 ∧ ∀ j, 0 ≤ (getB xs j).c ∧ (getB xs j).c ≤ (k + 1) * 1048576
theorem inv_new {s t : Int} (ht : t ≤ 1048576) : inv (newB s t).length 0 (newB s t) := by
  refine ⟨rfl, len_new64 s t, fun j => ⟨new_nn s t j, ?_⟩⟩
  rw [get_new]
  split
  · unfold full
    split
    · simp [bun0]
    · simpa using ht
  · simp [bun0]
theorem inv_put {L k : Nat} {xs : List Bun} (h : inv L k xs) (hk : k ≤ 1000) {b : Bun} (h0 : 0 ≤ b.c) (h1 : b.c ≤ 1048576) (i : Int) : inv L (k + 1) (putB xs i b) ∧ ∀ j, (getB (putB xs i b) j).c = (getB xs j).c + if inB xs i = true ∧ j = i then b.c else 0 := by
  have hc : ∀ j, (getB (putB xs i b) j).c = (getB xs j).c + if inB xs i = true ∧ j = i then b.c else 0 := fun j => by
    rw [get_put]
    by_cases e : inB xs i = true ∧ j = i
    · rw [if_pos e, if_pos e]
      have := h.2.2 j
      show wrap64 ((getB xs j).c + b.c) = _
      unfold wrap64
      omega
    · rw [if_neg e, if_neg e]; omega
  refine ⟨⟨by rw [len_put]; exact h.1, h.2.1, fun j => ?_⟩, hc⟩
  rw [hc]
  have := h.2.2 j
  split <;> (push_cast; omega)
theorem inv_take {L k : Nat} {xs : List Bun} (h : inv L k xs) (hk : k ≤ 1000) (i n : Int) (o d : Bool) : inv L k (takeB xs i n o d).2 ∧ (∀ j, (getB (takeB xs i n o d).2 j).c = (getB xs j).c - if j = i then (takeB xs i n o d).1.c else 0) ∧ 0 ≤ (takeB xs i n o d).1.c ∧ (takeB xs i n o d).1.c ≤ (k + 1) * 1048576 := by
  have hi := h.2.2 i
  have hs := split_cnt hi.1 (by omega) n o d
  have h1 : (takeB xs i n o d).1.c = if inB xs i = true then (split (getB xs i) n o d).1.c else 0 := by
    unfold takeB
    split <;> simp [bun0, *]
  have hc : ∀ j, (getB (takeB xs i n o d).2 j).c = (getB xs j).c - if j = i then (takeB xs i n o d).1.c else 0 := fun j => by
    rw [get_take, h1]
    by_cases e : j = i
    · subst e
      by_cases hx : inB xs j = true
      · simp only [hx, and_self, if_true]; omega
      · simp [hx]
    · simp [e]
  have h2 : 0 ≤ (takeB xs i n o d).1.c ∧ (takeB xs i n o d).1.c ≤ (getB xs i).c := by
    rw [h1]
    split
    · omega
    · exact ⟨by omega, hi.1⟩
  refine ⟨⟨by rw [len_take]; exact h.1, h.2.1, fun j => ?_⟩, hc, h2.1, by omega⟩
  rw [hc]
  have := h.2.2 j
  by_cases e : j = i
  · subst e; simp only [if_true]; omega
  · rw [if_neg e]; omega
theorem right_cnt {b : Bun} {t : Int} (h : bcheck b t = 0) : 0 ≤ b.c ∧ b.c ≤ t := by
  obtain ⟨c, o, hs, d⟩ := b
  exact ((right_iff c o hs d t).1 h).1
abbrev F5 : Bun := ⟨5, true, true, 0⟩
theorem split5 (n : Int) (o d : Bool) : ∃ n0, split F5 n o d = splitW F5 n0 o d ∧ (n0 = 0 ∨ n0 = 1 ∨ n0 = 2 ∨ n0 = 3 ∨ n0 = 4 ∨ n0 = 5) := ⟨clamp n 0 5, rfl, by unfold clamp; omega⟩
theorem join5 (n : Int) (o d : Bool) : join (split F5 n o d).2 (split F5 n o d).1 = F5 := by
  obtain ⟨n0, e, h⟩ := split5 n o d
  rw [e]
  rcases h with rfl | rfl | rfl | rfl | rfl | rfl <;> cases o <;> cases d <;> decide +kernel
theorem rsplit5 (n : Int) (o d : Bool) : rsplit F5 n o d = split F5 n o d := rsplit_split (by decide) (by decide) n o d
theorem back_put (b c : Int) (p q : Bool) : putB (takeB (newB 3 5) b c p q).2 b (takeB (newB 3 5) b c p q).1 = newB 3 5 := by
  by_cases h : inB (newB 3 5) b = true
  · have h3 : b = 0 ∨ b = 1 ∨ b = 2 := by
      rw [inB_iff] at h
      have : (newB 3 5).length = 3 := by decide
      omega
    have hj := join5 c p q
    rcases h3 with rfl | rfl | rfl
    · show [join (split F5 c p q).2 (split F5 c p q).1, F5, F5] = [F5, F5, F5]
      rw [hj]
    · show [F5, join (split F5 c p q).2 (split F5 c p q).1, F5] = [F5, F5, F5]
      rw [hj]
    · show [F5, F5, join (split F5 c p q).2 (split F5 c p q).1] = [F5, F5, F5]
      rw [hj]
  · have h' : inB (newB 3 5) b = false := by simpa using h
    rw [take_out h', put_out h']
theorem in35 (b : Int) : inB (newB 3 5) b = (decide (0 ≤ b) && decide (b < 3)) := by
  unfold inB
  rw [show (newB 3 5).length = 3 from by decide]
  rfl
theorem in45 (b : Int) : inB (newB 4 5) b = (decide (0 ≤ b) && decide (b < 4)) := by
  unfold inB
  rw [show (newB 4 5).length = 4 from by decide]
  rfl
theorem get45 {y : Int} (h0 : 0 ≤ y) (h1 : y ≤ 3) : getB (newB 4 5) y = F5 := by
  rw [get_new, if_pos (by rw [in45]; simp; omega)]
  rfl
theorem takes1 {x c : Int} {p q : Bool} (h0 : 0 ≤ x) (h1 : x ≤ 3) : (takeB (newB 4 5) x c p q).1 = (rsplit F5 c p q).1 ∧ getB (takeB (newB 4 5) x c p q).2 x = (rsplit F5 c p q).2 := by
  have hin : inB (newB 4 5) x = true := by rw [in45]; simp; omega
  refine ⟨?_, ?_⟩
  · unfold takeB
    rw [if_pos hin, get45 h0 h1, rsplit5]
  · rw [get_take, if_pos ⟨hin, rfl⟩, get45 h0 h1, rsplit5]
theorem takes2 {x y c : Int} {p q : Bool} (h : y ≠ x) (h0 : 0 ≤ y) (h1 : y ≤ 3) : getB (takeB (newB 4 5) x c p q).2 y = F5 := by
  rw [get_take, if_neg (fun e => h e.2), get45 h0 h1]
theorem takes0 {x c : Int} {p q : Bool} (h : x < 0 ∨ 3 < x) : (takeB (newB 4 5) x c p q).1 = bun0 := by
  rw [take_out (by rw [in45]; simp; omega)]
end Go.Proofs.Ytopbgpmajkcboaa
