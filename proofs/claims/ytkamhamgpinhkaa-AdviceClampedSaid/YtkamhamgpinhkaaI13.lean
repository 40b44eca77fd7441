/- Lists of numbers: what Ints comes to; slices that a call made. -/
import Derived.Test.YtkamhamgpinhkaaProg
import Derived.Test.YtkamhamgpinhkaaG
import Derived.IntWalk
import Derived.Laws.AppendOwn
namespace Go.Proofs.Ytkamhamgpinhkaa
open Go.RowKit
set_option linter.unusedVariables false
set_option linter.unusedSimpArgs false
theorem Rd.below {α : Type} {enc : α → List Value} {sz : Nat} {w w' : World} {A : Option Addr} {n c : Nat} {xs : List α} (h : Rd enc sz w A n c xs) (hb : Below w.heap.size w w') : Rd enc sz w' A n c xs := by
  obtain ⟨h1, h2, h3, h4⟩ := h
  refine ⟨h1, h2, h3, fun h0 => ?_⟩
  obtain ⟨b, off, hA, hlt, hc⟩ := h4 h0
  exact ⟨b, off, hA, Nat.lt_of_lt_of_le hlt hb.size, fun i j x v hx hv => (hb.cell (p := ⟨b, off + i * sz + j, none⟩) hlt).trans (hc i j x v hx hv)⟩
/-- A slice value whose elements are these. -/
def Sl {α : Type} (enc : α → List Value) (sz : Nat) (xs : List α) (v : Value) (w : World) : Prop := ∃ A n c, v = .slice A n c ∧ Rd enc sz w A n c xs
theorem Sl.below {α : Type} {enc : α → List Value} {sz : Nat} {w w' : World} {v : Value} {xs : List α} (h : Sl enc sz xs v w) (hb : Below w.heap.size w w') : Sl enc sz xs v w' := by
  obtain ⟨A, n, c, hv, hr⟩ := h
  exact ⟨A, n, c, hv, hr.below hb⟩
theorem Sl.of_row {w : World} {base : Nat} {e : TypeId} {v : Value} {xs : List Int} (h : w.ownsRow base e 1 v xs.length (xs.map (Value.int .i64))) : Sl icell 1 xs v w := by
  rcases h.2 with ⟨rfl, h0⟩ | ⟨g, cap, cur, rfl, hg, hb, hn, hm, hs, ht⟩
  · exact ⟨none, 0, 0, rfl, by simpa using h0, Nat.le_refl _, by omega, fun h => absurd h (by omega)⟩
  · refine ⟨some ⟨g, 0, none⟩, xs.length, cap, rfl, rfl, hn, by simpa [maxLen] using hm, fun h => ⟨g, 0, rfl, (Array.getElem?_eq_some_iff.1 hb).1, fun i j x v hx hv => ?_⟩⟩
    rw [blk_cell hb]
    cases j with
    | succ j => simp [icell] at hv
    | zero =>
      simp [icell] at hv
      subst hv
      have : (xs.map (Value.int .i64))[i]? = some (.int .i64 x) := by simp [hx]
      rw [← ht, List.getElem?_take] at this
      split at this
      · simpa using this
      · cases this
theorem Ints_calls {A B : Option Addr} {n c m d : Nat} {xs ys : List Int} {w : World} (hx : Rd icell 1 w A n c xs) (hy : Rd icell 1 w B m d ys) :
    Calls Try.prog 9 #[.slice A n c, .slice B m d] w fun e w' => e = .returned (.bool (decide (xs = ys))) ∧ Below w.heap.size w w' := by
  obtain ⟨h1, h2, h3, h4⟩ := hx
  obtain ⟨g1, g2, g3, g4⟩ := hy
  have H4 := hide h4
  have G4 := hide g4
  have H1 := hide h1
  have G1 := hide g1
  clear h4 g4 h1 g1
  by_cases hnm : n = m
  · subst hnm
    go_enter Try.func9, Try.ntmps9
    go_wp2
    go_loopw [5] (fun i wr => ∃ k : Nat, k ≤ n ∧ i = .int .i64 k ∧ (∀ j, j < k → xs[j]? = ys[j]?) ∧ Below w.heap.size w wr) (fun i _ => n - (intOf i).toNat)
    case atStart => exact ⟨0, Nat.zero_le _, rfl, fun j hj => absurd hj (Nat.not_lt_zero _), bl0⟩
    case round =>
      obtain ⟨k, hk, rfl, he, hbr⟩ := hrel
      have He := hide he
      clear he
      by_cases hlt : k < n
      · obtain ⟨bx, ox, rfl, lx, cx⟩ := H4.out (by omega)
        obtain ⟨by', oy, rfl, ly, cy⟩ := G4.out (by omega)
        obtain ⟨x, hx⟩ : ∃ x, xs[k]? = some x := ⟨_, List.getElem?_eq_getElem (by rw [H1.out]; exact hlt)⟩
        obtain ⟨y, hy⟩ : ∃ y, ys[k]? = some y := ⟨_, List.getElem?_eq_getElem (by rw [G1.out]; exact hlt)⟩
        have m0 : wr.cell? ⟨bx, ox + k, none⟩ = some (.int .i64 x) := (hbr.cell (p := ⟨bx, ox + k, none⟩) lx).trans (by simpa using cx k 0 _ _ hx rfl)
        have m1 : wr.cell? ⟨by', oy + k, none⟩ = some (.int .i64 y) := (hbr.cell (p := ⟨by', oy + k, none⟩) ly).trans (by simpa using cy k 0 _ _ hy rfl)
        have Hx := hide hx
        have Hy := hide hy
        clear cx cy hx hy H4 G4
        by_cases hxy : x = y
        · have b1 : (x == y) = true := by simpa using hxy
          have b2 : (x != y) = false := by simpa using hxy
          have Hxy := hide hxy
          clear hxy
          go_wp2
          go_region
          all_goals go_wp2
          go_roundw
          case rel =>
            refine ⟨k + 1, by omega, by go_num, fun j hj => ?_, by (repeat' (with_reducible first | exact bl0 | apply bl4 | apply bl5 | apply bl1 | refine bl2 ?_ (by first | omega | (simp only [World.size_alloc, World.size_setCell, World.size_drew]; omega)) | refine bl3 (by assumption) ?_))⟩
            rcases Nat.lt_or_ge j k with h | h
            · exact He.out j h
            · have : j = k := by omega
              subst this
              rw [Hx.out, Hy.out, Hxy.out]
          case measure => simp [intOf]; omega
        · have b1 : (x == y) = false := by simpa using hxy
          have b2 : (x != y) = true := by simpa using hxy
          have Hxy := hide hxy
          clear hxy
          go_wp2
          go_region
          all_goals go_wp2
          go_ret
          refine ⟨ret_bool ?_, by (repeat' (with_reducible first | exact bl0 | apply bl4 | apply bl5 | apply bl1 | refine bl2 ?_ (by first | omega | (simp only [World.size_alloc, World.size_setCell, World.size_drew]; omega)) | refine bl3 (by assumption) ?_))⟩
          have : xs ≠ ys := fun e => Hxy.out (by have h := Hx.out; rw [e, Hy.out] at h; injection h with h; exact h.symm)
          simp [this]
      · go_wp2
        go_ret
        refine ⟨ret_bool ?_, by (repeat' (with_reducible first | exact bl0 | apply bl4 | apply bl5 | apply bl1 | refine bl2 ?_ (by first | omega | (simp only [World.size_alloc, World.size_setCell, World.size_drew]; omega)) | refine bl3 (by assumption) ?_))⟩
        have : xs = ys := List.ext_getElem? fun j => by
          rcases Nat.lt_or_ge j k with h | h
          · exact He.out j h
          · rw [List.getElem?_eq_none (by rw [H1.out]; omega), List.getElem?_eq_none (by rw [G1.out]; omega)]
        simp [this]
  · have b1 : ((n : Int) == m) = false := by simp; omega
    have b2 : ((n : Int) != m) = true := by simp; omega
    go_enter Try.func9, Try.ntmps9
    go_wp2
    go_ret
    refine ⟨ret_bool ?_, bl0⟩
    have : xs ≠ ys := fun e => hnm (by rw [← H1.out, ← G1.out, e])
    simp [this]
end Go.Proofs.Ytkamhamgpinhkaa
