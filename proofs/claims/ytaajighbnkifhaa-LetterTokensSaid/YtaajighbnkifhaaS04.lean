/- What Spread comes to. -/
import Derived.Test.YtaajighbnkifhaaC04a
import Derived.Laws.AppendOwn
namespace Go.Proofs.Ytaajighbnkifhaa
open Go.RowKit
set_option linter.unusedVariables false
set_option linter.unusedSimpArgs false
/-- The letters to the first so many. -/
def spr (k f b s x : Int) : Nat → List Ltr
  | 0 => []
  | n + 1 => spr k f b s x n ++ [⟨k, f, (n : Int), b, s, x, false, bun0⟩]
theorem spr_len (k f b s x : Int) : ∀ n, (spr k f b s x n).length = n
  | 0 => rfl
  | n + 1 => by simp [spr, spr_len k f b s x n]
theorem spr_get (k f b s x : Int) : ∀ (n i : Nat), i < n → (spr k f b s x n)[i]? = some ⟨k, f, (i : Int), b, s, x, false, bun0⟩
  | n + 1, i, h => by
    rw [spr]
    rcases Nat.lt_or_ge i n with h' | h'
    · rw [List.getElem?_append_left (by rw [spr_len]; exact h')]
      exact spr_get k f b s x n i h'
    · have : i = n := by omega
      subst this
      rw [List.getElem?_append_right (by rw [spr_len]; omega), spr_len]
      simp
theorem letter_info : (Try.prog.info? 32).map (fun i => (i.zero, i.size, i.bytes)) = some (some (.agg #[.int .i64 0, .int .i64 0, .int .i64 0, .int .i64 0, .int .i64 0, .int .i64 0, .bool false, .int .i64 0, .bool false, .bool false, .int .i64 0]), 11, 80) := by kernel_rfl
/-- A slice value whose elements are these records: no other block than one from B on. -/
theorem flat_len {n : Nat} {xs : List Ltr} (h : xs.length = n) : (xs.flatMap Ltr.cs).length = n * 11 := by
  subst h
  induction xs with
  | nil => rfl
  | cons x xs ih => rw [List.flatMap_cons, List.length_append, ih]; simp [Ltr.cs]; omega
theorem flat_get : ∀ (xs : List Ltr) (i j : Nat) (x : Ltr) (v : Value), xs[i]? = some x → x.cs[j]? = some v → (xs.flatMap Ltr.cs)[i * 11 + j]? = some v
  | y :: ys, 0, j, x, v, hx, hv => by
    simp at hx
    subst hx
    have hj : j < y.cs.length := (List.getElem?_eq_some_iff.1 hv).1
    rw [List.flatMap_cons, Nat.zero_mul, Nat.zero_add, List.getElem?_append_left hj]
    exact hv
  | y :: ys, i + 1, j, x, v, hx, hv => by
    have := flat_get ys i j x v (by simpa using hx) hv
    rw [List.flatMap_cons, List.getElem?_append_right (by simp [Ltr.cs]; omega)]
    have e : (i + 1) * 11 + j - y.cs.length = i * 11 + j := by simp [Ltr.cs]; omega
    rw [e]
    exact this
theorem Rd_of_row {w : World} {base : Nat} {e : TypeId} {v : Value} {xs : List Ltr} {n : Nat} (hn : xs.length = n) (h : w.ownsRow base e 11 v n (xs.flatMap Ltr.cs)) : ∃ A c, v = .slice A n c ∧ Rd Ltr.cs 11 w A n c xs := by
  rcases h.2 with ⟨rfl, h0⟩ | ⟨g, cap, cur, rfl, hg, hb, hle, hm, hs, ht⟩
  · subst h0
    exact ⟨none, 0, rfl, hn, Nat.le_refl _, by omega, fun h => absurd h (by omega)⟩
  · refine ⟨some ⟨g, 0, none⟩, cap, rfl, hn, hle, by simpa [maxLen] using hm, fun h => ⟨g, 0, rfl, (Array.getElem?_eq_some_iff.1 hb).1, fun i j x v hx hv => ?_⟩⟩
    rw [blk_cell hb]
    have := flat_get xs i j x v hx hv
    rw [← ht, List.getElem?_take] at this
    split at this
    · simpa [Nat.zero_add] using this
    · cases this
theorem new11 {w : World} {cs : List Value} {t : TypeId} : ∀ (j : Nat) (u : Value), cs[j]? = some u → (w.alloc (.cells cs.toArray t)).cell? ((⟨w.heap.size, 0, none⟩ : Addr).add j) = some u := by
  intro j u hj
  have e : ((⟨w.heap.size, 0, none⟩ : Addr).add j) = ⟨w.heap.size, j, none⟩ := by unfold Addr.add; split <;> simp_all
  rw [e, blk_cell (heap_alloc_new w _)]
  simpa using hj
set_option maxHeartbeats 4000000 in
theorem Spread_calls (kd f b s x n : Int) (w : World) :
    Calls Try.prog 16 #[.int .i64 kd, .int .i64 f, .int .i64 b, .int .i64 s, .int .i64 x, .int .i64 n] w fun e w' => ∃ A c, e = .returned (.slice A (max (min n 64) 0).toNat c) ∧ Rd Ltr.cs 11 w' A (max (min n 64) 0).toNat c (spr kd f b s x (max (min n 64) 0).toNat) ∧ Below w.heap.size w w' := by
  obtain ⟨i0, hi, hz0, hz1, hz2⟩ := info_parts letter_info
  have Hinfo := hide (And.intro hi (And.intro hz0 (And.intro hz1 hz2)))
  clear hi hz0 hz1 hz2
  rcases (show n < 0 ∨ 64 < n ∨ (0 ≤ n ∧ n ≤ 64) from by omega) with q1 | q1 | ⟨q1, q2⟩
  · obtain ⟨m, hm⟩ : ∃ m : Nat, m = 0 := ⟨_, rfl⟩
    have hm1 : (max (min n 64) 0).toNat = m := by omega
    rw [hm1]
    have hm2 : m ≤ 0 := by omega
    clear hm hm1
    go_enter Try.func16, Try.ntmps16
    go_wp2
    go_loopw [13, 18] (fun v i wr => ∃ k : Nat, k ≤ m ∧ i = .int .i64 k ∧ wr.ownsRow w.heap.size 32 11 v k ((spr kd f b s x k).flatMap Ltr.cs) ∧ Below w.heap.size w wr) (fun _ i _ => m - (intOf i).toNat)
    case atStart => exact ⟨0, Nat.zero_le _, rfl, World.ownsRow_nil _ _ _ _, bl0⟩
    case round =>
      obtain ⟨k, hk, rfl, hown, hbr⟩ := hrel
      have hz := hbr.size
      have Hown := hide hown
      have Hbr := hide hbr
      clear hown hbr
      by_cases hlt : k < m
      · exact absurd hlt (by omega)
      · have q : 0 ≤ (k : Int) := by omega
        go_wp2
        go_ret
        have e : k = m := by omega
        subst e
        obtain ⟨A, c, rfl, hr⟩ := Rd_of_row (spr_len kd f b s x k) Hown.out
        exact ⟨A, c, rfl, hr, Hbr.out⟩
  · obtain ⟨m, hm⟩ : ∃ m : Nat, m = 64 := ⟨_, rfl⟩
    have hm1 : (max (min n 64) 0).toNat = m := by omega
    rw [hm1]
    have hm2 : m ≤ 64 := by omega
    have hm3 : 64 ≤ m := by omega
    clear hm hm1
    go_enter Try.func16, Try.ntmps16
    go_wp2
    go_loopw [13, 18] (fun v i wr => ∃ k : Nat, k ≤ m ∧ i = .int .i64 k ∧ wr.ownsRow w.heap.size 32 11 v k ((spr kd f b s x k).flatMap Ltr.cs) ∧ Below w.heap.size w wr) (fun _ i _ => m - (intOf i).toNat)
    case atStart => exact ⟨0, Nat.zero_le _, rfl, World.ownsRow_nil _ _ _ _, bl0⟩
    case round =>
      obtain ⟨k, hk, rfl, hown, hbr⟩ := hrel
      have hz := hbr.size
      have Hown := hide hown
      have Hbr := hide hbr
      clear hown hbr
      by_cases hlt : k < m
      · have q : (k : Int) < 64 := by omega
        go_wp2_with (at_builtin; refine wpList_append_own _ rfl _ _ 41 rfl w.heap.size 32 i0 _ 11 80 Try.underlying41 Hinfo.out.1 Hinfo.out.2.1 Hinfo.out.2.2.1 Hinfo.out.2.2.2 rfl (by decide) _ _ _ rfl (Hown.out.alloc _) ⟨wr.heap.size, 0, none⟩ 1 1 (Ltr.cs ⟨kd, f, (k : Int), b, s, x, false, bun0⟩) rfl rfl new11 (by intro u hu; simp [Ltr.cs, bun0] at hu; rcases hu with rfl | rfl | rfl | rfl | rfl | rfl | rfl | rfl | rfl | rfl | rfl <;> rfl) (by unfold maxLen; omega) (by omega) (by simp; omega) ?_; intro v' w5 hown' hgrow _)
        go_roundw
        case rel =>
          refine ⟨k + 1, by omega, by go_num, ?_, (Below.alloc Hbr.out (by omega) _).grown hgrow (by simp; omega) (fun j hj => (Hown.out.lt j hj).1)⟩
          rw [spr, List.flatMap_append]
          simpa using hown'
        case measure => simp [intOf]; omega
      · have q : 64 ≤ (k : Int) := by omega
        go_wp2
        go_ret
        have e : k = m := by omega
        subst e
        obtain ⟨A, c, rfl, hr⟩ := Rd_of_row (spr_len kd f b s x k) Hown.out
        exact ⟨A, c, rfl, hr, Hbr.out⟩
  · obtain ⟨m, hm⟩ : ∃ m : Nat, (m : Int) = n := ⟨n.toNat, by omega⟩
    have hm1 : (max (min n 64) 0).toNat = m := by omega
    rw [hm1]
    have hm2 : (m : Int) ≤ n := by omega
    have hm3 : n ≤ (m : Int) := by omega
    clear hm hm1
    go_enter Try.func16, Try.ntmps16
    go_wp2
    go_loopw [13, 18] (fun v i wr => ∃ k : Nat, k ≤ m ∧ i = .int .i64 k ∧ wr.ownsRow w.heap.size 32 11 v k ((spr kd f b s x k).flatMap Ltr.cs) ∧ Below w.heap.size w wr) (fun _ i _ => m - (intOf i).toNat)
    case atStart => exact ⟨0, Nat.zero_le _, rfl, World.ownsRow_nil _ _ _ _, bl0⟩
    case round =>
      obtain ⟨k, hk, rfl, hown, hbr⟩ := hrel
      have hz := hbr.size
      have Hown := hide hown
      have Hbr := hide hbr
      clear hown hbr
      by_cases hlt : k < m
      · have q : (k : Int) < n := by omega
        go_wp2_with (at_builtin; refine wpList_append_own _ rfl _ _ 41 rfl w.heap.size 32 i0 _ 11 80 Try.underlying41 Hinfo.out.1 Hinfo.out.2.1 Hinfo.out.2.2.1 Hinfo.out.2.2.2 rfl (by decide) _ _ _ rfl (Hown.out.alloc _) ⟨wr.heap.size, 0, none⟩ 1 1 (Ltr.cs ⟨kd, f, (k : Int), b, s, x, false, bun0⟩) rfl rfl new11 (by intro u hu; simp [Ltr.cs, bun0] at hu; rcases hu with rfl | rfl | rfl | rfl | rfl | rfl | rfl | rfl | rfl | rfl | rfl <;> rfl) (by unfold maxLen; omega) (by omega) (by simp; omega) ?_; intro v' w5 hown' hgrow _)
        go_roundw
        case rel =>
          refine ⟨k + 1, by omega, by go_num, ?_, (Below.alloc Hbr.out (by omega) _).grown hgrow (by simp; omega) (fun j hj => (Hown.out.lt j hj).1)⟩
          rw [spr, List.flatMap_append]
          simpa using hown'
        case measure => simp [intOf]; omega
      · have q : n ≤ (k : Int) := by omega
        go_wp2
        go_ret
        have e : k = m := by omega
        subst e
        obtain ⟨A, c, rfl, hr⟩ := Rd_of_row (spr_len kd f b s x k) Hown.out
        exact ⟨A, c, rfl, hr, Hbr.out⟩
end Go.Proofs.Ytaajighbnkifhaa
