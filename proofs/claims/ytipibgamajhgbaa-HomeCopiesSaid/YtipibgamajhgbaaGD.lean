/- Bits, lists of numbers: what num.Bit, the reference's Bit, and Ints come to. -/
import Derived.Test.YtipibgamajhgbaaProg
import Derived.Test.YtipibgamajhgbaaGA
import Derived.IntWalk
import Derived.Laws.BitsLemmas
import Derived.Laws.Bits64
import Derived.Laws.AppendOwn
import Derived.Test.YtipibgamajhgbaaC02
namespace Go.Proofs.Ytipibgamajhgbaa
open Go.RowKit
set_option linter.unusedVariables false
set_option linter.unusedSimpArgs false
/-- Whether a number's bit is 1. -/
def ubit (n : Int) (k : Nat) : Bool := decide (IntKind.u64.wrap n / 2 ^ k % 2 = 1)
def bit (n at' : Int) : Bool := decide (0 ≤ at') && decide (at' < 64) && ubit n at'.toNat
theorem u64_range (n : Int) : 0 ≤ IntKind.u64.wrap n ∧ IntKind.u64.wrap n < 2 ^ 64 := by rw [IntKind.wrap_u64]; omega
theorem div_pow_range (n : Int) (k : Nat) : 0 ≤ IntKind.u64.wrap n / 2 ^ k ∧ IntKind.u64.wrap n / 2 ^ k < 2 ^ 64 := by
  obtain ⟨h0, h1⟩ := u64_range n
  have hp : (0 : Int) < 2 ^ k := Int.pow_pos (by omega)
  refine ⟨Int.ediv_nonneg h0 (Int.le_of_lt hp), Int.lt_of_le_of_lt (Int.ediv_le_self _ h0) h1⟩
theorem and_one (n : Int) (k : Nat) : bits .and .u64 (IntKind.u64.wrap n / 2 ^ k) 1 = IntKind.u64.wrap n / 2 ^ k % 2 := by
  obtain ⟨h0, h1⟩ := div_pow_range n k
  have := bits_mask .u64 64 (by decide) (fun n h0 h1 => by rw [IntKind.wrap_u64]; omega) 1 (by decide) (IntKind.u64.wrap n / 2 ^ k) h0 h1
  simpa using this
theorem and_one_eq (n : Int) (k : Nat) : (bits .and .u64 (IntKind.u64.wrap n / 2 ^ k) 1 == 1) = ubit n k := by
  rw [and_one]; unfold ubit
  by_cases h : IntKind.u64.wrap n / 2 ^ k % 2 = 1 <;> simp [h]
theorem half_step (n : Int) (j : Nat) : IntKind.u64.wrap ((IntKind.u64.wrap n / 2 ^ j).tdiv 2) = IntKind.u64.wrap n / 2 ^ (j + 1) := by
  obtain ⟨h0, h1⟩ := div_pow_range n j
  have hp : (0 : Int) < 2 ^ j := Int.pow_pos (by omega)
  rw [Int.pow_succ, Int.tdiv_eq_ediv_of_nonneg h0, IntKind.wrap_u64]
  have e : IntKind.u64.wrap n / (2 ^ j * 2) = IntKind.u64.wrap n / 2 ^ j / 2 := by rw [Int.ediv_ediv, if_neg (fun h => by omega)]; simp
  rw [e]
  omega
theorem tmod_two (n : Int) (j : Nat) : ((IntKind.u64.wrap n / 2 ^ j).tmod 2 == 1) = ubit n j := by
  obtain ⟨h0, h1⟩ := div_pow_range n j
  rw [Int.tmod_eq_emod_of_nonneg h0]; unfold ubit
  by_cases h : IntKind.u64.wrap n / 2 ^ j % 2 = 1 <;> simp [h]
theorem Bit_calls (n k : Int) (w : World) : Calls Try.prog 86 #[.int .i64 n, .int .i64 k] w fun e w' => e = .returned (.bool (bit n k)) ∧ Below w.heap.size w w' := by
  by_cases h0 : k < 0
  · go_enter Try.func86, Try.ntmps86
    go_wp2
    go_ret
    exact ⟨ret_bool (by simp [bit]; omega), bl0⟩
  by_cases h1 : 64 ≤ k
  · go_enter Try.func86, Try.ntmps86
    go_wp2
    go_ret
    exact ⟨ret_bool (by simp [bit]; omega), bl0⟩
  have h2 : 0 ≤ k := by omega
  have h3 : k < 64 := by omega
  clear h0 h1
  go_enter Try.func86, Try.ntmps86
  go_wp2
  go_ret
  exact ⟨ret_bool (by rw [and_one_eq]; simp [bit, h2, h3]), bl0⟩
theorem rBit_calls (n k : Int) (w : World) : Calls Try.prog 74 #[.int .i64 n, .int .i64 k] w fun e w' => e = .returned (.bool (bit n k)) ∧ Below w.heap.size w w' := by
  by_cases h0 : k < 0
  · go_enter Try.func74, Try.ntmps74
    go_wp2
    go_ret
    exact ⟨ret_bool (by simp [bit]; omega), bl0⟩
  by_cases h1 : 63 < k
  · go_enter Try.func74, Try.ntmps74
    go_wp2
    go_ret
    exact ⟨ret_bool (by simp [bit]; omega), bl0⟩
  have h2 : 0 ≤ k := by omega
  have h3 : k ≤ 63 := by omega
  clear h0 h1
  go_enter Try.func74, Try.ntmps74
  go_wp2
  go_loopw [5, 6] (fun x i wr => ∃ j : Nat, (j : Int) ≤ k ∧ i = .int .i64 j ∧ x = .int .u64 (IntKind.u64.wrap n / 2 ^ j) ∧ wr = w) (fun _ i _ => (k - intOf i).toNat)
  case atStart => exact ⟨0, by omega, rfl, by simp, rfl⟩
  case round =>
    obtain ⟨j, hj, rfl, rfl, rfl⟩ := hrel
    by_cases hlt : (j : Int) < k
    · go_wp2
      go_roundw
      case rel => exact ⟨j + 1, by omega, by go_num, by rw [half_step], trivial⟩
      case measure => simp [intOf]; omega
    · go_wp2
      go_ret
      have e : k.toNat = j := by omega
      exact ⟨ret_bool (by rw [tmod_two]; simp [bit, h2, e]; omega), bl0⟩
end Go.Proofs.Ytipibgamajhgbaa

namespace Go.Proofs.Ytipibgamajhgbaa
open Go.RowKit
set_option linter.unusedVariables false
set_option linter.unusedSimpArgs false
theorem Rd.below {α : Type} {enc : α → List Value} {sz : Nat} {w w' : World} {A : Option Addr} {n c : Nat} {xs : List α} (h : Rd enc sz w A n c xs) (hb : Below w.heap.size w w') : Rd enc sz w' A n c xs := by
  obtain ⟨h1, h2, h3, h4⟩ := h
  refine ⟨h1, h2, h3, fun h0 => ?_⟩
  obtain ⟨b, off, hA, hlt, hc⟩ := h4 h0
  exact ⟨b, off, hA, Nat.lt_of_lt_of_le hlt hb.size, fun i j x v hx hv => (hb.cell (p := ⟨b, off + i * sz + j, none⟩) hlt).trans (hc i j x v hx hv)⟩
/-- A slice value whose elements are these. -/
def Sl {α : Type} (enc : α → List Value) (sz : Nat) (xs : List α) (v : Value) (w : World) : Prop := ∃ A n c, v = .slice A n c ∧ Rd enc sz w A n c xs
theorem Sl.below {α : Type} {enc : α → List Value} {sz : Nat} {w w' : World} {v : Value} {xs : List α} (h : Sl enc sz xs v w) (hb : Below w.heap.size w w') : Sl enc sz xs v w' := by
  obtain ⟨A, n, c, hv, hr⟩ := h
  exact ⟨A, n, c, hv, hr.below hb⟩
theorem Sl.of_row {w : World} {base : Nat} {e : TypeId} {v : Value} {xs : List Int} (h : w.ownsRow base e 1 v xs.length (xs.map (Value.int .i64))) : Sl icell 1 xs v w := by
  rcases h.2 with ⟨rfl, h0⟩ | ⟨g, cap, cur, rfl, hg, hb, hn, hm, hs, ht⟩
  · exact ⟨none, 0, 0, rfl, by simpa using h0, Nat.le_refl _, by omega, fun h => absurd h (by omega)⟩
  · refine ⟨some ⟨g, 0, none⟩, xs.length, cap, rfl, rfl, hn, by simpa [maxLen] using hm, fun h => ⟨g, 0, rfl, (Array.getElem?_eq_some_iff.1 hb).1, fun i j x v hx hv => ?_⟩⟩
    rw [blk_cell hb]
    cases j with
    | succ j => simp [icell] at hv
    | zero =>
      simp [icell] at hv
      subst hv
      have : (xs.map (Value.int .i64))[i]? = some (.int .i64 x) := by simp [hx]
      rw [← ht, List.getElem?_take] at this
      split at this
      · simpa using this
      · cases this
theorem Ints_calls {A B : Option Addr} {n c m d : Nat} {xs ys : List Int} {w : World} (hx : Rd icell 1 w A n c xs) (hy : Rd icell 1 w B m d ys) :
    Calls Try.prog 18 #[.slice A n c, .slice B m d] w fun e w' => e = .returned (.bool (decide (xs = ys))) ∧ Below w.heap.size w w' := by
  obtain ⟨h1, h2, h3, h4⟩ := hx
  obtain ⟨g1, g2, g3, g4⟩ := hy
  have H4 := hide h4
  have G4 := hide g4
  have H1 := hide h1
  have G1 := hide g1
  clear h4 g4 h1 g1
  by_cases hnm : n = m
  · subst hnm
    go_enter Try.func18, Try.ntmps18
    go_wp2
    go_loopw [5] (fun i wr => ∃ k : Nat, k ≤ n ∧ i = .int .i64 k ∧ (∀ j, j < k → xs[j]? = ys[j]?) ∧ Below w.heap.size w wr) (fun i _ => n - (intOf i).toNat)
    case atStart => exact ⟨0, Nat.zero_le _, rfl, fun j hj => absurd hj (Nat.not_lt_zero _), bl0⟩
    case round =>
      obtain ⟨k, hk, rfl, he, hbr⟩ := hrel
      have He := hide he
      clear he
      by_cases hlt : k < n
      · obtain ⟨bx, ox, rfl, lx, cx⟩ := H4.out (by omega)
        obtain ⟨by', oy, rfl, ly, cy⟩ := G4.out (by omega)
        obtain ⟨x, hx⟩ : ∃ x, xs[k]? = some x := ⟨_, List.getElem?_eq_getElem (by rw [H1.out]; exact hlt)⟩
        obtain ⟨y, hy⟩ : ∃ y, ys[k]? = some y := ⟨_, List.getElem?_eq_getElem (by rw [G1.out]; exact hlt)⟩
        have m0 : wr.cell? ⟨bx, ox + k, none⟩ = some (.int .i64 x) := (hbr.cell (p := ⟨bx, ox + k, none⟩) lx).trans (by simpa using cx k 0 _ _ hx rfl)
        have m1 : wr.cell? ⟨by', oy + k, none⟩ = some (.int .i64 y) := (hbr.cell (p := ⟨by', oy + k, none⟩) ly).trans (by simpa using cy k 0 _ _ hy rfl)
        have Hx := hide hx
        have Hy := hide hy
        clear cx cy hx hy H4 G4
        by_cases hxy : x = y
        · have b1 : (x == y) = true := by simpa using hxy
          have b2 : (x != y) = false := by simpa using hxy
          have Hxy := hide hxy
          clear hxy
          go_wp2
          go_region
          all_goals go_wp2
          go_roundw
          case rel =>
            refine ⟨k + 1, by omega, by go_num, fun j hj => ?_, by (repeat' (with_reducible first | exact bl0 | apply bl4 | apply bl5 | apply bl1 | refine bl2 ?_ (by first | omega | (simp only [World.size_alloc, World.size_setCell, World.size_drew]; omega)) | refine bl3 (by assumption) ?_))⟩
            rcases Nat.lt_or_ge j k with h | h
            · exact He.out j h
            · have : j = k := by omega
              subst this
              rw [Hx.out, Hy.out, Hxy.out]
          case measure => simp [intOf]; omega
        · have b1 : (x == y) = false := by simpa using hxy
          have b2 : (x != y) = true := by simpa using hxy
          have Hxy := hide hxy
          clear hxy
          go_wp2
          go_region
          all_goals go_wp2
          go_ret
          refine ⟨ret_bool ?_, by (repeat' (with_reducible first | exact bl0 | apply bl4 | apply bl5 | apply bl1 | refine bl2 ?_ (by first | omega | (simp only [World.size_alloc, World.size_setCell, World.size_drew]; omega)) | refine bl3 (by assumption) ?_))⟩
          have : xs ≠ ys := fun e => Hxy.out (by have h := Hx.out; rw [e, Hy.out] at h; injection h with h; exact h.symm)
          simp [this]
      · go_wp2
        go_ret
        refine ⟨ret_bool ?_, by (repeat' (with_reducible first | exact bl0 | apply bl4 | apply bl5 | apply bl1 | refine bl2 ?_ (by first | omega | (simp only [World.size_alloc, World.size_setCell, World.size_drew]; omega)) | refine bl3 (by assumption) ?_))⟩
        have : xs = ys := List.ext_getElem? fun j => by
          rcases Nat.lt_or_ge j k with h | h
          · exact He.out j h
          · rw [List.getElem?_eq_none (by rw [H1.out]; omega), List.getElem?_eq_none (by rw [G1.out]; omega)]
        simp [this]
  · have b1 : ((n : Int) == m) = false := by simp; omega
    have b2 : ((n : Int) != m) = true := by simp; omega
    go_enter Try.func18, Try.ntmps18
    go_wp2
    go_ret
    refine ⟨ret_bool ?_, bl0⟩
    have : xs ≠ ys := fun e => hnm (by rw [← H1.out, ← G1.out, e])
    simp [this]
end Go.Proofs.Ytipibgamajhgbaa

namespace Go.Proofs.Ytipibgamajhgbaa
open Go.RowKit
set_option linter.unusedVariables false
/-- Whether a node is asked. -/
def asked (p self : Int) (d : I3) (k : Nat) : Bool :=
  (decide (p = 1) || (decide (p = 2) && (if k < 64 then bit d.a k else bit d.b 0))) && decide ((k : Int) ≠ self)
def tl (p self : Int) (d : I3) : Nat → List Int
  | 0 => []
  | k + 1 => tl p self d k ++ (if asked p self d k then [(k : Int)] else [])
def tgts (c : Cfg) (self : Int) (d : I3) : List Int := if 64 < c.nodes then [] else tl c.policy self d (c.nodes + 1).toNat
theorem tl_le (p self : Int) (d : I3) : ∀ k, (tl p self d k).length ≤ k
  | 0 => Nat.le_refl _
  | k + 1 => by
    have := tl_le p self d k
    rw [tl, List.length_append]
    split <;> simp <;> omega
theorem tl_yes {p self : Int} {d : I3} {k : Nat} (h : asked p self d k = true) : tl p self d (k + 1) = tl p self d k ++ [(k : Int)] := by rw [tl, if_pos h]
theorem tl_no {p self : Int} {d : I3} {k : Nat} (h : asked p self d k = false) : tl p self d (k + 1) = tl p self d k := by rw [tl, h]; simp
theorem ownsRow_below {w w' : World} {base : Nat} {e : TypeId} {size : Nat} {v : Value} {n : Nat} {xs : List Value} (h : w.ownsRow base e size v n xs) (hb : Below w.heap.size w w') : w'.ownsRow base e size v n xs :=
  h.kept (row := none) ⟨hb.os, hb.tape, hb.output, hb.size, fun k hk _ => hb.block k hk⟩ (by cases v.ownBlock <;> simp)
theorem int_info : (Try.prog.info? 3).map (fun i => (i.zero, i.size, i.bytes)) = some (some (.int .i64 0), 1, 8) := by kernel_rfl
theorem one_new {w : World} {v : Value} {t : TypeId} : ∀ (j : Nat) (u : Value), [v][j]? = some u → (w.alloc (.cells #[v] t)).cell? ((⟨w.heap.size, 0, none⟩ : Addr).add j) = some u := by
  intro j u hj
  match j, hj with
  | 0, hj => simp at hj; subst hj; simp [Addr.add]
/-- A list, one number longer. -/
theorem push_row {w1 : World} {B : Nat} {e : TypeId} {v : Value} {xs : List Int} {x : Int} (h : w1.ownsRow B e 1 v (xs.length + 1) (xs.map (Value.int .i64) ++ [.int .i64 x])) :
    w1.ownsRow B e 1 v (xs ++ [x]).length ((xs ++ [x]).map (Value.int .i64)) := by simpa using h
end Go.Proofs.Ytipibgamajhgbaa

namespace Go.Proofs.Ytipibgamajhgbaa
open Go.RowKit
set_option linter.unusedVariables false
set_option linter.unusedSimpArgs false
def reply (p : Int) (b : Bun) (wr : Bool) (d : I3) : Int × Bool × Bool :=
  if p = 2 then (d.a, bit d.b 0, bit d.b 1) else if p = 1 then (if wr then (b.c, true, b.o) else if b.o then (1, decide (b.c < 2), true) else (0, false, false)) else (0, false, false)
set_option maxHeartbeats 4000000 in
theorem Reply_calls' (p : Int) (c : Int) (o hs : Bool) (v : Int) (wr : Bool) (d : I3) (w : World) :
    Calls Try.prog 64 #[.int .i64 p, .agg #[.int .i64 c, .bool o, .bool hs, .int .i64 v], .bool wr, .agg #[.int .i64 d.a, .int .i64 d.b, .int .i64 d.c]] w fun e w' => e = .returned (.tuple #[.int .i64 (reply p ⟨c, o, hs, v⟩ wr d).1, .bool (reply p ⟨c, o, hs, v⟩ wr d).2.1, .bool (reply p ⟨c, o, hs, v⟩ wr d).2.2]) ∧ Below w.heap.size w w' := by
  rcases (show p = 2 ∨ p = 1 ∨ (p ≠ 1 ∧ p ≠ 2) from by omega) with rfl | rfl | ⟨h1, h2⟩
  · obtain ⟨b0, hb0⟩ : ∃ b, bit d.b 0 = b := ⟨_, rfl⟩
    obtain ⟨b1, hb1⟩ : ∃ b, bit d.b 1 = b := ⟨_, rfl⟩
    have Hr := hide (show reply 2 ⟨c, o, hs, v⟩ wr d = (d.a, b0, b1) from by simp [reply, hb0, hb1])
    have H0 := hide hb0
    have H1 := hide hb1
    clear hb0 hb1
    go_enter Try.func64, Try.ntmps64
    go_upto_region 2 with fail
    refine wp_region_free_all mixed (fun x => ((x.cell? ⟨w.heap.size + 1, 0, none⟩ = some (.int .i64 d.a) ∧ x.cell? ⟨w.heap.size + 1, 1, none⟩ = some (.int .i64 d.b))) ∧ Below w.heap.size w x ∧ w.heap.size + 1 < x.heap.size) (by kernel_rfl) ?_ ?_
    · refine ⟨⟨?_, ?_⟩, ?_, ?_⟩ <;> first | omega | (first | (go_simp; done) | ((repeat' (with_reducible first | exact bl0 | apply bl4 | apply bl5 | apply bl1 | refine bl2 ?_ (by first | omega | (simp only [World.size_alloc, World.size_setCell, World.size_drew]; omega)) | refine bl3 (by assumption) ?_)); done) | (refine bl3 (by assumption) ?_; (go_simp; done)) | (simp only [World.size_alloc, World.size_drew] at *; omega))
    repeat (apply Free.next; (case h => (intro w' hS; unfold Does; (try go_simp); first | exact ⟨rfl, hS⟩ | exact rfl | (simp only [Give_enter]; obtain ⟨c_S, b_S, z_S⟩ := hS; (first | (go_at_call 86; first | ((with_reducible refine (Bit_calls d.b 0 _).mono ?_); rw [H0.out]) | ((with_reducible refine (Bit_calls d.b 1 _).mono ?_); rw [H1.out]))); rintro e w1 ⟨rfl, hb_1⟩; obtain ⟨hc_1, hf_1⟩ := bcell hb_1; have z_1 := hb_1.size; refine ⟨_, rfl, rfl, ⟨?_, ?_⟩, ?_, ?_⟩ <;> first | omega | (first | (go_simp; done) | ((repeat' (with_reducible first | exact bl0 | apply bl4 | apply bl5 | apply bl1 | refine bl2 ?_ (by first | omega | (simp only [World.size_alloc, World.size_setCell, World.size_drew]; omega)) | refine bl3 (by assumption) ?_)); done) | (refine bl3 (by assumption) ?_; (go_simp; done)) | (simp only [World.size_alloc, World.size_drew] at *; omega))))); case he => (simp only [Act.put, List.setIfInBounds_toArray, List.set_cons_succ, List.set_cons_zero]; exact rfl))
    apply Free.nil
    intro wf hS
    apply wpList_nil
    obtain ⟨cb, bel, s1⟩ := hS
    clear cb
    go_wp2
    refine bodyPost_ret ?_ rfl ⟨rfl, ?_⟩
    · rw [Hr.out]; simp [results, Try.results64, go_sem]
    · (repeat' (with_reducible first | exact bl0 | apply bl4 | apply bl5 | apply bl1 | refine bl2 ?_ (by first | omega | (simp only [World.size_alloc, World.size_setCell, World.size_drew]; omega)) | refine bl3 (by assumption) ?_))
  · have h2 : ((1 : Int) != 1) = false := rfl
    cases wr
    · cases o
      · go_enter Try.func64, Try.ntmps64
        go_wp2
        (try (go_region; all_goals go_wp2))
        refine bodyPost_ret ?_ rfl ⟨rfl, ?_⟩
        · simp [results, Try.results64, go_sem, reply]
        · (repeat' (with_reducible first | exact bl0 | apply bl4 | apply bl5 | apply bl1 | refine bl2 ?_ (by first | omega | (simp only [World.size_alloc, World.size_setCell, World.size_drew]; omega)) | refine bl3 (by assumption) ?_))
      · go_enter Try.func64, Try.ntmps64
        go_wp2
        (try (go_region; all_goals go_wp2))
        all_goals refine bodyPost_ret ?_ rfl ⟨rfl, ?_⟩
        all_goals first | (simp [results, Try.results64, go_sem, reply, *]; done) | (simp [results, Try.results64, go_sem, reply]; omega) | (repeat' (with_reducible first | exact bl0 | apply bl4 | apply bl5 | apply bl1 | refine bl2 ?_ (by first | omega | (simp only [World.size_alloc, World.size_setCell, World.size_drew]; omega)) | refine bl3 (by assumption) ?_))
    · go_enter Try.func64, Try.ntmps64
      go_wp2
      (try (go_region; all_goals go_wp2))
      refine bodyPost_ret ?_ rfl ⟨rfl, ?_⟩
      · simp [results, Try.results64, go_sem, reply]
      · (repeat' (with_reducible first | exact bl0 | apply bl4 | apply bl5 | apply bl1 | refine bl2 ?_ (by first | omega | (simp only [World.size_alloc, World.size_setCell, World.size_drew]; omega)) | refine bl3 (by assumption) ?_))
  · have b1 : (p == 1) = false := by simpa using h1
    have b1' : (p != 1) = true := by simpa using h1
    have b2 : (p == 2) = false := by simpa using h2
    have Hr := hide (show reply p ⟨c, o, hs, v⟩ wr d = (0, false, false) from by simp [reply, h1, h2])
    clear h1 h2
    go_enter Try.func64, Try.ntmps64
    go_wp2
    (try (go_region; all_goals go_wp2))
    refine bodyPost_ret ?_ rfl ⟨rfl, ?_⟩
    · rw [Hr.out]; simp [results, Try.results64, go_sem]
    · (repeat' (with_reducible first | exact bl0 | apply bl4 | apply bl5 | apply bl1 | refine bl2 ?_ (by first | omega | (simp only [World.size_alloc, World.size_setCell, World.size_drew]; omega)) | refine bl3 (by assumption) ?_))
theorem Reply_calls (p : Int) (b : Bun) (wr : Bool) (d : I3) (w : World) :
    Calls Try.prog 64 #[.int .i64 p, .agg #[.int .i64 b.c, .bool b.o, .bool b.h, .int .i64 b.d], .bool wr, .agg #[.int .i64 d.a, .int .i64 d.b, .int .i64 d.c]] w fun e w' => e = .returned (.tuple #[.int .i64 (reply p b wr d).1, .bool (reply p b wr d).2.1, .bool (reply p b wr d).2.2]) ∧ Below w.heap.size w w' :=
  Reply_calls' p b.c b.o b.h b.d wr d w
end Go.Proofs.Ytipibgamajhgbaa

namespace Go.Proofs.Ytipibgamajhgbaa
open Go.RowKit
set_option linter.unusedVariables false
set_option linter.unusedSimpArgs false
set_option maxHeartbeats 4000000 in
theorem rReply_calls' (p : Int) (c : Int) (o hs : Bool) (v : Int) (wr : Bool) (d : I3) (w : World) :
    Calls Try.prog 40 #[.int .i64 p, .agg #[.int .i64 c, .bool o, .bool hs, .int .i64 v], .bool wr, .agg #[.int .i64 d.a, .int .i64 d.b, .int .i64 d.c]] w fun e w' => e = .returned (.tuple #[.int .i64 (reply p ⟨c, o, hs, v⟩ wr d).1, .bool (reply p ⟨c, o, hs, v⟩ wr d).2.1, .bool (reply p ⟨c, o, hs, v⟩ wr d).2.2]) ∧ Below w.heap.size w w' := by
  rcases (show p = 2 ∨ p = 1 ∨ (p ≠ 1 ∧ p ≠ 2) from by omega) with rfl | rfl | ⟨h1, h2⟩
  · obtain ⟨b0, hb0⟩ : ∃ b, bit d.b 0 = b := ⟨_, rfl⟩
    obtain ⟨b1, hb1⟩ : ∃ b, bit d.b 1 = b := ⟨_, rfl⟩
    have Hr := hide (show reply 2 ⟨c, o, hs, v⟩ wr d = (d.a, b0, b1) from by simp [reply, hb0, hb1])
    have H0 := hide hb0
    have H1 := hide hb1
    clear hb0 hb1
    go_enter Try.func40, Try.ntmps40
    go_upto_region 2 with fail
    refine wp_region_free_all mixed (fun x => ((x.cell? ⟨w.heap.size + 1, 0, none⟩ = some (.int .i64 d.a) ∧ x.cell? ⟨w.heap.size + 1, 1, none⟩ = some (.int .i64 d.b))) ∧ Below w.heap.size w x ∧ w.heap.size + 1 < x.heap.size) (by kernel_rfl) ?_ ?_
    · refine ⟨⟨?_, ?_⟩, ?_, ?_⟩ <;> first | omega | (first | (go_simp; done) | ((repeat' (with_reducible first | exact bl0 | apply bl4 | apply bl5 | apply bl1 | refine bl2 ?_ (by first | omega | (simp only [World.size_alloc, World.size_setCell, World.size_drew]; omega)) | refine bl3 (by assumption) ?_)); done) | (refine bl3 (by assumption) ?_; (go_simp; done)) | (simp only [World.size_alloc, World.size_drew] at *; omega))
    repeat (apply Free.next; (case h => (intro w' hS; unfold Does; (try go_simp); first | exact ⟨rfl, hS⟩ | exact rfl | (simp only [Give_enter]; obtain ⟨c_S, b_S, z_S⟩ := hS; (first | (go_at_call 74; first | ((with_reducible refine (rBit_calls d.b 0 _).mono ?_); rw [H0.out]) | ((with_reducible refine (rBit_calls d.b 1 _).mono ?_); rw [H1.out]))); rintro e w1 ⟨rfl, hb_1⟩; obtain ⟨hc_1, hf_1⟩ := bcell hb_1; have z_1 := hb_1.size; refine ⟨_, rfl, rfl, ⟨?_, ?_⟩, ?_, ?_⟩ <;> first | omega | (first | (go_simp; done) | ((repeat' (with_reducible first | exact bl0 | apply bl4 | apply bl5 | apply bl1 | refine bl2 ?_ (by first | omega | (simp only [World.size_alloc, World.size_setCell, World.size_drew]; omega)) | refine bl3 (by assumption) ?_)); done) | (refine bl3 (by assumption) ?_; (go_simp; done)) | (simp only [World.size_alloc, World.size_drew] at *; omega))))); case he => (simp only [Act.put, List.setIfInBounds_toArray, List.set_cons_succ, List.set_cons_zero]; exact rfl))
    apply Free.nil
    intro wf hS
    apply wpList_nil
    obtain ⟨cb, bel, s1⟩ := hS
    clear cb
    go_wp2
    refine bodyPost_ret ?_ rfl ⟨rfl, ?_⟩
    · rw [Hr.out]; simp [results, Try.results40, go_sem]
    · (repeat' (with_reducible first | exact bl0 | apply bl4 | apply bl5 | apply bl1 | refine bl2 ?_ (by first | omega | (simp only [World.size_alloc, World.size_setCell, World.size_drew]; omega)) | refine bl3 (by assumption) ?_))
  · have h2 : ((1 : Int) != 1) = false := rfl
    cases wr
    · cases o
      · go_enter Try.func40, Try.ntmps40
        go_wp2
        (try (go_region; all_goals go_wp2))
        refine bodyPost_ret ?_ rfl ⟨rfl, ?_⟩
        · simp [results, Try.results40, go_sem, reply]
        · (repeat' (with_reducible first | exact bl0 | apply bl4 | apply bl5 | apply bl1 | refine bl2 ?_ (by first | omega | (simp only [World.size_alloc, World.size_setCell, World.size_drew]; omega)) | refine bl3 (by assumption) ?_))
      · go_enter Try.func40, Try.ntmps40
        go_wp2
        (try (go_region; all_goals go_wp2))
        all_goals refine bodyPost_ret ?_ rfl ⟨rfl, ?_⟩
        all_goals first | (simp [results, Try.results40, go_sem, reply, *]; done) | (simp [results, Try.results40, go_sem, reply]; omega) | (repeat' (with_reducible first | exact bl0 | apply bl4 | apply bl5 | apply bl1 | refine bl2 ?_ (by first | omega | (simp only [World.size_alloc, World.size_setCell, World.size_drew]; omega)) | refine bl3 (by assumption) ?_))
    · go_enter Try.func40, Try.ntmps40
      go_wp2
      (try (go_region; all_goals go_wp2))
      refine bodyPost_ret ?_ rfl ⟨rfl, ?_⟩
      · simp [results, Try.results40, go_sem, reply]
      · (repeat' (with_reducible first | exact bl0 | apply bl4 | apply bl5 | apply bl1 | refine bl2 ?_ (by first | omega | (simp only [World.size_alloc, World.size_setCell, World.size_drew]; omega)) | refine bl3 (by assumption) ?_))
  · have b1 : (p == 1) = false := by simpa using h1
    have b1' : (p != 1) = true := by simpa using h1
    have b2 : (p == 2) = false := by simpa using h2
    have Hr := hide (show reply p ⟨c, o, hs, v⟩ wr d = (0, false, false) from by simp [reply, h1, h2])
    clear h1 h2
    go_enter Try.func40, Try.ntmps40
    go_wp2
    (try (go_region; all_goals go_wp2))
    refine bodyPost_ret ?_ rfl ⟨rfl, ?_⟩
    · rw [Hr.out]; simp [results, Try.results40, go_sem]
    · (repeat' (with_reducible first | exact bl0 | apply bl4 | apply bl5 | apply bl1 | refine bl2 ?_ (by first | omega | (simp only [World.size_alloc, World.size_setCell, World.size_drew]; omega)) | refine bl3 (by assumption) ?_))
theorem rReply_calls (p : Int) (b : Bun) (wr : Bool) (d : I3) (w : World) :
    Calls Try.prog 40 #[.int .i64 p, .agg #[.int .i64 b.c, .bool b.o, .bool b.h, .int .i64 b.d], .bool wr, .agg #[.int .i64 d.a, .int .i64 d.b, .int .i64 d.c]] w fun e w' => e = .returned (.tuple #[.int .i64 (reply p b wr d).1, .bool (reply p b wr d).2.1, .bool (reply p b wr d).2.2]) ∧ Below w.heap.size w w' :=
  rReply_calls' p b.c b.o b.h b.d wr d w
end Go.Proofs.Ytipibgamajhgbaa
