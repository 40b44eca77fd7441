/- Bits, lists of numbers: what num.Bit, the reference's Bit, and Ints come to. -/
import Derived.Test.YtkamhamgpinhkaaProg
import Derived.Test.YtkamhamgpinhkaaG
import Derived.IntWalk
import Derived.Laws.BitsLemmas
import Derived.Laws.Bits64
namespace Go.Proofs.Ytkamhamgpinhkaa
open Go.RowKit
set_option linter.unusedVariables false
set_option linter.unusedSimpArgs false
/-- Whether a number's bit is 1. -/
def ubit (n : Int) (k : Nat) : Bool := decide (IntKind.u64.wrap n / 2 ^ k % 2 = 1)
def bit (n at' : Int) : Bool := decide (0 ≤ at') && decide (at' < 64) && ubit n at'.toNat
theorem u64_range (n : Int) : 0 ≤ IntKind.u64.wrap n ∧ IntKind.u64.wrap n < 2 ^ 64 := by rw [IntKind.wrap_u64]; omega
theorem div_pow_range (n : Int) (k : Nat) : 0 ≤ IntKind.u64.wrap n / 2 ^ k ∧ IntKind.u64.wrap n / 2 ^ k < 2 ^ 64 := by
  obtain ⟨h0, h1⟩ := u64_range n
  have hp : (0 : Int) < 2 ^ k := Int.pow_pos (by omega)
  refine ⟨Int.ediv_nonneg h0 (Int.le_of_lt hp), Int.lt_of_le_of_lt (Int.ediv_le_self _ h0) h1⟩
theorem and_one (n : Int) (k : Nat) : bits .and .u64 (IntKind.u64.wrap n / 2 ^ k) 1 = IntKind.u64.wrap n / 2 ^ k % 2 := by
  obtain ⟨h0, h1⟩ := div_pow_range n k
  have := bits_mask .u64 64 (by decide) (fun n h0 h1 => by rw [IntKind.wrap_u64]; omega) 1 (by decide) (IntKind.u64.wrap n / 2 ^ k) h0 h1
  simpa using this
theorem and_one_eq (n : Int) (k : Nat) : (bits .and .u64 (IntKind.u64.wrap n / 2 ^ k) 1 == 1) = ubit n k := by
  rw [and_one]; unfold ubit
  by_cases h : IntKind.u64.wrap n / 2 ^ k % 2 = 1 <;> simp [h]
theorem half_step (n : Int) (j : Nat) : IntKind.u64.wrap ((IntKind.u64.wrap n / 2 ^ j).tdiv 2) = IntKind.u64.wrap n / 2 ^ (j + 1) := by
  obtain ⟨h0, h1⟩ := div_pow_range n j
  have hp : (0 : Int) < 2 ^ j := Int.pow_pos (by omega)
  rw [Int.pow_succ, Int.tdiv_eq_ediv_of_nonneg h0, IntKind.wrap_u64]
  have e : IntKind.u64.wrap n / (2 ^ j * 2) = IntKind.u64.wrap n / 2 ^ j / 2 := by rw [Int.ediv_ediv, if_neg (fun h => by omega)]; simp
  rw [e]
  omega
theorem tmod_two (n : Int) (j : Nat) : ((IntKind.u64.wrap n / 2 ^ j).tmod 2 == 1) = ubit n j := by
  obtain ⟨h0, h1⟩ := div_pow_range n j
  rw [Int.tmod_eq_emod_of_nonneg h0]; unfold ubit
  by_cases h : IntKind.u64.wrap n / 2 ^ j % 2 = 1 <;> simp [h]
theorem Bit_calls (n k : Int) (w : World) : Calls Try.prog 18 #[.int .i64 n, .int .i64 k] w fun e w' => e = .returned (.bool (bit n k)) ∧ Below w.heap.size w w' := by
  by_cases h0 : k < 0
  · go_enter Try.func18, Try.ntmps18
    go_wp2
    go_ret
    exact ⟨ret_bool (by simp [bit]; omega), bl0⟩
  by_cases h1 : 64 ≤ k
  · go_enter Try.func18, Try.ntmps18
    go_wp2
    go_ret
    exact ⟨ret_bool (by simp [bit]; omega), bl0⟩
  have h2 : 0 ≤ k := by omega
  have h3 : k < 64 := by omega
  clear h0 h1
  go_enter Try.func18, Try.ntmps18
  go_wp2
  go_ret
  exact ⟨ret_bool (by rw [and_one_eq]; simp [bit, h2, h3]), bl0⟩
theorem rBit_calls (n k : Int) (w : World) : Calls Try.prog 19 #[.int .i64 n, .int .i64 k] w fun e w' => e = .returned (.bool (bit n k)) ∧ Below w.heap.size w w' := by
  by_cases h0 : k < 0
  · go_enter Try.func19, Try.ntmps19
    go_wp2
    go_ret
    exact ⟨ret_bool (by simp [bit]; omega), bl0⟩
  by_cases h1 : 63 < k
  · go_enter Try.func19, Try.ntmps19
    go_wp2
    go_ret
    exact ⟨ret_bool (by simp [bit]; omega), bl0⟩
  have h2 : 0 ≤ k := by omega
  have h3 : k ≤ 63 := by omega
  clear h0 h1
  go_enter Try.func19, Try.ntmps19
  go_wp2
  go_loopw [5, 6] (fun x i wr => ∃ j : Nat, (j : Int) ≤ k ∧ i = .int .i64 j ∧ x = .int .u64 (IntKind.u64.wrap n / 2 ^ j) ∧ wr = w) (fun _ i _ => (k - intOf i).toNat)
  case atStart => exact ⟨0, by omega, rfl, by simp, rfl⟩
  case round =>
    obtain ⟨j, hj, rfl, rfl, rfl⟩ := hrel
    by_cases hlt : (j : Int) < k
    · go_wp2
      go_roundw
      case rel => exact ⟨j + 1, by omega, by go_num, by rw [half_step], trivial⟩
      case measure => simp [intOf]; omega
    · go_wp2
      go_ret
      have e : k.toNat = j := by omega
      exact ⟨ret_bool (by rw [tmod_two]; simp [bit, h2, e]; omega), bl0⟩
end Go.Proofs.Ytkamhamgpinhkaa
