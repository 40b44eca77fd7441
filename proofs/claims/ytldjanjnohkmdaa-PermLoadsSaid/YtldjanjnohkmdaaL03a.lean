/- The statements of layer 3: what 'awake' comes to. -/
import Derived.Test.YtldjanjnohkmdaaC03
namespace Go.Proofs.Ytldjanjnohkmdaa
open Go.RowKit
set_option linter.unusedVariables false
set_option linter.unusedSimpArgs false
theorem awk1 (w : World) : Calls Try.prog 13 #[.agg #[.int .i64 0, .bool true, .int .i64 9], .agg #[.int .i64 3, .bool false, .bool true, .int .i64 7], .int .i64 3] w fun e w' => e = .returned (.tuple #[.agg #[.int .i64 3, .bool false, .bool true, .int .i64 9], .int .i64 9, .bool true]) ∧ Below w.heap.size w w' :=
  Do_calls ⟨0, true, 9⟩ ⟨3, false, true, 7⟩ 3 w
theorem awk2 (w : World) : Calls Try.prog 13 #[.agg #[.int .i64 0, .bool false, .int .i64 0], .agg #[.int .i64 1, .bool false, .bool true, .int .i64 7], .int .i64 3] w fun e w' => e = .returned (.tuple #[.agg #[.int .i64 1, .bool false, .bool true, .int .i64 7], .int .i64 7, .bool true]) ∧ Below w.heap.size w w' :=
  Do_calls ⟨0, false, 0⟩ ⟨1, false, true, 7⟩ 3 w
theorem awk3 (w : World) : Calls Try.prog 13 #[.agg #[.int .i64 0, .bool true, .int .i64 0], .agg #[.int .i64 1, .bool false, .bool true, .int .i64 7], .int .i64 3] w fun e w' => e = .returned (.tuple #[.agg #[.int .i64 1, .bool false, .bool true, .int .i64 7], .int .i64 0, .bool false]) ∧ Below w.heap.size w w' :=
  Do_calls ⟨0, true, 0⟩ ⟨1, false, true, 7⟩ 3 w
theorem awk4 (w : World) : Calls Try.prog 10 #[.agg #[.int .i64 1, .bool false, .bool false, .int .i64 0]] w fun e w' => e = .returned (.bool false) ∧ Below w.heap.size w w' :=
  Reads_calls ⟨1, false, false, 0⟩ w
theorem awk5 (w : World) : Calls Try.prog 12 #[.agg #[.int .i64 3, .bool false, .bool true, .int .i64 9], .int .i64 3] w fun e w' => e = .returned (.bool true) ∧ Below w.heap.size w w' :=
  Writes_calls ⟨3, false, true, 9⟩ 3 w
set_option maxHeartbeats 2000000 in
theorem awake_calls (w : World) : Calls Try.prog 9 #[] w fun e w' => e = .returned (.bool true) ∧ Below w.heap.size w w' := by
  go_enter Try.func9, Try.ntmps9
  go_wp2_with fail
  refine (awk1 _).mono ?_
  rintro e w1 ⟨rfl, hb_w1⟩; obtain ⟨hc_w1, hf_w1⟩ := bcell hb_w1
  go_wp2_with fail
  refine (awk2 _).mono ?_
  rintro e w2 ⟨rfl, hb_w2⟩; obtain ⟨hc_w2, hf_w2⟩ := bcell hb_w2
  go_wp2_with fail
  refine (awk3 _).mono ?_
  rintro e w3 ⟨rfl, hb_w3⟩; obtain ⟨hc_w3, hf_w3⟩ := bcell hb_w3
  have z2 := hb_w2.size
  have z3 := hb_w3.size
  simp only [World.size_alloc, World.size_setCell] at z2 z3
  have z21 : w1.heap.size < w2.heap.size := by omega
  have z31 : w1.heap.size < w3.heap.size := by omega
  go_wp2_with fail
  refine (awk4 _).mono ?_
  rintro e w4 ⟨rfl, hb_w4⟩; obtain ⟨hc_w4, hf_w4⟩ := bcell hb_w4
  have z4 := hb_w4.size
  simp only [World.size_alloc, World.size_setCell] at z4
  have z41 : w1.heap.size < w4.heap.size := by omega
  have z42 : w1.heap.size < w3.heap.size + 1 := by omega
  go_wp2_with fail
  refine (awk5 _).mono ?_
  rintro e w5 ⟨rfl, hb_w5⟩
  go_wp2_with fail
  go_ret
  exact ⟨rfl, (by (repeat' (with_reducible first | exact bl0 | apply bl4 | apply bl5 | apply bl1 | refine bl2 ?_ (by first | omega | (simp only [World.size_alloc, World.size_setCell, World.size_drew]; omega)) | refine bl3 (by assumption) ?_)))⟩
end Go.Proofs.Ytldjanjnohkmdaa
