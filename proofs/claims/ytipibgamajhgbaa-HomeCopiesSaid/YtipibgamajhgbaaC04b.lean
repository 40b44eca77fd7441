/- What rows comes to. -/
import Derived.Test.YtipibgamajhgbaaGCa
namespace Go.Proofs.Ytipibgamajhgbaa
open Go.RowKit
set_option linter.unusedVariables false
set_option linter.unusedSimpArgs false
set_option maxHeartbeats 8000000 in
set_option maxRecDepth 100000 in
theorem rows_calls (k : Int) (w : World) : Calls Try.prog 58 #[.int .i64 k] w fun e w' => e = .returned (.tuple #[.agg #[.bool (rowOf k).1.fh, .bool (rowOf k).1.fn, .bool (rowOf k).1.th, .bool (rowOf k).1.tn, .bool (rowOf k).1.sq, .bool (rowOf k).1.wh, .bool (rowOf k).1.wt, .bool (rowOf k).1.tk], .bool (rowOf k).2]) ∧ Below w.heap.size w w' := by
  rcases (show k < 1 ∨ 7 < k ∨ k = 1 ∨ k = 2 ∨ k = 3 ∨ k = 4 ∨ k = 5 ∨ k = 6 ∨ k = 7 from by omega) with q | q | rfl | rfl | rfl | rfl | rfl | rfl | rfl
  iterate 2
    · have hr : rowOf k = (⟨false, false, false, false, false, false, false, false⟩, false) := by
        unfold rowOf
        rw [if_neg (by omega), if_neg (by omega), if_neg (by omega), if_neg (by omega), if_neg (by omega), if_neg (by omega), if_neg (by omega)]
      rw [hr]
      clear hr
      go_enter Try.func58, Try.ntmps58
      go_wp2
      refine bodyPost_ret ?_ rfl ⟨rfl, ?_⟩
      · simp (maxDischargeDepth := 9) [results, Try.results58, go_sem]
      · (repeat' (with_reducible first | exact bl0 | apply bl4 | apply bl5 | apply bl1 | refine bl2 ?_ (by first | omega | (simp only [World.size_alloc, World.size_setCell, World.size_drew]; omega)) | refine bl3 (by assumption) ?_))
  all_goals
    go_enter Try.func58, Try.ntmps58
    go_wp2
    unfold Oper.upon
    simp [execOp, Instr.index, asIntOf, run_underlying Try.underlying134, go_sem, part, run_sizeOf]
    go_wp2
    refine bodyPost_ret ?_ rfl ⟨rfl, ?_⟩
    · simp (maxDischargeDepth := 9) [results, Try.results58, go_sem, rowOf]
    · (repeat' (with_reducible first | exact bl0 | apply bl4 | apply bl5 | apply bl1 | refine bl2 ?_ (by first | omega | (simp only [World.size_alloc, World.size_setCell, World.size_drew]; omega)) | refine bl3 (by assumption) ?_))
end Go.Proofs.Ytipibgamajhgbaa
