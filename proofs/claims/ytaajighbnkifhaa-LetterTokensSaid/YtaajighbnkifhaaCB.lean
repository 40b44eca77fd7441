/- What bundle.Check, and the reference's, come to. -/
import Derived.Test.YtaajighbnkifhaaProg
import Derived.Test.YtaajighbnkifhaaK
namespace Go.Proofs.Ytaajighbnkifhaa
open Go.RowKit
set_option linter.unusedVariables false
set_option linter.unusedSimpArgs false
set_option maxHeartbeats 2000000 in
theorem rCheck_calls (b : Bun) (t : Int) (w : World) :
    Calls Try.prog 26 #[.agg #[.int .i64 b.c, .bool b.o, .bool b.h, .int .i64 b.d], .int .i64 t] w fun e w' => e = .returned (.int .i64 (bcheck b t)) ∧ Below w.heap.size w w' := by
  obtain ⟨c, o, h1, d⟩ := b
  cases o <;> cases h1
  all_goals
    go_enter Try.func26, Try.ntmps26
    go_wp2
    all_goals
      go_ret
      refine ⟨ret_int ?_, ?_⟩
      · (try simp only [bne_iff_ne, ne_eq, bne_eq_false_iff_eq] at *); simp [bcheck]; try omega
      · (repeat' (with_reducible first | exact bl0 | apply bl4 | apply bl5 | apply bl1 | refine bl2 ?_ (by first | omega | (simp only [World.size_alloc, World.size_setCell, World.size_drew]; omega)) | refine bl3 (by assumption) ?_))
set_option maxHeartbeats 2000000 in
theorem bCheck_calls (b : Bun) (t : Int) (w : World) :
    Calls Try.prog 23 #[.agg #[.int .i64 b.c, .bool b.o, .bool b.h, .int .i64 b.d], .int .i64 t] w fun e w' => e = .returned (.int .i64 (bcheck b t)) ∧ Below w.heap.size w w' := by
  obtain ⟨c, o, h1, d⟩ := b
  cases o <;> cases h1
  all_goals
    go_enter Try.func23, Try.ntmps23
    go_wp2
    all_goals
      go_ret
      refine ⟨ret_int ?_, ?_⟩
      · (try simp only [bne_iff_ne, ne_eq, bne_eq_false_iff_eq] at *); simp [bcheck]; try omega
      · (repeat' (with_reducible first | exact bl0 | apply bl4 | apply bl5 | apply bl1 | refine bl2 ?_ (by first | omega | (simp only [World.size_alloc, World.size_setCell, World.size_drew]; omega)) | refine bl3 (by assumption) ?_))
end Go.Proofs.Ytaajighbnkifhaa
