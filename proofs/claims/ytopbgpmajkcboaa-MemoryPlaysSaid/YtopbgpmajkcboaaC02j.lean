/- What the reference's Join comes to. -/
import Derived.Test.YtopbgpmajkcboaaC03
namespace Go.Proofs.Ytopbgpmajkcboaa
open Go.RowKit
set_option linter.unusedVariables false
set_option linter.unusedSimpArgs false
set_option maxHeartbeats 2000000 in
theorem rJoin_calls' (c1 : Int) (o1 h1 : Bool) (d1 : Int) (c2 : Int) (o2 h2 : Bool) (d2 : Int) (w : World) :
    Calls Try.prog 26 #[.agg #[.int .i64 c1, .bool o1, .bool h1, .int .i64 d1], .agg #[.int .i64 c2, .bool o2, .bool h2, .int .i64 d2]] w fun e w' => e = .returned (.agg #[.int .i64 (rjoin ⟨c1, o1, h1, d1⟩ ⟨c2, o2, h2, d2⟩).c, .bool (rjoin ⟨c1, o1, h1, d1⟩ ⟨c2, o2, h2, d2⟩).o, .bool (rjoin ⟨c1, o1, h1, d1⟩ ⟨c2, o2, h2, d2⟩).h, .int .i64 (rjoin ⟨c1, o1, h1, d1⟩ ⟨c2, o2, h2, d2⟩).d]) ∧ Below w.heap.size w w' := by
  cases o2 <;> cases h2
  all_goals
    go_enter Try.func26, Try.ntmps26
    go_wp2
    refine bodyPost_ret ?_ rfl ⟨rfl, ?_⟩
    · simp (maxDischargeDepth := 9) [results, Try.results26, go_sem, rjoin]
    · (repeat' (with_reducible first | exact bl0 | apply bl4 | apply bl5 | apply bl1 | refine bl2 ?_ (by first | omega | (simp only [World.size_alloc, World.size_setCell, World.size_drew]; omega)) | refine bl3 (by assumption) ?_))
theorem rJoin_calls (a b : Bun) (w : World) :
    Calls Try.prog 26 #[.agg #[.int .i64 a.c, .bool a.o, .bool a.h, .int .i64 a.d], .agg #[.int .i64 b.c, .bool b.o, .bool b.h, .int .i64 b.d]] w fun e w' => e = .returned (.agg #[.int .i64 (rjoin a b).c, .bool (rjoin a b).o, .bool (rjoin a b).h, .int .i64 (rjoin a b).d]) ∧ Below w.heap.size w w' :=
  rJoin_calls' a.c a.o a.h a.d b.c b.o b.h b.d w
end Go.Proofs.Ytopbgpmajkcboaa
