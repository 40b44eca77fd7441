/- MemoryTakes of layer 10: its walk. No condition. -/
import Derived.Test.YtopbgpmajkcboaaY9
namespace Go.Proofs.Ytopbgpmajkcboaa
open Go.RowKit
set_option linter.unusedVariables false
theorem MemoryTakes_walk (c : Int) (hc : okI c) (h : B2) (hh : okB2 h) (b : I2) (hb : okI2 b) (w : World) :
    Calls Try.prog 5 #[.int .i64 c, .agg #[.bool h.a, .bool h.b], .agg #[.int .i64 b.a, .int .i64 b.b]] w fun e w' => e = .returned (.bool true) ∧ Below w.heap.size w w' :=
  walk_of_con cMT_ok ⟨c, h, b⟩ trivial rfl rfl rfl w [_, _, _] ⟨rv_int0 hc, rv_B2, rv_I2 hb, trivial⟩
end Go.Proofs.Ytopbgpmajkcboaa
