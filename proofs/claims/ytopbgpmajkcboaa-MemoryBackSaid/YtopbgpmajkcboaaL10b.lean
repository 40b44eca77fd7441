/- MemoryBack of layer 10: its walk. No condition. -/
import Derived.Test.YtopbgpmajkcboaaY10
namespace Go.Proofs.Ytopbgpmajkcboaa
open Go.RowKit
set_option linter.unusedVariables false
theorem MemoryBack_walk (c : Int) (hc : okI c) (h : B2) (hh : okB2 h) (b : Int) (hb : okI b) (w : World) :
    Calls Try.prog 6 #[.int .i64 c, .agg #[.bool h.a, .bool h.b], .int .i64 b] w fun e w' => e = .returned (.bool true) ∧ Below w.heap.size w w' :=
  walk_of_con cMB_ok ⟨c, h, b⟩ trivial rfl rfl rfl w [_, _, _] ⟨rv_int0 hc, rv_B2, rv_int0 hb, trivial⟩
end Go.Proofs.Ytopbgpmajkcboaa
