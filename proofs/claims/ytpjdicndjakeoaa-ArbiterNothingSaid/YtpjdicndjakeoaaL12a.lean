/- ArbiterNothing of layer 12: its walk. No condition. -/
import Derived.Test.YtpjdicndjakeoaaV7
namespace Go.Proofs.Ytpjdicndjakeoaa
open Go.RowKit
set_option linter.unusedVariables false
theorem ArbiterNothing_walk (s : I2) (hs : okI2 s) (x : Act12) (hx : okAct12 x) (w : World) :
    Calls Try.prog 5 #[.agg #[.int .i64 s.a, .int .i64 s.b], .agg #[.int .i64 x.kind, .int .i64 x.block, .int .i64 x.seq, .int .i64 x.node]] w fun e w' => e = .returned (.bool true) ∧ Below w.heap.size w w' :=
  walk_of_con cAN_ok ⟨s, x⟩ trivial rfl rfl rfl w [_, _] ⟨rv_I2 hs, rv_act12 hx, trivial⟩
end Go.Proofs.Ytpjdicndjakeoaa
