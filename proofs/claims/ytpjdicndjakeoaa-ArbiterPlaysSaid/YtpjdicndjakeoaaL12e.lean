/- ArbiterPlays of layer 12: its walk. No condition. -/
import Derived.Test.YtpjdicndjakeoaaV17
namespace Go.Proofs.Ytpjdicndjakeoaa
open Go.RowKit
set_option linter.unusedVariables false
theorem ArbiterPlays_walk (w : World) (s : I2) (hs : okI2 s) (A : Option Addr) (m c : Nat) (l : List Act12) (R : Rdc Act12.cs 4 w A m c l) (hl : ∀ r ∈ l, okAct12 r) (q : Int) (hq : okI q) :
    Calls Try.prog 7 #[.agg #[.int .i64 s.a, .int .i64 s.b], .slice A m c, .int .i64 q] w fun e w' => e = .returned (.bool true) ∧ Below w.heap.size w w' :=
  walk_of_con cAP_ok ⟨s, l, q⟩ trivial rfl rfl rfl w [_, _, _] ⟨rv_I2 hs, rv_vsl (t := .act12) Act12.cs R (fun r hr => reps_act12 (hl r hr)), rv_int0 hq, trivial⟩
end Go.Proofs.Ytpjdicndjakeoaa
