/- ArbiterOnce of layer 12: its walk. No condition. -/
import Derived.Test.YtpjdicndjakeoaaV8
namespace Go.Proofs.Ytpjdicndjakeoaa
open Go.RowKit
set_option linter.unusedVariables false
theorem ArbiterOnce_walk (w : World) (n : Int) (hn : okI n) (A : Option Addr) (m c : Nat) (l : List Act12) (R : Rdc Act12.cs 4 w A m c l) (hl : ∀ r ∈ l, okAct12 r) :
    Calls Try.prog 4 #[.int .i64 n, .slice A m c] w fun e w' => e = .returned (.bool true) ∧ Below w.heap.size w w' :=
  walk_of_con cAO_ok ⟨n, l⟩ trivial rfl rfl rfl w [_, _] ⟨rv_int0 hn, rv_vsl (t := .act12) Act12.cs R (fun r hr => reps_act12 (hl r hr)), trivial⟩
end Go.Proofs.Ytpjdicndjakeoaa
