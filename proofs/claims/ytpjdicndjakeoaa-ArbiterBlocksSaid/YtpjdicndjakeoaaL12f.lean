/- ArbiterBlocks of layer 12: its walk. No condition. -/
import Derived.Test.YtpjdicndjakeoaaV18
namespace Go.Proofs.Ytpjdicndjakeoaa
open Go.RowKit
set_option linter.unusedVariables false
theorem ArbiterBlocks_walk (w : World) (n : Int) (hn : okI n) (A : Option Addr) (m c : Nat) (l : List Act12) (R : Rdc Act12.cs 4 w A m c l) (hl : ∀ r ∈ l, okAct12 r) (b : Int) (hb : okI b) :
    Calls Try.prog 6 #[.int .i64 n, .slice A m c, .int .i64 b] w fun e w' => e = .returned (.bool true) ∧ Below w.heap.size w w' :=
  walk_of_con cABk_ok ⟨n, l, b⟩ trivial rfl rfl rfl w [_, _, _] ⟨rv_int0 hn, rv_vsl (t := .act12) Act12.cs R (fun r hr => reps_act12 (hl r hr)), rv_int0 hb, trivial⟩
end Go.Proofs.Ytpjdicndjakeoaa
