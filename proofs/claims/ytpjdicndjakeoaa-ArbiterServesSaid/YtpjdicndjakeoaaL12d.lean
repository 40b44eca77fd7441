/- ArbiterServes of layer 12: its walk. No condition. -/
import Derived.Test.YtpjdicndjakeoaaV10
namespace Go.Proofs.Ytpjdicndjakeoaa
open Go.RowKit
set_option linter.unusedVariables false
theorem ArbiterServes_walk (w : World) (n : Int) (hn : okI n) (A : Option Addr) (m c : Nat) (l : List Int) (R : Rdc icell 1 w A m c l) (hl : ∀ r ∈ l, okI r) :
    Calls Try.prog 3 #[.int .i64 n, .slice A m c] w fun e w' => e = .returned (.bool true) ∧ Below w.heap.size w w' :=
  walk_of_con cAS_ok ⟨n, l⟩ trivial rfl rfl rfl w [_, _] ⟨rv_int0 hn, rv_vsl (t := .int) icell R (fun r hr => plain_reps (az := enc .int r) rfl ⟨hl r hr, trivial⟩), trivial⟩
end Go.Proofs.Ytpjdicndjakeoaa
