/- ArbiterCopies of layer 12: its walk. No condition. -/
import Derived.Test.YtpjdicndjakeoaaV12
namespace Go.Proofs.Ytpjdicndjakeoaa
open Go.RowKit
set_option linter.unusedVariables false
theorem ArbiterCopies_walk (w : World) (n : Int) (hn : okI n) (A : Option Addr) (m c : Nat) (l : List Act12) (R : Rdc Act12.cs 4 w A m c l) (hl : ∀ r ∈ l, okAct12 r) (A' : Option Addr) (m' c' : Nat) (l' : List Act12) (R' : Rdc Act12.cs 4 w A' m' c' l') (hl' : ∀ r ∈ l', okAct12 r) :
    Calls Try.prog 8 #[.int .i64 n, .slice A m c, .slice A' m' c'] w fun e w' => e = .returned (.bool true) ∧ Below w.heap.size w w' :=
  walk_of_con cAC_ok ⟨n, l, l'⟩ trivial rfl rfl rfl w [_, _, _] ⟨rv_int0 hn, rv_vsl (t := .act12) Act12.cs R (fun r hr => reps_act12 (hl r hr)), rv_vsl (t := .act12) Act12.cs R' (fun r hr => reps_act12 (hl' r hr)), trivial⟩
end Go.Proofs.Ytpjdicndjakeoaa
