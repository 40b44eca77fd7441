/- MemoryPlays of layer 10: its walk. No condition. -/
import Derived.Test.YtopbgpmajkcboaaY14
namespace Go.Proofs.Ytopbgpmajkcboaa
open Go.RowKit
set_option linter.unusedVariables false
theorem MemoryPlays_walk (w : World) (s : I2) (hs : okI2 s) (A : Option Addr) (n c : Nat) (l : List Act10) (R : Rdc Act10.cs 9 w A n c l) (hl : ∀ r ∈ l, okAct10 r) :
    Calls Try.prog 3 #[.agg #[.int .i64 s.a, .int .i64 s.b], .slice A n c] w fun e w' => e = .returned (.bool true) ∧ Below w.heap.size w w' :=
  walk_of_con cMP_ok ⟨s, l⟩ trivial rfl rfl rfl w [_, _] ⟨rv_I2 hs, rv_vsl (t := .act10) Act10.cs R (fun r hr => reps_act10 (hl r hr)), trivial⟩
end Go.Proofs.Ytopbgpmajkcboaa
