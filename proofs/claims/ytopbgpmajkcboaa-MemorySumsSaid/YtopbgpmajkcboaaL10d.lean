/- MemorySums of layer 10: its walk. No condition. -/
import Derived.Test.YtopbgpmajkcboaaY12
namespace Go.Proofs.Ytopbgpmajkcboaa
open Go.RowKit
set_option linter.unusedVariables false
theorem MemorySums_walk (w : World) (s : I2) (hs : okI2 s) (A : Option Addr) (n c : Nat) (l : List Act10) (R : Rdc Act10.cs 9 w A n c l) (hl : ∀ r ∈ l, okAct10 r) (b : Int) (hb : okI b) :
    Calls Try.prog 4 #[.agg #[.int .i64 s.a, .int .i64 s.b], .slice A n c, .int .i64 b] w fun e w' => e = .returned (.bool true) ∧ Below w.heap.size w w' :=
  walk_of_con cMS_ok ⟨s, l, b⟩ trivial rfl rfl rfl w [_, _, _] ⟨rv_I2 hs, rv_vsl (t := .act10) Act10.cs R (fun r hr => reps_act10 (hl r hr)), rv_int0 hb, trivial⟩
end Go.Proofs.Ytopbgpmajkcboaa
