/- TablePlays of layer 11: its walk. No condition. -/
import Derived.Test.YtjapmlolgfgbaaaU13
namespace Go.Proofs.Ytjapmlolgfgbaaa
open Go.RowKit
set_option linter.unusedVariables false
theorem TablePlays_walk (w : World) (A : Option Addr) (m c : Nat) (l : List Act11) (R : Rdc Act11.cs 4 w A m c l) (hl : ∀ r ∈ l, okAct11 r) (b : Int) (hb : okI b) :
    Calls Try.prog 6 #[.slice A m c, .int .i64 b] w fun e w' => e = .returned (.bool true) ∧ Below w.heap.size w w' :=
  walk_of_con cPlay_ok ⟨l, b⟩ trivial rfl rfl rfl w [_, _] ⟨rv_vsl (t := .act11) Act11.cs R (fun r hr => reps_act11 (hl r hr)), rv_int0 hb, trivial⟩
end Go.Proofs.Ytjapmlolgfgbaaa
