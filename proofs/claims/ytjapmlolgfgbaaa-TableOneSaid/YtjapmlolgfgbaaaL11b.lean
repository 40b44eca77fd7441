/- TableOne of layer 11: its walk. No condition. -/
import Derived.Test.YtjapmlolgfgbaaaU8
namespace Go.Proofs.Ytjapmlolgfgbaaa
open Go.RowKit
set_option linter.unusedVariables false
theorem TableOne_walk (w : World) (A : Option Addr) (m c : Nat) (l : List Atv) (R : Rdc Atv.cs 3 w A m c l) (hl : ∀ r ∈ l, okAtv r) :
    Calls Try.prog 4 #[.slice A m c] w fun e w' => e = .returned (.bool true) ∧ Below w.heap.size w w' :=
  walk_of_con cOne_ok l trivial rfl rfl rfl w [_] ⟨rv_vsl (t := .atv) Atv.cs R (fun r hr => reps_atv (hl r hr)), trivial⟩
end Go.Proofs.Ytjapmlolgfgbaaa
