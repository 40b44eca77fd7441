/- TableCopies of layer 11: its walk. No condition. -/
import Derived.Test.YtjapmlolgfgbaaaU9
namespace Go.Proofs.Ytjapmlolgfgbaaa
open Go.RowKit
set_option linter.unusedVariables false
theorem TableCopies_walk (w : World) (A : Option Addr) (m c : Nat) (l : List Act11) (R : Rdc Act11.cs 4 w A m c l) (hl : ∀ r ∈ l, okAct11 r) (A' : Option Addr) (m' c' : Nat) (l' : List Act11) (R' : Rdc Act11.cs 4 w A' m' c' l') (hl' : ∀ r ∈ l', okAct11 r) :
    Calls Try.prog 7 #[.slice A m c, .slice A' m' c'] w fun e w' => e = .returned (.bool true) ∧ Below w.heap.size w w' :=
  walk_of_con cCop_ok ⟨l, l'⟩ trivial rfl rfl rfl w [_, _] ⟨rv_vsl (t := .act11) Act11.cs R (fun r hr => reps_act11 (hl r hr)), rv_vsl (t := .act11) Act11.cs R' (fun r hr => reps_act11 (hl' r hr)), trivial⟩
end Go.Proofs.Ytjapmlolgfgbaaa
