/- How a slice of numbers reads. -/
import Derived.Test.YtpjdicndjakeoaaO12
namespace Go.Proofs.Ytpjdicndjakeoaa
open Go.ChangeShapes Go.WideShapes Go.ChangeAt Go.RowKit
set_option linter.unusedVariables false
theorem open_int1 {H : Type} {enc : TypeId × Value → H} {w : World} {base : Nat} {spare : Nat → Bool} {held : Bool} {fuel : Nat} {cs : List Value} {x : DataW H × List MemPlace} (h : DataW.trod enc Try.prog w base spare held fuel 3 cs = some x) : ∃ r : Int, cs = icell r ∧ okI r := by
  obtain ⟨n, e, -, hw⟩ := DataW.trod_int Try.underlying3 h
  exact ⟨n, e, bounds_i64 hw⟩
theorem opensc_int {H : Type} {enc : TypeId × Value → H} {w : World} {held : Bool} {spare : Nat → Bool} {fuel : Nat} {A : Option Addr} {n c : Nat} {x : DataW H × List MemPlace} (h : DataW.trod enc Try.prog w 0 spare held fuel 22 [.slice A n c] = some x) : ∃ xs : List Int, Rdc icell 1 w A n c xs ∧ ∀ r ∈ xs, okI r := by
  obtain ⟨xs, h1, h2⟩ := open_rd icell 1 Try.underlying22 (by kernel_rfl) (by decide) (fun _ => rfl) (fun h => open_int1 h) h
  exact ⟨xs, ⟨h1, open_none Try.underlying22 h⟩, h2⟩
end Go.Proofs.Ytpjdicndjakeoaa
