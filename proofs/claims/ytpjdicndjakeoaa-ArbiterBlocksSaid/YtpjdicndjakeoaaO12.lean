/- How the plain structs of layer 12's laws read: each cell of a record by its kind. -/
import Derived.Test.YtpjdicndjakeoaaRows
import Derived.Test.YtpjdicndjakeoaaK
import Derived.Test.YtpjdicndjakeoaaD
namespace Go.Proofs.Ytpjdicndjakeoaa
open Go.ChangeShapes Go.WideShapes Go.ChangeAt Go.RowKit
set_option linter.unusedVariables false
set_option maxRecDepth 100000
theorem open_I2 {H : Type} {enc : TypeId × Value → H} {w : World} {base : Nat} {spare : Nat → Bool} {held : Bool} {fuel : Nat} {cs : List Value} {x : DataW H × List MemPlace} (h : DataW.trod enc Try.prog w base spare held fuel 40 cs = some x) : ∃ r : I2, cs = r.cs ∧ okI2 r := by
  obtain ⟨xs, n, -, -, hl, hxl, hg⟩ := DataW.trod_array Try.underlying40 h
  rw [show Try.prog.cellsOf 40 = 2 from by kernel_rfl] at hl
  match cs, hl with
  | [c0, c1], _ =>
    have g0 : DataW.trod enc Try.prog w base spare held n 3 (List.take (Try.prog.cellsOf 3) (List.drop (0 * Try.prog.cellsOf 3) [c0, c1])) = xs[0]? := hg 0 (by omega)
    rw [show xs[0]? = some (xs[0]'(by rw [hxl]; decide)) from List.getElem?_eq_getElem _, show Try.prog.cellsOf 3 = 1 from by kernel_rfl] at g0
    replace g0 : DataW.trod enc Try.prog w base spare held n 3 [c0] = some _ := g0
    obtain ⟨n0, e0, -, w0⟩ := DataW.trod_int Try.underlying3 g0
    simp only [List.cons.injEq, and_true] at e0
    obtain rfl := e0
    have g1 : DataW.trod enc Try.prog w base spare held n 3 (List.take (Try.prog.cellsOf 3) (List.drop (1 * Try.prog.cellsOf 3) [.int .i64 n0, c1])) = xs[1]? := hg 1 (by omega)
    rw [show xs[1]? = some (xs[1]'(by rw [hxl]; decide)) from List.getElem?_eq_getElem _, show Try.prog.cellsOf 3 = 1 from by kernel_rfl] at g1
    replace g1 : DataW.trod enc Try.prog w base spare held n 3 [c1] = some _ := g1
    obtain ⟨n1, e1, -, w1⟩ := DataW.trod_int Try.underlying3 g1
    simp only [List.cons.injEq, and_true] at e1
    obtain rfl := e1
    exact ⟨⟨n0, n1⟩, rfl, ⟨bounds_i64 w0, bounds_i64 w1⟩⟩
theorem open_Act12 {H : Type} {enc : TypeId × Value → H} {w : World} {base : Nat} {spare : Nat → Bool} {held : Bool} {fuel : Nat} {cs : List Value} {x : DataW H × List MemPlace} (h : DataW.trod enc Try.prog w base spare held fuel 38 cs = some x) : ∃ r : Act12, cs = r.cs ∧ okAct12 r := by
  obtain ⟨xs, n, -, -, hl, hxl, hg⟩ := DataW.trod_struct Try.underlying38 h
  rw [show Try.prog.cellsOf 38 = 4 from by kernel_rfl] at hl
  match cs, hl with
  | [c0, c1, c2, c3], _ =>
    have g0 : DataW.trod enc Try.prog w base spare held n 3 (List.take (Try.prog.cellsOf 3) (List.drop 0 [c0, c1, c2, c3])) = xs[0]? := hg 0 _ rfl
    rw [show xs[0]? = some (xs[0]'(by rw [hxl]; decide)) from List.getElem?_eq_getElem _, show Try.prog.cellsOf 3 = 1 from by kernel_rfl] at g0
    replace g0 : DataW.trod enc Try.prog w base spare held n 3 [c0] = some _ := g0
    obtain ⟨n0, e0, -, w0⟩ := DataW.trod_int Try.underlying3 g0
    simp only [List.cons.injEq, and_true] at e0
    obtain rfl := e0
    have g1 : DataW.trod enc Try.prog w base spare held n 3 (List.take (Try.prog.cellsOf 3) (List.drop 1 [.int .i64 n0, c1, c2, c3])) = xs[1]? := hg 1 _ rfl
    rw [show xs[1]? = some (xs[1]'(by rw [hxl]; decide)) from List.getElem?_eq_getElem _, show Try.prog.cellsOf 3 = 1 from by kernel_rfl] at g1
    replace g1 : DataW.trod enc Try.prog w base spare held n 3 [c1] = some _ := g1
    obtain ⟨n1, e1, -, w1⟩ := DataW.trod_int Try.underlying3 g1
    simp only [List.cons.injEq, and_true] at e1
    obtain rfl := e1
    have g2 : DataW.trod enc Try.prog w base spare held n 3 (List.take (Try.prog.cellsOf 3) (List.drop 2 [.int .i64 n0, .int .i64 n1, c2, c3])) = xs[2]? := hg 2 _ rfl
    rw [show xs[2]? = some (xs[2]'(by rw [hxl]; decide)) from List.getElem?_eq_getElem _, show Try.prog.cellsOf 3 = 1 from by kernel_rfl] at g2
    replace g2 : DataW.trod enc Try.prog w base spare held n 3 [c2] = some _ := g2
    obtain ⟨n2, e2, -, w2⟩ := DataW.trod_int Try.underlying3 g2
    simp only [List.cons.injEq, and_true] at e2
    obtain rfl := e2
    have g3 : DataW.trod enc Try.prog w base spare held n 3 (List.take (Try.prog.cellsOf 3) (List.drop 3 [.int .i64 n0, .int .i64 n1, .int .i64 n2, c3])) = xs[3]? := hg 3 _ rfl
    rw [show xs[3]? = some (xs[3]'(by rw [hxl]; decide)) from List.getElem?_eq_getElem _, show Try.prog.cellsOf 3 = 1 from by kernel_rfl] at g3
    replace g3 : DataW.trod enc Try.prog w base spare held n 3 [c3] = some _ := g3
    obtain ⟨n3, e3, -, w3⟩ := DataW.trod_int Try.underlying3 g3
    simp only [List.cons.injEq, and_true] at e3
    obtain rfl := e3
    exact ⟨⟨n0, n1, n2, n3⟩, rfl, ⟨bounds_i64 w0, bounds_i64 w1, bounds_i64 w2, bounds_i64 w3⟩⟩
theorem opens_Act12 {H : Type} {enc : TypeId × Value → H} {w : World} {held : Bool} {spare : Nat → Bool} {fuel : Nat} {A : Option Addr} {n c : Nat} {x : DataW H × List MemPlace} (h : DataW.trod enc Try.prog w 0 spare held fuel 36 [.slice A n c] = some x) : ∃ xs : List Act12, Rd Act12.cs 4 w A n c xs ∧ ∀ r ∈ xs, okAct12 r :=
  open_rd Act12.cs 4 Try.underlying36 (by kernel_rfl) (by decide) (fun _ => rfl) (fun h => open_Act12 h) h
theorem opensc_Act12 {H : Type} {enc : TypeId × Value → H} {w : World} {held : Bool} {spare : Nat → Bool} {fuel : Nat} {A : Option Addr} {n c : Nat} {x : DataW H × List MemPlace} (h : DataW.trod enc Try.prog w 0 spare held fuel 36 [.slice A n c] = some x) : ∃ xs : List Act12, Rdc Act12.cs 4 w A n c xs ∧ ∀ r ∈ xs, okAct12 r := by
  obtain ⟨xs, h1, h2⟩ := opens_Act12 h
  exact ⟨xs, ⟨h1, open_none Try.underlying36 h⟩, h2⟩
end Go.Proofs.Ytpjdicndjakeoaa
