/- How the plain structs of layer 10's laws read: each cell of a record by its kind. -/
import Derived.Test.YtopbgpmajkcboaaRows
import Derived.Test.YtopbgpmajkcboaaK
import Derived.Test.YtopbgpmajkcboaaD
namespace Go.Proofs.Ytopbgpmajkcboaa
open Go.ChangeShapes Go.WideShapes Go.ChangeAt Go.RowKit
set_option linter.unusedVariables false
set_option maxRecDepth 100000
theorem open_Bun {H : Type} {enc : TypeId × Value → H} {w : World} {base : Nat} {spare : Nat → Bool} {held : Bool} {fuel : Nat} {cs : List Value} {x : DataW H × List MemPlace} (h : DataW.trod enc Try.prog w base spare held fuel 31 cs = some x) : ∃ r : Bun, cs = r.cs ∧ okBun r := by
  obtain ⟨xs, n, -, -, hl, hxl, hg⟩ := DataW.trod_struct Try.underlying31 h
  rw [show Try.prog.cellsOf 31 = 4 from by kernel_rfl] at hl
  match cs, hl with
  | [c0, c1, c2, c3], _ =>
    have g0 : DataW.trod enc Try.prog w base spare held n 3 (List.take (Try.prog.cellsOf 3) (List.drop 0 [c0, c1, c2, c3])) = xs[0]? := hg 0 _ rfl
    rw [show xs[0]? = some (xs[0]'(by rw [hxl]; decide)) from List.getElem?_eq_getElem _, show Try.prog.cellsOf 3 = 1 from by kernel_rfl] at g0
    replace g0 : DataW.trod enc Try.prog w base spare held n 3 [c0] = some _ := g0
    obtain ⟨n0, e0, -, w0⟩ := DataW.trod_int Try.underlying3 g0
    simp only [List.cons.injEq, and_true] at e0
    obtain rfl := e0
    have g1 : DataW.trod enc Try.prog w base spare held n 4 (List.take (Try.prog.cellsOf 4) (List.drop 1 [.int .i64 n0, c1, c2, c3])) = xs[1]? := hg 1 _ rfl
    rw [show xs[1]? = some (xs[1]'(by rw [hxl]; decide)) from List.getElem?_eq_getElem _, show Try.prog.cellsOf 4 = 1 from by kernel_rfl] at g1
    replace g1 : DataW.trod enc Try.prog w base spare held n 4 [c1] = some _ := g1
    obtain ⟨n1, e1, -⟩ := DataW.trod_bool Try.underlying4 g1
    simp only [List.cons.injEq, and_true] at e1
    obtain rfl := e1
    have g2 : DataW.trod enc Try.prog w base spare held n 4 (List.take (Try.prog.cellsOf 4) (List.drop 2 [.int .i64 n0, .bool n1, c2, c3])) = xs[2]? := hg 2 _ rfl
    rw [show xs[2]? = some (xs[2]'(by rw [hxl]; decide)) from List.getElem?_eq_getElem _, show Try.prog.cellsOf 4 = 1 from by kernel_rfl] at g2
    replace g2 : DataW.trod enc Try.prog w base spare held n 4 [c2] = some _ := g2
    obtain ⟨n2, e2, -⟩ := DataW.trod_bool Try.underlying4 g2
    simp only [List.cons.injEq, and_true] at e2
    obtain rfl := e2
    have g3 : DataW.trod enc Try.prog w base spare held n 2 (List.take (Try.prog.cellsOf 2) (List.drop 3 [.int .i64 n0, .bool n1, .bool n2, c3])) = xs[3]? := hg 3 _ rfl
    rw [show xs[3]? = some (xs[3]'(by rw [hxl]; decide)) from List.getElem?_eq_getElem _, show Try.prog.cellsOf 2 = 1 from by kernel_rfl] at g3
    replace g3 : DataW.trod enc Try.prog w base spare held n 2 [c3] = some _ := g3
    obtain ⟨n3, e3, -, w3⟩ := DataW.trod_int Try.underlying2 g3
    simp only [List.cons.injEq, and_true] at e3
    obtain rfl := e3
    exact ⟨⟨n0, n1, n2, n3⟩, rfl, ⟨bounds_i64 w0, bounds_i64 w3⟩⟩
theorem open_I2 {H : Type} {enc : TypeId × Value → H} {w : World} {base : Nat} {spare : Nat → Bool} {held : Bool} {fuel : Nat} {cs : List Value} {x : DataW H × List MemPlace} (h : DataW.trod enc Try.prog w base spare held fuel 22 cs = some x) : ∃ r : I2, cs = r.cs ∧ okI2 r := by
  obtain ⟨xs, n, -, -, hl, hxl, hg⟩ := DataW.trod_array Try.underlying22 h
  rw [show Try.prog.cellsOf 22 = 2 from by kernel_rfl] at hl
  match cs, hl with
  | [c0, c1], _ =>
    have g0 : DataW.trod enc Try.prog w base spare held n 3 (List.take (Try.prog.cellsOf 3) (List.drop (0 * Try.prog.cellsOf 3) [c0, c1])) = xs[0]? := hg 0 (by omega)
    rw [show xs[0]? = some (xs[0]'(by rw [hxl]; decide)) from List.getElem?_eq_getElem _, show Try.prog.cellsOf 3 = 1 from by kernel_rfl] at g0
    replace g0 : DataW.trod enc Try.prog w base spare held n 3 [c0] = some _ := g0
    obtain ⟨n0, e0, -, w0⟩ := DataW.trod_int Try.underlying3 g0
    simp only [List.cons.injEq, and_true] at e0
    obtain rfl := e0
    have g1 : DataW.trod enc Try.prog w base spare held n 3 (List.take (Try.prog.cellsOf 3) (List.drop (1 * Try.prog.cellsOf 3) [.int .i64 n0, c1])) = xs[1]? := hg 1 (by omega)
    rw [show xs[1]? = some (xs[1]'(by rw [hxl]; decide)) from List.getElem?_eq_getElem _, show Try.prog.cellsOf 3 = 1 from by kernel_rfl] at g1
    replace g1 : DataW.trod enc Try.prog w base spare held n 3 [c1] = some _ := g1
    obtain ⟨n1, e1, -, w1⟩ := DataW.trod_int Try.underlying3 g1
    simp only [List.cons.injEq, and_true] at e1
    obtain rfl := e1
    exact ⟨⟨n0, n1⟩, rfl, ⟨bounds_i64 w0, bounds_i64 w1⟩⟩
theorem open_B2 {H : Type} {enc : TypeId × Value → H} {w : World} {base : Nat} {spare : Nat → Bool} {held : Bool} {fuel : Nat} {cs : List Value} {x : DataW H × List MemPlace} (h : DataW.trod enc Try.prog w base spare held fuel 45 cs = some x) : ∃ r : B2, cs = r.cs ∧ okB2 r := by
  obtain ⟨xs, n, -, -, hl, hxl, hg⟩ := DataW.trod_array Try.underlying45 h
  rw [show Try.prog.cellsOf 45 = 2 from by kernel_rfl] at hl
  match cs, hl with
  | [c0, c1], _ =>
    have g0 : DataW.trod enc Try.prog w base spare held n 4 (List.take (Try.prog.cellsOf 4) (List.drop (0 * Try.prog.cellsOf 4) [c0, c1])) = xs[0]? := hg 0 (by omega)
    rw [show xs[0]? = some (xs[0]'(by rw [hxl]; decide)) from List.getElem?_eq_getElem _, show Try.prog.cellsOf 4 = 1 from by kernel_rfl] at g0
    replace g0 : DataW.trod enc Try.prog w base spare held n 4 [c0] = some _ := g0
    obtain ⟨n0, e0, -⟩ := DataW.trod_bool Try.underlying4 g0
    simp only [List.cons.injEq, and_true] at e0
    obtain rfl := e0
    have g1 : DataW.trod enc Try.prog w base spare held n 4 (List.take (Try.prog.cellsOf 4) (List.drop (1 * Try.prog.cellsOf 4) [.bool n0, c1])) = xs[1]? := hg 1 (by omega)
    rw [show xs[1]? = some (xs[1]'(by rw [hxl]; decide)) from List.getElem?_eq_getElem _, show Try.prog.cellsOf 4 = 1 from by kernel_rfl] at g1
    replace g1 : DataW.trod enc Try.prog w base spare held n 4 [c1] = some _ := g1
    obtain ⟨n1, e1, -⟩ := DataW.trod_bool Try.underlying4 g1
    simp only [List.cons.injEq, and_true] at e1
    obtain rfl := e1
    exact ⟨⟨n0, n1⟩, rfl, trivial⟩
theorem open_Act10 {H : Type} {enc : TypeId × Value → H} {w : World} {base : Nat} {spare : Nat → Bool} {held : Bool} {fuel : Nat} {cs : List Value} {x : DataW H × List MemPlace} (h : DataW.trod enc Try.prog w base spare held fuel 33 cs = some x) : ∃ r : Act10, cs = r.cs ∧ okAct10 r := by
  obtain ⟨xs, n, -, -, hl, hxl, hg⟩ := DataW.trod_struct Try.underlying33 h
  rw [show Try.prog.cellsOf 33 = 9 from by kernel_rfl] at hl
  match cs, hl with
  | [c0, c1, c2, c3, c4, c5, c6, c7, c8], _ =>
    have g0 : DataW.trod enc Try.prog w base spare held n 3 (List.take (Try.prog.cellsOf 3) (List.drop 0 [c0, c1, c2, c3, c4, c5, c6, c7, c8])) = xs[0]? := hg 0 _ rfl
    rw [show xs[0]? = some (xs[0]'(by rw [hxl]; decide)) from List.getElem?_eq_getElem _, show Try.prog.cellsOf 3 = 1 from by kernel_rfl] at g0
    replace g0 : DataW.trod enc Try.prog w base spare held n 3 [c0] = some _ := g0
    obtain ⟨n0, e0, -, w0⟩ := DataW.trod_int Try.underlying3 g0
    simp only [List.cons.injEq, and_true] at e0
    obtain rfl := e0
    have g1 : DataW.trod enc Try.prog w base spare held n 3 (List.take (Try.prog.cellsOf 3) (List.drop 1 [.int .i64 n0, c1, c2, c3, c4, c5, c6, c7, c8])) = xs[1]? := hg 1 _ rfl
    rw [show xs[1]? = some (xs[1]'(by rw [hxl]; decide)) from List.getElem?_eq_getElem _, show Try.prog.cellsOf 3 = 1 from by kernel_rfl] at g1
    replace g1 : DataW.trod enc Try.prog w base spare held n 3 [c1] = some _ := g1
    obtain ⟨n1, e1, -, w1⟩ := DataW.trod_int Try.underlying3 g1
    simp only [List.cons.injEq, and_true] at e1
    obtain rfl := e1
    have g2 : DataW.trod enc Try.prog w base spare held n 3 (List.take (Try.prog.cellsOf 3) (List.drop 2 [.int .i64 n0, .int .i64 n1, c2, c3, c4, c5, c6, c7, c8])) = xs[2]? := hg 2 _ rfl
    rw [show xs[2]? = some (xs[2]'(by rw [hxl]; decide)) from List.getElem?_eq_getElem _, show Try.prog.cellsOf 3 = 1 from by kernel_rfl] at g2
    replace g2 : DataW.trod enc Try.prog w base spare held n 3 [c2] = some _ := g2
    obtain ⟨n2, e2, -, w2⟩ := DataW.trod_int Try.underlying3 g2
    simp only [List.cons.injEq, and_true] at e2
    obtain rfl := e2
    have g3 : DataW.trod enc Try.prog w base spare held n 4 (List.take (Try.prog.cellsOf 4) (List.drop 3 [.int .i64 n0, .int .i64 n1, .int .i64 n2, c3, c4, c5, c6, c7, c8])) = xs[3]? := hg 3 _ rfl
    rw [show xs[3]? = some (xs[3]'(by rw [hxl]; decide)) from List.getElem?_eq_getElem _, show Try.prog.cellsOf 4 = 1 from by kernel_rfl] at g3
    replace g3 : DataW.trod enc Try.prog w base spare held n 4 [c3] = some _ := g3
    obtain ⟨n3, e3, -⟩ := DataW.trod_bool Try.underlying4 g3
    simp only [List.cons.injEq, and_true] at e3
    obtain rfl := e3
    have g4 : DataW.trod enc Try.prog w base spare held n 4 (List.take (Try.prog.cellsOf 4) (List.drop 4 [.int .i64 n0, .int .i64 n1, .int .i64 n2, .bool n3, c4, c5, c6, c7, c8])) = xs[4]? := hg 4 _ rfl
    rw [show xs[4]? = some (xs[4]'(by rw [hxl]; decide)) from List.getElem?_eq_getElem _, show Try.prog.cellsOf 4 = 1 from by kernel_rfl] at g4
    replace g4 : DataW.trod enc Try.prog w base spare held n 4 [c4] = some _ := g4
    obtain ⟨n4, e4, -⟩ := DataW.trod_bool Try.underlying4 g4
    simp only [List.cons.injEq, and_true] at e4
    obtain rfl := e4
    have g5 : DataW.trod enc Try.prog w base spare held n 31 (List.take (Try.prog.cellsOf 31) (List.drop 5 [.int .i64 n0, .int .i64 n1, .int .i64 n2, .bool n3, .bool n4, c5, c6, c7, c8])) = xs[5]? := hg 5 _ rfl
    rw [show xs[5]? = some (xs[5]'(by rw [hxl]; decide)) from List.getElem?_eq_getElem _, show Try.prog.cellsOf 31 = 4 from by kernel_rfl] at g5
    replace g5 : DataW.trod enc Try.prog w base spare held n 31 [c5, c6, c7, c8] = some _ := g5
    obtain ⟨n5, e5, w5⟩ := open_Bun g5
    simp only [Bun.cs] at e5
    simp only [List.cons.injEq, and_true] at e5
    obtain ⟨rfl, rfl, rfl, rfl⟩ := e5
    exact ⟨⟨n0, n1, n2, n3, n4, n5⟩, rfl, ⟨bounds_i64 w0, bounds_i64 w1, bounds_i64 w2, w5⟩⟩
theorem opens_Act10 {H : Type} {enc : TypeId × Value → H} {w : World} {held : Bool} {spare : Nat → Bool} {fuel : Nat} {A : Option Addr} {n c : Nat} {x : DataW H × List MemPlace} (h : DataW.trod enc Try.prog w 0 spare held fuel 23 [.slice A n c] = some x) : ∃ xs : List Act10, Rd Act10.cs 9 w A n c xs ∧ ∀ r ∈ xs, okAct10 r :=
  open_rd Act10.cs 9 Try.underlying23 (by kernel_rfl) (by decide) (fun _ => rfl) (fun h => open_Act10 h) h
theorem opensc_Act10 {H : Type} {enc : TypeId × Value → H} {w : World} {held : Bool} {spare : Nat → Bool} {fuel : Nat} {A : Option Addr} {n c : Nat} {x : DataW H × List MemPlace} (h : DataW.trod enc Try.prog w 0 spare held fuel 23 [.slice A n c] = some x) : ∃ xs : List Act10, Rdc Act10.cs 9 w A n c xs ∧ ∀ r ∈ xs, okAct10 r := by
  obtain ⟨xs, h1, h2⟩ := opens_Act10 h
  exact ⟨xs, ⟨h1, open_none Try.underlying23 h⟩, h2⟩
end Go.Proofs.Ytopbgpmajkcboaa
