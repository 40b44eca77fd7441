/- How the plain structs of layer 11's laws read: each cell of a record by its kind. -/
import Derived.Test.YtjapmlolgfgbaaaRows
import Derived.Test.YtjapmlolgfgbaaaK
import Derived.Test.YtjapmlolgfgbaaaD
namespace Go.Proofs.Ytjapmlolgfgbaaa
open Go.ChangeShapes Go.WideShapes Go.ChangeAt Go.RowKit
set_option linter.unusedVariables false
set_option maxRecDepth 100000
theorem open_Atv {H : Type} {enc : TypeId × Value → H} {w : World} {base : Nat} {spare : Nat → Bool} {held : Bool} {fuel : Nat} {cs : List Value} {x : DataW H × List MemPlace} (h : DataW.trod enc Try.prog w base spare held fuel 28 cs = some x) : ∃ r : Atv, cs = r.cs ∧ okAtv r := by
  obtain ⟨xs, n, -, -, hl, hxl, hg⟩ := DataW.trod_struct Try.underlying28 h
  rw [show Try.prog.cellsOf 28 = 3 from by kernel_rfl] at hl
  match cs, hl with
  | [c0, c1, c2], _ =>
    have g0 : DataW.trod enc Try.prog w base spare held n 3 (List.take (Try.prog.cellsOf 3) (List.drop 0 [c0, c1, c2])) = xs[0]? := hg 0 _ rfl
    rw [show xs[0]? = some (xs[0]'(by rw [hxl]; decide)) from List.getElem?_eq_getElem _, show Try.prog.cellsOf 3 = 1 from by kernel_rfl] at g0
    replace g0 : DataW.trod enc Try.prog w base spare held n 3 [c0] = some _ := g0
    obtain ⟨n0, e0, -, w0⟩ := DataW.trod_int Try.underlying3 g0
    simp only [List.cons.injEq, and_true] at e0
    obtain rfl := e0
    have g1 : DataW.trod enc Try.prog w base spare held n 3 (List.take (Try.prog.cellsOf 3) (List.drop 1 [.int .i64 n0, c1, c2])) = xs[1]? := hg 1 _ rfl
    rw [show xs[1]? = some (xs[1]'(by rw [hxl]; decide)) from List.getElem?_eq_getElem _, show Try.prog.cellsOf 3 = 1 from by kernel_rfl] at g1
    replace g1 : DataW.trod enc Try.prog w base spare held n 3 [c1] = some _ := g1
    obtain ⟨n1, e1, -, w1⟩ := DataW.trod_int Try.underlying3 g1
    simp only [List.cons.injEq, and_true] at e1
    obtain rfl := e1
    have g2 : DataW.trod enc Try.prog w base spare held n 3 (List.take (Try.prog.cellsOf 3) (List.drop 2 [.int .i64 n0, .int .i64 n1, c2])) = xs[2]? := hg 2 _ rfl
    rw [show xs[2]? = some (xs[2]'(by rw [hxl]; decide)) from List.getElem?_eq_getElem _, show Try.prog.cellsOf 3 = 1 from by kernel_rfl] at g2
    replace g2 : DataW.trod enc Try.prog w base spare held n 3 [c2] = some _ := g2
    obtain ⟨n2, e2, -, w2⟩ := DataW.trod_int Try.underlying3 g2
    simp only [List.cons.injEq, and_true] at e2
    obtain rfl := e2
    exact ⟨⟨n0, n1, n2⟩, rfl, ⟨bounds_i64 w0, bounds_i64 w1, bounds_i64 w2⟩⟩
theorem open_Act11 {H : Type} {enc : TypeId × Value → H} {w : World} {base : Nat} {spare : Nat → Bool} {held : Bool} {fuel : Nat} {cs : List Value} {x : DataW H × List MemPlace} (h : DataW.trod enc Try.prog w base spare held fuel 30 cs = some x) : ∃ r : Act11, cs = r.cs ∧ okAct11 r := by
  obtain ⟨xs, n, -, -, hl, hxl, hg⟩ := DataW.trod_struct Try.underlying30 h
  rw [show Try.prog.cellsOf 30 = 4 from by kernel_rfl] at hl
  match cs, hl with
  | [c0, c1, c2, c3], _ =>
    have g0 : DataW.trod enc Try.prog w base spare held n 3 (List.take (Try.prog.cellsOf 3) (List.drop 0 [c0, c1, c2, c3])) = xs[0]? := hg 0 _ rfl
    rw [show xs[0]? = some (xs[0]'(by rw [hxl]; decide)) from List.getElem?_eq_getElem _, show Try.prog.cellsOf 3 = 1 from by kernel_rfl] at g0
    replace g0 : DataW.trod enc Try.prog w base spare held n 3 [c0] = some _ := g0
    obtain ⟨n0, e0, -, w0⟩ := DataW.trod_int Try.underlying3 g0
    simp only [List.cons.injEq, and_true] at e0
    obtain rfl := e0
    have g1 : DataW.trod enc Try.prog w base spare held n 28 (List.take (Try.prog.cellsOf 28) (List.drop 1 [.int .i64 n0, c1, c2, c3])) = xs[1]? := hg 1 _ rfl
    rw [show xs[1]? = some (xs[1]'(by rw [hxl]; decide)) from List.getElem?_eq_getElem _, show Try.prog.cellsOf 28 = 3 from by kernel_rfl] at g1
    replace g1 : DataW.trod enc Try.prog w base spare held n 28 [c1, c2, c3] = some _ := g1
    obtain ⟨n1, e1, w1⟩ := open_Atv g1
    simp only [Atv.cs] at e1
    simp only [List.cons.injEq, and_true] at e1
    obtain ⟨rfl, rfl, rfl⟩ := e1
    exact ⟨⟨n0, n1⟩, rfl, ⟨bounds_i64 w0, w1⟩⟩
theorem opens_Atv {H : Type} {enc : TypeId × Value → H} {w : World} {held : Bool} {spare : Nat → Bool} {fuel : Nat} {A : Option Addr} {n c : Nat} {x : DataW H × List MemPlace} (h : DataW.trod enc Try.prog w 0 spare held fuel 35 [.slice A n c] = some x) : ∃ xs : List Atv, Rd Atv.cs 3 w A n c xs ∧ ∀ r ∈ xs, okAtv r :=
  open_rd Atv.cs 3 Try.underlying35 (by kernel_rfl) (by decide) (fun _ => rfl) (fun h => open_Atv h) h
theorem opensc_Atv {H : Type} {enc : TypeId × Value → H} {w : World} {held : Bool} {spare : Nat → Bool} {fuel : Nat} {A : Option Addr} {n c : Nat} {x : DataW H × List MemPlace} (h : DataW.trod enc Try.prog w 0 spare held fuel 35 [.slice A n c] = some x) : ∃ xs : List Atv, Rdc Atv.cs 3 w A n c xs ∧ ∀ r ∈ xs, okAtv r := by
  obtain ⟨xs, h1, h2⟩ := opens_Atv h
  exact ⟨xs, ⟨h1, open_none Try.underlying35 h⟩, h2⟩
theorem opens_Act11 {H : Type} {enc : TypeId × Value → H} {w : World} {held : Bool} {spare : Nat → Bool} {fuel : Nat} {A : Option Addr} {n c : Nat} {x : DataW H × List MemPlace} (h : DataW.trod enc Try.prog w 0 spare held fuel 22 [.slice A n c] = some x) : ∃ xs : List Act11, Rd Act11.cs 4 w A n c xs ∧ ∀ r ∈ xs, okAct11 r :=
  open_rd Act11.cs 4 Try.underlying22 (by kernel_rfl) (by decide) (fun _ => rfl) (fun h => open_Act11 h) h
theorem opensc_Act11 {H : Type} {enc : TypeId × Value → H} {w : World} {held : Bool} {spare : Nat → Bool} {fuel : Nat} {A : Option Addr} {n c : Nat} {x : DataW H × List MemPlace} (h : DataW.trod enc Try.prog w 0 spare held fuel 22 [.slice A n c] = some x) : ∃ xs : List Act11, Rdc Act11.cs 4 w A n c xs ∧ ∀ r ∈ xs, okAct11 r := by
  obtain ⟨xs, h1, h2⟩ := opens_Act11 h
  exact ⟨xs, ⟨h1, open_none Try.underlying22 h⟩, h2⟩
end Go.Proofs.Ytjapmlolgfgbaaa
