/- How the plain structs of layer 24's laws read: each cell of a record by its kind. -/
import Derived.Test.YtpkidbhpfohopaaDoorRows
import Derived.Test.YtpkidbhpfohopaaDoorGA
noncomputable section
namespace Go.Proofs.YtpkidbhpfohopaaDoor
open Go.ChangeShapes Go.WideShapes Go.ChangeAt Go.RowKit
set_option linter.unusedVariables false
set_option maxRecDepth 100000
theorem open_Cfg {H : Type} {enc : TypeId × Value → H} {w : World} {base : Nat} {spare : Nat → Bool} {held : Bool} {fuel : Nat} {cs : List Value} {x : DataW H × List MemPlace} (h : DataW.trod enc Tryd.prog w base spare held fuel 24 cs = some x) : ∃ r : Cfg, cs = r.cs ∧ okCfg r := by
  obtain ⟨xs, n, -, -, hl, hxl, hg⟩ := DataW.trod_struct Tryd.underlying24 h
  rw [show Tryd.prog.cellsOf 24 = 9 from by kernel_rfl] at hl
  match cs, hl with
  | [c0, c1, c2, c3, c4, c5, c6, c7, c8], _ =>
    have g0 : DataW.trod enc Tryd.prog w base spare held n 3 (List.take (Tryd.prog.cellsOf 3) (List.drop 0 [c0, c1, c2, c3, c4, c5, c6, c7, c8])) = xs[0]? := hg 0 _ rfl
    rw [show xs[0]? = some (xs[0]'(by rw [hxl]; decide)) from List.getElem?_eq_getElem _, show Tryd.prog.cellsOf 3 = 1 from by kernel_rfl] at g0
    replace g0 : DataW.trod enc Tryd.prog w base spare held n 3 [c0] = some _ := g0
    obtain ⟨n0, e0, -, w0⟩ := DataW.trod_int Tryd.underlying3 g0
    simp only [List.cons.injEq, and_true] at e0
    obtain rfl := e0
    have g1 : DataW.trod enc Tryd.prog w base spare held n 3 (List.take (Tryd.prog.cellsOf 3) (List.drop 1 [.int .i64 n0, c1, c2, c3, c4, c5, c6, c7, c8])) = xs[1]? := hg 1 _ rfl
    rw [show xs[1]? = some (xs[1]'(by rw [hxl]; decide)) from List.getElem?_eq_getElem _, show Tryd.prog.cellsOf 3 = 1 from by kernel_rfl] at g1
    replace g1 : DataW.trod enc Tryd.prog w base spare held n 3 [c1] = some _ := g1
    obtain ⟨n1, e1, -, w1⟩ := DataW.trod_int Tryd.underlying3 g1
    simp only [List.cons.injEq, and_true] at e1
    obtain rfl := e1
    have g2 : DataW.trod enc Tryd.prog w base spare held n 3 (List.take (Tryd.prog.cellsOf 3) (List.drop 2 [.int .i64 n0, .int .i64 n1, c2, c3, c4, c5, c6, c7, c8])) = xs[2]? := hg 2 _ rfl
    rw [show xs[2]? = some (xs[2]'(by rw [hxl]; decide)) from List.getElem?_eq_getElem _, show Tryd.prog.cellsOf 3 = 1 from by kernel_rfl] at g2
    replace g2 : DataW.trod enc Tryd.prog w base spare held n 3 [c2] = some _ := g2
    obtain ⟨n2, e2, -, w2⟩ := DataW.trod_int Tryd.underlying3 g2
    simp only [List.cons.injEq, and_true] at e2
    obtain rfl := e2
    have g3 : DataW.trod enc Tryd.prog w base spare held n 3 (List.take (Tryd.prog.cellsOf 3) (List.drop 3 [.int .i64 n0, .int .i64 n1, .int .i64 n2, c3, c4, c5, c6, c7, c8])) = xs[3]? := hg 3 _ rfl
    rw [show xs[3]? = some (xs[3]'(by rw [hxl]; decide)) from List.getElem?_eq_getElem _, show Tryd.prog.cellsOf 3 = 1 from by kernel_rfl] at g3
    replace g3 : DataW.trod enc Tryd.prog w base spare held n 3 [c3] = some _ := g3
    obtain ⟨n3, e3, -, w3⟩ := DataW.trod_int Tryd.underlying3 g3
    simp only [List.cons.injEq, and_true] at e3
    obtain rfl := e3
    have g4 : DataW.trod enc Tryd.prog w base spare held n 3 (List.take (Tryd.prog.cellsOf 3) (List.drop 4 [.int .i64 n0, .int .i64 n1, .int .i64 n2, .int .i64 n3, c4, c5, c6, c7, c8])) = xs[4]? := hg 4 _ rfl
    rw [show xs[4]? = some (xs[4]'(by rw [hxl]; decide)) from List.getElem?_eq_getElem _, show Tryd.prog.cellsOf 3 = 1 from by kernel_rfl] at g4
    replace g4 : DataW.trod enc Tryd.prog w base spare held n 3 [c4] = some _ := g4
    obtain ⟨n4, e4, -, w4⟩ := DataW.trod_int Tryd.underlying3 g4
    simp only [List.cons.injEq, and_true] at e4
    obtain rfl := e4
    have g5 : DataW.trod enc Tryd.prog w base spare held n 3 (List.take (Tryd.prog.cellsOf 3) (List.drop 5 [.int .i64 n0, .int .i64 n1, .int .i64 n2, .int .i64 n3, .int .i64 n4, c5, c6, c7, c8])) = xs[5]? := hg 5 _ rfl
    rw [show xs[5]? = some (xs[5]'(by rw [hxl]; decide)) from List.getElem?_eq_getElem _, show Tryd.prog.cellsOf 3 = 1 from by kernel_rfl] at g5
    replace g5 : DataW.trod enc Tryd.prog w base spare held n 3 [c5] = some _ := g5
    obtain ⟨n5, e5, -, w5⟩ := DataW.trod_int Tryd.underlying3 g5
    simp only [List.cons.injEq, and_true] at e5
    obtain rfl := e5
    have g6 : DataW.trod enc Tryd.prog w base spare held n 3 (List.take (Tryd.prog.cellsOf 3) (List.drop 6 [.int .i64 n0, .int .i64 n1, .int .i64 n2, .int .i64 n3, .int .i64 n4, .int .i64 n5, c6, c7, c8])) = xs[6]? := hg 6 _ rfl
    rw [show xs[6]? = some (xs[6]'(by rw [hxl]; decide)) from List.getElem?_eq_getElem _, show Tryd.prog.cellsOf 3 = 1 from by kernel_rfl] at g6
    replace g6 : DataW.trod enc Tryd.prog w base spare held n 3 [c6] = some _ := g6
    obtain ⟨n6, e6, -, w6⟩ := DataW.trod_int Tryd.underlying3 g6
    simp only [List.cons.injEq, and_true] at e6
    obtain rfl := e6
    have g7 : DataW.trod enc Tryd.prog w base spare held n 3 (List.take (Tryd.prog.cellsOf 3) (List.drop 7 [.int .i64 n0, .int .i64 n1, .int .i64 n2, .int .i64 n3, .int .i64 n4, .int .i64 n5, .int .i64 n6, c7, c8])) = xs[7]? := hg 7 _ rfl
    rw [show xs[7]? = some (xs[7]'(by rw [hxl]; decide)) from List.getElem?_eq_getElem _, show Tryd.prog.cellsOf 3 = 1 from by kernel_rfl] at g7
    replace g7 : DataW.trod enc Tryd.prog w base spare held n 3 [c7] = some _ := g7
    obtain ⟨n7, e7, -, w7⟩ := DataW.trod_int Tryd.underlying3 g7
    simp only [List.cons.injEq, and_true] at e7
    obtain rfl := e7
    have g8 : DataW.trod enc Tryd.prog w base spare held n 3 (List.take (Tryd.prog.cellsOf 3) (List.drop 8 [.int .i64 n0, .int .i64 n1, .int .i64 n2, .int .i64 n3, .int .i64 n4, .int .i64 n5, .int .i64 n6, .int .i64 n7, c8])) = xs[8]? := hg 8 _ rfl
    rw [show xs[8]? = some (xs[8]'(by rw [hxl]; decide)) from List.getElem?_eq_getElem _, show Tryd.prog.cellsOf 3 = 1 from by kernel_rfl] at g8
    replace g8 : DataW.trod enc Tryd.prog w base spare held n 3 [c8] = some _ := g8
    obtain ⟨n8, e8, -, w8⟩ := DataW.trod_int Tryd.underlying3 g8
    simp only [List.cons.injEq, and_true] at e8
    obtain rfl := e8
    exact ⟨⟨n0, n1, n2, n3, n4, n5, n6, n7, n8⟩, rfl, ⟨bounds_i64 w0, bounds_i64 w1, bounds_i64 w2, bounds_i64 w3, bounds_i64 w4, bounds_i64 w5, bounds_i64 w6, bounds_i64 w7, bounds_i64 w8⟩⟩
theorem open_Ent {H : Type} {enc : TypeId × Value → H} {w : World} {base : Nat} {spare : Nat → Bool} {held : Bool} {fuel : Nat} {cs : List Value} {x : DataW H × List MemPlace} (h : DataW.trod enc Tryd.prog w base spare held fuel 40 cs = some x) : ∃ r : Ent, cs = r.cs ∧ okEnt r := by
  obtain ⟨xs, n, -, -, hl, hxl, hg⟩ := DataW.trod_struct Tryd.underlying40 h
  rw [show Tryd.prog.cellsOf 40 = 5 from by kernel_rfl] at hl
  match cs, hl with
  | [c0, c1, c2, c3, c4], _ =>
    have g0 : DataW.trod enc Tryd.prog w base spare held n 3 (List.take (Tryd.prog.cellsOf 3) (List.drop 0 [c0, c1, c2, c3, c4])) = xs[0]? := hg 0 _ rfl
    rw [show xs[0]? = some (xs[0]'(by rw [hxl]; decide)) from List.getElem?_eq_getElem _, show Tryd.prog.cellsOf 3 = 1 from by kernel_rfl] at g0
    replace g0 : DataW.trod enc Tryd.prog w base spare held n 3 [c0] = some _ := g0
    obtain ⟨n0, e0, -, w0⟩ := DataW.trod_int Tryd.underlying3 g0
    simp only [List.cons.injEq, and_true] at e0
    obtain rfl := e0
    have g1 : DataW.trod enc Tryd.prog w base spare held n 3 (List.take (Tryd.prog.cellsOf 3) (List.drop 1 [.int .i64 n0, c1, c2, c3, c4])) = xs[1]? := hg 1 _ rfl
    rw [show xs[1]? = some (xs[1]'(by rw [hxl]; decide)) from List.getElem?_eq_getElem _, show Tryd.prog.cellsOf 3 = 1 from by kernel_rfl] at g1
    replace g1 : DataW.trod enc Tryd.prog w base spare held n 3 [c1] = some _ := g1
    obtain ⟨n1, e1, -, w1⟩ := DataW.trod_int Tryd.underlying3 g1
    simp only [List.cons.injEq, and_true] at e1
    obtain rfl := e1
    have g2 : DataW.trod enc Tryd.prog w base spare held n 3 (List.take (Tryd.prog.cellsOf 3) (List.drop 2 [.int .i64 n0, .int .i64 n1, c2, c3, c4])) = xs[2]? := hg 2 _ rfl
    rw [show xs[2]? = some (xs[2]'(by rw [hxl]; decide)) from List.getElem?_eq_getElem _, show Tryd.prog.cellsOf 3 = 1 from by kernel_rfl] at g2
    replace g2 : DataW.trod enc Tryd.prog w base spare held n 3 [c2] = some _ := g2
    obtain ⟨n2, e2, -, w2⟩ := DataW.trod_int Tryd.underlying3 g2
    simp only [List.cons.injEq, and_true] at e2
    obtain rfl := e2
    have g3 : DataW.trod enc Tryd.prog w base spare held n 3 (List.take (Tryd.prog.cellsOf 3) (List.drop 3 [.int .i64 n0, .int .i64 n1, .int .i64 n2, c3, c4])) = xs[3]? := hg 3 _ rfl
    rw [show xs[3]? = some (xs[3]'(by rw [hxl]; decide)) from List.getElem?_eq_getElem _, show Tryd.prog.cellsOf 3 = 1 from by kernel_rfl] at g3
    replace g3 : DataW.trod enc Tryd.prog w base spare held n 3 [c3] = some _ := g3
    obtain ⟨n3, e3, -, w3⟩ := DataW.trod_int Tryd.underlying3 g3
    simp only [List.cons.injEq, and_true] at e3
    obtain rfl := e3
    have g4 : DataW.trod enc Tryd.prog w base spare held n 3 (List.take (Tryd.prog.cellsOf 3) (List.drop 4 [.int .i64 n0, .int .i64 n1, .int .i64 n2, .int .i64 n3, c4])) = xs[4]? := hg 4 _ rfl
    rw [show xs[4]? = some (xs[4]'(by rw [hxl]; decide)) from List.getElem?_eq_getElem _, show Tryd.prog.cellsOf 3 = 1 from by kernel_rfl] at g4
    replace g4 : DataW.trod enc Tryd.prog w base spare held n 3 [c4] = some _ := g4
    obtain ⟨n4, e4, -, w4⟩ := DataW.trod_int Tryd.underlying3 g4
    simp only [List.cons.injEq, and_true] at e4
    obtain rfl := e4
    exact ⟨⟨n0, n1, n2, n3, n4⟩, rfl, ⟨bounds_i64 w0, bounds_i64 w1, bounds_i64 w2, bounds_i64 w3, bounds_i64 w4⟩⟩
theorem open_Opr {H : Type} {enc : TypeId × Value → H} {w : World} {base : Nat} {spare : Nat → Bool} {held : Bool} {fuel : Nat} {cs : List Value} {x : DataW H × List MemPlace} (h : DataW.trod enc Tryd.prog w base spare held fuel 42 cs = some x) : ∃ r : Opr, cs = r.cs ∧ okOpr r := by
  obtain ⟨xs, n, -, -, hl, hxl, hg⟩ := DataW.trod_struct Tryd.underlying42 h
  rw [show Tryd.prog.cellsOf 42 = 3 from by kernel_rfl] at hl
  match cs, hl with
  | [c0, c1, c2], _ =>
    have g0 : DataW.trod enc Tryd.prog w base spare held n 3 (List.take (Tryd.prog.cellsOf 3) (List.drop 0 [c0, c1, c2])) = xs[0]? := hg 0 _ rfl
    rw [show xs[0]? = some (xs[0]'(by rw [hxl]; decide)) from List.getElem?_eq_getElem _, show Tryd.prog.cellsOf 3 = 1 from by kernel_rfl] at g0
    replace g0 : DataW.trod enc Tryd.prog w base spare held n 3 [c0] = some _ := g0
    obtain ⟨n0, e0, -, w0⟩ := DataW.trod_int Tryd.underlying3 g0
    simp only [List.cons.injEq, and_true] at e0
    obtain rfl := e0
    have g1 : DataW.trod enc Tryd.prog w base spare held n 4 (List.take (Tryd.prog.cellsOf 4) (List.drop 1 [.int .i64 n0, c1, c2])) = xs[1]? := hg 1 _ rfl
    rw [show xs[1]? = some (xs[1]'(by rw [hxl]; decide)) from List.getElem?_eq_getElem _, show Tryd.prog.cellsOf 4 = 1 from by kernel_rfl] at g1
    replace g1 : DataW.trod enc Tryd.prog w base spare held n 4 [c1] = some _ := g1
    obtain ⟨n1, e1, -⟩ := DataW.trod_bool Tryd.underlying4 g1
    simp only [List.cons.injEq, and_true] at e1
    obtain rfl := e1
    have g2 : DataW.trod enc Tryd.prog w base spare held n 2 (List.take (Tryd.prog.cellsOf 2) (List.drop 2 [.int .i64 n0, .bool n1, c2])) = xs[2]? := hg 2 _ rfl
    rw [show xs[2]? = some (xs[2]'(by rw [hxl]; decide)) from List.getElem?_eq_getElem _, show Tryd.prog.cellsOf 2 = 1 from by kernel_rfl] at g2
    replace g2 : DataW.trod enc Tryd.prog w base spare held n 2 [c2] = some _ := g2
    obtain ⟨n2, e2, -, w2⟩ := DataW.trod_int Tryd.underlying2 g2
    simp only [List.cons.injEq, and_true] at e2
    obtain rfl := e2
    exact ⟨⟨n0, n1, n2⟩, rfl, ⟨bounds_i64 w0, bounds_i64 w2⟩⟩
theorem open_Don {H : Type} {enc : TypeId × Value → H} {w : World} {base : Nat} {spare : Nat → Bool} {held : Bool} {fuel : Nat} {cs : List Value} {x : DataW H × List MemPlace} (h : DataW.trod enc Tryd.prog w base spare held fuel 44 cs = some x) : ∃ r : Don, cs = r.cs ∧ okDon r := by
  obtain ⟨xs, n, -, -, hl, hxl, hg⟩ := DataW.trod_struct Tryd.underlying44 h
  rw [show Tryd.prog.cellsOf 44 = 7 from by kernel_rfl] at hl
  match cs, hl with
  | [c0, c1, c2, c3, c4, c5, c6], _ =>
    have g0 : DataW.trod enc Tryd.prog w base spare held n 3 (List.take (Tryd.prog.cellsOf 3) (List.drop 0 [c0, c1, c2, c3, c4, c5, c6])) = xs[0]? := hg 0 _ rfl
    rw [show xs[0]? = some (xs[0]'(by rw [hxl]; decide)) from List.getElem?_eq_getElem _, show Tryd.prog.cellsOf 3 = 1 from by kernel_rfl] at g0
    replace g0 : DataW.trod enc Tryd.prog w base spare held n 3 [c0] = some _ := g0
    obtain ⟨n0, e0, -, w0⟩ := DataW.trod_int Tryd.underlying3 g0
    simp only [List.cons.injEq, and_true] at e0
    obtain rfl := e0
    have g1 : DataW.trod enc Tryd.prog w base spare held n 3 (List.take (Tryd.prog.cellsOf 3) (List.drop 1 [.int .i64 n0, c1, c2, c3, c4, c5, c6])) = xs[1]? := hg 1 _ rfl
    rw [show xs[1]? = some (xs[1]'(by rw [hxl]; decide)) from List.getElem?_eq_getElem _, show Tryd.prog.cellsOf 3 = 1 from by kernel_rfl] at g1
    replace g1 : DataW.trod enc Tryd.prog w base spare held n 3 [c1] = some _ := g1
    obtain ⟨n1, e1, -, w1⟩ := DataW.trod_int Tryd.underlying3 g1
    simp only [List.cons.injEq, and_true] at e1
    obtain rfl := e1
    have g2 : DataW.trod enc Tryd.prog w base spare held n 42 (List.take (Tryd.prog.cellsOf 42) (List.drop 2 [.int .i64 n0, .int .i64 n1, c2, c3, c4, c5, c6])) = xs[2]? := hg 2 _ rfl
    rw [show xs[2]? = some (xs[2]'(by rw [hxl]; decide)) from List.getElem?_eq_getElem _, show Tryd.prog.cellsOf 42 = 3 from by kernel_rfl] at g2
    replace g2 : DataW.trod enc Tryd.prog w base spare held n 42 [c2, c3, c4] = some _ := g2
    obtain ⟨n2, e2, w2⟩ := open_Opr g2
    simp only [Opr.cs] at e2
    simp only [List.cons.injEq, and_true] at e2
    obtain ⟨rfl, rfl, rfl⟩ := e2
    have g3 : DataW.trod enc Tryd.prog w base spare held n 2 (List.take (Tryd.prog.cellsOf 2) (List.drop 5 [.int .i64 n0, .int .i64 n1, .int .i64 n2.b, .bool n2.w, .int .i64 n2.v, c5, c6])) = xs[3]? := hg 3 _ rfl
    rw [show xs[3]? = some (xs[3]'(by rw [hxl]; decide)) from List.getElem?_eq_getElem _, show Tryd.prog.cellsOf 2 = 1 from by kernel_rfl] at g3
    replace g3 : DataW.trod enc Tryd.prog w base spare held n 2 [c5] = some _ := g3
    obtain ⟨n3, e3, -, w3⟩ := DataW.trod_int Tryd.underlying2 g3
    simp only [List.cons.injEq, and_true] at e3
    obtain rfl := e3
    have g4 : DataW.trod enc Tryd.prog w base spare held n 3 (List.take (Tryd.prog.cellsOf 3) (List.drop 6 [.int .i64 n0, .int .i64 n1, .int .i64 n2.b, .bool n2.w, .int .i64 n2.v, .int .i64 n3, c6])) = xs[4]? := hg 4 _ rfl
    rw [show xs[4]? = some (xs[4]'(by rw [hxl]; decide)) from List.getElem?_eq_getElem _, show Tryd.prog.cellsOf 3 = 1 from by kernel_rfl] at g4
    replace g4 : DataW.trod enc Tryd.prog w base spare held n 3 [c6] = some _ := g4
    obtain ⟨n4, e4, -, w4⟩ := DataW.trod_int Tryd.underlying3 g4
    simp only [List.cons.injEq, and_true] at e4
    obtain rfl := e4
    exact ⟨⟨n0, n1, n2, n3, n4⟩, rfl, ⟨bounds_i64 w0, bounds_i64 w1, w2, bounds_i64 w3, bounds_i64 w4⟩⟩
theorem opens_Ent {H : Type} {enc : TypeId × Value → H} {w : World} {held : Bool} {spare : Nat → Bool} {fuel : Nat} {A : Option Addr} {n c : Nat} {x : DataW H × List MemPlace} (h : DataW.trod enc Tryd.prog w 0 spare held fuel 25 [.slice A n c] = some x) : ∃ xs : List Ent, Rd Ent.cs 5 w A n c xs ∧ ∀ r ∈ xs, okEnt r :=
  open_rd Ent.cs 5 Tryd.underlying25 (by kernel_rfl) (by decide) (fun _ => rfl) (fun h => open_Ent h) h
theorem opensc_Ent {H : Type} {enc : TypeId × Value → H} {w : World} {held : Bool} {spare : Nat → Bool} {fuel : Nat} {A : Option Addr} {n c : Nat} {x : DataW H × List MemPlace} (h : DataW.trod enc Tryd.prog w 0 spare held fuel 25 [.slice A n c] = some x) : ∃ xs : List Ent, Rdc Ent.cs 5 w A n c xs ∧ ∀ r ∈ xs, okEnt r := by
  obtain ⟨xs, h1, h2⟩ := opens_Ent h
  exact ⟨xs, ⟨h1, open_none Tryd.underlying25 h⟩, h2⟩
theorem opens_Don {H : Type} {enc : TypeId × Value → H} {w : World} {held : Bool} {spare : Nat → Bool} {fuel : Nat} {A : Option Addr} {n c : Nat} {x : DataW H × List MemPlace} (h : DataW.trod enc Tryd.prog w 0 spare held fuel 34 [.slice A n c] = some x) : ∃ xs : List Don, Rd Don.cs 7 w A n c xs ∧ ∀ r ∈ xs, okDon r :=
  open_rd Don.cs 7 Tryd.underlying34 (by kernel_rfl) (by decide) (fun _ => rfl) (fun h => open_Don h) h
theorem opensc_Don {H : Type} {enc : TypeId × Value → H} {w : World} {held : Bool} {spare : Nat → Bool} {fuel : Nat} {A : Option Addr} {n c : Nat} {x : DataW H × List MemPlace} (h : DataW.trod enc Tryd.prog w 0 spare held fuel 34 [.slice A n c] = some x) : ∃ xs : List Don, Rdc Don.cs 7 w A n c xs ∧ ∀ r ∈ xs, okDon r := by
  obtain ⟨xs, h1, h2⟩ := opens_Don h
  exact ⟨xs, ⟨h1, open_none Tryd.underlying34 h⟩, h2⟩
end Go.Proofs.YtpkidbhpfohopaaDoor
