/- Layer 24's rows: a world in which the listed variables lie as the program's text lays them; what such worlds have. No condition. -/
import Derived.Test.YtpkidbhpfohopaaDoorRows
import Derived.Test.YtpkidbhpfohopaaDoorN17
import Derived.Deep.DeepLaidRun
import Derived.Stop.LaidErr
import Derived.Lib.LaidTab
import Derived.Shelf.Vars
import Derived.Handed
noncomputable section
namespace Go.Proofs.YtpkidbhpfohopaaDoor
open Go.ChangeShapes Go.WideShapes Go.ChangeAt Go.RowKit
set_option linter.unusedVariables false
set_option maxRecDepth 100000
abbrev lL : List (String × DataW Unit) := Rows.textParsesRow.laid
noncomputable def flatD : DataW Unit → List Value
  | .lit (.int k n) => [.int k n]
  | _ => []
noncomputable def cellsD : DataW Unit → Array Value
  | .agg l => (l.flatMap fun d => match d with
    | .agg m => m.flatMap flatD
    | d => flatD d).toArray
  | _ => #[]
noncomputable def setG (w : World) (g : Nat) (cs : Array Value) : World := { w with heap := w.heap.modify g fun
  | .cells _ t frozen => .cells cs t frozen
  | o => o }
abbrev synS : ByteArray := { data := #[105, 110, 118, 97, 108, 105, 100, 32, 115, 121, 110, 116, 97, 120] }
abbrev rngS : ByteArray := { data := #[118, 97, 108, 117, 101, 32, 111, 117, 116, 32, 111, 102, 32, 114, 97, 110, 103, 101] }
/-- So many blocks has the settled world. -/
noncomputable def low : Nat := (World.holding Tryd.prog default ⟨#[], #[], []⟩).heap.size
/-- The settled world with the listed variables laid. -/
noncomputable def lWorld (os : Os) : World :=
  setG (setG (setG (setG (setG (setG (setG (World.holding Tryd.prog os ⟨#[.cells #[.string synS] 122, .cells #[.string rngS] 122], #[], []⟩)
    6 (cellsD Rows.laid_math_bits_deBruijn32tab))
    7 (cellsD Rows.laid_math_bits_deBruijn64tab))
    1 (cellsD Rows.laid_internal_strconv_uint64pow10))
    3 (cellsD Rows.laid_unicode_utf8_acceptRanges))
    2 (cellsD Rows.laid_unicode_utf8_first))
    4 #[.iface 120 (.pointer (some ⟨low, 0, none⟩))])
    5 #[.iface 120 (.pointer (some ⟨low + 1, 0, none⟩))]
theorem lWorld_met (os : Os) (args : Array Value) : laidMet Tryd.prog lL ((lWorld os).forCall (fun _ _ => 0) ⟨#[], args, []⟩).memory :=
  laidMet_of_run3 8 (by kernel_rfl) (by kernel_rfl) (by kernel_rfl)
/-! ### what the listed variables give -/
theorem var_inv {w : World} {n : String} {g : Nat} {cs : Array Value} (hg : Tryd.prog.globalNamed n = some g) (h : w.var? Tryd.prog n = some cs) : ∃ t f, w.heap[g]? = some (.cells cs t f) := by
  unfold World.var? at h
  rw [hg, Option.bind_some] at h
  split at h
  · rename_i c t f e
    exact ⟨t, f, by rw [e, Option.some.inj h]⟩
  · cases h
theorem tEs : (Tryd.prog.globals[4]?).map (·.type) = some 62 := by kernel_rfl
theorem tEr : (Tryd.prog.globals[5]?).map (·.type) = some 62 := by kernel_rfl
theorem tTab : (Tryd.prog.globals[1]?).map (·.type) = some 96 := by kernel_rfl
theorem cErr : Tryd.prog.cellsOf 122 = 1 := by kernel_rfl
theorem cStr : Tryd.prog.cellsOf 9 = 1 := by kernel_rfl
theorem star : "*" ++ "errors.errorString" = "*errors.errorString" := by decide
theorem rowE (u : TypeId) (h : Tryd.prog.typeName? 3 u = some "*errors.errorString") : u = 120 :=
  typeName_ptr_named (nm := "errors.errorString") (by rw [star]; kernel_rfl) (by kernel_rfl) (by decide) u (by rw [star]; exact h)
theorem st_of {w : World} (hs : w.ShapedOpen Tryd.prog) (hL : laidMet Tryd.prog lL w) : St w := by
  have h2 : laidMet Tryd.prog (("internal/strconv.uint64pow10", Rows.laid_internal_strconv_uint64pow10) :: _) w := hL.tail.tail
  have h4 : laidMet Tryd.prog (("strconv.ErrRange", Rows.laid_strconv_ErrRange) :: _) w := hL.tail.tail.tail.tail
  have h5 : laidMet Tryd.prog (("strconv.ErrSyntax", Rows.laid_strconv_ErrSyntax) :: _) w := hL.tail.tail.tail.tail.tail
  refine ⟨?_, ?_, ?_, ?_⟩
  · obtain ⟨cs, hh, hsz, hr⟩ := hs.1 0 #[.int .i64 0] 3 (of_decide_eq_true (by kernel_rfl)) (by kernel_rfl)
    obtain ⟨m, hm⟩ := cell_of_shapedOpen_int (k := .i64) (t := 3) (g := 0) hs (of_decide_eq_true (by kernel_rfl)) (by kernel_rfl) (zero := #[.int .i64 0]) rfl (by kernel_rfl) (by kernel_rfl) (by kernel_rfl)
    have h1 : cs.size = 1 := by simpa using hsz
    refine ⟨m, 3, (0, 0), ?_⟩
    rw [hh]
    rw [Lib.cell_of_heap hh] at hm
    have h3 : cs = #[.int .i64 m] := by
      apply Array.ext
      · rw [h1]; rfl
      · intro i hi hj
        have h0 : i = 0 := by omega
        subst h0
        rw [Array.getElem?_eq_getElem hi] at hm
        exact Option.some.inj hm
    rw [h3]
  · have h := Lib.tabIs_of_head gTab tTab Tryd.underlying96 Tryd.underlying76 (by kernel_rfl) (by kernel_rfl) (zs := Lib.pow10Tab) (k := .u64) h2
    obtain ⟨t, f, e⟩ := var_inv gTab h
    exact ⟨t, f, e⟩
  · obtain ⟨a, s, hv, -, -, -⟩ := laid_sentinel h5 gEs tEs Tryd.underlying62 rowE Tryd.underlying120 Tryd.underlying122 rfl rfl Tryd.underlying9 cErr cStr
    obtain ⟨t, f, e⟩ := var_inv gEs hv
    exact ⟨_, _, t, f, e⟩
  · obtain ⟨a, s, hv, -, -, -⟩ := laid_sentinel h4 gEr tEr Tryd.underlying62 rowE Tryd.underlying120 Tryd.underlying122 rfl rfl Tryd.underlying9 cErr cStr
    obtain ⟨t, f, e⟩ := var_inv gEr hv
    exact ⟨_, _, t, f, e⟩
end Go.Proofs.YtpkidbhpfohopaaDoor
