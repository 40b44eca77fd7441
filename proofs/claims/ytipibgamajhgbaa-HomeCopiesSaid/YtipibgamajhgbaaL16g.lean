/- HomeCopies of layer 16: its walk. No condition. -/
import Derived.Test.YtipibgamajhgbaaW31
import Derived.Test.YtipibgamajhgbaaW32
import Derived.Test.YtipibgamajhgbaaL16a
namespace Go.Proofs.Ytipibgamajhgbaa
open Go.RowKit
set_option linter.unusedVariables false
theorem HomeCopies_walk (w : World) (c : Cfg) (hc : okCfg c) (A : Option Addr) (m k : Nat) (l : List Act16) (R : Rdc Act16.cs 15 w A m k l) (hl : ∀ r ∈ l, okAct16 r) :
    Calls Try.prog 8 #[.agg #[.int .i64 c.nodes, .int .i64 c.blocks, .int .i64 c.tokens, .int .i64 c.sets, .int .i64 c.ways, .int .i64 c.cap, .int .i64 c.wait, .int .i64 c.tries, .int .i64 c.policy], .slice A m k] w fun e w' => e = .returned (.bool true) ∧ Below w.heap.size w w' := by
  have hr : RVs (C0 w) [ACfg c, .vsl .act16 l] [.agg #[.int .i64 c.nodes, .int .i64 c.blocks, .int .i64 c.tokens, .int .i64 c.sets, .int .i64 c.ways, .int .i64 c.cap, .int .i64 c.wait, .int .i64 c.tries, .int .i64 c.policy], .slice A m k] := ⟨rv_cfg hc, rv_acts R hl, trivial⟩
  by_cases h : MadeOk c l
  · exact walk_of_con cCpT_ok ⟨c, l⟩ h rfl rfl rfl w [_, _] hr
  · exact walk_of_con cCpF_ok ⟨c, l⟩ h rfl rfl rfl w [_, _] hr
end Go.Proofs.Ytipibgamajhgbaa
