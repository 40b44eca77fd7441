/- HomeServes of layer 16: its walk. No condition. -/
import Derived.Test.YtipibgamajhgbaaW16
import Derived.Test.YtipibgamajhgbaaW17
namespace Go.Proofs.Ytipibgamajhgbaa
open Go.RowKit
set_option linter.unusedVariables false
theorem HomeServes_walk (w : World) (c : Cfg) (hc : okCfg c) (A : Option Addr) (m k : Nat) (l : List Int) (R : Rdc icell 1 w A m k l) (hl : ∀ r ∈ l, okI r) :
    Calls Try.prog 5 #[.agg #[.int .i64 c.nodes, .int .i64 c.blocks, .int .i64 c.tokens, .int .i64 c.sets, .int .i64 c.ways, .int .i64 c.cap, .int .i64 c.wait, .int .i64 c.tries, .int .i64 c.policy], .slice A m k] w fun e w' => e = .returned (.bool true) ∧ Below w.heap.size w w' := by
  have hr : RVs (C0 w) [ACfg c, .vsl .int l] [.agg #[.int .i64 c.nodes, .int .i64 c.blocks, .int .i64 c.tokens, .int .i64 c.sets, .int .i64 c.ways, .int .i64 c.cap, .int .i64 c.wait, .int .i64 c.tries, .int .i64 c.policy], .slice A m k] := ⟨rv_cfg hc, rv_vsl (t := .int) icell R (fun r hr => plain_reps (az := enc .int r) rfl ⟨hl r hr, trivial⟩), trivial⟩
  by_cases h : MadeOk c []
  · exact walk_of_con cServT_ok ⟨c, l⟩ h rfl rfl rfl w [_, _] hr
  · exact walk_of_con cServF_ok ⟨c, l⟩ h rfl rfl rfl w [_, _] hr
end Go.Proofs.Ytipibgamajhgbaa
