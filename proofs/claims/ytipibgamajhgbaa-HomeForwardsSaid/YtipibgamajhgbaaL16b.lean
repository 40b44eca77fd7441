/- HomeForwards of layer 16: its walk. No condition. -/
import Derived.Test.YtipibgamajhgbaaW19
import Derived.Test.YtipibgamajhgbaaW20
namespace Go.Proofs.Ytipibgamajhgbaa
open Go.RowKit
set_option linter.unusedVariables false
theorem rv_acts {w : World} {A : Option Addr} {m k : Nat} {l : List Act16} (R : Rdc Act16.cs 15 w A m k l) (hl : ∀ r ∈ l, okAct16 r) : RV1 (C0 w) (.vsl .act16 l) (.slice A m k) := by
  refine rv_vsl (t := .act16) Act16.cs R fun r hr => ?_
  obtain ⟨⟨a1, a2, a3, a4, a5, a6, a7, a8⟩, ⟨b1, b2, b3⟩⟩ := hl r hr
  have h1 : Reps (C0 w) [.int .i64 r.l.kind, .int .i64 r.l.frm, .int .i64 r.l.to, .int .i64 r.l.block, .int .i64 r.l.seq, .int .i64 r.l.who, .bool r.l.wr, .int .i64 r.l.tok.c, .bool r.l.tok.o, .bool r.l.tok.h, .int .i64 r.l.tok.d] [.int .i64 r.l.kind, .int .i64 r.l.frm, .int .i64 r.l.to, .int .i64 r.l.block, .int .i64 r.l.seq, .int .i64 r.l.who, .bool r.l.wr, .int .i64 r.l.tok.c, .bool r.l.tok.o, .bool r.l.tok.h, .int .i64 r.l.tok.d] :=
    plain_reps (az := [.int .i64 r.l.kind, .int .i64 r.l.frm, .int .i64 r.l.to, .int .i64 r.l.block, .int .i64 r.l.seq, .int .i64 r.l.who, .bool r.l.wr, .int .i64 r.l.tok.c, .bool r.l.tok.o, .bool r.l.tok.h, .int .i64 r.l.tok.d]) rfl ⟨a1, a2, a3, a4, a5, a6, a7, a8, trivial⟩
  have h2 : Reps (C0 w) [.arr 3 .int [r.d.a, r.d.b, r.d.c], .bool r.copy] [.int .i64 r.d.a, .int .i64 r.d.b, .int .i64 r.d.c, .bool r.copy] :=
    Reps.arr (us := [.int .i64 r.d.a, .int .i64 r.d.b, .int .i64 r.d.c]) (vs := [.bool r.copy]) (plain_reps (az := [.int .i64 r.d.a, .int .i64 r.d.b, .int .i64 r.d.c]) rfl ⟨b1, b2, b3, trivial⟩) rfl (plain_reps (az := [.bool r.copy]) rfl trivial)
  exact Reps.append h1 h2
theorem HomeForwards_walk (w : World) (c : Cfg) (hc : okCfg c) (n : Int) (hn : okI n) (A : Option Addr) (m k : Nat) (l : List Act16) (R : Rdc Act16.cs 15 w A m k l) (hl : ∀ r ∈ l, okAct16 r) :
    Calls Try.prog 4 #[.agg #[.int .i64 c.nodes, .int .i64 c.blocks, .int .i64 c.tokens, .int .i64 c.sets, .int .i64 c.ways, .int .i64 c.cap, .int .i64 c.wait, .int .i64 c.tries, .int .i64 c.policy], .int .i64 n, .slice A m k] w fun e w' => e = .returned (.bool true) ∧ Below w.heap.size w w' := by
  have hr : RVs (C0 w) [ACfg c, AI n, .vsl .act16 l] [.agg #[.int .i64 c.nodes, .int .i64 c.blocks, .int .i64 c.tokens, .int .i64 c.sets, .int .i64 c.ways, .int .i64 c.cap, .int .i64 c.wait, .int .i64 c.tries, .int .i64 c.policy], .int .i64 n, .slice A m k] := ⟨rv_cfg hc, rv_int0 hn, rv_acts R hl, trivial⟩
  by_cases h : MadeOk c l
  · exact walk_of_con cFwT_ok ⟨c, n, l⟩ h rfl rfl rfl w [_, _, _] hr
  · exact walk_of_con cFwF_ok ⟨c, n, l⟩ h rfl rfl rfl w [_, _, _] hr
end Go.Proofs.Ytipibgamajhgbaa
