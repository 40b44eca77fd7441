/- How a law's list of letters is told. No condition. -/
import Derived.Test.YtipibgamajhgbaaGWd
namespace Go.Proofs.Ytipibgamajhgbaa
open Go.RowKit
set_option linter.unusedVariables false
theorem rv_acts {w : World} {A : Option Addr} {m k : Nat} {l : List Act16} (R : Rdc Act16.cs 15 w A m k l) (hl : ∀ r ∈ l, okAct16 r) : RV1 (C0 w) (.vsl .act16 l) (.slice A m k) := by
  refine rv_vsl (t := .act16) Act16.cs R fun r hr => ?_
  obtain ⟨⟨a1, a2, a3, a4, a5, a6, a7, a8⟩, ⟨b1, b2, b3⟩⟩ := hl r hr
  have h1 : Reps (C0 w) [.int .i64 r.l.kind, .int .i64 r.l.frm, .int .i64 r.l.to, .int .i64 r.l.block, .int .i64 r.l.seq, .int .i64 r.l.who, .bool r.l.wr, .int .i64 r.l.tok.c, .bool r.l.tok.o, .bool r.l.tok.h, .int .i64 r.l.tok.d] [.int .i64 r.l.kind, .int .i64 r.l.frm, .int .i64 r.l.to, .int .i64 r.l.block, .int .i64 r.l.seq, .int .i64 r.l.who, .bool r.l.wr, .int .i64 r.l.tok.c, .bool r.l.tok.o, .bool r.l.tok.h, .int .i64 r.l.tok.d] :=
    plain_reps (az := [.int .i64 r.l.kind, .int .i64 r.l.frm, .int .i64 r.l.to, .int .i64 r.l.block, .int .i64 r.l.seq, .int .i64 r.l.who, .bool r.l.wr, .int .i64 r.l.tok.c, .bool r.l.tok.o, .bool r.l.tok.h, .int .i64 r.l.tok.d]) rfl ⟨a1, a2, a3, a4, a5, a6, a7, a8, trivial⟩
  have h2 : Reps (C0 w) [.arr 3 .int [r.d.a, r.d.b, r.d.c], .bool r.copy] [.int .i64 r.d.a, .int .i64 r.d.b, .int .i64 r.d.c, .bool r.copy] :=
    Reps.arr (us := [.int .i64 r.d.a, .int .i64 r.d.b, .int .i64 r.d.c]) (vs := [.bool r.copy]) (plain_reps (az := [.int .i64 r.d.a, .int .i64 r.d.b, .int .i64 r.d.c]) rfl ⟨b1, b2, b3, trivial⟩) rfl (plain_reps (az := [.bool r.copy]) rfl trivial)
  exact Reps.append h1 h2
end Go.Proofs.Ytipibgamajhgbaa
