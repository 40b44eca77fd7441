/- What the small functions of layer 4 come to. -/
import Derived.Test.YtaajighbnkifhaaProg
import Derived.Test.YtaajighbnkifhaaP04
import Derived.Test.YtaajighbnkifhaaG
import Derived.Deep.DeepCutAuto
import Derived.Deep.RegionWith
import Derived.Deep.RegionHeld3
namespace Go.Proofs.Ytaajighbnkifhaa
open Go.RowKit
set_option linter.unusedVariables false
set_option linter.unusedSimpArgs false
theorem mixed : Try.prog.follows .mixedOrders = true := by kernel_rfl
theorem within_calls (n lo hi : Int) (w : World) : Calls Try.prog 19 #[.int .i64 n, .int .i64 lo, .int .i64 hi] w fun e w' => e = .returned (.bool (within n lo hi)) ∧ Below w.heap.size w w' := by
  by_cases h1 : lo ≤ n
  all_goals
    go_enter Try.func19, Try.ntmps19
    go_wp2
    all_goals
      go_ret
      exact ⟨ret_bool (by simp [within]; try omega), bl0⟩
theorem end_calls (c : Cfg) (n : Int) (ho no : Bool) (w : World) : Calls Try.prog 21 #[.agg #[.int .i64 c.nodes, .int .i64 c.blocks, .int .i64 c.tokens, .int .i64 c.sets, .int .i64 c.ways, .int .i64 c.cap, .int .i64 c.wait, .int .i64 c.tries, .int .i64 c.policy], .int .i64 n, .bool ho, .bool no] w fun e w' => e = .returned (.bool (endE c n ho no)) ∧ Below w.heap.size w w' := by
  rcases (show n = c.nodes ∨ n ≠ c.nodes from by omega) with q | q
  · have b1 : (n == c.nodes) = true := by simpa using q
    have Q := hide q
    clear q
    cases ho <;> cases no
    all_goals
      go_enter Try.func21, Try.ntmps21
      go_wp2
      all_goals
        go_ret
        exact ⟨ret_bool (by have := Q.out; simp [endE, this]; try omega), (by (repeat' (with_reducible first | exact bl0 | apply bl4 | apply bl5 | apply bl1 | refine bl2 ?_ (by first | omega | (simp only [World.size_alloc, World.size_setCell, World.size_drew]; omega)) | refine bl3 (by assumption) ?_)))⟩
  · have b1 : (n == c.nodes) = false := by simpa using q
    have Q := hide q
    clear q
    cases ho <;> cases no
    all_goals
      go_enter Try.func21, Try.ntmps21
      go_wp2
      all_goals
        go_ret
        exact ⟨ret_bool (by have := Q.out; simp [endE, this]; try omega), (by (repeat' (with_reducible first | exact bl0 | apply bl4 | apply bl5 | apply bl1 | refine bl2 ?_ (by first | omega | (simp only [World.size_alloc, World.size_setCell, World.size_drew]; omega)) | refine bl3 (by assumption) ?_)))⟩
theorem Drops_calls (l : Ltr) (w : World) : Calls Try.prog 14 #[.agg #[.int .i64 l.kind, .int .i64 l.frm, .int .i64 l.to, .int .i64 l.block, .int .i64 l.seq, .int .i64 l.who, .bool l.wr, .int .i64 l.tok.c, .bool l.tok.o, .bool l.tok.h, .int .i64 l.tok.d]] w fun e w' => e = .returned (.bool (l.kind == 2)) ∧ Below w.heap.size w w' := by
  go_enter Try.func14, Try.ntmps14
  go_wp2
  go_ret
  (refine ⟨?_, ?_⟩; (first | rfl | (go_simp; done) | (simp; done)); (first | ((repeat' (with_reducible first | exact bl0 | apply bl4 | apply bl5 | apply bl1 | refine bl2 ?_ (by first | omega | (simp only [World.size_alloc, World.size_setCell, World.size_drew]; omega)) | refine bl3 (by assumption) ?_)); done) | (go_simp; done) | (refine bl3 (by assumption) ?_; go_simp; done)))
theorem Tokens_calls (f t k : Int) (b : Bun) (w : World) : Calls Try.prog 15 #[.int .i64 f, .int .i64 t, .int .i64 k, .agg #[.int .i64 b.c, .bool b.o, .bool b.h, .int .i64 b.d]] w fun e w' => e = .returned (.agg #[.int .i64 (⟨1, f, t, k, 0, 0, false, b⟩ : Ltr).kind, .int .i64 (⟨1, f, t, k, 0, 0, false, b⟩ : Ltr).frm, .int .i64 (⟨1, f, t, k, 0, 0, false, b⟩ : Ltr).to, .int .i64 (⟨1, f, t, k, 0, 0, false, b⟩ : Ltr).block, .int .i64 (⟨1, f, t, k, 0, 0, false, b⟩ : Ltr).seq, .int .i64 (⟨1, f, t, k, 0, 0, false, b⟩ : Ltr).who, .bool (⟨1, f, t, k, 0, 0, false, b⟩ : Ltr).wr, .int .i64 ((⟨1, f, t, k, 0, 0, false, b⟩ : Ltr).tok).c, .bool ((⟨1, f, t, k, 0, 0, false, b⟩ : Ltr).tok).o, .bool ((⟨1, f, t, k, 0, 0, false, b⟩ : Ltr).tok).h, .int .i64 ((⟨1, f, t, k, 0, 0, false, b⟩ : Ltr).tok).d]) ∧ Below w.heap.size w w' := by
  go_enter Try.func15, Try.ntmps15
  go_wp2
  refine bodyPost_ret ?_ rfl ⟨rfl, ?_⟩
  · simp (maxDischargeDepth := 9) [results, Try.results15, go_sem]
  · (repeat' (with_reducible first | exact bl0 | apply bl4 | apply bl5 | apply bl1 | refine bl2 ?_ (by first | omega | (simp only [World.size_alloc, World.size_setCell, World.size_drew]; omega)) | refine bl3 (by assumption) ?_))
theorem small_calls (w : World) : Calls Try.prog 18 #[] w fun e w' => e = .returned (.agg #[.int .i64 (⟨2, 2, 4, 1, 1, 9, 1, 0, 1⟩ : Cfg).nodes, .int .i64 (⟨2, 2, 4, 1, 1, 9, 1, 0, 1⟩ : Cfg).blocks, .int .i64 (⟨2, 2, 4, 1, 1, 9, 1, 0, 1⟩ : Cfg).tokens, .int .i64 (⟨2, 2, 4, 1, 1, 9, 1, 0, 1⟩ : Cfg).sets, .int .i64 (⟨2, 2, 4, 1, 1, 9, 1, 0, 1⟩ : Cfg).ways, .int .i64 (⟨2, 2, 4, 1, 1, 9, 1, 0, 1⟩ : Cfg).cap, .int .i64 (⟨2, 2, 4, 1, 1, 9, 1, 0, 1⟩ : Cfg).wait, .int .i64 (⟨2, 2, 4, 1, 1, 9, 1, 0, 1⟩ : Cfg).tries, .int .i64 (⟨2, 2, 4, 1, 1, 9, 1, 0, 1⟩ : Cfg).policy]) ∧ Below w.heap.size w w' := by
  go_enter Try.func18, Try.ntmps18
  go_wp2
  refine bodyPost_ret ?_ rfl ⟨rfl, ?_⟩
  · simp (maxDischargeDepth := 9) [results, Try.results18, go_sem]
  · (repeat' (with_reducible first | exact bl0 | apply bl4 | apply bl5 | apply bl1 | refine bl2 ?_ (by first | omega | (simp only [World.size_alloc, World.size_setCell, World.size_drew]; omega)) | refine bl3 (by assumption) ?_))
end Go.Proofs.Ytaajighbnkifhaa
