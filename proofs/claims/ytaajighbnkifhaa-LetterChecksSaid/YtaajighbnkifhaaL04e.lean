/- LetterChecks of layer 4: what it comes to. -/
import Derived.Test.YtaajighbnkifhaaL04a
import Derived.Test.YtaajighbnkifhaaR04f
import Derived.Test.YtaajighbnkifhaaP04q
namespace Go.Proofs.Ytaajighbnkifhaa
open Go.RowKit
set_option linter.unusedVariables false
set_option linter.unusedSimpArgs false
set_option maxRecDepth 100000 in
set_option maxHeartbeats 8000000 in
theorem LetterChecks_walk (c : Cfg) (hc : okCfg c) (l : Ltr) (hl : okLtr l) (w : World) :
    Calls Try.prog 4 #[.agg #[.int .i64 c.nodes, .int .i64 c.blocks, .int .i64 c.tokens, .int .i64 c.sets, .int .i64 c.ways, .int .i64 c.cap, .int .i64 c.wait, .int .i64 c.tries, .int .i64 c.policy], .agg #[.int .i64 l.kind, .int .i64 l.frm, .int .i64 l.to, .int .i64 l.block, .int .i64 l.seq, .int .i64 l.who, .bool l.wr, .int .i64 l.tok.c, .bool l.tok.o, .bool l.tok.h, .int .i64 l.tok.d]] w fun e w' => e = .returned (.bool true) ∧ Below w.heap.size w w' := by
  obtain ⟨x, hx⟩ : ∃ x, rlcheck c l = x := ⟨_, rfl⟩
  have Hx := hide hx
  have Hy := hide ((lcheck_eq c l).trans hx)
  clear hx hc hl
  go_enter Try.func4, Try.ntmps4
  go_wp2_with fail
  refine wp_region_free_all mixed (fun x => ((x.cell? ⟨w.heap.size, 0, none⟩ = some (.int .i64 c.nodes) ∧ x.cell? ⟨w.heap.size, 1, none⟩ = some (.int .i64 c.blocks) ∧ x.cell? ⟨w.heap.size, 2, none⟩ = some (.int .i64 c.tokens) ∧ x.cell? ⟨w.heap.size, 3, none⟩ = some (.int .i64 c.sets) ∧ x.cell? ⟨w.heap.size, 4, none⟩ = some (.int .i64 c.ways) ∧ x.cell? ⟨w.heap.size, 5, none⟩ = some (.int .i64 c.cap) ∧ x.cell? ⟨w.heap.size, 6, none⟩ = some (.int .i64 c.wait) ∧ x.cell? ⟨w.heap.size, 7, none⟩ = some (.int .i64 c.tries) ∧ x.cell? ⟨w.heap.size, 8, none⟩ = some (.int .i64 c.policy)) ∧ (x.cell? ⟨w.heap.size + 1, 0, none⟩ = some (.int .i64 l.kind) ∧ x.cell? ⟨w.heap.size + 1, 1, none⟩ = some (.int .i64 l.frm) ∧ x.cell? ⟨w.heap.size + 1, 2, none⟩ = some (.int .i64 l.to) ∧ x.cell? ⟨w.heap.size + 1, 3, none⟩ = some (.int .i64 l.block) ∧ x.cell? ⟨w.heap.size + 1, 4, none⟩ = some (.int .i64 l.seq) ∧ x.cell? ⟨w.heap.size + 1, 5, none⟩ = some (.int .i64 l.who) ∧ x.cell? ⟨w.heap.size + 1, 6, none⟩ = some (.bool l.wr) ∧ x.cell? ⟨w.heap.size + 1, 7, none⟩ = some (.int .i64 l.tok.c) ∧ x.cell? ⟨w.heap.size + 1, 8, none⟩ = some (.bool l.tok.o) ∧ x.cell? ⟨w.heap.size + 1, 9, none⟩ = some (.bool l.tok.h) ∧ x.cell? ⟨w.heap.size + 1, 10, none⟩ = some (.int .i64 l.tok.d))) ∧ Below w.heap.size w x ∧ w.heap.size < x.heap.size ∧ w.heap.size + 1 < x.heap.size) (by kernel_rfl) ?_ ?_
  · refine ⟨⟨⟨?_, ?_, ?_, ?_, ?_, ?_, ?_, ?_, ?_⟩, ⟨?_, ?_, ?_, ?_, ?_, ?_, ?_, ?_, ?_, ?_, ?_⟩⟩, ?_, ?_, ?_⟩ <;> first | omega | (first | (go_simp; done) | ((repeat' (with_reducible first | exact bl0 | apply bl4 | apply bl5 | apply bl1 | refine bl2 ?_ (by first | omega | (simp only [World.size_alloc, World.size_setCell, World.size_drew]; omega)) | refine bl3 (by assumption) ?_)); done) | (refine bl3 (by assumption) ?_; (go_simp; done)) | (simp only [World.size_alloc, World.size_drew] at *; omega))
  repeat (apply Free.next; (case h => (intro w' hS; unfold Does; (try go_simp); first | exact ⟨rfl, hS⟩ | exact rfl | (simp only [Give_enter]; obtain ⟨c_S, b_S, z_S⟩ := hS; (first | (go_at_call 9; (with_reducible refine (awake_calls _).mono ?_)) | (go_at_call 12; (with_reducible refine (Check_calls c l _).mono ?_); rw [Hy.out]) | (go_at_call 13; (with_reducible refine (rlCheck_calls c l _).mono ?_); rw [Hx.out])); rintro e w1 ⟨rfl, hb_1⟩; obtain ⟨hc_1, hf_1⟩ := bcell hb_1; have z_1 := hb_1.size; refine ⟨_, rfl, rfl, ⟨⟨?_, ?_, ?_, ?_, ?_, ?_, ?_, ?_, ?_⟩, ⟨?_, ?_, ?_, ?_, ?_, ?_, ?_, ?_, ?_, ?_, ?_⟩⟩, ?_, ?_, ?_⟩ <;> first | omega | (first | (go_simp; done) | ((repeat' (with_reducible first | exact bl0 | apply bl4 | apply bl5 | apply bl1 | refine bl2 ?_ (by first | omega | (simp only [World.size_alloc, World.size_setCell, World.size_drew]; omega)) | refine bl3 (by assumption) ?_)); done) | (refine bl3 (by assumption) ?_; (go_simp; done)) | (simp only [World.size_alloc, World.size_drew] at *; omega))))); case he => (simp only [Act.put, List.setIfInBounds_toArray, List.set_cons_succ, List.set_cons_zero]; exact rfl))
  apply Free.nil
  intro wf hS
  apply wpList_nil
  obtain ⟨cb, bel, s1, s2⟩ := hS
  clear cb
  go_wp2
  go_ret
  (refine ⟨?_, ?_⟩; (first | rfl | (go_simp; done) | (simp; done)); (first | ((repeat' (with_reducible first | exact bl0 | apply bl4 | apply bl5 | apply bl1 | refine bl2 ?_ (by first | omega | (simp only [World.size_alloc, World.size_setCell, World.size_drew]; omega)) | refine bl3 (by assumption) ?_)); done) | (go_simp; done) | (refine bl3 (by assumption) ?_; go_simp; done)))
end Go.Proofs.Ytaajighbnkifhaa
