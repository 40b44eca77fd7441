/- LetterConfigs of layer 4: what it comes to. -/
import Derived.Test.YtaajighbnkifhaaL04a
import Derived.Test.YtaajighbnkifhaaR04
namespace Go.Proofs.Ytaajighbnkifhaa
open Go.RowKit
set_option linter.unusedVariables false
set_option linter.unusedSimpArgs false
set_option maxHeartbeats 8000000 in
theorem LetterConfigs_walk (c : Cfg) (hc : okCfg c) (w : World) :
    Calls Try.prog 3 #[.agg #[.int .i64 c.nodes, .int .i64 c.blocks, .int .i64 c.tokens, .int .i64 c.sets, .int .i64 c.ways, .int .i64 c.cap, .int .i64 c.wait, .int .i64 c.tries, .int .i64 c.policy]] w fun e w' => e = .returned (.bool true) ∧ Below w.heap.size w w' := by
  obtain ⟨x, hx⟩ : ∃ x, cfgE c = x := ⟨_, rfl⟩
  have Hx := hide hx
  clear hx hc
  go_enter Try.func3, Try.ntmps3
  go_wp2_with fail
  refine wp_region_free_all mixed (fun x => (x.cell? ⟨w.heap.size, 0, none⟩ = some (.int .i64 c.nodes) ∧ x.cell? ⟨w.heap.size, 1, none⟩ = some (.int .i64 c.blocks) ∧ x.cell? ⟨w.heap.size, 2, none⟩ = some (.int .i64 c.tokens) ∧ x.cell? ⟨w.heap.size, 3, none⟩ = some (.int .i64 c.sets) ∧ x.cell? ⟨w.heap.size, 4, none⟩ = some (.int .i64 c.ways) ∧ x.cell? ⟨w.heap.size, 5, none⟩ = some (.int .i64 c.cap) ∧ x.cell? ⟨w.heap.size, 6, none⟩ = some (.int .i64 c.wait) ∧ x.cell? ⟨w.heap.size, 7, none⟩ = some (.int .i64 c.tries) ∧ x.cell? ⟨w.heap.size, 8, none⟩ = some (.int .i64 c.policy)) ∧ Below w.heap.size w x ∧ w.heap.size < x.heap.size) (by kernel_rfl) ?_ ?_
  · refine ⟨⟨?_, ?_, ?_, ?_, ?_, ?_, ?_, ?_, ?_⟩, ?_, ?_⟩ <;> first | omega | (first | (go_simp; done) | ((repeat' (with_reducible first | exact bl0 | apply bl4 | apply bl5 | apply bl1 | refine bl2 ?_ (by first | omega | (simp only [World.size_alloc, World.size_setCell, World.size_drew]; omega)) | refine bl3 (by assumption) ?_)); done) | (refine bl3 (by assumption) ?_; (go_simp; done)) | (simp only [World.size_alloc, World.size_drew] at *; omega))
  repeat (apply Free.next; (case h => (intro w' hS; unfold Does; (try go_simp); first | exact ⟨rfl, hS⟩ | exact rfl | (simp only [Give_enter]; obtain ⟨c_S, b_S, z_S⟩ := hS; (first | (go_at_call 9; (with_reducible refine (awake_calls _).mono ?_)) | (go_at_call 10; (with_reducible refine (Config_calls c _).mono ?_); rw [Hx.out]) | (go_at_call 11; (with_reducible refine (rConfig_calls c _).mono ?_); rw [Hx.out])); rintro e w1 ⟨rfl, hb_1⟩; obtain ⟨hc_1, hf_1⟩ := bcell hb_1; have z_1 := hb_1.size; refine ⟨_, rfl, rfl, ⟨?_, ?_, ?_, ?_, ?_, ?_, ?_, ?_, ?_⟩, ?_, ?_⟩ <;> first | omega | (first | (go_simp; done) | ((repeat' (with_reducible first | exact bl0 | apply bl4 | apply bl5 | apply bl1 | refine bl2 ?_ (by first | omega | (simp only [World.size_alloc, World.size_setCell, World.size_drew]; omega)) | refine bl3 (by assumption) ?_)); done) | (refine bl3 (by assumption) ?_; (go_simp; done)) | (simp only [World.size_alloc, World.size_drew] at *; omega))))); case he => (simp only [Act.put, List.setIfInBounds_toArray, List.set_cons_succ, List.set_cons_zero]; exact rfl))
  apply Free.nil
  intro wf hS
  apply wpList_nil
  obtain ⟨cb, bel, s1⟩ := hS
  clear cb
  go_wp2
  go_ret
  (refine ⟨?_, ?_⟩; (first | rfl | (go_simp; done) | (simp; done)); (first | ((repeat' (with_reducible first | exact bl0 | apply bl4 | apply bl5 | apply bl1 | refine bl2 ?_ (by first | omega | (simp only [World.size_alloc, World.size_setCell, World.size_drew]; omega)) | refine bl3 (by assumption) ?_)); done) | (go_simp; done) | (refine bl3 (by assumption) ?_; go_simp; done)))
end Go.Proofs.Ytaajighbnkifhaa
