/- BundleChecks of layer 2: what it comes to. -/
import Derived.Test.YtegcnbomndeinaaL02a
import Derived.Test.YtegcnbomndeinaaP02
import Derived.Test.YtegcnbomndeinaaC02r
import Derived.Test.YtegcnbomndeinaaC02j
namespace Go.Proofs.Ytegcnbomndeinaa
open Go.RowKit
set_option linter.unusedVariables false
set_option linter.unusedSimpArgs false
theorem full_right {t d : Int} (h : ¬ t < 1) : bcheck ⟨t, true, true, d⟩ t = 0 := by
  rw [right_iff]
  refine ⟨⟨by omega, by omega⟩, fun h => by omega, by simp, by simp⟩
set_option maxHeartbeats 8000000 in
theorem BundleChecks_walk (b : Bun) (hb : okBun b) (t : Int) (ht : okI t) (d : Int) (hd : okI d) (w : World) :
    Calls Try.prog 3 #[.agg #[.int .i64 b.c, .bool b.o, .bool b.h, .int .i64 b.d], .int .i64 t, .int .i64 d] w fun e w' => e = .returned (.bool true) ∧ Below w.heap.size w w' := by
  obtain ⟨f, hf⟩ : ∃ f, full t d = f := ⟨_, rfl⟩
  have Hf := hide hf
  obtain ⟨k, hk⟩ : ∃ k, bcheck b t = k := ⟨_, rfl⟩
  have Hk := hide hk
  clear hf hk
  go_enter Try.func3, Try.ntmps3
  go_upto_region 2 with (go_at_call 10; refine (Full_calls t d _).mono ?_; rw [Hf.out]; rintro e w1 ⟨rfl, hb_w1⟩; obtain ⟨hc_w1, hf_w1⟩ := bcell hb_w1; have z_w1 := hb_w1.size; (try simp only [World.size_alloc, World.size_setCell, World.size_drew] at z_w1); have z_w1_0 : w.heap.size < w1.heap.size := (by omega))
  refine wp_region_free_all mixed (fun x => ((x.cell? ⟨w.heap.size, 0, none⟩ = some (.int .i64 b.c) ∧ x.cell? ⟨w.heap.size, 1, none⟩ = some (.bool b.o) ∧ x.cell? ⟨w.heap.size, 2, none⟩ = some (.bool b.h) ∧ x.cell? ⟨w.heap.size, 3, none⟩ = some (.int .i64 b.d)) ∧ (x.cell? ⟨w1.heap.size, 0, none⟩ = some (.int .i64 f.c) ∧ x.cell? ⟨w1.heap.size, 1, none⟩ = some (.bool f.o) ∧ x.cell? ⟨w1.heap.size, 2, none⟩ = some (.bool f.h) ∧ x.cell? ⟨w1.heap.size, 3, none⟩ = some (.int .i64 f.d))) ∧ Below w.heap.size w x ∧ w.heap.size < x.heap.size ∧ w1.heap.size < x.heap.size) (by kernel_rfl) ?_ ?_
  · refine ⟨⟨⟨?_, ?_, ?_, ?_⟩, ⟨?_, ?_, ?_, ?_⟩⟩, ?_, ?_, ?_⟩ <;> first | omega | (first | (go_simp; done) | ((repeat' (with_reducible first | exact bl0 | apply bl4 | apply bl5 | apply bl1 | refine bl2 ?_ (by first | omega | (simp only [World.size_alloc, World.size_setCell, World.size_drew]; omega)) | refine bl3 (by assumption) ?_)); done) | (refine bl3 (by assumption) ?_; (go_simp; done)) | (simp only [World.size_alloc, World.size_drew] at *; omega))
  repeat (apply Free.next; (case h => (intro w' hS; unfold Does; (try go_simp); first | exact ⟨rfl, hS⟩ | exact rfl | (simp only [Give_enter]; obtain ⟨c_S, b_S, z_S⟩ := hS; (first | (go_at_call 11; (with_reducible refine (awake_calls _).mono ?_)) | (go_at_call 12; (with_reducible refine (bCheck_calls b t _).mono ?_)) | (go_at_call 13; (with_reducible refine (rCheck_calls b t _).mono ?_))); rintro e w1 ⟨rfl, hb_1⟩; obtain ⟨hc_1, hf_1⟩ := bcell hb_1; have z_1 := hb_1.size; refine ⟨_, rfl, rfl, ⟨⟨?_, ?_, ?_, ?_⟩, ⟨?_, ?_, ?_, ?_⟩⟩, ?_, ?_, ?_⟩ <;> first | omega | (first | (go_simp; done) | ((repeat' (with_reducible first | exact bl0 | apply bl4 | apply bl5 | apply bl1 | refine bl2 ?_ (by first | omega | (simp only [World.size_alloc, World.size_setCell, World.size_drew]; omega)) | refine bl3 (by assumption) ?_)); done) | (refine bl3 (by assumption) ?_; (go_simp; done)) | (simp only [World.size_alloc, World.size_drew] at *; omega))))); case he => (simp only [Act.put, List.setIfInBounds_toArray, List.set_cons_succ, List.set_cons_zero]; exact rfl))
  apply Free.nil
  intro wf hS
  apply wpList_nil
  obtain ⟨⟨cb, x0, x1, x2, x3⟩, bel, s1, s2⟩ := hS
  clear cb
  by_cases hlt : t < 1
  · have e : f = bun0 := by rw [← Hf.out]; simp [full, hlt]
    subst e
    clear Hf
    simp only [bun0] at x0 x1 x2 x3
    go_wp2
    go_ret
    (refine ⟨?_, ?_⟩; (first | rfl | (go_simp; done) | (simp; done)); (first | ((repeat' (with_reducible first | exact bl0 | apply bl4 | apply bl5 | apply bl1 | refine bl2 ?_ (by first | omega | (simp only [World.size_alloc, World.size_setCell, World.size_drew]; omega)) | refine bl3 (by assumption) ?_)); done) | (go_simp; done) | (refine bl3 (by assumption) ?_; go_simp; done)))
  · have e : f = ⟨t, true, true, d⟩ := by rw [← Hf.out]; simp [full, hlt]
    subst e
    clear Hf
    have Hz := hide (full_right (d := d) hlt)
    simp only at x0 x1 x2 x3
    go_wp2_with (go_at_call 12; refine (bCheck_calls ⟨t, true, true, d⟩ t _).mono ?_; rw [Hz.out]; rintro e w5 ⟨rfl, hb_w5⟩; obtain ⟨hc_w5, hf_w5⟩ := bcell hb_w5)
    go_ret
    (refine ⟨?_, ?_⟩; (first | rfl | (go_simp; done) | (simp; done)); (first | ((repeat' (with_reducible first | exact bl0 | apply bl4 | apply bl5 | apply bl1 | refine bl2 ?_ (by first | omega | (simp only [World.size_alloc, World.size_setCell, World.size_drew]; omega)) | refine bl3 (by assumption) ?_)); done) | (go_simp; done) | (refine bl3 (by assumption) ?_; go_simp; done)))
end Go.Proofs.Ytegcnbomndeinaa
