/- The statements of layer 2: what 'awake' comes to. -/
import Derived.Test.YtegcnbomndeinaaC03
namespace Go.Proofs.Ytegcnbomndeinaa
open Go.RowKit
set_option linter.unusedVariables false
set_option linter.unusedSimpArgs false
theorem awk1 (w : World) : Calls Try.prog 10 #[.int .i64 3, .int .i64 7] w fun e w' => e = .returned (.agg #[.int .i64 3, .bool true, .bool true, .int .i64 7]) ∧ Below w.heap.size w w' :=
  Full_calls 3 7 w
theorem awk2 (w : World) : Calls Try.prog 15 #[.agg #[.int .i64 3, .bool true, .bool true, .int .i64 7], .int .i64 1, .bool false, .bool true] w fun e w' => e = .returned (.tuple #[.agg #[.int .i64 1, .bool false, .bool true, .int .i64 7], .agg #[.int .i64 2, .bool true, .bool true, .int .i64 7]]) ∧ Below w.heap.size w w' := by
  have e : split ⟨3, true, true, 7⟩ 1 false true = (⟨1, false, true, 7⟩, ⟨2, true, true, 7⟩) := by decide +kernel
  have := Split_calls ⟨3, true, true, 7⟩ 1 false true (by decide) w
  rw [e] at this
  exact this
theorem awk3 (w : World) : Calls Try.prog 15 #[.agg #[.int .i64 3, .bool true, .bool true, .int .i64 7], .int .i64 3, .bool false, .bool false] w fun e w' => e = .returned (.tuple #[.agg #[.int .i64 2, .bool false, .bool false, .int .i64 0], .agg #[.int .i64 1, .bool true, .bool true, .int .i64 7]]) ∧ Below w.heap.size w w' := by
  have e : split ⟨3, true, true, 7⟩ 3 false false = (⟨2, false, false, 0⟩, ⟨1, true, true, 7⟩) := by decide +kernel
  have := Split_calls ⟨3, true, true, 7⟩ 3 false false (by decide) w
  rw [e] at this
  exact this
theorem awk4 (w : World) : Calls Try.prog 17 #[.agg #[.int .i64 2, .bool false, .bool false, .int .i64 0], .agg #[.int .i64 1, .bool true, .bool true, .int .i64 7]] w fun e w' => e = .returned (.agg #[.int .i64 3, .bool true, .bool true, .int .i64 7]) ∧ Below w.heap.size w w' := by
  have e : join ⟨2, false, false, 0⟩ ⟨1, true, true, 7⟩ = ⟨3, true, true, 7⟩ := by decide +kernel
  have := Join_calls ⟨2, false, false, 0⟩ ⟨1, true, true, 7⟩ w
  rw [e] at this
  exact this
theorem awk5 (w : World) : Calls Try.prog 12 #[.agg #[.int .i64 3, .bool true, .bool true, .int .i64 7], .int .i64 2] w fun e w' => e = .returned (.int .i64 4) ∧ Below w.heap.size w w' :=
  bCheck_calls ⟨3, true, true, 7⟩ 2 w
theorem awk6 (w : World) : Calls Try.prog 12 #[.agg #[.int .i64 1, .bool true, .bool false, .int .i64 0], .int .i64 2] w fun e w' => e = .returned (.int .i64 6) ∧ Below w.heap.size w w' :=
  bCheck_calls ⟨1, true, false, 0⟩ 2 w
set_option maxHeartbeats 8000000 in
theorem awake_calls (w : World) : Calls Try.prog 11 #[] w fun e w' => e = .returned (.bool true) ∧ Below w.heap.size w w' := by
  go_enter Try.func11, Try.ntmps11
  go_upto_region 4 with (first | (go_at_call 10; refine (awk1 _).mono ?_; rintro e w1 ⟨rfl, hb_w1⟩; obtain ⟨hc_w1, hf_w1⟩ := bcell hb_w1; have z_w1 := hb_w1.size; (try simp only [World.size_alloc, World.size_setCell, World.size_drew] at z_w1)) | (go_at_call 15; first | ((with_reducible refine (awk2 _).mono ?_); rintro e w2 ⟨rfl, hb_w2⟩; obtain ⟨hc_w2, hf_w2⟩ := bcell hb_w2; have z_w2 := hb_w2.size; (try simp only [World.size_alloc, World.size_setCell, World.size_drew] at z_w2); have z_12 : w1.heap.size < w2.heap.size := (by omega); have z_12b : w1.heap.size < w2.heap.size + 1 := (by omega); have z_12c : w1.heap.size < w2.heap.size + 1 + 1 := (by omega)) | ((with_reducible refine (awk3 _).mono ?_); rintro e w3 ⟨rfl, hb_w3⟩; obtain ⟨hc_w3, hf_w3⟩ := bcell hb_w3; have z_w3 := hb_w3.size; (try simp only [World.size_alloc, World.size_setCell, World.size_drew] at z_w3); have z_13 : w1.heap.size < w3.heap.size := (by omega); have z_23 : w2.heap.size < w3.heap.size := (by omega); have z_24 : w2.heap.size + 1 < w3.heap.size := (by omega); have z_13b : w1.heap.size < w3.heap.size + 1 := (by omega); have z_23b : w2.heap.size < w3.heap.size + 1 := (by omega); have z_24b : w2.heap.size < w3.heap.size := (by omega))))
  refine wp_region_free_all mixed (fun x => ((x.cell? ⟨w1.heap.size, 0, none⟩ = some (.int .i64 3) ∧ x.cell? ⟨w1.heap.size, 1, none⟩ = some (.bool true) ∧ x.cell? ⟨w1.heap.size, 2, none⟩ = some (.bool true) ∧ x.cell? ⟨w1.heap.size, 3, none⟩ = some (.int .i64 7)) ∧ (x.cell? ⟨w2.heap.size, 0, none⟩ = some (.int .i64 1) ∧ x.cell? ⟨w2.heap.size, 1, none⟩ = some (.bool false) ∧ x.cell? ⟨w2.heap.size, 2, none⟩ = some (.bool true) ∧ x.cell? ⟨w2.heap.size, 3, none⟩ = some (.int .i64 7)) ∧ (x.cell? ⟨w2.heap.size + 1, 0, none⟩ = some (.int .i64 2) ∧ x.cell? ⟨w2.heap.size + 1, 1, none⟩ = some (.bool true) ∧ x.cell? ⟨w2.heap.size + 1, 2, none⟩ = some (.bool true) ∧ x.cell? ⟨w2.heap.size + 1, 3, none⟩ = some (.int .i64 7)) ∧ (x.cell? ⟨w3.heap.size, 0, none⟩ = some (.int .i64 2) ∧ x.cell? ⟨w3.heap.size, 1, none⟩ = some (.bool false) ∧ x.cell? ⟨w3.heap.size, 2, none⟩ = some (.bool false) ∧ x.cell? ⟨w3.heap.size, 3, none⟩ = some (.int .i64 0)) ∧ (x.cell? ⟨w3.heap.size + 1, 0, none⟩ = some (.int .i64 1) ∧ x.cell? ⟨w3.heap.size + 1, 1, none⟩ = some (.bool true) ∧ x.cell? ⟨w3.heap.size + 1, 2, none⟩ = some (.bool true) ∧ x.cell? ⟨w3.heap.size + 1, 3, none⟩ = some (.int .i64 7))) ∧ Below w.heap.size w x ∧ w1.heap.size < x.heap.size ∧ w2.heap.size < x.heap.size ∧ w2.heap.size + 1 < x.heap.size ∧ w3.heap.size < x.heap.size ∧ w3.heap.size + 1 < x.heap.size) (by kernel_rfl) ?_ ?_
  · refine ⟨⟨⟨?_, ?_, ?_, ?_⟩, ⟨?_, ?_, ?_, ?_⟩, ⟨?_, ?_, ?_, ?_⟩, ⟨?_, ?_, ?_, ?_⟩, ⟨?_, ?_, ?_, ?_⟩⟩, ?_, ?_, ?_, ?_, ?_, ?_⟩ <;> first | omega | (first | (go_simp; done) | ((repeat' (with_reducible first | exact bl0 | apply bl4 | apply bl5 | apply bl1 | refine bl2 ?_ (by first | omega | (simp only [World.size_alloc, World.size_setCell, World.size_drew]; omega)) | refine bl3 (by assumption) ?_)); done) | (refine bl3 (by assumption) ?_; (go_simp; done)) | (simp only [World.size_alloc, World.size_drew] at *; omega))
  repeat (apply Free.next; (case h => (intro w' hS; unfold Does; (try go_simp); first | exact ⟨rfl, hS⟩ | exact rfl | (simp only [Give_enter]; obtain ⟨c_S, b_S, z_S⟩ := hS; (first | (go_at_call 17; (with_reducible refine (awk4 _).mono ?_)) | (go_at_call 12; first | ((with_reducible refine (awk5 _).mono ?_)) | ((with_reducible refine (awk6 _).mono ?_)))); rintro e w1 ⟨rfl, hb_1⟩; obtain ⟨hc_1, hf_1⟩ := bcell hb_1; have z_1 := hb_1.size; refine ⟨_, rfl, rfl, ⟨⟨?_, ?_, ?_, ?_⟩, ⟨?_, ?_, ?_, ?_⟩, ⟨?_, ?_, ?_, ?_⟩, ⟨?_, ?_, ?_, ?_⟩, ⟨?_, ?_, ?_, ?_⟩⟩, ?_, ?_, ?_, ?_, ?_, ?_⟩ <;> first | omega | (first | (go_simp; done) | ((repeat' (with_reducible first | exact bl0 | apply bl4 | apply bl5 | apply bl1 | refine bl2 ?_ (by first | omega | (simp only [World.size_alloc, World.size_setCell, World.size_drew]; omega)) | refine bl3 (by assumption) ?_)); done) | (refine bl3 (by assumption) ?_; (go_simp; done)) | (simp only [World.size_alloc, World.size_drew] at *; omega))))); case he => (simp only [Act.put, List.setIfInBounds_toArray, List.set_cons_succ, List.set_cons_zero]; exact rfl))
  apply Free.nil
  intro wf hS
  apply wpList_nil
  obtain ⟨cb, bel, s1, s2, s3, s4, s5⟩ := hS
  clear cb
  go_wp2
  go_ret
  (refine ⟨?_, ?_⟩; (first | rfl | (go_simp; done) | (simp; done)); (first | ((repeat' (with_reducible first | exact bl0 | apply bl4 | apply bl5 | apply bl1 | refine bl2 ?_ (by first | omega | (simp only [World.size_alloc, World.size_setCell, World.size_drew]; omega)) | refine bl3 (by assumption) ?_)); done) | (go_simp; done) | (refine bl3 (by assumption) ?_; go_simp; done)))
end Go.Proofs.Ytegcnbomndeinaa
