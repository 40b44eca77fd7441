/- The statements of layer 4: what 'awake' comes to. -/
import Derived.Test.YtaajighbnkifhaaC04c
import Derived.Test.YtaajighbnkifhaaC04k
import Derived.Test.YtaajighbnkifhaaS04
namespace Go.Proofs.Ytaajighbnkifhaa
open Go.RowKit
set_option linter.unusedVariables false
set_option linter.unusedSimpArgs false
theorem awk1 (w : World) : Calls Try.prog 15 #[.int .i64 0, .int .i64 2, .int .i64 1, .agg #[.int .i64 1, .bool false, .bool false, .int .i64 0]] w fun e w' => e = .returned (.agg #[.int .i64 1, .int .i64 0, .int .i64 2, .int .i64 1, .int .i64 0, .int .i64 0, .bool false, .int .i64 1, .bool false, .bool false, .int .i64 0]) ∧ Below w.heap.size w w' :=
  Tokens_calls 0 2 1 ⟨1, false, false, 0⟩ w
theorem awk2 (w : World) : Calls Try.prog 10 #[.agg #[.int .i64 2, .int .i64 2, .int .i64 4, .int .i64 1, .int .i64 1, .int .i64 9, .int .i64 1, .int .i64 0, .int .i64 1]] w fun e w' => e = .returned (.int .i64 0) ∧ Below w.heap.size w w' := by
  have e : cfgE ⟨2, 2, 4, 1, 1, 9, 1, 0, 1⟩ = 0 := by decide +kernel
  have := Config_calls ⟨2, 2, 4, 1, 1, 9, 1, 0, 1⟩ w
  rw [e] at this
  exact this
theorem awk3 (w : World) : Calls Try.prog 12 #[.agg #[.int .i64 2, .int .i64 2, .int .i64 4, .int .i64 1, .int .i64 1, .int .i64 9, .int .i64 1, .int .i64 0, .int .i64 1], .agg #[.int .i64 1, .int .i64 0, .int .i64 2, .int .i64 1, .int .i64 0, .int .i64 0, .bool false, .int .i64 1, .bool false, .bool false, .int .i64 0]] w fun e w' => e = .returned (.int .i64 0) ∧ Below w.heap.size w w' := by
  have e : lcheck ⟨2, 2, 4, 1, 1, 9, 1, 0, 1⟩ ⟨1, 0, 2, 1, 0, 0, false, ⟨1, false, false, 0⟩⟩ = 0 := by decide +kernel
  have := Check_calls ⟨2, 2, 4, 1, 1, 9, 1, 0, 1⟩ ⟨1, 0, 2, 1, 0, 0, false, ⟨1, false, false, 0⟩⟩ w
  rw [e] at this
  exact this
theorem awk4 (w : World) : Calls Try.prog 12 #[.agg #[.int .i64 2, .int .i64 2, .int .i64 4, .int .i64 1, .int .i64 1, .int .i64 9, .int .i64 1, .int .i64 0, .int .i64 1], .agg #[.int .i64 2, .int .i64 0, .int .i64 0, .int .i64 0, .int .i64 0, .int .i64 0, .bool false, .int .i64 0, .bool false, .bool false, .int .i64 0]] w fun e w' => e = .returned (.int .i64 8) ∧ Below w.heap.size w w' := by
  have e : lcheck ⟨2, 2, 4, 1, 1, 9, 1, 0, 1⟩ ⟨2, 0, 0, 0, 0, 0, false, ⟨0, false, false, 0⟩⟩ = 8 := by decide +kernel
  have := Check_calls ⟨2, 2, 4, 1, 1, 9, 1, 0, 1⟩ ⟨2, 0, 0, 0, 0, 0, false, ⟨0, false, false, 0⟩⟩ w
  rw [e] at this
  exact this
theorem awk5 (w : World) : Calls Try.prog 12 #[.agg #[.int .i64 2, .int .i64 2, .int .i64 4, .int .i64 1, .int .i64 1, .int .i64 9, .int .i64 1, .int .i64 0, .int .i64 1], .agg #[.int .i64 4, .int .i64 2, .int .i64 1, .int .i64 1, .int .i64 5, .int .i64 1, .bool false, .int .i64 0, .bool false, .bool false, .int .i64 0]] w fun e w' => e = .returned (.int .i64 0) ∧ Below w.heap.size w w' := by
  have e : lcheck ⟨2, 2, 4, 1, 1, 9, 1, 0, 1⟩ ⟨4, 2, 1, 1, 5, 1, false, ⟨0, false, false, 0⟩⟩ = 0 := by decide +kernel
  have := Check_calls ⟨2, 2, 4, 1, 1, 9, 1, 0, 1⟩ ⟨4, 2, 1, 1, 5, 1, false, ⟨0, false, false, 0⟩⟩ w
  rw [e] at this
  exact this
theorem awk6 (w : World) : Calls Try.prog 14 #[.agg #[.int .i64 2, .int .i64 0, .int .i64 0, .int .i64 0, .int .i64 0, .int .i64 0, .bool false, .int .i64 0, .bool false, .bool false, .int .i64 0]] w fun e w' => e = .returned (.bool true) ∧ Below w.heap.size w w' :=
  Drops_calls ⟨2, 0, 0, 0, 0, 0, false, ⟨0, false, false, 0⟩⟩ w
theorem awk7 (w : World) : Calls Try.prog 14 #[.agg #[.int .i64 1, .int .i64 0, .int .i64 2, .int .i64 1, .int .i64 0, .int .i64 0, .bool false, .int .i64 1, .bool false, .bool false, .int .i64 0]] w fun e w' => e = .returned (.bool false) ∧ Below w.heap.size w w' :=
  Drops_calls ⟨1, 0, 2, 1, 0, 0, false, ⟨1, false, false, 0⟩⟩ w
theorem awk8 (w : World) : Calls Try.prog 18 #[] w fun e w' => e = .returned (.agg #[.int .i64 2, .int .i64 2, .int .i64 4, .int .i64 1, .int .i64 1, .int .i64 9, .int .i64 1, .int .i64 0, .int .i64 1]) ∧ Below w.heap.size w w' :=
  small_calls w
theorem awk9 (w : World) : Calls Try.prog 16 #[.int .i64 4, .int .i64 2, .int .i64 1, .int .i64 5, .int .i64 1, .int .i64 2] w fun e w' => ∃ b off c, e = .returned (.slice (some ⟨b, off, none⟩) 2 c) ∧ b < w'.heap.size ∧ (w'.cell? ⟨b, 0, none⟩ = some (.int .i64 4)) = (w'.cell? ⟨b, 0, none⟩ = some (.int .i64 4)) ∧ (w'.cell? ⟨b, off + 11, none⟩ = some (.int .i64 4) ∧ w'.cell? ⟨b, off + 11 + 1, none⟩ = some (.int .i64 2) ∧ w'.cell? ⟨b, off + 11 + 2, none⟩ = some (.int .i64 1) ∧ w'.cell? ⟨b, off + 11 + 3, none⟩ = some (.int .i64 1) ∧ w'.cell? ⟨b, off + 11 + 4, none⟩ = some (.int .i64 5) ∧ w'.cell? ⟨b, off + 11 + 5, none⟩ = some (.int .i64 1) ∧ w'.cell? ⟨b, off + 11 + 6, none⟩ = some (.bool false) ∧ w'.cell? ⟨b, off + 11 + 7, none⟩ = some (.int .i64 0) ∧ w'.cell? ⟨b, off + 11 + 8, none⟩ = some (.bool false) ∧ w'.cell? ⟨b, off + 11 + 9, none⟩ = some (.bool false) ∧ w'.cell? ⟨b, off + 11 + 10, none⟩ = some (.int .i64 0)) ∧ 2 ≤ c ∧ Below w.heap.size w w' := by
  refine (Spread_calls 4 2 1 5 1 2 w).mono ?_
  rintro e w' ⟨A, c, rfl, hr, hb⟩
  have e2 : (max (min (2 : Int) 64) 0).toNat = 2 := by decide
  rw [e2] at hr ⊢
  obtain ⟨h1, h2, h3, h4⟩ := hr
  obtain ⟨b, off, rfl, hlt, hc⟩ := h4 (by omega)
  have hx := hc 1 
  have g := spr_get 4 2 1 5 1 2 1 (by omega)
  have G := fun j v hv => hx j _ v g hv
  simp only [Nat.one_mul] at G
  exact ⟨b, off, c, rfl, hlt, rfl, ⟨G 0 _ rfl, G 1 _ rfl, G 2 _ rfl, G 3 _ rfl, G 4 _ rfl, G 5 _ rfl, G 6 _ rfl, G 7 _ rfl, G 8 _ rfl, G 9 _ rfl, G 10 _ rfl⟩, h2, hb⟩
set_option maxRecDepth 100000 in
set_option maxHeartbeats 16000000 in
theorem awake_calls (w : World) : Calls Try.prog 9 #[] w fun e w' => e = .returned (.bool true) ∧ Below w.heap.size w w' := by
  go_enter Try.func9, Try.ntmps9
  go_wp2_with fail
  refine (awk1 _).mono ?_; rintro e w1 ⟨rfl, hb_w1⟩; obtain ⟨hc_w1, hf_w1⟩ := bcell hb_w1; have z_w1 := hb_w1.size; (try simp only [World.size_alloc, World.size_setCell, World.size_drew, World.heap_drewN] at z_w1)
  go_wp2_with fail
  refine (awk9 _).mono ?_; rintro e w2 ⟨b, off, cc, rfl, hlt, -, ⟨g0, g1, g2, g3, g4, g5, g6, g7, g8, g9, g10⟩, hcc, hb_w2⟩; obtain ⟨hc_w2, hf_w2⟩ := bcell hb_w2; have z_w2 := hb_w2.size; (try simp only [World.size_alloc, World.size_setCell, World.size_drew, World.heap_drewN] at z_w2); have zz_w2_w1_0_0 : w1.heap.size < w2.heap.size := (by omega); have zz_w2_w1_0_1 : w1.heap.size < w2.heap.size + 1 := (by omega); have zz_w2_w1_0_2 : w1.heap.size < w2.heap.size + 1 + 1 := (by omega); have zz_w2_w1_0_3 : w1.heap.size < w2.heap.size + 1 + 1 + 1 := (by omega)
  go_wp2_with fail
  refine wp_region_free_all mixed (fun x => ((x.cell? ⟨w1.heap.size, 0, none⟩ = some (.int .i64 1) ∧ x.cell? ⟨w1.heap.size, 1, none⟩ = some (.int .i64 0) ∧ x.cell? ⟨w1.heap.size, 2, none⟩ = some (.int .i64 2) ∧ x.cell? ⟨w1.heap.size, 3, none⟩ = some (.int .i64 1) ∧ x.cell? ⟨w1.heap.size, 4, none⟩ = some (.int .i64 0) ∧ x.cell? ⟨w1.heap.size, 5, none⟩ = some (.int .i64 0) ∧ x.cell? ⟨w1.heap.size, 6, none⟩ = some (.bool false) ∧ x.cell? ⟨w1.heap.size, 7, none⟩ = some (.int .i64 1) ∧ x.cell? ⟨w1.heap.size, 8, none⟩ = some (.bool false) ∧ x.cell? ⟨w1.heap.size, 9, none⟩ = some (.bool false) ∧ x.cell? ⟨w1.heap.size, 10, none⟩ = some (.int .i64 0)) ∧ (x.cell? ⟨b, off + 11, none⟩ = some (.int .i64 4) ∧ x.cell? ⟨b, off + 11 + 1, none⟩ = some (.int .i64 2) ∧ x.cell? ⟨b, off + 11 + 2, none⟩ = some (.int .i64 1) ∧ x.cell? ⟨b, off + 11 + 3, none⟩ = some (.int .i64 1) ∧ x.cell? ⟨b, off + 11 + 4, none⟩ = some (.int .i64 5) ∧ x.cell? ⟨b, off + 11 + 5, none⟩ = some (.int .i64 1) ∧ x.cell? ⟨b, off + 11 + 6, none⟩ = some (.bool false) ∧ x.cell? ⟨b, off + 11 + 7, none⟩ = some (.int .i64 0) ∧ x.cell? ⟨b, off + 11 + 8, none⟩ = some (.bool false) ∧ x.cell? ⟨b, off + 11 + 9, none⟩ = some (.bool false) ∧ x.cell? ⟨b, off + 11 + 10, none⟩ = some (.int .i64 0))) ∧ Below w.heap.size w x ∧ w1.heap.size < x.heap.size ∧ b < x.heap.size) (by kernel_rfl) ?_ ?_
  · refine ⟨⟨⟨?_, ?_, ?_, ?_, ?_, ?_, ?_, ?_, ?_, ?_, ?_⟩, ⟨?_, ?_, ?_, ?_, ?_, ?_, ?_, ?_, ?_, ?_, ?_⟩⟩, ?_, ?_, ?_⟩ <;> first | omega | (first | (go_simp; done) | ((repeat' (with_reducible first | exact bl0 | apply bl4 | apply bl5 | apply bl1 | refine bl2 ?_ (by first | omega | (simp only [World.size_alloc, World.size_setCell, World.size_drew]; omega)) | refine bl3 (by assumption) ?_)); done) | (refine bl3 (by assumption) ?_; (go_simp; done)) | (simp only [World.size_alloc, World.size_drew] at *; omega))
  repeat (apply Free.next; (case h => (intro w' hS; unfold Does; (try go_simp); first | exact ⟨rfl, hS⟩ | exact rfl | (simp only [Give_enter]; obtain ⟨c_S, b_S, z_S⟩ := hS; (first | (go_at_call 18; (with_reducible refine (awk8 _).mono ?_)) | (go_at_call 10; (with_reducible refine (awk2 _).mono ?_)) | (go_at_call 12; first | ((with_reducible refine (awk3 _).mono ?_)) | ((with_reducible refine (awk4 _).mono ?_)) | ((with_reducible refine (awk5 _).mono ?_))) | (go_at_call 14; first | ((with_reducible refine (awk6 _).mono ?_)) | ((with_reducible refine (awk7 _).mono ?_)))); rintro e w1 ⟨rfl, hb_1⟩; obtain ⟨hc_1, hf_1⟩ := bcell hb_1; have z_1 := hb_1.size; refine ⟨_, rfl, rfl, ⟨⟨?_, ?_, ?_, ?_, ?_, ?_, ?_, ?_, ?_, ?_, ?_⟩, ⟨?_, ?_, ?_, ?_, ?_, ?_, ?_, ?_, ?_, ?_, ?_⟩⟩, ?_, ?_, ?_⟩ <;> first | omega | (first | (go_simp; done) | ((repeat' (with_reducible first | exact bl0 | apply bl4 | apply bl5 | apply bl1 | refine bl2 ?_ (by first | omega | (simp only [World.size_alloc, World.size_setCell, World.size_drew]; omega)) | refine bl3 (by assumption) ?_)); done) | (refine bl3 (by assumption) ?_; (go_simp; done)) | (simp only [World.size_alloc, World.size_drew] at *; omega))))); case he => (simp only [Act.put, List.setIfInBounds_toArray, List.set_cons_succ, List.set_cons_zero]; exact rfl))
  apply Free.nil
  intro wf hS
  apply wpList_nil
  obtain ⟨cb, bel, s1, s2⟩ := hS
  clear cb
  go_wp2
  go_ret
  (refine ⟨?_, ?_⟩; (first | rfl | (go_simp; done) | (simp; done)); (first | ((repeat' (with_reducible first | exact bl0 | apply bl4 | apply bl5 | apply bl1 | refine bl2 ?_ (by first | omega | (simp only [World.size_alloc, World.size_setCell, World.size_drew]; omega)) | refine bl3 (by assumption) ?_)); done) | (go_simp; done) | (refine bl3 (by assumption) ?_; go_simp; done)))
end Go.Proofs.Ytaajighbnkifhaa
