/- The statements of layer 13: what 'awake' comes to. -/
import Derived.Test.YtkamhamgpinhkaaC03
import Derived.Test.YtkamhamgpinhkaaT13
import Derived.Test.YtkamhamgpinhkaaY13
namespace Go.Proofs.Ytkamhamgpinhkaa
open Go.RowKit
set_option linter.unusedVariables false
set_option linter.unusedSimpArgs false
theorem Rd.new2 {w : World} {x y : Int} {t : TypeId} : Rd icell 1 (w.alloc (.cells #[.int .i64 x, .int .i64 y] t)) (some ⟨w.heap.size, 0, none⟩) 2 2 [x, y] := by
  refine ⟨rfl, by omega, by omega, fun _ => ⟨w.heap.size, 0, rfl, by simp, fun i j z v hz hv => ?_⟩⟩
  cases j with
  | succ j => simp [icell] at hv
  | zero =>
    simp [icell] at hv
    subst hv
    match i, hz with
    | 0, hz => simp at hz; subst hz; go_simp
    | 1, hz => simp at hz; subst hz; go_simp
theorem awk1 (w : World) : Calls Try.prog 17 #[.int .i64 3, .int .i64 7] w fun e w' => e = .returned (.agg #[.int .i64 3, .bool true, .bool true, .int .i64 7]) ∧ Below w.heap.size w w' :=
  Full_calls 3 7 w
theorem awk2 (w : World) : Calls Try.prog 12 #[.int .i64 1, .agg #[.int .i64 3, .bool true, .bool true, .int .i64 7], .bool false, .agg #[.int .i64 0, .int .i64 0, .int .i64 0]] w fun e w' => e = .returned (.tuple #[.int .i64 1, .bool false, .bool true]) ∧ Below w.heap.size w w' := by
  have e : reply 1 ⟨3, true, true, 7⟩ false ⟨0, 0, 0⟩ = (1, false, true) := by decide +kernel
  have := Reply_calls 1 ⟨3, true, true, 7⟩ false ⟨0, 0, 0⟩ w
  rw [e] at this
  exact this
theorem awk3 (w : World) : Calls Try.prog 12 #[.int .i64 1, .agg #[.int .i64 3, .bool true, .bool true, .int .i64 7], .bool true, .agg #[.int .i64 0, .int .i64 0, .int .i64 0]] w fun e w' => e = .returned (.tuple #[.int .i64 3, .bool true, .bool true]) ∧ Below w.heap.size w w' := by
  have e : reply 1 ⟨3, true, true, 7⟩ true ⟨0, 0, 0⟩ = (3, true, true) := by decide +kernel
  have := Reply_calls 1 ⟨3, true, true, 7⟩ true ⟨0, 0, 0⟩ w
  rw [e] at this
  exact this
theorem awk4 (w : World) : Calls Try.prog 10 #[.agg #[.int .i64 2, .int .i64 0, .int .i64 0, .int .i64 0, .int .i64 0, .int .i64 0, .int .i64 0, .int .i64 0, .int .i64 1], .int .i64 0, .agg #[.int .i64 0, .int .i64 0, .int .i64 0]] w fun e w' => ∃ v, e = .returned v ∧ Sl icell 1 [1, 2] v w' ∧ Below w.heap.size w w' := by
  have e : tgts ⟨2, 0, 0, 0, 0, 0, 0, 0, 1⟩ 0 ⟨0, 0, 0⟩ = [1, 2] := by decide +kernel
  have := Targets_calls ⟨2, 0, 0, 0, 0, 0, 0, 0, 1⟩ 0 ⟨0, 0, 0⟩ w
  rw [e] at this
  exact this
theorem awk5 (w : World) : Calls Try.prog 10 #[.agg #[.int .i64 64, .int .i64 0, .int .i64 0, .int .i64 0, .int .i64 0, .int .i64 0, .int .i64 0, .int .i64 0, .int .i64 2], .int .i64 0, .agg #[.int .i64 3, .int .i64 1, .int .i64 0]] w fun e w' => ∃ v, e = .returned v ∧ Sl icell 1 [1, 64] v w' ∧ Below w.heap.size w w' := by
  have e : tgts ⟨64, 0, 0, 0, 0, 0, 0, 0, 2⟩ 0 ⟨3, 1, 0⟩ = [1, 64] := by decide +kernel
  have := Targets_calls ⟨64, 0, 0, 0, 0, 0, 0, 0, 2⟩ 0 ⟨3, 1, 0⟩ w
  rw [e] at this
  exact this
set_option maxHeartbeats 4000000 in
theorem awake_calls (w : World) : Calls Try.prog 8 #[] w fun e w' => e = .returned (.bool true) ∧ Below w.heap.size w w' := by
  go_enter Try.func8, Try.ntmps8
  go_wp2_with fail
  refine (awk1 _).mono ?_; rintro e w1 ⟨rfl, hb_w1⟩; obtain ⟨hc_w1, hf_w1⟩ := bcell hb_w1; have z_w1 := hb_w1.size; (try simp only [World.size_alloc, World.size_setCell, World.size_drew, World.heap_drewN] at z_w1); have zz_w1_w_0_0 : w.heap.size < w1.heap.size := (by omega); have zz_w1_w_0_1 : w.heap.size < w1.heap.size + 1 := (by omega); have zz_w1_w_0_2 : w.heap.size < w1.heap.size + 1 + 1 := (by omega); have zz_w1_w_0_3 : w.heap.size < w1.heap.size + 1 + 1 + 1 := (by omega); have zz_w1_w_1_0 : w.heap.size + 1 < w1.heap.size := (by omega); have zz_w1_w_1_1 : w.heap.size + 1 < w1.heap.size + 1 := (by omega); have zz_w1_w_1_2 : w.heap.size + 1 < w1.heap.size + 1 + 1 := (by omega); have zz_w1_w_1_3 : w.heap.size + 1 < w1.heap.size + 1 + 1 + 1 := (by omega)
  go_wp2_with fail
  refine (awk2 _).mono ?_; rintro e w2 ⟨rfl, hb_w2⟩; obtain ⟨hc_w2, hf_w2⟩ := bcell hb_w2; have z_w2 := hb_w2.size; (try simp only [World.size_alloc, World.size_setCell, World.size_drew, World.heap_drewN] at z_w2); have zz_w2_w_0_0 : w.heap.size < w2.heap.size := (by omega); have zz_w2_w_0_1 : w.heap.size < w2.heap.size + 1 := (by omega); have zz_w2_w_0_2 : w.heap.size < w2.heap.size + 1 + 1 := (by omega); have zz_w2_w_0_3 : w.heap.size < w2.heap.size + 1 + 1 + 1 := (by omega); have zz_w2_w_1_0 : w.heap.size + 1 < w2.heap.size := (by omega); have zz_w2_w_1_1 : w.heap.size + 1 < w2.heap.size + 1 := (by omega); have zz_w2_w_1_2 : w.heap.size + 1 < w2.heap.size + 1 + 1 := (by omega); have zz_w2_w_1_3 : w.heap.size + 1 < w2.heap.size + 1 + 1 + 1 := (by omega)
  go_wp2_with fail
  refine (awk1 _).mono ?_; rintro e w3 ⟨rfl, hb_w3⟩; obtain ⟨hc_w3, hf_w3⟩ := bcell hb_w3; have z_w3 := hb_w3.size; (try simp only [World.size_alloc, World.size_setCell, World.size_drew, World.heap_drewN] at z_w3); have zz_w3_w_0_0 : w.heap.size < w3.heap.size := (by omega); have zz_w3_w_0_1 : w.heap.size < w3.heap.size + 1 := (by omega); have zz_w3_w_0_2 : w.heap.size < w3.heap.size + 1 + 1 := (by omega); have zz_w3_w_0_3 : w.heap.size < w3.heap.size + 1 + 1 + 1 := (by omega); have zz_w3_w_1_0 : w.heap.size + 1 < w3.heap.size := (by omega); have zz_w3_w_1_1 : w.heap.size + 1 < w3.heap.size + 1 := (by omega); have zz_w3_w_1_2 : w.heap.size + 1 < w3.heap.size + 1 + 1 := (by omega); have zz_w3_w_1_3 : w.heap.size + 1 < w3.heap.size + 1 + 1 + 1 := (by omega)
  go_wp2_with fail
  refine (awk3 _).mono ?_; rintro e w4 ⟨rfl, hb_w4⟩; obtain ⟨hc_w4, hf_w4⟩ := bcell hb_w4; have z_w4 := hb_w4.size; (try simp only [World.size_alloc, World.size_setCell, World.size_drew, World.heap_drewN] at z_w4); have zz_w4_w_0_0 : w.heap.size < w4.heap.size := (by omega); have zz_w4_w_0_1 : w.heap.size < w4.heap.size + 1 := (by omega); have zz_w4_w_0_2 : w.heap.size < w4.heap.size + 1 + 1 := (by omega); have zz_w4_w_0_3 : w.heap.size < w4.heap.size + 1 + 1 + 1 := (by omega); have zz_w4_w_1_0 : w.heap.size + 1 < w4.heap.size := (by omega); have zz_w4_w_1_1 : w.heap.size + 1 < w4.heap.size + 1 := (by omega); have zz_w4_w_1_2 : w.heap.size + 1 < w4.heap.size + 1 + 1 := (by omega); have zz_w4_w_1_3 : w.heap.size + 1 < w4.heap.size + 1 + 1 + 1 := (by omega)
  go_wp2_with fail
  refine (awk4 _).mono ?_; rintro e w5 ⟨v5, rfl, ⟨A5, n5, c5, rfl, r5⟩, hb_w5⟩; obtain ⟨hc_w5, hf_w5⟩ := bcell hb_w5; have z_w5 := hb_w5.size; (try simp only [World.size_alloc, World.size_setCell, World.size_drew, World.heap_drewN] at z_w5); have zz_w5_w_0_0 : w.heap.size < w5.heap.size := (by omega); have zz_w5_w_0_1 : w.heap.size < w5.heap.size + 1 := (by omega); have zz_w5_w_0_2 : w.heap.size < w5.heap.size + 1 + 1 := (by omega); have zz_w5_w_0_3 : w.heap.size < w5.heap.size + 1 + 1 + 1 := (by omega); have zz_w5_w_1_0 : w.heap.size + 1 < w5.heap.size := (by omega); have zz_w5_w_1_1 : w.heap.size + 1 < w5.heap.size + 1 := (by omega); have zz_w5_w_1_2 : w.heap.size + 1 < w5.heap.size + 1 + 1 := (by omega); have zz_w5_w_1_3 : w.heap.size + 1 < w5.heap.size + 1 + 1 + 1 := (by omega)
  have R5 := hide (r5.below (bl0.alloc (Nat.le_refl _) (.cells #[.int .i64 1, .int .i64 2] 3)))
  clear r5
  go_wp2_with fail
  refine (Ints_calls R5.out Rd.new2).mono ?_; rintro e w6 ⟨rfl, hb_w6⟩; obtain ⟨hc_w6, hf_w6⟩ := bcell hb_w6; have z_w6 := hb_w6.size; (try simp only [World.size_alloc, World.size_setCell, World.size_drew, World.heap_drewN] at z_w6); have zz_w6_w_0_0 : w.heap.size < w6.heap.size := (by omega); have zz_w6_w_0_1 : w.heap.size < w6.heap.size + 1 := (by omega); have zz_w6_w_0_2 : w.heap.size < w6.heap.size + 1 + 1 := (by omega); have zz_w6_w_0_3 : w.heap.size < w6.heap.size + 1 + 1 + 1 := (by omega); have zz_w6_w_1_0 : w.heap.size + 1 < w6.heap.size := (by omega); have zz_w6_w_1_1 : w.heap.size + 1 < w6.heap.size + 1 := (by omega); have zz_w6_w_1_2 : w.heap.size + 1 < w6.heap.size + 1 + 1 := (by omega); have zz_w6_w_1_3 : w.heap.size + 1 < w6.heap.size + 1 + 1 + 1 := (by omega)
  go_wp2_with fail
  refine (awk5 _).mono ?_; rintro e w7 ⟨v7, rfl, ⟨A7, n7, c7, rfl, r7⟩, hb_w7⟩; obtain ⟨hc_w7, hf_w7⟩ := bcell hb_w7; have z_w7 := hb_w7.size; (try simp only [World.size_alloc, World.size_setCell, World.size_drew, World.heap_drewN] at z_w7); have zz_w7_w_0_0 : w.heap.size < w7.heap.size := (by omega); have zz_w7_w_0_1 : w.heap.size < w7.heap.size + 1 := (by omega); have zz_w7_w_0_2 : w.heap.size < w7.heap.size + 1 + 1 := (by omega); have zz_w7_w_0_3 : w.heap.size < w7.heap.size + 1 + 1 + 1 := (by omega); have zz_w7_w_1_0 : w.heap.size + 1 < w7.heap.size := (by omega); have zz_w7_w_1_1 : w.heap.size + 1 < w7.heap.size + 1 := (by omega); have zz_w7_w_1_2 : w.heap.size + 1 < w7.heap.size + 1 + 1 := (by omega); have zz_w7_w_1_3 : w.heap.size + 1 < w7.heap.size + 1 + 1 + 1 := (by omega)
  have R7 := hide (r7.below (bl0.alloc (Nat.le_refl _) (.cells #[.int .i64 1, .int .i64 64] 3)))
  clear r7
  go_wp2_with fail
  refine (Ints_calls R7.out Rd.new2).mono ?_; rintro e w8 ⟨rfl, hb_w8⟩; obtain ⟨hc_w8, hf_w8⟩ := bcell hb_w8; have z_w8 := hb_w8.size; (try simp only [World.size_alloc, World.size_setCell, World.size_drew, World.heap_drewN] at z_w8); have zz_w8_w_0_0 : w.heap.size < w8.heap.size := (by omega); have zz_w8_w_0_1 : w.heap.size < w8.heap.size + 1 := (by omega); have zz_w8_w_0_2 : w.heap.size < w8.heap.size + 1 + 1 := (by omega); have zz_w8_w_0_3 : w.heap.size < w8.heap.size + 1 + 1 + 1 := (by omega); have zz_w8_w_1_0 : w.heap.size + 1 < w8.heap.size := (by omega); have zz_w8_w_1_1 : w.heap.size + 1 < w8.heap.size + 1 := (by omega); have zz_w8_w_1_2 : w.heap.size + 1 < w8.heap.size + 1 + 1 := (by omega); have zz_w8_w_1_3 : w.heap.size + 1 < w8.heap.size + 1 + 1 + 1 := (by omega)
  go_wp2_with fail
  go_ret
  (refine ⟨?_, ?_⟩; (first | rfl | (go_simp; done) | (simp; done)); (first | ((repeat' (with_reducible first | exact bl0 | apply bl4 | apply bl5 | apply bl1 | refine bl2 ?_ (by first | omega | (simp only [World.size_alloc, World.size_setCell, World.size_drew]; omega)) | refine bl3 (by assumption) ?_)); done) | (go_simp; done) | (refine bl3 (by assumption) ?_; go_simp; done)))
end Go.Proofs.Ytkamhamgpinhkaa
