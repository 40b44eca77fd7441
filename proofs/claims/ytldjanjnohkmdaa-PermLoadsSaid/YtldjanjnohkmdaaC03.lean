/- Layers 2 and 3: what the references' functions, and those of perm, come to. -/
import Derived.Test.YtldjanjnohkmdaaC02
namespace Go.Proofs.Ytldjanjnohkmdaa
open Go.RowKit
set_option linter.unusedVariables false
set_option linter.unusedSimpArgs false
set_option maxHeartbeats 2000000 in
theorem rCheck_calls (b : Bun) (t : Int) (w : World) :
    Calls Try.prog 18 #[.agg #[.int .i64 b.c, .bool b.o, .bool b.h, .int .i64 b.d], .int .i64 t] w fun e w' => e = .returned (.int .i64 (bcheck b t)) ∧ Below w.heap.size w w' := by
  obtain ⟨c, o, h1, d⟩ := b
  cases o <;> cases h1
  all_goals
    go_enter Try.func18, Try.ntmps18
    go_wp2
    all_goals
      go_ret
      refine ⟨ret_int ?_, ?_⟩
      · (try simp only [bne_iff_ne, ne_eq, bne_eq_false_iff_eq] at *); simp [bcheck]; try omega
      · (repeat' (with_reducible first | exact bl0 | apply bl4 | apply bl5 | apply bl1 | refine bl2 ?_ (by first | omega | (simp only [World.size_alloc, World.size_setCell, World.size_drew]; omega)) | refine bl3 (by assumption) ?_))
theorem rRight_calls (b : Bun) (t : Int) (w : World) :
    Calls Try.prog 15 #[.agg #[.int .i64 b.c, .bool b.o, .bool b.h, .int .i64 b.d], .int .i64 t] w fun e w' => e = .returned (.bool (decide (bcheck b t = 0))) ∧ Below w.heap.size w w' := by
  go_enter Try.func15, Try.ntmps15
  go_wp2_with ((go_at_call 18; refine (rCheck_calls b t _).mono ?_; rintro e w1 ⟨rfl, hb_w1⟩; obtain ⟨hc_w1, hf_w1⟩ := bcell hb_w1))
  go_ret
  exact ⟨rfl, (by (repeat' (with_reducible first | exact bl0 | apply bl4 | apply bl5 | apply bl1 | refine bl2 ?_ (by first | omega | (simp only [World.size_alloc, World.size_setCell, World.size_drew]; omega)) | refine bl3 (by assumption) ?_)))⟩
theorem Reads_calls (b : Bun) (w : World) :
    Calls Try.prog 10 #[.agg #[.int .i64 b.c, .bool b.o, .bool b.h, .int .i64 b.d]] w fun e w' => e = .returned (.bool (reads b)) ∧ Below w.heap.size w w' := by
  have hr : reads b = (decide (1 ≤ b.c) && b.h) := rfl
  have Hr := hide hr
  clear hr
  by_cases hc : 1 ≤ b.c
  all_goals
    go_enter Try.func10, Try.ntmps10
    go_wp2
    go_ret
    refine ⟨ret_bool ?_, ?_⟩
    · rw [Hr.out]; simp [hc]; try omega
    · (repeat' (with_reducible first | exact bl0 | apply bl4 | apply bl5 | apply bl1 | refine bl2 ?_ (by first | omega | (simp only [World.size_alloc, World.size_setCell, World.size_drew]; omega)) | refine bl3 (by assumption) ?_))
theorem Writes_calls (b : Bun) (t : Int) (w : World) :
    Calls Try.prog 12 #[.agg #[.int .i64 b.c, .bool b.o, .bool b.h, .int .i64 b.d], .int .i64 t] w fun e w' => e = .returned (.bool (writes b t)) ∧ Below w.heap.size w w' := by
  have hr : writes b t = (reads b && decide (b.c = t)) := rfl
  have Hr := hide hr
  clear hr
  cases hrd : reads b
  all_goals
    go_enter Try.func12, Try.ntmps12
    go_wp2_with ((go_at_call 10; refine (Reads_calls b _).mono ?_; rintro e w1 ⟨rfl, hb_w1⟩; obtain ⟨hc_w1, hf_w1⟩ := bcell hb_w1))
    go_ret
    refine ⟨ret_bool ?_, ?_⟩
    · rw [Hr.out]; simp [hrd]; try rfl
    · (repeat' (with_reducible first | exact bl0 | apply bl4 | apply bl5 | apply bl1 | refine bl2 ?_ (by first | omega | (simp only [World.size_alloc, World.size_setCell, World.size_drew]; omega)) | refine bl3 (by assumption) ?_))
set_option maxHeartbeats 2000000 in
theorem Do_calls' (ob : Int) (ow : Bool) (ov : Int) (c : Int) (o hs : Bool) (d : Int) (t : Int) (w : World) :
    Calls Try.prog 13 #[.agg #[.int .i64 ob, .bool ow, .int .i64 ov], .agg #[.int .i64 c, .bool o, .bool hs, .int .i64 d], .int .i64 t] w fun e w' => e = .returned (.tuple #[.agg #[.int .i64 ((pdo ⟨ob, ow, ov⟩ ⟨c, o, hs, d⟩ t).1).c, .bool ((pdo ⟨ob, ow, ov⟩ ⟨c, o, hs, d⟩ t).1).o, .bool ((pdo ⟨ob, ow, ov⟩ ⟨c, o, hs, d⟩ t).1).h, .int .i64 ((pdo ⟨ob, ow, ov⟩ ⟨c, o, hs, d⟩ t).1).d], .int .i64 (pdo ⟨ob, ow, ov⟩ ⟨c, o, hs, d⟩ t).2.1, .bool (pdo ⟨ob, ow, ov⟩ ⟨c, o, hs, d⟩ t).2.2]) ∧ Below w.heap.size w w' := by
  have hr : pdo ⟨ob, ow, ov⟩ ⟨c, o, hs, d⟩ t = if ow && writes ⟨c, o, hs, d⟩ t then (⟨c, o, hs, ov⟩, ov, true) else if !ow && reads ⟨c, o, hs, d⟩ then (⟨c, o, hs, d⟩, d, true) else (⟨c, o, hs, d⟩, 0, false) := rfl
  have Hr := hide hr
  clear hr
  rcases (show (ow = true ∧ writes ⟨c, o, hs, d⟩ t = true) ∨ (ow = true ∧ writes ⟨c, o, hs, d⟩ t = false) ∨ (ow = false ∧ reads ⟨c, o, hs, d⟩ = true) ∨ (ow = false ∧ reads ⟨c, o, hs, d⟩ = false) from by cases ow <;> cases writes ⟨c, o, hs, d⟩ t <;> cases reads ⟨c, o, hs, d⟩ <;> simp) with ⟨rfl, hx⟩ | ⟨rfl, hx⟩ | ⟨rfl, hx⟩ | ⟨rfl, hx⟩
  all_goals
    go_enter Try.func13, Try.ntmps13
    go_wp2_with (first | (go_at_call 10; refine (Reads_calls ⟨c, o, hs, d⟩ _).mono ?_; rintro e w1 ⟨rfl, hb_w1⟩; obtain ⟨hc_w1, hf_w1⟩ := bcell hb_w1; have z_w1 := hb_w1.size; (try simp only [World.size_alloc, World.size_setCell, World.size_drew] at z_w1); have z_w1_0 : w.heap.size < w1.heap.size := (by omega); have z_w1_1 : w.heap.size + 1 < w1.heap.size := (by omega); have z_w1_2 : w.heap.size + 1 + 1 < w1.heap.size := (by omega)) | (go_at_call 12; refine (Writes_calls ⟨c, o, hs, d⟩ t _).mono ?_; rintro e w1 ⟨rfl, hb_w1⟩; obtain ⟨hc_w1, hf_w1⟩ := bcell hb_w1; have z_w1 := hb_w1.size; (try simp only [World.size_alloc, World.size_setCell, World.size_drew] at z_w1); have z_w1_0 : w.heap.size < w1.heap.size := (by omega); have z_w1_1 : w.heap.size + 1 < w1.heap.size := (by omega); have z_w1_2 : w.heap.size + 1 + 1 < w1.heap.size := (by omega)))
    (try (go_region; all_goals go_wp2))
    refine bodyPost_ret ?_ rfl ⟨by rw [Hr.out], ?_⟩
    · simp (maxDischargeDepth := 9) [results, Try.results13, go_sem, hc_w1, z_w1_0, z_w1_1, z_w1_2, hx]
    · (repeat' (with_reducible first | exact bl0 | apply bl4 | apply bl5 | apply bl1 | refine bl2 ?_ (by first | omega | (simp only [World.size_alloc, World.size_setCell, World.size_drew]; omega)) | refine bl3 (by assumption) ?_))
theorem Do_calls (op : Opr) (b : Bun) (t : Int) (w : World) :
    Calls Try.prog 13 #[.agg #[.int .i64 op.b, .bool op.w, .int .i64 op.v], .agg #[.int .i64 b.c, .bool b.o, .bool b.h, .int .i64 b.d], .int .i64 t] w fun e w' => e = .returned (.tuple #[.agg #[.int .i64 ((pdo op b t).1).c, .bool ((pdo op b t).1).o, .bool ((pdo op b t).1).h, .int .i64 ((pdo op b t).1).d], .int .i64 (pdo op b t).2.1, .bool (pdo op b t).2.2]) ∧ Below w.heap.size w w' :=
  Do_calls' op.b op.w op.v b.c b.o b.h b.d t w
theorem rMay_calls (wr : Bool) (b : Bun) (t : Int) (w : World) :
    Calls Try.prog 11 #[.bool wr, .agg #[.int .i64 b.c, .bool b.o, .bool b.h, .int .i64 b.d], .int .i64 t] w fun e w' => e = .returned (.bool (rmay wr b t)) ∧ Below w.heap.size w w' := by
  obtain ⟨c, o, hs, d⟩ := b
  by_cases hc : 1 ≤ c
  all_goals
    cases wr <;> cases hs
    all_goals
      go_enter Try.func11, Try.ntmps11
      go_wp2
      all_goals
        go_ret
        refine ⟨ret_bool ?_, ?_⟩
        · simp [rmay, reads, writes, hc]; try first | rfl | omega
        · (repeat' (with_reducible first | exact bl0 | apply bl4 | apply bl5 | apply bl1 | refine bl2 ?_ (by first | omega | (simp only [World.size_alloc, World.size_setCell, World.size_drew]; omega)) | refine bl3 (by assumption) ?_))
set_option maxHeartbeats 2000000 in
theorem rDo_calls' (ob : Int) (ow : Bool) (ov : Int) (c : Int) (o hs : Bool) (d : Int) (t : Int) (w : World) :
    Calls Try.prog 14 #[.agg #[.int .i64 ob, .bool ow, .int .i64 ov], .agg #[.int .i64 c, .bool o, .bool hs, .int .i64 d], .int .i64 t] w fun e w' => e = .returned (.tuple #[.agg #[.int .i64 ((pdo ⟨ob, ow, ov⟩ ⟨c, o, hs, d⟩ t).1).c, .bool ((pdo ⟨ob, ow, ov⟩ ⟨c, o, hs, d⟩ t).1).o, .bool ((pdo ⟨ob, ow, ov⟩ ⟨c, o, hs, d⟩ t).1).h, .int .i64 ((pdo ⟨ob, ow, ov⟩ ⟨c, o, hs, d⟩ t).1).d], .int .i64 (pdo ⟨ob, ow, ov⟩ ⟨c, o, hs, d⟩ t).2.1, .bool (pdo ⟨ob, ow, ov⟩ ⟨c, o, hs, d⟩ t).2.2]) ∧ Below w.heap.size w w' := by
  have hr : pdo ⟨ob, ow, ov⟩ ⟨c, o, hs, d⟩ t = if rmay ow ⟨c, o, hs, d⟩ t then (if ow then (⟨c, o, hs, ov⟩, ov, true) else (⟨c, o, hs, d⟩, d, true)) else (⟨c, o, hs, d⟩, 0, false) := by cases ow <;> simp [pdo, rmay]
  have Hr := hide hr
  clear hr
  rcases (show (ow = true ∧ rmay true ⟨c, o, hs, d⟩ t = true) ∨ (ow = true ∧ rmay true ⟨c, o, hs, d⟩ t = false) ∨ (ow = false ∧ rmay false ⟨c, o, hs, d⟩ t = true) ∨ (ow = false ∧ rmay false ⟨c, o, hs, d⟩ t = false) from by cases ow <;> cases rmay true ⟨c, o, hs, d⟩ t <;> cases rmay false ⟨c, o, hs, d⟩ t <;> simp) with ⟨rfl, hx⟩ | ⟨rfl, hx⟩ | ⟨rfl, hx⟩ | ⟨rfl, hx⟩
  all_goals
    go_enter Try.func14, Try.ntmps14
    go_wp2_with ((go_at_call 11; refine (rMay_calls _ ⟨c, o, hs, d⟩ t _).mono ?_; rintro e w1 ⟨rfl, hb_w1⟩; obtain ⟨hc_w1, hf_w1⟩ := bcell hb_w1; have z_w1 := hb_w1.size; (try simp only [World.size_alloc, World.size_setCell, World.size_drew] at z_w1); have z_w1_0 : w.heap.size < w1.heap.size := (by omega); have z_w1_1 : w.heap.size + 1 < w1.heap.size := (by omega); have z_w1_2 : w.heap.size + 1 + 1 < w1.heap.size := (by omega)))
    (try (go_region; all_goals go_wp2))
    refine bodyPost_ret ?_ rfl ⟨by rw [Hr.out], ?_⟩
    · simp (maxDischargeDepth := 9) [results, Try.results14, go_sem, hc_w1, z_w1_0, z_w1_1, z_w1_2, hx]
    · (repeat' (with_reducible first | exact bl0 | apply bl4 | apply bl5 | apply bl1 | refine bl2 ?_ (by first | omega | (simp only [World.size_alloc, World.size_setCell, World.size_drew]; omega)) | refine bl3 (by assumption) ?_))
theorem rDo_calls (op : Opr) (b : Bun) (t : Int) (w : World) :
    Calls Try.prog 14 #[.agg #[.int .i64 op.b, .bool op.w, .int .i64 op.v], .agg #[.int .i64 b.c, .bool b.o, .bool b.h, .int .i64 b.d], .int .i64 t] w fun e w' => e = .returned (.tuple #[.agg #[.int .i64 ((pdo op b t).1).c, .bool ((pdo op b t).1).o, .bool ((pdo op b t).1).h, .int .i64 ((pdo op b t).1).d], .int .i64 (pdo op b t).2.1, .bool (pdo op b t).2.2]) ∧ Below w.heap.size w w' :=
  rDo_calls' op.b op.w op.v b.c b.o b.h b.d t w
end Go.Proofs.Ytldjanjnohkmdaa
