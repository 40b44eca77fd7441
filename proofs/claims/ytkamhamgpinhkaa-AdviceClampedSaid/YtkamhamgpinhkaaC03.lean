/- Layers 2 and 3: what the references' functions, and those of perm, come to. -/
import Derived.Test.YtkamhamgpinhkaaC02
namespace Go.Proofs.Ytkamhamgpinhkaa
open Go.RowKit
set_option linter.unusedVariables false
set_option linter.unusedSimpArgs false
set_option maxHeartbeats 2000000 in
theorem rCheck_calls (b : Bun) (t : Int) (w : World) :
    Calls Try.prog 20 #[.agg #[.int .i64 b.c, .bool b.o, .bool b.h, .int .i64 b.d], .int .i64 t] w fun e w' => e = .returned (.int .i64 (bcheck b t)) ∧ Below w.heap.size w w' := by
  obtain ⟨c, o, h1, d⟩ := b
  cases o <;> cases h1
  all_goals
    go_enter Try.func20, Try.ntmps20
    go_wp2
    all_goals
      go_ret
      refine ⟨ret_int ?_, ?_⟩
      · (try simp only [bne_iff_ne, ne_eq, bne_eq_false_iff_eq] at *); simp [bcheck]; try omega
      · (repeat' (with_reducible first | exact bl0 | apply bl4 | apply bl5 | apply bl1 | refine bl2 ?_ (by first | omega | (simp only [World.size_alloc, World.size_setCell, World.size_drew]; omega)) | refine bl3 (by assumption) ?_))
theorem rRight_calls (b : Bun) (t : Int) (w : World) :
    Calls Try.prog 14 #[.agg #[.int .i64 b.c, .bool b.o, .bool b.h, .int .i64 b.d], .int .i64 t] w fun e w' => e = .returned (.bool (decide (bcheck b t = 0))) ∧ Below w.heap.size w w' := by
  go_enter Try.func14, Try.ntmps14
  go_wp2_with ((go_at_call 20; refine (rCheck_calls b t _).mono ?_; rintro e w1 ⟨rfl, hb_w1⟩; obtain ⟨hc_w1, hf_w1⟩ := bcell hb_w1; have z_w1 := hb_w1.size; (try simp only [World.size_alloc, World.size_setCell, World.size_drew] at z_w1)))
  go_ret
  exact ⟨rfl, (by (repeat' (with_reducible first | exact bl0 | apply bl4 | apply bl5 | apply bl1 | refine bl2 ?_ (by first | omega | (simp only [World.size_alloc, World.size_setCell, World.size_drew]; omega)) | refine bl3 (by assumption) ?_)))⟩
set_option maxHeartbeats 2000000 in
theorem bCheck_calls (b : Bun) (t : Int) (w : World) :
    Calls Try.prog 16 #[.agg #[.int .i64 b.c, .bool b.o, .bool b.h, .int .i64 b.d], .int .i64 t] w fun e w' => e = .returned (.int .i64 (bcheck b t)) ∧ Below w.heap.size w w' := by
  obtain ⟨c, o, h1, d⟩ := b
  cases o <;> cases h1
  all_goals
    go_enter Try.func16, Try.ntmps16
    go_wp2
    all_goals
      go_ret
      refine ⟨ret_int ?_, ?_⟩
      · (try simp only [bne_iff_ne, ne_eq, bne_eq_false_iff_eq] at *); simp [bcheck]; try omega
      · (repeat' (with_reducible first | exact bl0 | apply bl4 | apply bl5 | apply bl1 | refine bl2 ?_ (by first | omega | (simp only [World.size_alloc, World.size_setCell, World.size_drew]; omega)) | refine bl3 (by assumption) ?_))
set_option maxHeartbeats 2000000 in
theorem Full_calls (t d : Int) (w : World) :
    Calls Try.prog 17 #[.int .i64 t, .int .i64 d] w fun e w' => e = .returned (.agg #[.int .i64 (full t d).c, .bool (full t d).o, .bool (full t d).h, .int .i64 (full t d).d]) ∧ Below w.heap.size w w' := by
  by_cases ht : t < 1
  all_goals
    go_enter Try.func17, Try.ntmps17
    go_wp2
    refine bodyPost_ret ?_ rfl ⟨rfl, ?_⟩
    · first
        | (simp (maxDischargeDepth := 9) [results, Try.results17, go_sem, full, ht, bun0]; done)
        | simp (maxDischargeDepth := 9) [results, Try.results17, go_sem, full, show ¬ t < 1 from by omega, bun0]
    · (repeat' (with_reducible first | exact bl0 | apply bl4 | apply bl5 | apply bl1 | refine bl2 ?_ (by first | omega | (simp only [World.size_alloc, World.size_setCell, World.size_drew]; omega)) | refine bl3 (by assumption) ?_))
end Go.Proofs.Ytkamhamgpinhkaa
