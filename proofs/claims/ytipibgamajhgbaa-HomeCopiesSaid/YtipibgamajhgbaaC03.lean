/- Layers 2 and 3: what the references' functions, and those of perm, come to. -/
import Derived.Test.YtipibgamajhgbaaC02
namespace Go.Proofs.Ytipibgamajhgbaa
open Go.RowKit
set_option linter.unusedVariables false
set_option linter.unusedSimpArgs false
set_option maxHeartbeats 2000000 in
theorem rCheck_calls (b : Bun) (t : Int) (w : World) :
    Calls Try.prog 29 #[.agg #[.int .i64 b.c, .bool b.o, .bool b.h, .int .i64 b.d], .int .i64 t] w fun e w' => e = .returned (.int .i64 (bcheck b t)) ∧ Below w.heap.size w w' := by
  obtain ⟨c, o, h1, d⟩ := b
  cases o <;> cases h1
  all_goals
    go_enter Try.func29, Try.ntmps29
    go_wp2
    all_goals
      go_ret
      refine ⟨ret_int ?_, ?_⟩
      · (try simp only [bne_iff_ne, ne_eq, bne_eq_false_iff_eq] at *); simp [bcheck]; try omega
      · (repeat' (with_reducible first | exact bl0 | apply bl4 | apply bl5 | apply bl1 | refine bl2 ?_ (by first | omega | (simp only [World.size_alloc, World.size_setCell, World.size_drew]; omega)) | refine bl3 (by assumption) ?_))
set_option maxHeartbeats 2000000 in
theorem bCheck_calls (b : Bun) (t : Int) (w : World) :
    Calls Try.prog 61 #[.agg #[.int .i64 b.c, .bool b.o, .bool b.h, .int .i64 b.d], .int .i64 t] w fun e w' => e = .returned (.int .i64 (bcheck b t)) ∧ Below w.heap.size w w' := by
  obtain ⟨c, o, h1, d⟩ := b
  cases o <;> cases h1
  all_goals
    go_enter Try.func61, Try.ntmps61
    go_wp2
    all_goals
      go_ret
      refine ⟨ret_int ?_, ?_⟩
      · (try simp only [bne_iff_ne, ne_eq, bne_eq_false_iff_eq] at *); simp [bcheck]; try omega
      · (repeat' (with_reducible first | exact bl0 | apply bl4 | apply bl5 | apply bl1 | refine bl2 ?_ (by first | omega | (simp only [World.size_alloc, World.size_setCell, World.size_drew]; omega)) | refine bl3 (by assumption) ?_))
set_option maxHeartbeats 2000000 in
theorem Full_calls (t d : Int) (w : World) :
    Calls Try.prog 81 #[.int .i64 t, .int .i64 d] w fun e w' => e = .returned (.agg #[.int .i64 (full t d).c, .bool (full t d).o, .bool (full t d).h, .int .i64 (full t d).d]) ∧ Below w.heap.size w w' := by
  by_cases ht : t < 1
  all_goals
    go_enter Try.func81, Try.ntmps81
    go_wp2
    refine bodyPost_ret ?_ rfl ⟨rfl, ?_⟩
    · first
        | (simp (maxDischargeDepth := 9) [results, Try.results81, go_sem, full, ht, bun0]; done)
        | simp (maxDischargeDepth := 9) [results, Try.results81, go_sem, full, show ¬ t < 1 from by omega, bun0]
    · (repeat' (with_reducible first | exact bl0 | apply bl4 | apply bl5 | apply bl1 | refine bl2 ?_ (by first | omega | (simp only [World.size_alloc, World.size_setCell, World.size_drew]; omega)) | refine bl3 (by assumption) ?_))
set_option maxHeartbeats 2000000 in
theorem rGiven_calls' (c : Int) (o hs : Bool) (d : Int) (n : Int) (ow : Bool) (w : World) :
    Calls Try.prog 90 #[.agg #[.int .i64 c, .bool o, .bool hs, .int .i64 d], .int .i64 n, .bool ow] w fun e w' => e = .returned (.tuple #[.int .i64 (rsplitN ⟨c, o, hs, d⟩ n ow).1, .bool (rsplitN ⟨c, o, hs, d⟩ n ow).2]) ∧ Below w.heap.size w w' := by
  obtain ⟨n0, hn0⟩ : ∃ n0, n0 = if n < 0 then 0 else n := ⟨_, rfl⟩
  obtain ⟨n1, hn1⟩ : ∃ n1, n1 = if c < n0 then c else n0 := ⟨_, rfl⟩
  have hr : rsplitN ⟨c, o, hs, d⟩ n ow = if o = false then (n1, false) else if ow = true ∧ 0 < n1 then (n1, true) else if n1 = c then (wrap64 (n1 - 1), false) else (n1, false) := by simp only [hn1, hn0]; rfl
  have Hr := hide hr
  have H1 := hide hn1
  have H0 := hide hn0
  clear hr hn1 hn0
  cases o <;> cases ow
  all_goals
    go_enter Try.func90, Try.ntmps90
    go_wp2
    all_goals
      refine bodyPost_ret ?_ rfl ⟨rfl, ?_⟩
      · simp (maxDischargeDepth := 9) only [results, Try.results90, go_sem]
        rw [Hr.out]
        have e0 := H0.out
        have e1 := H1.out
        (try simp only [bne_iff_ne, ne_eq, bne_eq_false_iff_eq, beq_iff_eq, beq_eq_false_iff_ne] at *)
        simp
        repeat' split
        all_goals ((try simp only [wrap64]); (try simp); (try omega))
      · (repeat' (with_reducible first | exact bl0 | apply bl4 | apply bl5 | apply bl1 | refine bl2 ?_ (by first | omega | (simp only [World.size_alloc, World.size_setCell, World.size_drew]; omega)) | refine bl3 (by assumption) ?_))
theorem rGiven_calls (b : Bun) (n : Int) (ow : Bool) (w : World) :
    Calls Try.prog 90 #[.agg #[.int .i64 b.c, .bool b.o, .bool b.h, .int .i64 b.d], .int .i64 n, .bool ow] w fun e w' => e = .returned (.tuple #[.int .i64 (rsplitN b n ow).1, .bool (rsplitN b n ow).2]) ∧ Below w.heap.size w w' :=
  rGiven_calls' b.c b.o b.h b.d n ow w
end Go.Proofs.Ytipibgamajhgbaa
