/- What Reply, of the program and of the reference, comes to. -/
import Derived.Test.YtkamhamgpinhkaaP13
import Derived.Test.YtkamhamgpinhkaaC02
namespace Go.Proofs.Ytkamhamgpinhkaa
open Go.RowKit
set_option linter.unusedVariables false
set_option linter.unusedSimpArgs false
def reply (p : Int) (b : Bun) (wr : Bool) (d : I3) : Int × Bool × Bool :=
  if p = 2 then (d.a, bit d.b 0, bit d.b 1) else if p = 1 then (if wr then (b.c, true, b.o) else if b.o then (1, decide (b.c < 2), true) else (0, false, false)) else (0, false, false)
set_option maxHeartbeats 4000000 in
theorem Reply_calls' (p : Int) (c : Int) (o hs : Bool) (v : Int) (wr : Bool) (d : I3) (w : World) :
    Calls Try.prog 12 #[.int .i64 p, .agg #[.int .i64 c, .bool o, .bool hs, .int .i64 v], .bool wr, .agg #[.int .i64 d.a, .int .i64 d.b, .int .i64 d.c]] w fun e w' => e = .returned (.tuple #[.int .i64 (reply p ⟨c, o, hs, v⟩ wr d).1, .bool (reply p ⟨c, o, hs, v⟩ wr d).2.1, .bool (reply p ⟨c, o, hs, v⟩ wr d).2.2]) ∧ Below w.heap.size w w' := by
  rcases (show p = 2 ∨ p = 1 ∨ (p ≠ 1 ∧ p ≠ 2) from by omega) with rfl | rfl | ⟨h1, h2⟩
  · obtain ⟨b0, hb0⟩ : ∃ b, bit d.b 0 = b := ⟨_, rfl⟩
    obtain ⟨b1, hb1⟩ : ∃ b, bit d.b 1 = b := ⟨_, rfl⟩
    have Hr := hide (show reply 2 ⟨c, o, hs, v⟩ wr d = (d.a, b0, b1) from by simp [reply, hb0, hb1])
    have H0 := hide hb0
    have H1 := hide hb1
    clear hb0 hb1
    go_enter Try.func12, Try.ntmps12
    go_upto_region 2 with fail
    refine wp_region_free_all mixed (fun x => ((x.cell? ⟨w.heap.size + 1, 0, none⟩ = some (.int .i64 d.a) ∧ x.cell? ⟨w.heap.size + 1, 1, none⟩ = some (.int .i64 d.b))) ∧ Below w.heap.size w x ∧ w.heap.size + 1 < x.heap.size) (by kernel_rfl) ?_ ?_
    · refine ⟨⟨?_, ?_⟩, ?_, ?_⟩ <;> first | omega | (first | (go_simp; done) | ((repeat' (with_reducible first | exact bl0 | apply bl4 | apply bl5 | apply bl1 | refine bl2 ?_ (by first | omega | (simp only [World.size_alloc, World.size_setCell, World.size_drew]; omega)) | refine bl3 (by assumption) ?_)); done) | (refine bl3 (by assumption) ?_; (go_simp; done)) | (simp only [World.size_alloc, World.size_drew] at *; omega))
    repeat (apply Free.next; (case h => (intro w' hS; unfold Does; (try go_simp); first | exact ⟨rfl, hS⟩ | exact rfl | (simp only [Give_enter]; obtain ⟨c_S, b_S, z_S⟩ := hS; (first | (go_at_call 18; first | ((with_reducible refine (Bit_calls d.b 0 _).mono ?_); rw [H0.out]) | ((with_reducible refine (Bit_calls d.b 1 _).mono ?_); rw [H1.out]))); rintro e w1 ⟨rfl, hb_1⟩; obtain ⟨hc_1, hf_1⟩ := bcell hb_1; have z_1 := hb_1.size; refine ⟨_, rfl, rfl, ⟨?_, ?_⟩, ?_, ?_⟩ <;> first | omega | (first | (go_simp; done) | ((repeat' (with_reducible first | exact bl0 | apply bl4 | apply bl5 | apply bl1 | refine bl2 ?_ (by first | omega | (simp only [World.size_alloc, World.size_setCell, World.size_drew]; omega)) | refine bl3 (by assumption) ?_)); done) | (refine bl3 (by assumption) ?_; (go_simp; done)) | (simp only [World.size_alloc, World.size_drew] at *; omega))))); case he => (simp only [Act.put, List.setIfInBounds_toArray, List.set_cons_succ, List.set_cons_zero]; exact rfl))
    apply Free.nil
    intro wf hS
    apply wpList_nil
    obtain ⟨cb, bel, s1⟩ := hS
    clear cb
    go_wp2
    refine bodyPost_ret ?_ rfl ⟨rfl, ?_⟩
    · rw [Hr.out]; simp [results, Try.results12, go_sem]
    · (repeat' (with_reducible first | exact bl0 | apply bl4 | apply bl5 | apply bl1 | refine bl2 ?_ (by first | omega | (simp only [World.size_alloc, World.size_setCell, World.size_drew]; omega)) | refine bl3 (by assumption) ?_))
  · have h2 : ((1 : Int) != 1) = false := rfl
    cases wr
    · cases o
      · go_enter Try.func12, Try.ntmps12
        go_wp2
        (try (go_region; all_goals go_wp2))
        refine bodyPost_ret ?_ rfl ⟨rfl, ?_⟩
        · simp [results, Try.results12, go_sem, reply]
        · (repeat' (with_reducible first | exact bl0 | apply bl4 | apply bl5 | apply bl1 | refine bl2 ?_ (by first | omega | (simp only [World.size_alloc, World.size_setCell, World.size_drew]; omega)) | refine bl3 (by assumption) ?_))
      · go_enter Try.func12, Try.ntmps12
        go_wp2
        (try (go_region; all_goals go_wp2))
        all_goals refine bodyPost_ret ?_ rfl ⟨rfl, ?_⟩
        all_goals first | (simp [results, Try.results12, go_sem, reply, *]; done) | (simp [results, Try.results12, go_sem, reply]; omega) | (repeat' (with_reducible first | exact bl0 | apply bl4 | apply bl5 | apply bl1 | refine bl2 ?_ (by first | omega | (simp only [World.size_alloc, World.size_setCell, World.size_drew]; omega)) | refine bl3 (by assumption) ?_))
    · go_enter Try.func12, Try.ntmps12
      go_wp2
      (try (go_region; all_goals go_wp2))
      refine bodyPost_ret ?_ rfl ⟨rfl, ?_⟩
      · simp [results, Try.results12, go_sem, reply]
      · (repeat' (with_reducible first | exact bl0 | apply bl4 | apply bl5 | apply bl1 | refine bl2 ?_ (by first | omega | (simp only [World.size_alloc, World.size_setCell, World.size_drew]; omega)) | refine bl3 (by assumption) ?_))
  · have b1 : (p == 1) = false := by simpa using h1
    have b1' : (p != 1) = true := by simpa using h1
    have b2 : (p == 2) = false := by simpa using h2
    have Hr := hide (show reply p ⟨c, o, hs, v⟩ wr d = (0, false, false) from by simp [reply, h1, h2])
    clear h1 h2
    go_enter Try.func12, Try.ntmps12
    go_wp2
    (try (go_region; all_goals go_wp2))
    refine bodyPost_ret ?_ rfl ⟨rfl, ?_⟩
    · rw [Hr.out]; simp [results, Try.results12, go_sem]
    · (repeat' (with_reducible first | exact bl0 | apply bl4 | apply bl5 | apply bl1 | refine bl2 ?_ (by first | omega | (simp only [World.size_alloc, World.size_setCell, World.size_drew]; omega)) | refine bl3 (by assumption) ?_))
theorem Reply_calls (p : Int) (b : Bun) (wr : Bool) (d : I3) (w : World) :
    Calls Try.prog 12 #[.int .i64 p, .agg #[.int .i64 b.c, .bool b.o, .bool b.h, .int .i64 b.d], .bool wr, .agg #[.int .i64 d.a, .int .i64 d.b, .int .i64 d.c]] w fun e w' => e = .returned (.tuple #[.int .i64 (reply p b wr d).1, .bool (reply p b wr d).2.1, .bool (reply p b wr d).2.2]) ∧ Below w.heap.size w w' :=
  Reply_calls' p b.c b.o b.h b.d wr d w
end Go.Proofs.Ytkamhamgpinhkaa
