/- PermSole of layer 3: what it comes to. -/
import Derived.Test.YtldjanjnohkmdaaL03a
namespace Go.Proofs.Ytldjanjnohkmdaa
open Go.RowKit
set_option linter.unusedVariables false
set_option linter.unusedSimpArgs false
theorem right_nn {b : Bun} (h : bcheck b (max b.c 0) = 0) : 0 ≤ b.c := by
  obtain ⟨c, o, hs, d⟩ := b
  unfold bcheck at h
  cases o <;> cases hs <;> simp at h ⊢ <;> omega
theorem sole_plain {b x y : Bun} {count : Int} {p q : Bool} (h0 : 0 ≤ b.c) (h1 : b.c ≤ 9223372036854775807) (hs : split b count p q = (x, y)) :
    (writes x b.c = true → reads y = false) ∧ (writes y b.c = true → reads x = false) ∧ (writes x b.c = true → writes y b.c = false) := by
  have hb0 : reads bun0 = false := by decide
  unfold split splitW at hs
  simp only at hs
  generalize hn0 : clamp count 0 (max b.c 0) = n0 at hs
  have hle : n0 ≤ b.c := by rw [← hn0]; unfold clamp; omega
  generalize hown : (p && b.o && decide (0 < n0)) = own at hs
  generalize hn : (if (b.o && !own) = true then min n0 (wrap64 (b.c - 1)) else n0) = n at hs
  have hnle : n ≤ b.c := by rw [← hn]; split <;> omega
  by_cases hlt : n < 1
  · rw [if_pos hlt] at hs
    obtain ⟨rfl, rfl⟩ := Prod.mk.inj hs
    simp [writes, hb0]
  · rw [if_neg hlt] at hs
    obtain ⟨rfl, rfl⟩ := Prod.mk.inj hs
    by_cases hc : n < b.c
    · rw [if_pos hc]
      have hw : wrap64 (b.c - n) = b.c - n := by unfold wrap64; omega
      refine ⟨fun h => ?_, fun h => ?_, fun h => ?_⟩
      · simp [writes, valued] at h; omega
      · simp [writes, valued, hw] at h; omega
      · simp [writes, valued] at h; omega
    · rw [if_neg hc]
      refine ⟨fun h => hb0, fun h => ?_, fun h => ?_⟩
      · simp [writes, hb0] at h
      · simp [writes, hb0]
set_option maxHeartbeats 4000000 in
theorem PermSole_out (b : Bun) (count : Int) (u : B2) (w : World) (hx : ¬ bcheck b (max b.c 0) = 0) :
    Calls Try.prog 8 #[.agg #[.int .i64 b.c, .bool b.o, .bool b.h, .int .i64 b.d], .int .i64 count, .agg #[.bool u.a, .bool u.b]] w fun e w' => e = .returned (.bool true) ∧ Below w.heap.size w w' := by
  have hmb : (b.c < 0 ∧ max b.c 0 = 0) ∨ (0 ≤ b.c ∧ max b.c 0 = b.c) := by omega
  rcases hmb with ⟨sb, eb⟩ | ⟨sb, eb⟩
  all_goals
    rw [eb] at hx
    have Hp := hide (show decide (bcheck b _ = 0) = false from decide_eq_false hx)
    clear eb hx
    go_enter Try.func8, Try.ntmps8
    go_wp2_with (first | (go_at_call 9; refine (awake_calls _).mono ?_; rintro e w1 ⟨rfl, hb_w1⟩; obtain ⟨hc_w1, hf_w1⟩ := bcell hb_w1; have z_w1 := hb_w1.size; (try simp only [World.size_alloc, World.size_setCell, World.size_drew] at z_w1); have z_w1_0 : w.heap.size < w1.heap.size := (by omega); have z_w1_1 : w.heap.size + 1 < w1.heap.size := (by omega)) | (go_at_call 15; ((with_reducible refine (rRight_calls b _ _).mono ?_); rw [Hp.out]; rintro e w2 ⟨rfl, hb_w2⟩; obtain ⟨hc_w2, hf_w2⟩ := bcell hb_w2; have z_w2 := hb_w2.size; (try simp only [World.size_alloc, World.size_setCell, World.size_drew] at z_w2); have z_w2_0 : w.heap.size < w2.heap.size := (by omega); have z_w2_1 : w.heap.size + 1 < w2.heap.size := (by omega))))
    go_ret
    (refine ⟨?_, ?_⟩; (first | rfl | (go_simp; done) | (simp; done)); (first | ((repeat' (with_reducible first | exact bl0 | apply bl4 | apply bl5 | apply bl1 | refine bl2 ?_ (by first | omega | (simp only [World.size_alloc, World.size_setCell, World.size_drew]; omega)) | refine bl3 (by assumption) ?_)); done) | (go_simp; done) | (refine bl3 (by assumption) ?_; go_simp; done)))
set_option maxHeartbeats 8000000 in
theorem PermSole_in (b : Bun) (count : Int) (u : B2) (w : World) (p1 : 0 ≤ b.c) (p2 : b.c ≤ 9223372036854775807) (hx : bcheck b b.c = 0) :
    Calls Try.prog 8 #[.agg #[.int .i64 b.c, .bool b.o, .bool b.h, .int .i64 b.d], .int .i64 count, .agg #[.bool u.a, .bool u.b]] w fun e w' => e = .returned (.bool true) ∧ Below w.heap.size w w' := by
  obtain ⟨x, y, hxy⟩ : ∃ x y, split b count u.a u.b = (x, y) := ⟨_, _, rfl⟩
  obtain ⟨f1, f2, f3⟩ := sole_plain p1 p2 hxy
  have Hxy := hide hxy
  have Hp := hide (show decide (bcheck b b.c = 0) = true from decide_eq_true hx)
  have F1 := hide f1
  have F2 := hide f2
  have F3 := hide f3
  clear p2 hx hxy f1 f2 f3
  go_enter Try.func8, Try.ntmps8
  go_upto_region 4 with (first | (go_at_call 9; refine (awake_calls _).mono ?_; rintro e w1 ⟨rfl, hb_w1⟩; obtain ⟨hc_w1, hf_w1⟩ := bcell hb_w1; have z_w1 := hb_w1.size; (try simp only [World.size_alloc, World.size_setCell, World.size_drew] at z_w1); have z_w1_0 : w.heap.size < w1.heap.size := (by omega); have z_w1_1 : w.heap.size + 1 < w1.heap.size := (by omega)) | (go_at_call 15; ((with_reducible refine (rRight_calls b _ _).mono ?_); rw [Hp.out]; rintro e w2 ⟨rfl, hb_w2⟩; obtain ⟨hc_w2, hf_w2⟩ := bcell hb_w2; have z_w2 := hb_w2.size; (try simp only [World.size_alloc, World.size_setCell, World.size_drew] at z_w2); have z_w2_0 : w.heap.size < w2.heap.size := (by omega); have z_w2_1 : w.heap.size + 1 < w2.heap.size := (by omega))) | (go_at_call 17; refine (Split_calls b count u.a u.b p1 _).mono ?_; rw [Hxy.out]; rintro e w3 ⟨rfl, hb_w3⟩; obtain ⟨hc_w3, hf_w3⟩ := bcell hb_w3; have z_w3 := hb_w3.size; (try simp only [World.size_alloc, World.size_setCell, World.size_drew] at z_w3); have z_w3_0 : w.heap.size < w3.heap.size := (by omega); have z_w3_1 : w.heap.size + 1 < w3.heap.size := (by omega)))
  refine wp_region_free_all mixed (fun w' => ((w'.cell? ⟨w.heap.size, 0, none⟩ = some (.int .i64 b.c) ∧ w'.cell? ⟨w.heap.size, 1, none⟩ = some (.bool b.o) ∧ w'.cell? ⟨w.heap.size, 2, none⟩ = some (.bool b.h) ∧ w'.cell? ⟨w.heap.size, 3, none⟩ = some (.int .i64 b.d)) ∧ (w'.cell? ⟨w3.heap.size, 0, none⟩ = some (.int .i64 x.c) ∧ w'.cell? ⟨w3.heap.size, 1, none⟩ = some (.bool x.o) ∧ w'.cell? ⟨w3.heap.size, 2, none⟩ = some (.bool x.h) ∧ w'.cell? ⟨w3.heap.size, 3, none⟩ = some (.int .i64 x.d)) ∧ (w'.cell? ⟨w3.heap.size + 1, 0, none⟩ = some (.int .i64 y.c) ∧ w'.cell? ⟨w3.heap.size + 1, 1, none⟩ = some (.bool y.o) ∧ w'.cell? ⟨w3.heap.size + 1, 2, none⟩ = some (.bool y.h) ∧ w'.cell? ⟨w3.heap.size + 1, 3, none⟩ = some (.int .i64 y.d))) ∧ Below w.heap.size w w' ∧ w.heap.size < w'.heap.size ∧ w.heap.size + 1 < w'.heap.size ∧ w3.heap.size < w'.heap.size ∧ w3.heap.size + 1 < w'.heap.size) (by kernel_rfl) ?_ ?_
  · refine ⟨⟨⟨?_, ?_, ?_, ?_⟩, ⟨?_, ?_, ?_, ?_⟩, ⟨?_, ?_, ?_, ?_⟩⟩, ?_, ?_, ?_, ?_, ?_⟩ <;> first | omega | (first | (go_simp; done) | ((repeat' (with_reducible first | exact bl0 | apply bl4 | apply bl5 | apply bl1 | refine bl2 ?_ (by first | omega | (simp only [World.size_alloc, World.size_setCell, World.size_drew]; omega)) | refine bl3 (by assumption) ?_)); done) | (refine bl3 (by assumption) ?_; (go_simp; done)) | (simp only [World.size_alloc, World.size_drew] at *; omega))
  repeat (apply Free.next; (case h => (intro w' hS; unfold Does; (try go_simp); first | exact ⟨rfl, hS⟩ | exact rfl | (simp only [Give_enter]; obtain ⟨c_S, b_S, z_S⟩ := hS; (first | (go_at_call 12; first | ((with_reducible refine (Writes_calls x _ _).mono ?_)) | ((with_reducible refine (Writes_calls y _ _).mono ?_)))); rintro e w1 ⟨rfl, hb_1⟩; obtain ⟨hc_1, hf_1⟩ := bcell hb_1; have z_1 := hb_1.size; refine ⟨_, rfl, rfl, ⟨⟨?_, ?_, ?_, ?_⟩, ⟨?_, ?_, ?_, ?_⟩, ⟨?_, ?_, ?_, ?_⟩⟩, ?_, ?_, ?_, ?_, ?_⟩ <;> first | omega | (first | (go_simp; done) | ((repeat' (with_reducible first | exact bl0 | apply bl4 | apply bl5 | apply bl1 | refine bl2 ?_ (by first | omega | (simp only [World.size_alloc, World.size_setCell, World.size_drew]; omega)) | refine bl3 (by assumption) ?_)); done) | (refine bl3 (by assumption) ?_; (go_simp; done)) | (simp only [World.size_alloc, World.size_drew] at *; omega))))); case he => (simp only [Act.put, List.setIfInBounds_toArray, List.set_cons_succ, List.set_cons_zero]; exact rfl))
  apply Free.nil
  intro wf hS
  apply wpList_nil
  obtain ⟨⟨cb, ⟨x0, x1, x2, x3⟩, ⟨y0, y1, y2, y3⟩⟩, bel, s1, s2, s3, s4⟩ := hS
  clear cb
  cases hone : writes x b.c <;> cases htwo : writes y b.c
  · go_wp2
    go_ret
    (refine ⟨?_, ?_⟩; (first | rfl | (go_simp; done) | (simp; done)); (first | ((repeat' (with_reducible first | exact bl0 | apply bl4 | apply bl5 | apply bl1 | refine bl2 ?_ (by first | omega | (simp only [World.size_alloc, World.size_setCell, World.size_drew]; omega)) | refine bl3 (by assumption) ?_)); done) | (go_simp; done) | (refine bl3 (by assumption) ?_; go_simp; done)))
  · have ra := F2.out htwo
    go_wp2_with (go_at_call 10; refine (Reads_calls x _).mono ?_; rintro e w5 ⟨rfl, hb_w5⟩; obtain ⟨hc_w5, hf_w5⟩ := bcell hb_w5)
    go_ret
    (refine ⟨?_, ?_⟩; (first | rfl | (go_simp; done) | (simp; done)); (first | ((repeat' (with_reducible first | exact bl0 | apply bl4 | apply bl5 | apply bl1 | refine bl2 ?_ (by first | omega | (simp only [World.size_alloc, World.size_setCell, World.size_drew]; omega)) | refine bl3 (by assumption) ?_)); done) | (go_simp; done) | (refine bl3 (by assumption) ?_; go_simp; done)))
  · have ra := F1.out hone
    go_wp2_with (go_at_call 10; refine (Reads_calls y _).mono ?_; rintro e w5 ⟨rfl, hb_w5⟩; obtain ⟨hc_w5, hf_w5⟩ := bcell hb_w5)
    go_ret
    (refine ⟨?_, ?_⟩; (first | rfl | (go_simp; done) | (simp; done)); (first | ((repeat' (with_reducible first | exact bl0 | apply bl4 | apply bl5 | apply bl1 | refine bl2 ?_ (by first | omega | (simp only [World.size_alloc, World.size_setCell, World.size_drew]; omega)) | refine bl3 (by assumption) ?_)); done) | (go_simp; done) | (refine bl3 (by assumption) ?_; go_simp; done)))
  · have := F3.out hone
    rw [htwo] at this
    cases this
theorem PermSole_walk (b : Bun) (hb : okBun b) (count : Int) (hc : okI count) (u : B2) (hu : okB2 u) (w : World) :
    Calls Try.prog 8 #[.agg #[.int .i64 b.c, .bool b.o, .bool b.h, .int .i64 b.d], .int .i64 count, .agg #[.bool u.a, .bool u.b]] w fun e w' => e = .returned (.bool true) ∧ Below w.heap.size w w' := by
  by_cases hx : bcheck b (max b.c 0) = 0
  · have h0 := right_nn hx
    rw [show max b.c 0 = b.c from by omega] at hx
    exact PermSole_in b count u w h0 hb.1.2 hx
  · exact PermSole_out b count u w hx
end Go.Proofs.Ytldjanjnohkmdaa
