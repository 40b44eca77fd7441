/- BundleSplits of layer 2: what it comes to. -/
import Derived.Test.YtegcnbomndeinaaL02a
import Derived.Test.YtegcnbomndeinaaP02
import Derived.Test.YtegcnbomndeinaaC02r
import Derived.Test.YtegcnbomndeinaaC02j
namespace Go.Proofs.Ytegcnbomndeinaa
open Go.RowKit
set_option linter.unusedVariables false
set_option linter.unusedSimpArgs false
set_option maxHeartbeats 4000000 in
theorem BundleSplits_out (h : Bun) (count : Int) (u : B2) (w : World) (hx : ¬ bcheck h (max h.c 0) = 0) :
    Calls Try.prog 4 #[.agg #[.int .i64 h.c, .bool h.o, .bool h.h, .int .i64 h.d], .int .i64 count, .agg #[.bool u.a, .bool u.b]] w fun e w' => e = .returned (.bool true) ∧ Below w.heap.size w w' := by
  have hmb : (h.c < 0 ∧ max h.c 0 = 0) ∨ (0 ≤ h.c ∧ max h.c 0 = h.c) := by omega
  rcases hmb with ⟨sb, eb⟩ | ⟨sb, eb⟩
  all_goals
    rw [eb] at hx
    have Hp := hide (show decide (bcheck h _ = 0) = false from decide_eq_false hx)
    clear eb hx
    go_enter Try.func4, Try.ntmps4
    go_wp2_with (first | (go_at_call 11; refine (awake_calls _).mono ?_; rintro e w1 ⟨rfl, hb_w1⟩; obtain ⟨hc_w1, hf_w1⟩ := bcell hb_w1; have z_w1 := hb_w1.size; (try simp only [World.size_alloc, World.size_setCell, World.size_drew] at z_w1); have z_w1_0 : w.heap.size < w1.heap.size := (by omega); have z_w1_1 : w.heap.size + 1 < w1.heap.size := (by omega)) | (go_at_call 14; ((with_reducible refine (rRight_calls h _ _).mono ?_); rw [Hp.out]; rintro e w2 ⟨rfl, hb_w2⟩; obtain ⟨hc_w2, hf_w2⟩ := bcell hb_w2; have z_w2 := hb_w2.size; (try simp only [World.size_alloc, World.size_setCell, World.size_drew] at z_w2); have z_w2_0 : w.heap.size < w2.heap.size := (by omega); have z_w2_1 : w.heap.size + 1 < w2.heap.size := (by omega))))
    go_ret
    (refine ⟨?_, ?_⟩; (first | rfl | (go_simp; done) | (simp; done)); (first | ((repeat' (with_reducible first | exact bl0 | apply bl4 | apply bl5 | apply bl1 | refine bl2 ?_ (by first | omega | (simp only [World.size_alloc, World.size_setCell, World.size_drew]; omega)) | refine bl3 (by assumption) ?_)); done) | (go_simp; done) | (refine bl3 (by assumption) ?_; go_simp; done)))
set_option maxHeartbeats 8000000 in
theorem BundleSplits_in (h : Bun) (count : Int) (u : B2) (w : World) (p1 : 0 ≤ h.c) (p2 : h.c ≤ 9223372036854775807) (hx : bcheck h h.c = 0) :
    Calls Try.prog 4 #[.agg #[.int .i64 h.c, .bool h.o, .bool h.h, .int .i64 h.d], .int .i64 count, .agg #[.bool u.a, .bool u.b]] w fun e w' => e = .returned (.bool true) ∧ Below w.heap.size w w' := by
  obtain ⟨x, y, hxy⟩ : ∃ x y, split h count u.a u.b = (x, y) := ⟨_, _, rfl⟩
  have Hxy := hide hxy
  have Hr := hide (rsplit_split p2 hx count u.a u.b)
  clear hxy p2
  have Hp := hide (show decide (bcheck h h.c = 0) = true from decide_eq_true hx)
  clear hx
  go_enter Try.func4, Try.ntmps4
  go_wp2_with (first | (go_at_call 11; refine (awake_calls _).mono ?_; rintro e w1 ⟨rfl, hb_w1⟩; obtain ⟨hc_w1, hf_w1⟩ := bcell hb_w1; have z_w1 := hb_w1.size; (try simp only [World.size_alloc, World.size_setCell, World.size_drew] at z_w1); have z_w1_0 : w.heap.size < w1.heap.size := (by omega); have z_w1_1 : w.heap.size + 1 < w1.heap.size := (by omega)) | (go_at_call 14; ((with_reducible refine (rRight_calls h _ _).mono ?_); rw [Hp.out]; rintro e w2 ⟨rfl, hb_w2⟩; obtain ⟨hc_w2, hf_w2⟩ := bcell hb_w2; have z_w2 := hb_w2.size; (try simp only [World.size_alloc, World.size_setCell, World.size_drew] at z_w2); have z_w2_0 : w.heap.size < w2.heap.size := (by omega); have z_w2_1 : w.heap.size + 1 < w2.heap.size := (by omega))) | (go_at_call 15; refine (Split_calls h count u.a u.b p1 _).mono ?_; rw [Hxy.out]; rintro e w3 ⟨rfl, hb_w3⟩; obtain ⟨hc_w3, hf_w3⟩ := bcell hb_w3; have z_w3 := hb_w3.size; (try simp only [World.size_alloc, World.size_setCell, World.size_drew] at z_w3); have z_w3_0 : w.heap.size < w3.heap.size := (by omega); have z_w3_1 : w.heap.size + 1 < w3.heap.size := (by omega)) | (go_at_call 16; refine (rSplit_calls h count u.a u.b _).mono ?_; rw [Hr.out, Hxy.out]; rintro e w4 ⟨rfl, hb_w4⟩; obtain ⟨hc_w4, hf_w4⟩ := bcell hb_w4; have z_w4 := hb_w4.size; (try simp only [World.size_alloc, World.size_setCell, World.size_drew] at z_w4); have z_w4_0 : w.heap.size < w4.heap.size := (by omega); have z_w4_1 : w.heap.size + 1 < w4.heap.size := (by omega); have z1 : w3.heap.size < w4.heap.size := (by omega); have z2 : w3.heap.size + 1 < w4.heap.size := (by omega); have z3 : w3.heap.size < w4.heap.size + 1 := (by omega); have z4 : w3.heap.size + 1 < w4.heap.size + 1 := (by omega)))
  go_ret
  (refine ⟨?_, ?_⟩; (first | rfl | (go_simp; done) | (simp; done)); (first | ((repeat' (with_reducible first | exact bl0 | apply bl4 | apply bl5 | apply bl1 | refine bl2 ?_ (by first | omega | (simp only [World.size_alloc, World.size_setCell, World.size_drew]; omega)) | refine bl3 (by assumption) ?_)); done) | (go_simp; done) | (refine bl3 (by assumption) ?_; go_simp; done)))
theorem BundleSplits_walk (h : Bun) (hb : okBun h) (count : Int) (hc : okI count) (u : B2) (hu : okB2 u) (w : World) :
    Calls Try.prog 4 #[.agg #[.int .i64 h.c, .bool h.o, .bool h.h, .int .i64 h.d], .int .i64 count, .agg #[.bool u.a, .bool u.b]] w fun e w' => e = .returned (.bool true) ∧ Below w.heap.size w w' := by
  by_cases hx : bcheck h (max h.c 0) = 0
  · have h0 := right_nn hx
    rw [show max h.c 0 = h.c from by omega] at hx
    exact BundleSplits_in h count u w h0 hb.1.2 hx
  · exact BundleSplits_out h count u w hx
end Go.Proofs.Ytegcnbomndeinaa
