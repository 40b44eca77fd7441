/- BundleSums of layer 2: what it comes to. -/
import Derived.Test.YtegcnbomndeinaaL02a
import Derived.Test.YtegcnbomndeinaaP02
namespace Go.Proofs.Ytegcnbomndeinaa
open Go.RowKit
set_option linter.unusedVariables false
set_option linter.unusedSimpArgs false
set_option maxHeartbeats 8000000 in
theorem BundleSums_2 (c d count yc xc xd : Int) (hs xh : Bool) (u : B2) (w : World) (p1 : 0 ≤ c) (hp : decide (bcheck ⟨c, true, hs, d⟩ c = 0) = true)
    (hxy : split ⟨c, true, hs, d⟩ count u.a u.b = (⟨xc, false, xh, xd⟩, ⟨yc, true, true, d⟩)) (q1 : 0 ≤ xc) (q2 : 0 ≤ yc) (q3 : (wrap64 (xc + yc) == c) = true) (q5 : 1 ≤ count) (q6 : xc ≤ max count 0) :
    Calls Try.prog 7 #[.agg #[.int .i64 c, .bool true, .bool hs, .int .i64 d], .int .i64 count, .agg #[.bool u.a, .bool u.b]] w fun e w' => e = .returned (.bool true) ∧ Below w.heap.size w w' := by
  have Hp := hide hp
  have Hxy := hide hxy
  have Q := hide (And.intro q3 q6)
  clear hp hxy q3 q6
  go_enter Try.func7, Try.ntmps7
  go_wp2_with (first | (go_at_call 11; refine (awake_calls _).mono ?_; rintro e w1 ⟨rfl, hb_w1⟩; obtain ⟨hc_w1, hf_w1⟩ := bcell hb_w1; have z_w1 := hb_w1.size; (try simp only [World.size_alloc, World.size_setCell, World.size_drew, World.heap_drewN] at z_w1); have zz_w1_w_0_0 : w.heap.size < w1.heap.size := (by omega); have zz_w1_w_0_1 : w.heap.size < w1.heap.size + 1 := (by omega); have zz_w1_w_0_2 : w.heap.size < w1.heap.size + 1 + 1 := (by omega); have zz_w1_w_0_3 : w.heap.size < w1.heap.size + 1 + 1 + 1 := (by omega); have zz_w1_w_1_0 : w.heap.size + 1 < w1.heap.size := (by omega); have zz_w1_w_1_1 : w.heap.size + 1 < w1.heap.size + 1 := (by omega); have zz_w1_w_1_2 : w.heap.size + 1 < w1.heap.size + 1 + 1 := (by omega); have zz_w1_w_1_3 : w.heap.size + 1 < w1.heap.size + 1 + 1 + 1 := (by omega)) | (go_at_call 14; ((with_reducible refine (rRight_calls ⟨c, true, hs, d⟩ _ _).mono ?_); rw [Hp.out]; rintro e w2 ⟨rfl, hb_w2⟩; obtain ⟨hc_w2, hf_w2⟩ := bcell hb_w2; have z_w2 := hb_w2.size; (try simp only [World.size_alloc, World.size_setCell, World.size_drew, World.heap_drewN] at z_w2); have zz_w2_w_0_0 : w.heap.size < w2.heap.size := (by omega); have zz_w2_w_0_1 : w.heap.size < w2.heap.size + 1 := (by omega); have zz_w2_w_0_2 : w.heap.size < w2.heap.size + 1 + 1 := (by omega); have zz_w2_w_0_3 : w.heap.size < w2.heap.size + 1 + 1 + 1 := (by omega); have zz_w2_w_1_0 : w.heap.size + 1 < w2.heap.size := (by omega); have zz_w2_w_1_1 : w.heap.size + 1 < w2.heap.size + 1 := (by omega); have zz_w2_w_1_2 : w.heap.size + 1 < w2.heap.size + 1 + 1 := (by omega); have zz_w2_w_1_3 : w.heap.size + 1 < w2.heap.size + 1 + 1 + 1 := (by omega))) | (go_at_call 15; refine (Split_calls ⟨c, true, hs, d⟩ count u.a u.b p1 _).mono ?_; rw [Hxy.out]; rintro e w3 ⟨rfl, hb_w3⟩; obtain ⟨hc_w3, hf_w3⟩ := bcell hb_w3; have z_w3 := hb_w3.size; (try simp only [World.size_alloc, World.size_setCell, World.size_drew, World.heap_drewN] at z_w3); have zz_w3_w_0_0 : w.heap.size < w3.heap.size := (by omega); have zz_w3_w_0_1 : w.heap.size < w3.heap.size + 1 := (by omega); have zz_w3_w_0_2 : w.heap.size < w3.heap.size + 1 + 1 := (by omega); have zz_w3_w_0_3 : w.heap.size < w3.heap.size + 1 + 1 + 1 := (by omega); have zz_w3_w_1_0 : w.heap.size + 1 < w3.heap.size := (by omega); have zz_w3_w_1_1 : w.heap.size + 1 < w3.heap.size + 1 := (by omega); have zz_w3_w_1_2 : w.heap.size + 1 < w3.heap.size + 1 + 1 := (by omega); have zz_w3_w_1_3 : w.heap.size + 1 < w3.heap.size + 1 + 1 + 1 := (by omega)))
  go_loopw [9, 37] (fun nn i wr => ((i = .int .i64 0 ∧ nn = .int .i64 0) ∨ (i = .int .i64 1 ∧ nn = .int .i64 0) ∨ (i = .int .i64 2 ∧ nn = .int .i64 1)) ∧ C4 wr w.heap.size (.int .i64 c) (.bool true) (.bool hs) (.int .i64 d) ∧ C4 wr w3.heap.size (.int .i64 xc) (.bool false) (.bool xh) (.int .i64 xd) ∧ C4 wr (w3.heap.size + 1) (.int .i64 yc) (.bool true) (.bool true) (.int .i64 d) ∧ (wr.cell? ⟨w3.heap.size + 1 + 1, 0, none⟩ = some (.int .i64 xc) ∧ wr.cell? ⟨w3.heap.size + 1 + 1, 1, none⟩ = some (.bool false) ∧ wr.cell? ⟨w3.heap.size + 1 + 1, 2, none⟩ = some (.bool xh) ∧ wr.cell? ⟨w3.heap.size + 1 + 1, 3, none⟩ = some (.int .i64 xd) ∧ wr.cell? ⟨w3.heap.size + 1 + 1, 4, none⟩ = some (.int .i64 yc) ∧ wr.cell? ⟨w3.heap.size + 1 + 1, 5, none⟩ = some (.bool true) ∧ wr.cell? ⟨w3.heap.size + 1 + 1, 6, none⟩ = some (.bool true) ∧ wr.cell? ⟨w3.heap.size + 1 + 1, 7, none⟩ = some (.int .i64 d)) ∧ Below w.heap.size w wr ∧ w3.heap.size + 1 + 1 < wr.heap.size) (fun nn i _ => 2 - (intOf i).toNat)
  case atStart =>
    refine ⟨Or.inl ⟨rfl, rfl⟩, by unfold C4; go_simp, by unfold C4; go_simp, by unfold C4; go_simp, by go_simp, by (repeat' (with_reducible first | exact bl0 | apply bl4 | apply bl5 | apply bl1 | refine bl2 ?_ (by first | omega | (simp only [World.size_alloc, World.size_setCell, World.size_drew]; omega)) | refine bl3 (by assumption) ?_)), by first | omega | (simp; done) | (simp; omega)⟩
  case round =>
    obtain ⟨hk, ⟨⟨x0, x1, x2, x3⟩, f0, f1, f2, f3⟩, ⟨⟨y0, y1, y2, y3⟩, g0, g1, g2, g3⟩, ⟨⟨u0, u1, u2, u3⟩, k0, k1, k2, k3⟩, ⟨s0, s1, s2, s3, s4, s5, s6, s7⟩, hbr, hzr⟩ := hrel
    have t0 : w.heap.size < wr.heap.size := by omega
    have t1 : w3.heap.size < wr.heap.size := by omega
    have t2 : w3.heap.size + 1 < wr.heap.size := by omega
    rcases hk with ⟨rfl, rfl⟩ | ⟨rfl, rfl⟩ | ⟨rfl, rfl⟩
    · go_wp2
      go_roundw
      case rel => refine ⟨Or.inr (Or.inl ⟨by go_num, by go_num⟩), by unfold C4; go_simp, by unfold C4; go_simp, by unfold C4; go_simp, by go_simp, by (repeat' (with_reducible first | exact bl0 | apply bl4 | apply bl5 | apply bl1 | refine bl2 ?_ (by first | omega | (simp only [World.size_alloc, World.size_setCell, World.size_drew]; omega)) | refine bl3 (by assumption) ?_)), by first | omega | (simp; done) | (simp; omega)⟩
      case measure => (simp [intOf])
    · go_wp2
      go_roundw
      case rel => refine ⟨Or.inr (Or.inr ⟨by go_num, by go_num⟩), by unfold C4; go_simp, by unfold C4; go_simp, by unfold C4; go_simp, by go_simp, by (repeat' (with_reducible first | exact bl0 | apply bl4 | apply bl5 | apply bl1 | refine bl2 ?_ (by first | omega | (simp only [World.size_alloc, World.size_setCell, World.size_drew]; omega)) | refine bl3 (by assumption) ?_)), by first | omega | (simp; done) | (simp; omega)⟩
      case measure => (simp [intOf])
    · have q3 := Q.out.1
      have q6 : xc ≤ count := by have := Q.out.2; omega
      have q7 : 0 ≤ count := by omega
      go_wp2
      go_ret
      (refine ⟨?_, ?_⟩; (first | rfl | (go_simp; done) | (simp; done)); (first | ((repeat' (with_reducible first | exact bl0 | apply bl4 | apply bl5 | apply bl1 | refine bl2 ?_ (by first | omega | (simp only [World.size_alloc, World.size_setCell, World.size_drew]; omega)) | refine bl3 (by assumption) ?_)); done) | (go_simp; done) | (refine bl3 (by assumption) ?_; go_simp; done)))
end Go.Proofs.Ytegcnbomndeinaa
