/- BundleSums of layer 2: what it comes to. -/
import Derived.Test.YtegcnbomndeinaaL02a
import Derived.Test.YtegcnbomndeinaaP02
import Derived.Test.YtegcnbomndeinaaL02g1
import Derived.Test.YtegcnbomndeinaaL02g2
import Derived.Test.YtegcnbomndeinaaL02g3
import Derived.Test.YtegcnbomndeinaaL02g4
import Derived.Test.YtegcnbomndeinaaL02g5
namespace Go.Proofs.Ytegcnbomndeinaa
open Go.RowKit
set_option linter.unusedVariables false
set_option linter.unusedSimpArgs false
set_option maxHeartbeats 4000000 in
theorem BundleSums_out (bh : Bun) (count : Int) (u : B2) (w : World) (hx : ¬ bcheck bh (max bh.c 0) = 0) :
    Calls Try.prog 7 #[.agg #[.int .i64 bh.c, .bool bh.o, .bool bh.h, .int .i64 bh.d], .int .i64 count, .agg #[.bool u.a, .bool u.b]] w fun e w' => e = .returned (.bool true) ∧ Below w.heap.size w w' := by
  have hmb : (bh.c < 0 ∧ max bh.c 0 = 0) ∨ (0 ≤ bh.c ∧ max bh.c 0 = bh.c) := by omega
  rcases hmb with ⟨sb, eb⟩ | ⟨sb, eb⟩
  all_goals
    rw [eb] at hx
    have Hp := hide (show decide (bcheck bh _ = 0) = false from decide_eq_false hx)
    clear eb hx
    go_enter Try.func7, Try.ntmps7
    go_wp2_with (first | (go_at_call 11; refine (awake_calls _).mono ?_; rintro e w1 ⟨rfl, hb_w1⟩; obtain ⟨hc_w1, hf_w1⟩ := bcell hb_w1; have z_w1 := hb_w1.size; (try simp only [World.size_alloc, World.size_setCell, World.size_drew, World.heap_drewN] at z_w1); have zz_w1_w_0_0 : w.heap.size < w1.heap.size := (by omega); have zz_w1_w_0_1 : w.heap.size < w1.heap.size + 1 := (by omega); have zz_w1_w_0_2 : w.heap.size < w1.heap.size + 1 + 1 := (by omega); have zz_w1_w_0_3 : w.heap.size < w1.heap.size + 1 + 1 + 1 := (by omega); have zz_w1_w_1_0 : w.heap.size + 1 < w1.heap.size := (by omega); have zz_w1_w_1_1 : w.heap.size + 1 < w1.heap.size + 1 := (by omega); have zz_w1_w_1_2 : w.heap.size + 1 < w1.heap.size + 1 + 1 := (by omega); have zz_w1_w_1_3 : w.heap.size + 1 < w1.heap.size + 1 + 1 + 1 := (by omega)) | (go_at_call 14; ((with_reducible refine (rRight_calls bh _ _).mono ?_); rw [Hp.out]; rintro e w2 ⟨rfl, hb_w2⟩; obtain ⟨hc_w2, hf_w2⟩ := bcell hb_w2; have z_w2 := hb_w2.size; (try simp only [World.size_alloc, World.size_setCell, World.size_drew, World.heap_drewN] at z_w2); have zz_w2_w_0_0 : w.heap.size < w2.heap.size := (by omega); have zz_w2_w_0_1 : w.heap.size < w2.heap.size + 1 := (by omega); have zz_w2_w_0_2 : w.heap.size < w2.heap.size + 1 + 1 := (by omega); have zz_w2_w_0_3 : w.heap.size < w2.heap.size + 1 + 1 + 1 := (by omega); have zz_w2_w_1_0 : w.heap.size + 1 < w2.heap.size := (by omega); have zz_w2_w_1_1 : w.heap.size + 1 < w2.heap.size + 1 := (by omega); have zz_w2_w_1_2 : w.heap.size + 1 < w2.heap.size + 1 + 1 := (by omega); have zz_w2_w_1_3 : w.heap.size + 1 < w2.heap.size + 1 + 1 + 1 := (by omega))))
    go_ret
    (refine ⟨?_, ?_⟩; (first | rfl | (go_simp; done) | (simp; done)); (first | ((repeat' (with_reducible first | exact bl0 | apply bl4 | apply bl5 | apply bl1 | refine bl2 ?_ (by first | omega | (simp only [World.size_alloc, World.size_setCell, World.size_drew]; omega)) | refine bl3 (by assumption) ?_)); done) | (go_simp; done) | (refine bl3 (by assumption) ?_; go_simp; done)))
theorem BundleSums_walk (bh : Bun) (hb : okBun bh) (count : Int) (hc : okI count) (u : B2) (hu : okB2 u) (w : World) :
    Calls Try.prog 7 #[.agg #[.int .i64 bh.c, .bool bh.o, .bool bh.h, .int .i64 bh.d], .int .i64 count, .agg #[.bool u.a, .bool u.b]] w fun e w' => e = .returned (.bool true) ∧ Below w.heap.size w w' := by
  by_cases hx : bcheck bh (max bh.c 0) = 0
  · have h0 := right_nn hx
    rw [show max bh.c 0 = bh.c from by omega] at hx
    obtain ⟨x, y, hxy⟩ : ∃ x y, split bh count u.a u.b = (x, y) := ⟨_, _, rfl⟩
    obtain ⟨f1, f2, f3, f4, f5, f6, f7, f8, f9, f10, f11, f12, f13⟩ := split_facts hb.1.2 hx hxy
    have hw : (wrap64 (x.c + y.c) == bh.c) = true := by
      have : wrap64 (x.c + y.c) = bh.c := by have := hb.1.2; unfold wrap64; omega
      rw [this]; simp
    obtain ⟨c, o, hs, d⟩ := bh
    obtain ⟨xc, xo, xh, xd⟩ := x
    obtain ⟨yc, yo, yh, yd⟩ := y
    simp only at f3 f4 hw f6 f7 f8 f9 f13
    have hp : decide (bcheck ⟨c, o, hs, d⟩ c = 0) = true := decide_eq_true hx
    by_cases k : count < 1
    · have := f12 k
      rw [bun0, Bun.mk.injEq] at this
      obtain ⟨rfl, rfl, rfl, rfl⟩ := this
      subst f6
      cases yo
      · exact BundleSums_5 c d count yc yd hs yh u w h0 hp hxy (by omega) f4 hw k f13
      · obtain ⟨rfl, rfl⟩ := f9 rfl
        exact BundleSums_4 c yd count yc hs u w h0 hp hxy (by omega) f4 hw k f13
    · subst f6
      cases xo
      · cases yo
        · exact BundleSums_3 c d count yc xc xd yd hs xh yh u w h0 hp hxy f3 f4 hw (by omega) f13
        · obtain ⟨rfl, rfl⟩ := f9 rfl
          exact BundleSums_2 c yd count yc xc xd hs xh u w h0 hp hxy f3 f4 hw (by omega) f13
      · obtain ⟨rfl, rfl⟩ := f8 rfl
        cases yo
        · exact BundleSums_1 c xd count yc xc yd hs yh u w h0 hp hxy f3 f4 hw (by omega) f13
        · simp at f7
  · exact BundleSums_out bh count u w hx
end Go.Proofs.Ytegcnbomndeinaa
