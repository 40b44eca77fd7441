/- BundleBack of layer 2: what it comes to. -/
import Derived.Test.YtegcnbomndeinaaL02a
import Derived.Test.YtegcnbomndeinaaP02
import Derived.Test.YtegcnbomndeinaaC02r
import Derived.Test.YtegcnbomndeinaaC02j
namespace Go.Proofs.Ytegcnbomndeinaa
open Go.RowKit
set_option linter.unusedVariables false
set_option linter.unusedSimpArgs false
theorem back_plain {b x y : Bun} {count : Int} {p q : Bool} (h1 : b.c ≤ 9223372036854775807) (hr : bcheck b b.c = 0) (hs : split b count p q = (x, y)) :
    (join y x).c = b.c ∧ (join y x).o = b.o ∧ (((join y x).h = b.h ∧ (join y x).d = b.d) ∨ (x.h = false ∧ y.h = false ∧ join y x = ⟨b.c, false, false, 0⟩ ∧ ((join y x).h == b.h) = false)) := by
  obtain ⟨f1, f2, f3, f4, f5, f6, f7, f8, f9, f10, f11, -, -⟩ := split_facts h1 hr hs
  have h0 : 0 ≤ b.c := by omega
  have hw : wrap64 (y.c + x.c) = b.c := by unfold wrap64; omega
  obtain ⟨c, o, hs', d⟩ := b
  rw [right_iff] at hr
  obtain ⟨-, hz, ho, hd⟩ := hr
  simp only [join, valued, hw]
  obtain ⟨xc, xo, xh, xd⟩ := x
  obtain ⟨yc, yo, yh, yd⟩ := y
  simp only at f6 f7 f8 f9 f10 f11 hd ho ⊢
  subst f6
  cases hs' <;> cases xh <;> cases yh <;> cases xo <;> cases yo <;> simp at f7 f8 f9 f10 f11 hd ho ⊢ <;> simp_all
set_option maxHeartbeats 4000000 in
theorem BundleBack_out (bh : Bun) (count : Int) (u : B2) (w : World) (hx : ¬ bcheck bh (max bh.c 0) = 0) :
    Calls Try.prog 6 #[.agg #[.int .i64 bh.c, .bool bh.o, .bool bh.h, .int .i64 bh.d], .int .i64 count, .agg #[.bool u.a, .bool u.b]] w fun e w' => e = .returned (.bool true) ∧ Below w.heap.size w w' := by
  have hmb : (bh.c < 0 ∧ max bh.c 0 = 0) ∨ (0 ≤ bh.c ∧ max bh.c 0 = bh.c) := by omega
  rcases hmb with ⟨sb, eb⟩ | ⟨sb, eb⟩
  all_goals
    rw [eb] at hx
    have Hp := hide (show decide (bcheck bh _ = 0) = false from decide_eq_false hx)
    clear eb hx
    go_enter Try.func6, Try.ntmps6
    go_wp2_with (first | (go_at_call 11; refine (awake_calls _).mono ?_; rintro e w1 ⟨rfl, hb_w1⟩; obtain ⟨hc_w1, hf_w1⟩ := bcell hb_w1; have z_w1 := hb_w1.size; (try simp only [World.size_alloc, World.size_setCell, World.size_drew] at z_w1); have z_w1_0 : w.heap.size < w1.heap.size := (by omega); have z_w1_1 : w.heap.size + 1 < w1.heap.size := (by omega)) | (go_at_call 14; ((with_reducible refine (rRight_calls bh _ _).mono ?_); rw [Hp.out]; rintro e w2 ⟨rfl, hb_w2⟩; obtain ⟨hc_w2, hf_w2⟩ := bcell hb_w2; have z_w2 := hb_w2.size; (try simp only [World.size_alloc, World.size_setCell, World.size_drew] at z_w2); have z_w2_0 : w.heap.size < w2.heap.size := (by omega); have z_w2_1 : w.heap.size + 1 < w2.heap.size := (by omega))))
    go_ret
    (refine ⟨?_, ?_⟩; (first | rfl | (go_simp; done) | (simp; done)); (first | ((repeat' (with_reducible first | exact bl0 | apply bl4 | apply bl5 | apply bl1 | refine bl2 ?_ (by first | omega | (simp only [World.size_alloc, World.size_setCell, World.size_drew]; omega)) | refine bl3 (by assumption) ?_)); done) | (go_simp; done) | (refine bl3 (by assumption) ?_; go_simp; done)))
set_option maxHeartbeats 8000000 in
theorem BundleBack_in (bh : Bun) (count : Int) (u : B2) (w : World) (p1 : 0 ≤ bh.c) (p2 : bh.c ≤ 9223372036854775807) (hx : bcheck bh bh.c = 0) :
    Calls Try.prog 6 #[.agg #[.int .i64 bh.c, .bool bh.o, .bool bh.h, .int .i64 bh.d], .int .i64 count, .agg #[.bool u.a, .bool u.b]] w fun e w' => e = .returned (.bool true) ∧ Below w.heap.size w w' := by
  obtain ⟨x, y, hxy⟩ : ∃ x y, split bh count u.a u.b = (x, y) := ⟨_, _, rfl⟩
  have Hxy := hide hxy
  obtain ⟨j, hj⟩ : ∃ j, join y x = j := ⟨_, rfl⟩
  have hbk := back_plain p2 hx hxy
  have hfx := (split_facts p2 hx hxy).1
  have hfy := (split_facts p2 hx hxy).2.1
  rw [hj] at hbk
  obtain ⟨jc, jo, jr⟩ := hbk
  have Hj := hide hj
  have Hx := hide hfx
  have Hy := hide hfy
  clear hxy p2 hj hfx hfy
  obtain ⟨c', o', h', d'⟩ := j
  simp only at jc jo jr
  subst jc jo
  rcases jr with ⟨rfl, rfl⟩ | ⟨xh, yh, je, jn⟩
  all_goals have Hp := hide (show decide (bcheck bh bh.c = 0) = true from decide_eq_true hx)
  all_goals clear hx
  · go_enter Try.func6, Try.ntmps6
    go_wp2_with (first | (go_at_call 11; refine (awake_calls _).mono ?_; rintro e w1 ⟨rfl, hb_w1⟩; obtain ⟨hc_w1, hf_w1⟩ := bcell hb_w1; have z_w1 := hb_w1.size; (try simp only [World.size_alloc, World.size_setCell, World.size_drew] at z_w1); have z_w1_0 : w.heap.size < w1.heap.size := (by omega); have z_w1_1 : w.heap.size + 1 < w1.heap.size := (by omega)) | (go_at_call 14; ((with_reducible refine (rRight_calls bh _ _).mono ?_); rw [Hp.out]; rintro e w2 ⟨rfl, hb_w2⟩; obtain ⟨hc_w2, hf_w2⟩ := bcell hb_w2; have z_w2 := hb_w2.size; (try simp only [World.size_alloc, World.size_setCell, World.size_drew] at z_w2); have z_w2_0 : w.heap.size < w2.heap.size := (by omega); have z_w2_1 : w.heap.size + 1 < w2.heap.size := (by omega))) | (go_at_call 15; refine (Split_calls bh count u.a u.b p1 _).mono ?_; rw [Hxy.out]; rintro e w3 ⟨rfl, hb_w3⟩; obtain ⟨hc_w3, hf_w3⟩ := bcell hb_w3; have z_w3 := hb_w3.size; (try simp only [World.size_alloc, World.size_setCell, World.size_drew] at z_w3); have z_w3_0 : w.heap.size < w3.heap.size := (by omega); have z_w3_1 : w.heap.size + 1 < w3.heap.size := (by omega); have z3a : w.heap.size < w3.heap.size + 1 := (by omega); have z3b : w.heap.size < w3.heap.size + 1 + 1 := (by omega)) | (go_at_call 17; refine (Join_calls y x _).mono ?_; rw [Hj.out]; rintro e w4 ⟨rfl, hb_w4⟩; obtain ⟨hc_w4, hf_w4⟩ := bcell hb_w4; have z_w4 := hb_w4.size; (try simp only [World.size_alloc, World.size_setCell, World.size_drew] at z_w4); have z_w4_0 : w.heap.size < w4.heap.size := (by omega); have z_w4_1 : w.heap.size + 1 < w4.heap.size := (by omega); have z1 : w3.heap.size < w4.heap.size := (by omega); have z2 : w3.heap.size + 1 < w4.heap.size := (by omega); have z4a : w.heap.size < w4.heap.size + 1 := (by omega); have z4b : w3.heap.size < w4.heap.size + 1 := (by omega); have z4c : w3.heap.size + 1 < w4.heap.size + 1 := (by omega)) | (go_at_call 12; (first | ((with_reducible refine (bCheck_calls x bh.c _).mono ?_); rw [Hx.out]; rintro e w5 ⟨rfl, hb_w5⟩; obtain ⟨hc_w5, hf_w5⟩ := bcell hb_w5; have z_w5 := hb_w5.size; (try simp only [World.size_alloc, World.size_setCell, World.size_drew] at z_w5); have z_w5_0 : w.heap.size < w5.heap.size := (by omega); have z_w5_1 : w.heap.size + 1 < w5.heap.size := (by omega); have z51 : w3.heap.size < w5.heap.size := (by omega); have z52 : w3.heap.size + 1 < w5.heap.size := (by omega); have z53 : w4.heap.size < w5.heap.size := (by omega)) | ((with_reducible refine (bCheck_calls y bh.c _).mono ?_); rw [Hy.out]; rintro e w6 ⟨rfl, hb_w6⟩; obtain ⟨hc_w6, hf_w6⟩ := bcell hb_w6; have z_w6 := hb_w6.size; (try simp only [World.size_alloc, World.size_setCell, World.size_drew] at z_w6); have z_w6_0 : w.heap.size < w6.heap.size := (by omega); have z_w6_1 : w.heap.size + 1 < w6.heap.size := (by omega); have z61 : w3.heap.size < w6.heap.size := (by omega); have z62 : w3.heap.size + 1 < w6.heap.size := (by omega); have z63 : w4.heap.size < w6.heap.size := (by omega)))))
    go_ret
    (refine ⟨?_, ?_⟩; (first | rfl | (go_simp; done) | (simp; done)); (first | ((repeat' (with_reducible first | exact bl0 | apply bl4 | apply bl5 | apply bl1 | refine bl2 ?_ (by first | omega | (simp only [World.size_alloc, World.size_setCell, World.size_drew]; omega)) | refine bl3 (by assumption) ?_)); done) | (go_simp; done) | (refine bl3 (by assumption) ?_; go_simp; done)))
  · rw [Bun.mk.injEq] at je
    obtain ⟨-, jo, rfl, rfl⟩ := je
    obtain ⟨bc, bo, bs, bd⟩ := bh
    simp only at jo
    subst jo
    simp only at p1 jn xh yh
    obtain ⟨xc, xo, xs, xd⟩ := x
    obtain ⟨yc, yo, ys, yd⟩ := y
    simp only at xh yh
    subst xh yh
    cases bs
    · simp at jn
    clear jn
    go_enter Try.func6, Try.ntmps6
    go_wp2_with (first | (go_at_call 11; refine (awake_calls _).mono ?_; rintro e w1 ⟨rfl, hb_w1⟩; obtain ⟨hc_w1, hf_w1⟩ := bcell hb_w1; have z_w1 := hb_w1.size; (try simp only [World.size_alloc, World.size_setCell, World.size_drew] at z_w1); have z_w1_0 : w.heap.size < w1.heap.size := (by omega); have z_w1_1 : w.heap.size + 1 < w1.heap.size := (by omega)) | (go_at_call 14; ((with_reducible refine (rRight_calls ⟨bc, false, true, bd⟩ _ _).mono ?_); rw [Hp.out]; rintro e w2 ⟨rfl, hb_w2⟩; obtain ⟨hc_w2, hf_w2⟩ := bcell hb_w2; have z_w2 := hb_w2.size; (try simp only [World.size_alloc, World.size_setCell, World.size_drew] at z_w2); have z_w2_0 : w.heap.size < w2.heap.size := (by omega); have z_w2_1 : w.heap.size + 1 < w2.heap.size := (by omega))) | (go_at_call 15; refine (Split_calls ⟨bc, false, true, bd⟩ count u.a u.b p1 _).mono ?_; rw [Hxy.out]; rintro e w3 ⟨rfl, hb_w3⟩; obtain ⟨hc_w3, hf_w3⟩ := bcell hb_w3; have z_w3 := hb_w3.size; (try simp only [World.size_alloc, World.size_setCell, World.size_drew] at z_w3); have z_w3_0 : w.heap.size < w3.heap.size := (by omega); have z_w3_1 : w.heap.size + 1 < w3.heap.size := (by omega); have z3a : w.heap.size < w3.heap.size + 1 := (by omega); have z3b : w.heap.size < w3.heap.size + 1 + 1 := (by omega)) | (go_at_call 17; refine (Join_calls ⟨yc, yo, false, yd⟩ ⟨xc, xo, false, xd⟩ _).mono ?_; rw [Hj.out]; rintro e w4 ⟨rfl, hb_w4⟩; obtain ⟨hc_w4, hf_w4⟩ := bcell hb_w4; have z_w4 := hb_w4.size; (try simp only [World.size_alloc, World.size_setCell, World.size_drew] at z_w4); have z_w4_0 : w.heap.size < w4.heap.size := (by omega); have z_w4_1 : w.heap.size + 1 < w4.heap.size := (by omega); have z1 : w3.heap.size < w4.heap.size := (by omega); have z2 : w3.heap.size + 1 < w4.heap.size := (by omega); have z4a : w.heap.size < w4.heap.size + 1 := (by omega); have z4b : w3.heap.size < w4.heap.size + 1 := (by omega); have z4c : w3.heap.size + 1 < w4.heap.size + 1 := (by omega)) | (go_at_call 12; (first | ((with_reducible refine (bCheck_calls ⟨xc, xo, false, xd⟩ bc _).mono ?_); rw [Hx.out]; rintro e w5 ⟨rfl, hb_w5⟩; obtain ⟨hc_w5, hf_w5⟩ := bcell hb_w5; have z_w5 := hb_w5.size; (try simp only [World.size_alloc, World.size_setCell, World.size_drew] at z_w5); have z_w5_0 : w.heap.size < w5.heap.size := (by omega); have z_w5_1 : w.heap.size + 1 < w5.heap.size := (by omega); have z51 : w3.heap.size < w5.heap.size := (by omega); have z52 : w3.heap.size + 1 < w5.heap.size := (by omega); have z53 : w4.heap.size < w5.heap.size := (by omega)) | ((with_reducible refine (bCheck_calls ⟨yc, yo, false, yd⟩ bc _).mono ?_); rw [Hy.out]; rintro e w6 ⟨rfl, hb_w6⟩; obtain ⟨hc_w6, hf_w6⟩ := bcell hb_w6; have z_w6 := hb_w6.size; (try simp only [World.size_alloc, World.size_setCell, World.size_drew] at z_w6); have z_w6_0 : w.heap.size < w6.heap.size := (by omega); have z_w6_1 : w.heap.size + 1 < w6.heap.size := (by omega); have z61 : w3.heap.size < w6.heap.size := (by omega); have z62 : w3.heap.size + 1 < w6.heap.size := (by omega); have z63 : w4.heap.size < w6.heap.size := (by omega)))))
    go_ret
    (refine ⟨?_, ?_⟩; (first | rfl | (go_simp; done) | (simp; done)); (first | ((repeat' (with_reducible first | exact bl0 | apply bl4 | apply bl5 | apply bl1 | refine bl2 ?_ (by first | omega | (simp only [World.size_alloc, World.size_setCell, World.size_drew]; omega)) | refine bl3 (by assumption) ?_)); done) | (go_simp; done) | (refine bl3 (by assumption) ?_; go_simp; done)))
theorem BundleBack_walk (bh : Bun) (hb : okBun bh) (count : Int) (hc : okI count) (u : B2) (hu : okB2 u) (w : World) :
    Calls Try.prog 6 #[.agg #[.int .i64 bh.c, .bool bh.o, .bool bh.h, .int .i64 bh.d], .int .i64 count, .agg #[.bool u.a, .bool u.b]] w fun e w' => e = .returned (.bool true) ∧ Below w.heap.size w w' := by
  by_cases hx : bcheck bh (max bh.c 0) = 0
  · have h0 := right_nn hx
    rw [show max bh.c 0 = bh.c from by omega] at hx
    exact BundleBack_in bh count u w h0 hb.1.2 hx
  · exact BundleBack_out bh count u w hx
end Go.Proofs.Ytegcnbomndeinaa
