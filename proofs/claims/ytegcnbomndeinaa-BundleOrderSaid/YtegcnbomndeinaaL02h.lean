/- BundleOrder of layer 2: what it comes to. -/
import Derived.Test.YtegcnbomndeinaaL02a
import Derived.Test.YtegcnbomndeinaaP02
namespace Go.Proofs.Ytegcnbomndeinaa
open Go.RowKit
set_option linter.unusedVariables false
set_option linter.unusedSimpArgs false
/-- What BundleOrder wants of each of its tokens: not too many, such as may be, and with the value d, if with one. -/
def good (d : Int) (x : Bun) : Prop := x.c ≤ 1099511627776 ∧ bcheck x (max x.c 0) = 0 ∧ (x.h = true → x.d = d)
theorem good_facts {d : Int} {x : Bun} (h : good d x) : (0 ≤ x.c ∧ x.c ≤ 1099511627776) ∧ (x.h = true → x.d = d) ∧ (x.h = false → x.d = 0) := by
  have h0 := right_nn h.2.1
  obtain ⟨h1, h2, h3⟩ := h
  obtain ⟨c, o, hs, v⟩ := x
  rw [right_iff] at h2
  exact ⟨⟨h0, h1⟩, h3, h2.2.2.2⟩
theorem order_plain {a b c : Bun} (ha : good a.d a) (hb : good a.d b) (hc : good a.d c) :
    join b a = join a b ∧ join a (join b c) = join (join a b) c ∧ join a ⟨0, false, false, 0⟩ = a := by
  obtain ⟨⟨a1, a2⟩, -, a4⟩ := good_facts ha
  obtain ⟨⟨b1, b2⟩, b3, b4⟩ := good_facts hb
  obtain ⟨⟨c1, c2⟩, c3, c4⟩ := good_facts hc
  clear ha hb hc
  obtain ⟨ac, ao, ah, ad⟩ := a
  obtain ⟨bc, bo, bh, bd⟩ := b
  obtain ⟨cc, co, ch, cd⟩ := c
  simp only at a1 a2 a4 b1 b2 b3 b4 c1 c2 c3 c4
  have w1 : wrap64 (ac + bc) = ac + bc := by unfold wrap64; omega
  have w2 : wrap64 (bc + ac) = ac + bc := by unfold wrap64; omega
  have w3 : wrap64 (bc + cc) = bc + cc := by unfold wrap64; omega
  have w4 : wrap64 (ac + bc + cc) = ac + bc + cc := by unfold wrap64; omega
  have w5 : wrap64 (ac + (bc + cc)) = ac + bc + cc := by unfold wrap64; omega
  have w6 : wrap64 ac = ac := by unfold wrap64; omega
  simp only [join, valued, w1, w2, w3, w4, w5, w6, Bun.mk.injEq, Int.add_zero]
  cases ah <;> cases bh <;> cases ch <;> simp at a4 b3 b4 c3 c4 ⊢ <;> (refine ⟨?_, ?_⟩ <;> cases ao <;> cases bo <;> cases co <;> simp_all)
set_option maxHeartbeats 8000000 in
theorem BundleOrder_walk (a : Bun) (ha : okBun a) (b : Bun) (hb : okBun b) (c : Bun) (hc : okBun c) (w : World) :
    Calls Try.prog 8 #[.agg #[.int .i64 a.c, .bool a.o, .bool a.h, .int .i64 a.d], .agg #[.int .i64 b.c, .bool b.o, .bool b.h, .int .i64 b.d], .agg #[.int .i64 c.c, .bool c.o, .bool c.h, .int .i64 c.d]] w fun e w' => e = .returned (.bool true) ∧ Below w.heap.size w w' := by
  clear ha hb hc
  go_enter Try.func8, Try.ntmps8
  go_wp2
  go_loopw [14] (fun i wr => ∃ k : Nat, k ≤ 3 ∧ i = .int .i64 k ∧ (∀ (j : Nat) (x : Bun), j < k → [a, b, c][j]? = some x → good a.d x) ∧ C4 wr w.heap.size (.int .i64 a.c) (.bool a.o) (.bool a.h) (.int .i64 a.d) ∧ C4 wr (w.heap.size + 1) (.int .i64 b.c) (.bool b.o) (.bool b.h) (.int .i64 b.d) ∧ C4 wr (w.heap.size + 1 + 1) (.int .i64 c.c) (.bool c.o) (.bool c.h) (.int .i64 c.d) ∧ (∀ (j : Nat) (x : Bun), [a, b, c][j]? = some x → wr.cell? ⟨w.heap.size + 1 + 1 + 1, j * 4, none⟩ = some (.int .i64 x.c) ∧ wr.cell? ⟨w.heap.size + 1 + 1 + 1, j * 4 + 1, none⟩ = some (.bool x.o) ∧ wr.cell? ⟨w.heap.size + 1 + 1 + 1, j * 4 + 2, none⟩ = some (.bool x.h) ∧ wr.cell? ⟨w.heap.size + 1 + 1 + 1, j * 4 + 3, none⟩ = some (.int .i64 x.d)) ∧ Below w.heap.size w wr ∧ w.heap.size + 1 + 1 + 1 < wr.heap.size) (fun i _ => 3 - (intOf i).toNat)
  case atStart =>
    refine ⟨0, by omega, rfl, fun j x hj => absurd hj (Nat.not_lt_zero _), by unfold C4; go_simp, by unfold C4; go_simp, by unfold C4; go_simp, ?_, by (repeat' (with_reducible first | exact bl0 | apply bl4 | apply bl5 | apply bl1 | refine bl2 ?_ (by first | omega | (simp only [World.size_alloc, World.size_setCell, World.size_drew]; omega)) | refine bl3 (by assumption) ?_)), by first | omega | (simp; done) | (simp; omega)⟩
    intro j x hx
    match j, hx with
    | 0, hx => simp at hx; subst hx; go_simp
    | 1, hx => simp at hx; subst hx; go_simp
    | 2, hx => simp at hx; subst hx; go_simp
    | j + 3, hx => simp at hx
  case round =>
    obtain ⟨k, hk, rfl, hg, ⟨⟨x0, x1, x2, x3⟩, f0, f1, f2, f3⟩, ⟨⟨y0, y1, y2, y3⟩, g0, g1, g2, g3⟩, ⟨⟨u0, u1, u2, u3⟩, k0, k1, k2, k3⟩, hs, hbr, hzr⟩ := hrel
    have Hg := hide hg
    have Hs := hide hs
    clear hg
    have t0 : w.heap.size < wr.heap.size := by omega
    have t1 : w.heap.size + 1 < wr.heap.size := by omega
    have t2 : w.heap.size + 1 + 1 < wr.heap.size := by omega
    by_cases hlt : k < 3
    · obtain ⟨x, hx⟩ : ∃ x, [a, b, c][k]? = some x := ⟨_, List.getElem?_eq_getElem (by simpa using hlt)⟩
      obtain ⟨s0, s1, s2, s3⟩ := hs k x hx
      have Hx := hide hx
      clear hs hx
      obtain ⟨xc, xo, xs, xd⟩ := x
      simp only at s0 s1 s2 s3
      by_cases q1 : 1099511627776 < xc
      · go_wp2_with (go_at_call 11; refine (awake_calls _).mono ?_; rintro e w1 ⟨rfl, hb_w1⟩; obtain ⟨hc_w1, hf_w1⟩ := bcell hb_w1; have z_w1 := hb_w1.size; (try simp only [World.size_alloc, World.size_setCell, World.size_drew, World.heap_drewN] at z_w1); have zz_w1_w_0_0 : w.heap.size < w1.heap.size := (by omega); have zz_w1_w_0_1 : w.heap.size < w1.heap.size + 1 := (by omega); have zz_w1_w_0_2 : w.heap.size < w1.heap.size + 1 + 1 := (by omega); have zz_w1_w_0_3 : w.heap.size < w1.heap.size + 1 + 1 + 1 := (by omega); have zz_w1_w_1_0 : w.heap.size + 1 < w1.heap.size := (by omega); have zz_w1_w_1_1 : w.heap.size + 1 < w1.heap.size + 1 := (by omega); have zz_w1_w_1_2 : w.heap.size + 1 < w1.heap.size + 1 + 1 := (by omega); have zz_w1_w_1_3 : w.heap.size + 1 < w1.heap.size + 1 + 1 + 1 := (by omega); have zz_w1_w_2_0 : w.heap.size + 1 + 1 < w1.heap.size := (by omega); have zz_w1_w_2_1 : w.heap.size + 1 + 1 < w1.heap.size + 1 := (by omega); have zz_w1_w_2_2 : w.heap.size + 1 + 1 < w1.heap.size + 1 + 1 := (by omega); have zz_w1_w_2_3 : w.heap.size + 1 + 1 < w1.heap.size + 1 + 1 + 1 := (by omega); have zz_w1_wr_0_0 : wr.heap.size < w1.heap.size := (by omega); have zz_w1_wr_0_1 : wr.heap.size < w1.heap.size + 1 := (by omega); have zz_w1_wr_0_2 : wr.heap.size < w1.heap.size + 1 + 1 := (by omega); have zz_w1_wr_0_3 : wr.heap.size < w1.heap.size + 1 + 1 + 1 := (by omega))
        go_ret
        (refine ⟨?_, ?_⟩; (first | rfl | (go_simp; done) | (simp; done)); (first | ((repeat' (with_reducible first | exact bl0 | apply bl4 | apply bl5 | apply bl1 | refine bl2 ?_ (by first | omega | (simp only [World.size_alloc, World.size_setCell, World.size_drew]; omega)) | refine bl3 (by assumption) ?_)); done) | (go_simp; done) | (refine bl3 (by assumption) ?_; go_simp; done)))
      · obtain ⟨r, hr⟩ : ∃ r, decide (bcheck ⟨xc, xo, xs, xd⟩ (max xc 0) = 0) = r := ⟨_, rfl⟩
        rcases (show (xc < 0 ∧ max xc 0 = 0) ∨ (0 ≤ xc ∧ max xc 0 = xc) from by omega) with ⟨q2, q3⟩ | ⟨q2, q3⟩
        all_goals
          rw [q3] at hr
          have Hr := hide hr
          have Q3 := hide q3
          clear hr q3
          cases r
          · go_wp2_with (first | (go_at_call 11; refine (awake_calls _).mono ?_; rintro e w1 ⟨rfl, hb_w1⟩; obtain ⟨hc_w1, hf_w1⟩ := bcell hb_w1; have z_w1 := hb_w1.size; (try simp only [World.size_alloc, World.size_setCell, World.size_drew, World.heap_drewN] at z_w1); have zz_w1_w_0_0 : w.heap.size < w1.heap.size := (by omega); have zz_w1_w_0_1 : w.heap.size < w1.heap.size + 1 := (by omega); have zz_w1_w_0_2 : w.heap.size < w1.heap.size + 1 + 1 := (by omega); have zz_w1_w_0_3 : w.heap.size < w1.heap.size + 1 + 1 + 1 := (by omega); have zz_w1_w_1_0 : w.heap.size + 1 < w1.heap.size := (by omega); have zz_w1_w_1_1 : w.heap.size + 1 < w1.heap.size + 1 := (by omega); have zz_w1_w_1_2 : w.heap.size + 1 < w1.heap.size + 1 + 1 := (by omega); have zz_w1_w_1_3 : w.heap.size + 1 < w1.heap.size + 1 + 1 + 1 := (by omega); have zz_w1_w_2_0 : w.heap.size + 1 + 1 < w1.heap.size := (by omega); have zz_w1_w_2_1 : w.heap.size + 1 + 1 < w1.heap.size + 1 := (by omega); have zz_w1_w_2_2 : w.heap.size + 1 + 1 < w1.heap.size + 1 + 1 := (by omega); have zz_w1_w_2_3 : w.heap.size + 1 + 1 < w1.heap.size + 1 + 1 + 1 := (by omega); have zz_w1_wr_0_0 : wr.heap.size < w1.heap.size := (by omega); have zz_w1_wr_0_1 : wr.heap.size < w1.heap.size + 1 := (by omega); have zz_w1_wr_0_2 : wr.heap.size < w1.heap.size + 1 + 1 := (by omega); have zz_w1_wr_0_3 : wr.heap.size < w1.heap.size + 1 + 1 + 1 := (by omega)) | (go_at_call 14; ((with_reducible refine (rRight_calls ⟨xc, xo, xs, xd⟩ _ _).mono ?_); rw [Hr.out]; rintro e w2 ⟨rfl, hb_w2⟩; obtain ⟨hc_w2, hf_w2⟩ := bcell hb_w2; have z_w2 := hb_w2.size; (try simp only [World.size_alloc, World.size_setCell, World.size_drew, World.heap_drewN] at z_w2); have zz_w2_w_0_0 : w.heap.size < w2.heap.size := (by omega); have zz_w2_w_0_1 : w.heap.size < w2.heap.size + 1 := (by omega); have zz_w2_w_0_2 : w.heap.size < w2.heap.size + 1 + 1 := (by omega); have zz_w2_w_0_3 : w.heap.size < w2.heap.size + 1 + 1 + 1 := (by omega); have zz_w2_w_1_0 : w.heap.size + 1 < w2.heap.size := (by omega); have zz_w2_w_1_1 : w.heap.size + 1 < w2.heap.size + 1 := (by omega); have zz_w2_w_1_2 : w.heap.size + 1 < w2.heap.size + 1 + 1 := (by omega); have zz_w2_w_1_3 : w.heap.size + 1 < w2.heap.size + 1 + 1 + 1 := (by omega); have zz_w2_w_2_0 : w.heap.size + 1 + 1 < w2.heap.size := (by omega); have zz_w2_w_2_1 : w.heap.size + 1 + 1 < w2.heap.size + 1 := (by omega); have zz_w2_w_2_2 : w.heap.size + 1 + 1 < w2.heap.size + 1 + 1 := (by omega); have zz_w2_w_2_3 : w.heap.size + 1 + 1 < w2.heap.size + 1 + 1 + 1 := (by omega); have zz_w2_wr_0_0 : wr.heap.size < w2.heap.size := (by omega); have zz_w2_wr_0_1 : wr.heap.size < w2.heap.size + 1 := (by omega); have zz_w2_wr_0_2 : wr.heap.size < w2.heap.size + 1 + 1 := (by omega); have zz_w2_wr_0_3 : wr.heap.size < w2.heap.size + 1 + 1 + 1 := (by omega))))
            go_ret
            (refine ⟨?_, ?_⟩; (first | rfl | (go_simp; done) | (simp; done)); (first | ((repeat' (with_reducible first | exact bl0 | apply bl4 | apply bl5 | apply bl1 | refine bl2 ?_ (by first | omega | (simp only [World.size_alloc, World.size_setCell, World.size_drew]; omega)) | refine bl3 (by assumption) ?_)); done) | (go_simp; done) | (refine bl3 (by assumption) ?_; go_simp; done)))
          · cases xs
            · go_wp2_with (first | (go_at_call 11; refine (awake_calls _).mono ?_; rintro e w1 ⟨rfl, hb_w1⟩; obtain ⟨hc_w1, hf_w1⟩ := bcell hb_w1; have z_w1 := hb_w1.size; (try simp only [World.size_alloc, World.size_setCell, World.size_drew, World.heap_drewN] at z_w1); have zz_w1_w_0_0 : w.heap.size < w1.heap.size := (by omega); have zz_w1_w_0_1 : w.heap.size < w1.heap.size + 1 := (by omega); have zz_w1_w_0_2 : w.heap.size < w1.heap.size + 1 + 1 := (by omega); have zz_w1_w_0_3 : w.heap.size < w1.heap.size + 1 + 1 + 1 := (by omega); have zz_w1_w_1_0 : w.heap.size + 1 < w1.heap.size := (by omega); have zz_w1_w_1_1 : w.heap.size + 1 < w1.heap.size + 1 := (by omega); have zz_w1_w_1_2 : w.heap.size + 1 < w1.heap.size + 1 + 1 := (by omega); have zz_w1_w_1_3 : w.heap.size + 1 < w1.heap.size + 1 + 1 + 1 := (by omega); have zz_w1_w_2_0 : w.heap.size + 1 + 1 < w1.heap.size := (by omega); have zz_w1_w_2_1 : w.heap.size + 1 + 1 < w1.heap.size + 1 := (by omega); have zz_w1_w_2_2 : w.heap.size + 1 + 1 < w1.heap.size + 1 + 1 := (by omega); have zz_w1_w_2_3 : w.heap.size + 1 + 1 < w1.heap.size + 1 + 1 + 1 := (by omega); have zz_w1_wr_0_0 : wr.heap.size < w1.heap.size := (by omega); have zz_w1_wr_0_1 : wr.heap.size < w1.heap.size + 1 := (by omega); have zz_w1_wr_0_2 : wr.heap.size < w1.heap.size + 1 + 1 := (by omega); have zz_w1_wr_0_3 : wr.heap.size < w1.heap.size + 1 + 1 + 1 := (by omega)) | (go_at_call 14; ((with_reducible refine (rRight_calls ⟨xc, xo, _, xd⟩ _ _).mono ?_); rw [Hr.out]; rintro e w2 ⟨rfl, hb_w2⟩; obtain ⟨hc_w2, hf_w2⟩ := bcell hb_w2; have z_w2 := hb_w2.size; (try simp only [World.size_alloc, World.size_setCell, World.size_drew, World.heap_drewN] at z_w2); have zz_w2_w_0_0 : w.heap.size < w2.heap.size := (by omega); have zz_w2_w_0_1 : w.heap.size < w2.heap.size + 1 := (by omega); have zz_w2_w_0_2 : w.heap.size < w2.heap.size + 1 + 1 := (by omega); have zz_w2_w_0_3 : w.heap.size < w2.heap.size + 1 + 1 + 1 := (by omega); have zz_w2_w_1_0 : w.heap.size + 1 < w2.heap.size := (by omega); have zz_w2_w_1_1 : w.heap.size + 1 < w2.heap.size + 1 := (by omega); have zz_w2_w_1_2 : w.heap.size + 1 < w2.heap.size + 1 + 1 := (by omega); have zz_w2_w_1_3 : w.heap.size + 1 < w2.heap.size + 1 + 1 + 1 := (by omega); have zz_w2_w_2_0 : w.heap.size + 1 + 1 < w2.heap.size := (by omega); have zz_w2_w_2_1 : w.heap.size + 1 + 1 < w2.heap.size + 1 := (by omega); have zz_w2_w_2_2 : w.heap.size + 1 + 1 < w2.heap.size + 1 + 1 := (by omega); have zz_w2_w_2_3 : w.heap.size + 1 + 1 < w2.heap.size + 1 + 1 + 1 := (by omega); have zz_w2_wr_0_0 : wr.heap.size < w2.heap.size := (by omega); have zz_w2_wr_0_1 : wr.heap.size < w2.heap.size + 1 := (by omega); have zz_w2_wr_0_2 : wr.heap.size < w2.heap.size + 1 + 1 := (by omega); have zz_w2_wr_0_3 : wr.heap.size < w2.heap.size + 1 + 1 + 1 := (by omega))))
              go_roundw
              case rel =>
                refine ⟨k + 1, by omega, by go_num, ?_, by unfold C4; go_simp, by unfold C4; go_simp, by unfold C4; go_simp, ?_, by (repeat' (with_reducible first | exact bl0 | apply bl4 | apply bl5 | apply bl1 | refine bl2 ?_ (by first | omega | (simp only [World.size_alloc, World.size_setCell, World.size_drew]; omega)) | refine bl3 (by assumption) ?_)), by first | omega | (simp; done) | (simp; omega)⟩
                · intro j x hj hx
                  rcases Nat.lt_or_ge j k with hj' | hj'
                  · exact Hg.out j x hj' hx
                  · have : j = k := by omega
                    subst this
                    have := hx.symm.trans Hx.out
                    cases this
                    exact ⟨by simp only; omega, by rw [Q3.out]; exact of_decide_eq_true Hr.out, fun q => by cases q⟩
                · intro j x hx
                  obtain ⟨s0, s1, s2, s3⟩ := Hs.out j x hx
                  refine ⟨?_, ?_, ?_, ?_⟩ <;> go_simp
              case measure => simp [intOf]; omega
            · by_cases q4 : xd = a.d
              · have q5 : (xd == a.d) = true := by simpa using q4
                have Q4 := hide q4
                clear q4
                go_wp2_with (first | (go_at_call 11; refine (awake_calls _).mono ?_; rintro e w1 ⟨rfl, hb_w1⟩; obtain ⟨hc_w1, hf_w1⟩ := bcell hb_w1; have z_w1 := hb_w1.size; (try simp only [World.size_alloc, World.size_setCell, World.size_drew, World.heap_drewN] at z_w1); have zz_w1_w_0_0 : w.heap.size < w1.heap.size := (by omega); have zz_w1_w_0_1 : w.heap.size < w1.heap.size + 1 := (by omega); have zz_w1_w_0_2 : w.heap.size < w1.heap.size + 1 + 1 := (by omega); have zz_w1_w_0_3 : w.heap.size < w1.heap.size + 1 + 1 + 1 := (by omega); have zz_w1_w_1_0 : w.heap.size + 1 < w1.heap.size := (by omega); have zz_w1_w_1_1 : w.heap.size + 1 < w1.heap.size + 1 := (by omega); have zz_w1_w_1_2 : w.heap.size + 1 < w1.heap.size + 1 + 1 := (by omega); have zz_w1_w_1_3 : w.heap.size + 1 < w1.heap.size + 1 + 1 + 1 := (by omega); have zz_w1_w_2_0 : w.heap.size + 1 + 1 < w1.heap.size := (by omega); have zz_w1_w_2_1 : w.heap.size + 1 + 1 < w1.heap.size + 1 := (by omega); have zz_w1_w_2_2 : w.heap.size + 1 + 1 < w1.heap.size + 1 + 1 := (by omega); have zz_w1_w_2_3 : w.heap.size + 1 + 1 < w1.heap.size + 1 + 1 + 1 := (by omega); have zz_w1_wr_0_0 : wr.heap.size < w1.heap.size := (by omega); have zz_w1_wr_0_1 : wr.heap.size < w1.heap.size + 1 := (by omega); have zz_w1_wr_0_2 : wr.heap.size < w1.heap.size + 1 + 1 := (by omega); have zz_w1_wr_0_3 : wr.heap.size < w1.heap.size + 1 + 1 + 1 := (by omega)) | (go_at_call 14; ((with_reducible refine (rRight_calls ⟨xc, xo, _, xd⟩ _ _).mono ?_); rw [Hr.out]; rintro e w2 ⟨rfl, hb_w2⟩; obtain ⟨hc_w2, hf_w2⟩ := bcell hb_w2; have z_w2 := hb_w2.size; (try simp only [World.size_alloc, World.size_setCell, World.size_drew, World.heap_drewN] at z_w2); have zz_w2_w_0_0 : w.heap.size < w2.heap.size := (by omega); have zz_w2_w_0_1 : w.heap.size < w2.heap.size + 1 := (by omega); have zz_w2_w_0_2 : w.heap.size < w2.heap.size + 1 + 1 := (by omega); have zz_w2_w_0_3 : w.heap.size < w2.heap.size + 1 + 1 + 1 := (by omega); have zz_w2_w_1_0 : w.heap.size + 1 < w2.heap.size := (by omega); have zz_w2_w_1_1 : w.heap.size + 1 < w2.heap.size + 1 := (by omega); have zz_w2_w_1_2 : w.heap.size + 1 < w2.heap.size + 1 + 1 := (by omega); have zz_w2_w_1_3 : w.heap.size + 1 < w2.heap.size + 1 + 1 + 1 := (by omega); have zz_w2_w_2_0 : w.heap.size + 1 + 1 < w2.heap.size := (by omega); have zz_w2_w_2_1 : w.heap.size + 1 + 1 < w2.heap.size + 1 := (by omega); have zz_w2_w_2_2 : w.heap.size + 1 + 1 < w2.heap.size + 1 + 1 := (by omega); have zz_w2_w_2_3 : w.heap.size + 1 + 1 < w2.heap.size + 1 + 1 + 1 := (by omega); have zz_w2_wr_0_0 : wr.heap.size < w2.heap.size := (by omega); have zz_w2_wr_0_1 : wr.heap.size < w2.heap.size + 1 := (by omega); have zz_w2_wr_0_2 : wr.heap.size < w2.heap.size + 1 + 1 := (by omega); have zz_w2_wr_0_3 : wr.heap.size < w2.heap.size + 1 + 1 + 1 := (by omega))))
                go_roundw
                case rel =>
                  refine ⟨k + 1, by omega, by go_num, ?_, by unfold C4; go_simp, by unfold C4; go_simp, by unfold C4; go_simp, ?_, by (repeat' (with_reducible first | exact bl0 | apply bl4 | apply bl5 | apply bl1 | refine bl2 ?_ (by first | omega | (simp only [World.size_alloc, World.size_setCell, World.size_drew]; omega)) | refine bl3 (by assumption) ?_)), by first | omega | (simp; done) | (simp; omega)⟩
                  · intro j x hj hx
                    rcases Nat.lt_or_ge j k with hj' | hj'
                    · exact Hg.out j x hj' hx
                    · have : j = k := by omega
                      subst this
                      have := hx.symm.trans Hx.out
                      cases this
                      exact ⟨by simp only; omega, by rw [Q3.out]; exact of_decide_eq_true Hr.out, fun _ => Q4.out⟩
                  · intro j x hx
                    obtain ⟨s0, s1, s2, s3⟩ := Hs.out j x hx
                    refine ⟨?_, ?_, ?_, ?_⟩ <;> go_simp
                case measure => simp [intOf]; omega
              · have q5 : (xd == a.d) = false := by simpa using q4
                have q6 : (xd != a.d) = true := by simpa using q4
                go_wp2_with (first | (go_at_call 11; refine (awake_calls _).mono ?_; rintro e w1 ⟨rfl, hb_w1⟩; obtain ⟨hc_w1, hf_w1⟩ := bcell hb_w1; have z_w1 := hb_w1.size; (try simp only [World.size_alloc, World.size_setCell, World.size_drew, World.heap_drewN] at z_w1); have zz_w1_w_0_0 : w.heap.size < w1.heap.size := (by omega); have zz_w1_w_0_1 : w.heap.size < w1.heap.size + 1 := (by omega); have zz_w1_w_0_2 : w.heap.size < w1.heap.size + 1 + 1 := (by omega); have zz_w1_w_0_3 : w.heap.size < w1.heap.size + 1 + 1 + 1 := (by omega); have zz_w1_w_1_0 : w.heap.size + 1 < w1.heap.size := (by omega); have zz_w1_w_1_1 : w.heap.size + 1 < w1.heap.size + 1 := (by omega); have zz_w1_w_1_2 : w.heap.size + 1 < w1.heap.size + 1 + 1 := (by omega); have zz_w1_w_1_3 : w.heap.size + 1 < w1.heap.size + 1 + 1 + 1 := (by omega); have zz_w1_w_2_0 : w.heap.size + 1 + 1 < w1.heap.size := (by omega); have zz_w1_w_2_1 : w.heap.size + 1 + 1 < w1.heap.size + 1 := (by omega); have zz_w1_w_2_2 : w.heap.size + 1 + 1 < w1.heap.size + 1 + 1 := (by omega); have zz_w1_w_2_3 : w.heap.size + 1 + 1 < w1.heap.size + 1 + 1 + 1 := (by omega); have zz_w1_wr_0_0 : wr.heap.size < w1.heap.size := (by omega); have zz_w1_wr_0_1 : wr.heap.size < w1.heap.size + 1 := (by omega); have zz_w1_wr_0_2 : wr.heap.size < w1.heap.size + 1 + 1 := (by omega); have zz_w1_wr_0_3 : wr.heap.size < w1.heap.size + 1 + 1 + 1 := (by omega)) | (go_at_call 14; ((with_reducible refine (rRight_calls ⟨xc, xo, _, xd⟩ _ _).mono ?_); rw [Hr.out]; rintro e w2 ⟨rfl, hb_w2⟩; obtain ⟨hc_w2, hf_w2⟩ := bcell hb_w2; have z_w2 := hb_w2.size; (try simp only [World.size_alloc, World.size_setCell, World.size_drew, World.heap_drewN] at z_w2); have zz_w2_w_0_0 : w.heap.size < w2.heap.size := (by omega); have zz_w2_w_0_1 : w.heap.size < w2.heap.size + 1 := (by omega); have zz_w2_w_0_2 : w.heap.size < w2.heap.size + 1 + 1 := (by omega); have zz_w2_w_0_3 : w.heap.size < w2.heap.size + 1 + 1 + 1 := (by omega); have zz_w2_w_1_0 : w.heap.size + 1 < w2.heap.size := (by omega); have zz_w2_w_1_1 : w.heap.size + 1 < w2.heap.size + 1 := (by omega); have zz_w2_w_1_2 : w.heap.size + 1 < w2.heap.size + 1 + 1 := (by omega); have zz_w2_w_1_3 : w.heap.size + 1 < w2.heap.size + 1 + 1 + 1 := (by omega); have zz_w2_w_2_0 : w.heap.size + 1 + 1 < w2.heap.size := (by omega); have zz_w2_w_2_1 : w.heap.size + 1 + 1 < w2.heap.size + 1 := (by omega); have zz_w2_w_2_2 : w.heap.size + 1 + 1 < w2.heap.size + 1 + 1 := (by omega); have zz_w2_w_2_3 : w.heap.size + 1 + 1 < w2.heap.size + 1 + 1 + 1 := (by omega); have zz_w2_wr_0_0 : wr.heap.size < w2.heap.size := (by omega); have zz_w2_wr_0_1 : wr.heap.size < w2.heap.size + 1 := (by omega); have zz_w2_wr_0_2 : wr.heap.size < w2.heap.size + 1 + 1 := (by omega); have zz_w2_wr_0_3 : wr.heap.size < w2.heap.size + 1 + 1 + 1 := (by omega))))
                go_ret
                (refine ⟨?_, ?_⟩; (first | rfl | (go_simp; done) | (simp; done)); (first | ((repeat' (with_reducible first | exact bl0 | apply bl4 | apply bl5 | apply bl1 | refine bl2 ?_ (by first | omega | (simp only [World.size_alloc, World.size_setCell, World.size_drew]; omega)) | refine bl3 (by assumption) ?_)); done) | (go_simp; done) | (refine bl3 (by assumption) ?_; go_simp; done)))
    · have e : k = 3 := by omega
      subst e
      obtain ⟨j1, j2, j3⟩ := order_plain (Hg.out 0 a (by omega) rfl) (Hg.out 1 b (by omega) rfl) (Hg.out 2 c (by omega) rfl)
      obtain ⟨p, hp⟩ : ∃ p, join a b = p := ⟨_, rfl⟩
      obtain ⟨r, hr⟩ : ∃ r, join b c = r := ⟨_, rfl⟩
      obtain ⟨q, hq⟩ : ∃ q, join p c = q := ⟨_, rfl⟩
      rw [hp] at j1 j2
      rw [hr, hq] at j2
      have J1 := hide j1
      have J2 := hide j2
      have J3 := hide j3
      have Jp := hide hp
      have Jr := hide hr
      have Jq := hide hq
      clear j1 j2 j3 hp hr hq hs
      go_upto_region 7 with fail
      refine wp_region_free_all mixed (fun x => ((x.cell? ⟨w.heap.size, 0, none⟩ = some (.int .i64 a.c) ∧ x.cell? ⟨w.heap.size, 1, none⟩ = some (.bool a.o) ∧ x.cell? ⟨w.heap.size, 2, none⟩ = some (.bool a.h) ∧ x.cell? ⟨w.heap.size, 3, none⟩ = some (.int .i64 a.d)) ∧ (x.cell? ⟨w.heap.size + 1, 0, none⟩ = some (.int .i64 b.c) ∧ x.cell? ⟨w.heap.size + 1, 1, none⟩ = some (.bool b.o) ∧ x.cell? ⟨w.heap.size + 1, 2, none⟩ = some (.bool b.h) ∧ x.cell? ⟨w.heap.size + 1, 3, none⟩ = some (.int .i64 b.d)) ∧ (x.cell? ⟨w.heap.size + 1 + 1, 0, none⟩ = some (.int .i64 c.c) ∧ x.cell? ⟨w.heap.size + 1 + 1, 1, none⟩ = some (.bool c.o) ∧ x.cell? ⟨w.heap.size + 1 + 1, 2, none⟩ = some (.bool c.h) ∧ x.cell? ⟨w.heap.size + 1 + 1, 3, none⟩ = some (.int .i64 c.d))) ∧ Below w.heap.size w x ∧ w.heap.size < x.heap.size ∧ w.heap.size + 1 < x.heap.size ∧ w.heap.size + 1 + 1 < x.heap.size) (by kernel_rfl) ?_ ?_
      · refine ⟨⟨⟨?_, ?_, ?_, ?_⟩, ⟨?_, ?_, ?_, ?_⟩, ⟨?_, ?_, ?_, ?_⟩⟩, ?_, ?_, ?_, ?_⟩ <;> first | omega | (first | (go_simp; done) | ((repeat' (with_reducible first | exact bl0 | apply bl4 | apply bl5 | apply bl1 | refine bl2 ?_ (by first | omega | (simp only [World.size_alloc, World.size_setCell, World.size_drew]; omega)) | refine bl3 (by assumption) ?_)); done) | (refine bl3 (by assumption) ?_; (go_simp; done)) | (simp only [World.size_alloc, World.size_drew] at *; omega))
      repeat (apply Free.next; (case h => (intro w' hS; unfold Does; (try go_simp); first | exact ⟨rfl, hS⟩ | exact rfl | (simp only [Give_enter]; obtain ⟨c_S, b_S, z_S⟩ := hS; (first | (go_at_call 11; (with_reducible refine (awake_calls _).mono ?_)) | (go_at_call 17; first | ((with_reducible refine (Join_calls a b _).mono ?_); rw [Jp.out]) | ((with_reducible refine (Join_calls b a _).mono ?_); rw [J1.out]) | ((with_reducible refine (Join_calls p c _).mono ?_); rw [Jq.out]) | ((with_reducible refine (Join_calls b c _).mono ?_); rw [Jr.out]) | ((with_reducible refine (Join_calls a r _).mono ?_); rw [J2.out]) | ((with_reducible refine (Join_calls a ⟨0, false, false, 0⟩ _).mono ?_); rw [J3.out]))); rintro e w1 ⟨rfl, hb_1⟩; obtain ⟨hc_1, hf_1⟩ := bcell hb_1; have z_1 := hb_1.size; refine ⟨_, rfl, rfl, ⟨⟨?_, ?_, ?_, ?_⟩, ⟨?_, ?_, ?_, ?_⟩, ⟨?_, ?_, ?_, ?_⟩⟩, ?_, ?_, ?_, ?_⟩ <;> first | omega | (first | (go_simp; done) | ((repeat' (with_reducible first | exact bl0 | apply bl4 | apply bl5 | apply bl1 | refine bl2 ?_ (by first | omega | (simp only [World.size_alloc, World.size_setCell, World.size_drew]; omega)) | refine bl3 (by assumption) ?_)); done) | (refine bl3 (by assumption) ?_; (go_simp; done)) | (simp only [World.size_alloc, World.size_drew] at *; omega))))); case he => (simp only [Act.put, List.setIfInBounds_toArray, List.set_cons_succ, List.set_cons_zero]; exact rfl))
      apply Free.nil
      intro wf hS
      apply wpList_nil
      obtain ⟨cb, bel, s1, s2, s3⟩ := hS
      clear cb
      go_wp2
      go_ret
      (refine ⟨?_, ?_⟩; (first | rfl | (go_simp; done) | (simp; done)); (first | ((repeat' (with_reducible first | exact bl0 | apply bl4 | apply bl5 | apply bl1 | refine bl2 ?_ (by first | omega | (simp only [World.size_alloc, World.size_setCell, World.size_drew]; omega)) | refine bl3 (by assumption) ?_)); done) | (go_simp; done) | (refine bl3 (by assumption) ?_; go_simp; done)))
end Go.Proofs.Ytegcnbomndeinaa
