/- BundleAll of layer 2: what it comes to. -/
import Derived.Test.YtegcnbomndeinaaL02a
import Derived.Test.YtegcnbomndeinaaP02
import Derived.Test.YtegcnbomndeinaaC02r
import Derived.Test.YtegcnbomndeinaaC02j
namespace Go.Proofs.Ytegcnbomndeinaa
open Go.RowKit
set_option linter.unusedVariables false
set_option linter.unusedSimpArgs false
theorem all_plain {b : Bun} (h1 : b.c ≤ 9223372036854775807) (hr : bcheck b b.c = 0) {n : Int} (hn : b.c ≤ n) : split b n true true = (b, bun0) := by
  rw [← rsplit_split h1 hr]
  obtain ⟨c, o, hs, d⟩ := b
  rw [right_iff] at hr
  obtain ⟨⟨h0, -⟩, hz, ho, hd⟩ := hr
  simp only at h1 hn
  unfold rsplit rsplitN
  have e : (if c < (if n < 0 then 0 else n) then c else (if n < 0 then 0 else n)) = c := by split <;> split <;> omega
  simp only [e]
  by_cases hc : c = 0
  · subst hc
    obtain ⟨rfl, rfl⟩ := hz rfl
    have := hd rfl
    subst this
    rfl
  · have : 0 < c := by omega
    cases o
    · simp [this, show ¬ c ≤ 0 from by omega, hc]
      cases hs
      · simp [hd rfl]
      · simp
    · have := ho rfl
      subst this
      simp [this, show ¬ c ≤ 0 from by omega, show 0 < c from by omega, hc]
theorem none_plain {b : Bun} (h1 : b.c ≤ 9223372036854775807) (hr : bcheck b b.c = 0) {n : Int} (hn : n ≤ 0) : split b n true true = (bun0, b) := by
  rw [← rsplit_split h1 hr]
  obtain ⟨c, o, hs, d⟩ := b
  rw [right_iff] at hr
  obtain ⟨⟨h0, -⟩, hz, ho, hd⟩ := hr
  simp only at h1
  unfold rsplit rsplitN
  have e : (if c < (if n < 0 then 0 else n) then c else (if n < 0 then 0 else n)) = 0 := by split <;> split <;> omega
  simp only [e]
  by_cases hc : c = 0
  · simp [hc]
  · cases o <;> simp [Ne.symm hc]
set_option maxHeartbeats 4000000 in
theorem BundleAll_out (bh : Bun) (more : Int) (w : World) (hx : ¬ bcheck bh (max bh.c 0) = 0) :
    Calls Try.prog 9 #[.agg #[.int .i64 bh.c, .bool bh.o, .bool bh.h, .int .i64 bh.d], .int .i64 more] w fun e w' => e = .returned (.bool true) ∧ Below w.heap.size w w' := by
  have hmb : (bh.c < 0 ∧ max bh.c 0 = 0) ∨ (0 ≤ bh.c ∧ max bh.c 0 = bh.c) := by omega
  rcases hmb with ⟨sb, eb⟩ | ⟨sb, eb⟩
  all_goals
    rw [eb] at hx
    have Hp := hide (show decide (bcheck bh _ = 0) = false from decide_eq_false hx)
    clear eb hx
    go_enter Try.func9, Try.ntmps9
    go_wp2_with (first | (go_at_call 11; refine (awake_calls _).mono ?_; rintro e w1 ⟨rfl, hb_w1⟩; obtain ⟨hc_w1, hf_w1⟩ := bcell hb_w1; have z_w1 := hb_w1.size; (try simp only [World.size_alloc, World.size_setCell, World.size_drew] at z_w1); have z_w1_0 : w.heap.size < w1.heap.size := (by omega)) | (go_at_call 14; ((with_reducible refine (rRight_calls bh _ _).mono ?_); rw [Hp.out]; rintro e w2 ⟨rfl, hb_w2⟩; obtain ⟨hc_w2, hf_w2⟩ := bcell hb_w2; have z_w2 := hb_w2.size; (try simp only [World.size_alloc, World.size_setCell, World.size_drew] at z_w2); have z_w2_0 : w.heap.size < w2.heap.size := (by omega))))
    go_ret
    (refine ⟨?_, ?_⟩; (first | rfl | (go_simp; done) | (simp; done)); (first | ((repeat' (with_reducible first | exact bl0 | apply bl4 | apply bl5 | apply bl1 | refine bl2 ?_ (by first | omega | (simp only [World.size_alloc, World.size_setCell, World.size_drew]; omega)) | refine bl3 (by assumption) ?_)); done) | (go_simp; done) | (refine bl3 (by assumption) ?_; go_simp; done)))
set_option maxHeartbeats 8000000 in
theorem BundleAll_in (bh : Bun) (more : Int) (w : World) (p1 : 0 ≤ bh.c) (p2 : bh.c ≤ 9223372036854775807) (hx : bcheck bh bh.c = 0) :
    Calls Try.prog 9 #[.agg #[.int .i64 bh.c, .bool bh.o, .bool bh.h, .int .i64 bh.d], .int .i64 more] w fun e w' => e = .returned (.bool true) ∧ Below w.heap.size w w' := by
  have Ha := hide (show ∀ n : Int, bh.c ≤ n → split bh n true true = (bh, ⟨0, false, false, 0⟩) from fun n hn => all_plain p2 hx (n := n) hn)
  have Hn := hide (show ∀ n : Int, n ≤ 0 → split bh n true true = (⟨0, false, false, 0⟩, bh) from fun n hn => none_plain p2 hx (n := n) hn)
  have Hp := hide (show decide (bcheck bh bh.c = 0) = true from decide_eq_true hx)
  clear hx
  go_enter Try.func9, Try.ntmps9
  go_wp2_with (first | (go_at_call 11; refine (awake_calls _).mono ?_; rintro e w1 ⟨rfl, hb_w1⟩; obtain ⟨hc_w1, hf_w1⟩ := bcell hb_w1; have z_w1 := hb_w1.size; (try simp only [World.size_alloc, World.size_setCell, World.size_drew] at z_w1); have z_w1_0 : w.heap.size < w1.heap.size := (by omega)) | (go_at_call 14; ((with_reducible refine (rRight_calls bh _ _).mono ?_); rw [Hp.out]; rintro e w2 ⟨rfl, hb_w2⟩; obtain ⟨hc_w2, hf_w2⟩ := bcell hb_w2; have z_w2 := hb_w2.size; (try simp only [World.size_alloc, World.size_setCell, World.size_drew] at z_w2); have z_w2_0 : w.heap.size < w2.heap.size := (by omega))) | (go_at_call 15; (first | (refine (Split_calls bh _ true true p1 _).mono ?_; rw [Ha.out]; rotate_left; (first | omega | (simp only [wrap64]; omega)); rintro e w3 ⟨rfl, hb_w3⟩; obtain ⟨hc_w3, hf_w3⟩ := bcell hb_w3; have z_w3 := hb_w3.size; (try simp only [World.size_alloc, World.size_setCell, World.size_drew, World.heap_drewN] at z_w3); have zz_w3_w_0_0 : w.heap.size < w3.heap.size := (by omega); have zz_w3_w_0_1 : w.heap.size < w3.heap.size + 1 := (by omega); have zz_w3_w_0_2 : w.heap.size < w3.heap.size + 1 + 1 := (by omega); have zz_w3_w_0_3 : w.heap.size < w3.heap.size + 1 + 1 + 1 := (by omega)) | (refine (Split_calls bh _ true true p1 _).mono ?_; rw [Hn.out]; rotate_left; omega; rintro e w4 ⟨rfl, hb_w4⟩; obtain ⟨hc_w4, hf_w4⟩ := bcell hb_w4; have z_w4 := hb_w4.size; (try simp only [World.size_alloc, World.size_setCell, World.size_drew, World.heap_drewN] at z_w4); have zz_w4_w_0_0 : w.heap.size < w4.heap.size := (by omega); have zz_w4_w_0_1 : w.heap.size < w4.heap.size + 1 := (by omega); have zz_w4_w_0_2 : w.heap.size < w4.heap.size + 1 + 1 := (by omega); have zz_w4_w_0_3 : w.heap.size < w4.heap.size + 1 + 1 + 1 := (by omega); have zz_w4_w3_0_0 : w3.heap.size < w4.heap.size := (by omega); have zz_w4_w3_0_1 : w3.heap.size < w4.heap.size + 1 := (by omega); have zz_w4_w3_0_2 : w3.heap.size < w4.heap.size + 1 + 1 := (by omega); have zz_w4_w3_0_3 : w3.heap.size < w4.heap.size + 1 + 1 + 1 := (by omega); have zz_w4_w3_1_0 : w3.heap.size + 1 < w4.heap.size := (by omega); have zz_w4_w3_1_1 : w3.heap.size + 1 < w4.heap.size + 1 := (by omega); have zz_w4_w3_1_2 : w3.heap.size + 1 < w4.heap.size + 1 + 1 := (by omega); have zz_w4_w3_1_3 : w3.heap.size + 1 < w4.heap.size + 1 + 1 + 1 := (by omega)))))
  all_goals go_ret
  all_goals (refine ⟨?_, ?_⟩; (first | rfl | (go_simp; done) | (simp; done)); (first | ((repeat' (with_reducible first | exact bl0 | apply bl4 | apply bl5 | apply bl1 | refine bl2 ?_ (by first | omega | (simp only [World.size_alloc, World.size_setCell, World.size_drew]; omega)) | refine bl3 (by assumption) ?_)); done) | (go_simp; done) | (refine bl3 (by assumption) ?_; go_simp; done)))
theorem BundleAll_walk (bh : Bun) (hb : okBun bh) (more : Int) (hm : okI more) (w : World) :
    Calls Try.prog 9 #[.agg #[.int .i64 bh.c, .bool bh.o, .bool bh.h, .int .i64 bh.d], .int .i64 more] w fun e w' => e = .returned (.bool true) ∧ Below w.heap.size w w' := by
  by_cases hx : bcheck bh (max bh.c 0) = 0
  · have h0 := right_nn hx
    rw [show max bh.c 0 = bh.c from by omega] at hx
    exact BundleAll_in bh more w h0 hb.1.2 hx
  · exact BundleAll_out bh more w hx
end Go.Proofs.Ytegcnbomndeinaa
