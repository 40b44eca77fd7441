/- What the reference's Split and Join come to. -/
import Derived.Test.YtipibgamajhgbaaC03
import Derived.Test.YtipibgamajhgbaaGA
namespace Go.Proofs.Ytipibgamajhgbaa
open Go.RowKit
set_option linter.unusedVariables false
set_option linter.unusedSimpArgs false
set_option maxHeartbeats 8000000 in
theorem rSplit_calls' (c : Int) (o hs : Bool) (d : Int) (count : Int) (owner data : Bool) (w : World) :
    Calls Try.prog 75 #[.agg #[.int .i64 c, .bool o, .bool hs, .int .i64 d], .int .i64 count, .bool owner, .bool data] w fun e w' => e = .returned (.tuple #[.agg #[.int .i64 ((rsplit ⟨c, o, hs, d⟩ count owner data).1).c, .bool ((rsplit ⟨c, o, hs, d⟩ count owner data).1).o, .bool ((rsplit ⟨c, o, hs, d⟩ count owner data).1).h, .int .i64 ((rsplit ⟨c, o, hs, d⟩ count owner data).1).d], .agg #[.int .i64 ((rsplit ⟨c, o, hs, d⟩ count owner data).2).c, .bool ((rsplit ⟨c, o, hs, d⟩ count owner data).2).o, .bool ((rsplit ⟨c, o, hs, d⟩ count owner data).2).h, .int .i64 ((rsplit ⟨c, o, hs, d⟩ count owner data).2).d]]) ∧ Below w.heap.size w w' := by
  obtain ⟨n, own, hno⟩ : ∃ n own, rsplitN ⟨c, o, hs, d⟩ count owner = (n, own) := ⟨_, _, rfl⟩
  have hsp : rsplit ⟨c, o, hs, d⟩ count owner data = if c = 0 ∨ n ≤ 0 then (bun0, ⟨c, o, hs, d⟩) else
    (⟨n, own, hs && (data || own), if hs && (data || own) then d else 0⟩, if n = c then bun0 else ⟨wrap64 (c - n), o && !own, hs, d⟩) := by unfold rsplit; rw [hno]
  have Hno := hide hno
  clear hno
  by_cases hcn : c = 0 ∨ n ≤ 0
  · have Hcn := hide hcn
    have Hsp := hide hsp
    clear hsp
    rcases (show c = 0 ∨ (c ≠ 0 ∧ n ≤ 0) from by omega) with rfl | ⟨hc0, hn0⟩
    all_goals
      (try (have hcb : (c == 0) = false := by simpa using hc0))
      clear hcn
      go_enter Try.func75, Try.ntmps75
      go_wp2_with (go_at_call 90; refine (rGiven_calls ⟨_, _, _, d⟩ count owner _).mono ?_; rw [Hno.out]; rintro e w1 ⟨rfl, hb_w1⟩; obtain ⟨hc_w1, hf_w1⟩ := bcell hb_w1; have z_w1 := hb_w1.size; (try simp only [World.size_alloc, World.size_setCell, World.size_drew] at z_w1); have z_w1_0 : w.heap.size < w1.heap.size := (by omega); have z_w1_1 : w.heap.size + 1 < w1.heap.size := (by omega); have z_w1_2 : w.heap.size + 1 + 1 < w1.heap.size := (by omega))
      (try (go_region; all_goals go_wp2))
      refine bodyPost_ret (v := .tuple #[.agg #[.int .i64 bun0.c, .bool bun0.o, .bool bun0.h, .int .i64 bun0.d], .agg #[.int .i64 _, .bool o, .bool hs, .int .i64 d]]) ?_ rfl ⟨by rw [Hsp.out, if_pos Hcn.out], ?_⟩
      · simp (maxDischargeDepth := 9) [results, Try.results75, go_sem, bun0, hc_w1, z_w1_0, z_w1_1, z_w1_2]
      · (repeat' (with_reducible first | exact bl0 | apply bl4 | apply bl5 | apply bl1 | refine bl2 ?_ (by first | omega | (simp only [World.size_alloc, World.size_setCell, World.size_drew]; omega)) | refine bl3 (by assumption) ?_))
  · have hc0 : c ≠ 0 := by omega
    have hcb : (c == 0) = false := by simpa using hc0
    have hn0 : 0 < n := by omega
    have Hcn := hide hcn
    obtain ⟨hd, hhd⟩ : ∃ hd, hd = (hs && (data || own)) := ⟨_, rfl⟩
    rw [← hhd] at hsp
    obtain ⟨dd, hdd⟩ : ∃ dd, dd = (if hd then d else 0) := ⟨_, rfl⟩
    rw [← hdd] at hsp
    have Hdd := hide hdd
    have Hhd := hide hhd
    have Hsp := hide hsp
    clear hcn hhd hdd hsp
    go_enter Try.func75, Try.ntmps75
    go_upto_region 5 with (go_at_call 90; refine (rGiven_calls ⟨c, _, _, d⟩ count owner _).mono ?_; rw [Hno.out]; rintro e w1 ⟨rfl, hb_w1⟩; obtain ⟨hc_w1, hf_w1⟩ := bcell hb_w1; have z_w1 := hb_w1.size; (try simp only [World.size_alloc, World.size_setCell, World.size_drew] at z_w1); have z_w1_0 : w.heap.size < w1.heap.size := (by omega); have z_w1_1 : w.heap.size + 1 < w1.heap.size := (by omega); have z_w1_2 : w.heap.size + 1 + 1 < w1.heap.size := (by omega))
    go_cut [39] (fun s wx => s = .bool hd ∧ C4 wx w.heap.size (.int .i64 c) (.bool o) (.bool hs) (.int .i64 d) ∧ C4 wx w1.heap.size (.int .i64 n) (.bool own) (.bool false) (.int .i64 0) ∧ C4 wx (w.heap.size + 1) (.int .i64 0) (.bool false) (.bool false) (.int .i64 0) ∧ C4 wx (w.heap.size + 1 + 1) (.int .i64 0) (.bool false) (.bool false) (.int .i64 0) ∧ Below w.heap.size w wx ∧ w1.heap.size < wx.heap.size)
    case first =>
      cases hs <;> cases data <;> cases own
      all_goals
        go_wp2
        go_meet
        refine ⟨by rw [Hhd.out]; rfl, by unfold C4; go_simp, by unfold C4; go_simp, by unfold C4; go_simp, by unfold C4; go_simp, by (repeat' (with_reducible first | exact bl0 | apply bl4 | apply bl5 | apply bl1 | refine bl2 ?_ (by first | omega | (simp only [World.size_alloc, World.size_setCell, World.size_drew]; omega)) | refine bl3 (by assumption) ?_)), by simp⟩
    case rest =>
     obtain ⟨rfl, ⟨⟨x0, x1, x2, x3⟩, f0, f1, f2, f3⟩, ⟨⟨y0, y1, y2, y3⟩, g0, g1, g2, g3⟩, ⟨⟨u0, u1, u2, u3⟩, k0, k1, k2, k3⟩, ⟨⟨v0, v1, v2, v3⟩, l0, l1, l2, l3⟩, hb_c, z3⟩ := hcut
     clear hc_w1 hf_w1 hb_w1
     have q0 : w.heap.size < wc.heap.size := by omega
     have q1 : w.heap.size + 1 < wc.heap.size := by omega
     have q2 : w.heap.size + 1 + 1 < wc.heap.size := by omega
     go_upto_if 39 with (fail)
     go_cut [] (fun wx => C4 wx w.heap.size (.int .i64 c) (.bool o) (.bool hs) (.int .i64 d) ∧ C4 wx w1.heap.size (.int .i64 n) (.bool own) (.bool hd) (.int .i64 dd) ∧ C4 wx (w.heap.size + 1) (.int .i64 0) (.bool false) (.bool false) (.int .i64 0) ∧ C4 wx (w.heap.size + 1 + 1) (.int .i64 0) (.bool false) (.bool false) (.int .i64 0) ∧ Below w.heap.size w wx ∧ w1.heap.size < wx.heap.size)
     case first =>
      cases hd
      all_goals
        obtain rfl := Hdd.out
        go_wp2
        go_meet
        refine ⟨by unfold C4; go_simp, by unfold C4; go_simp, by unfold C4; go_simp, by unfold C4; go_simp, by (repeat' (with_reducible first | exact bl0 | apply bl4 | apply bl5 | apply bl1 | refine bl2 ?_ (by first | omega | (simp only [World.size_alloc, World.size_setCell, World.size_drew]; omega)) | refine bl3 (by assumption) ?_)), by first | omega | (simp; omega)⟩
     case rest =>
      clear x0 x1 x2 x3 f0 f1 f2 f3 y0 y1 y2 y3 g0 g1 g2 g3 u0 u1 u2 u3 k0 k1 k2 k3 v0 v1 v2 v3 l0 l1 l2 l3 hb_c z3 q0 q1 q2
      obtain ⟨⟨⟨x0, x1, x2, x3⟩, f0, f1, f2, f3⟩, ⟨⟨y0, y1, y2, y3⟩, g0, g1, g2, g3⟩, ⟨⟨u0, u1, u2, u3⟩, k0, k1, k2, k3⟩, ⟨⟨v0, v1, v2, v3⟩, l0, l1, l2, l3⟩, hb_c, z3⟩ := hcut
      have z0 : w.heap.size < wc.heap.size := by omega
      have z1 : w.heap.size + 1 < wc.heap.size := by omega
      have z2 : w.heap.size + 1 + 1 < wc.heap.size := by omega
      by_cases hnc : n = c
      · have hnb : (n == c) = true := by simpa using hnc
        go_wp2
        (try (go_region; all_goals go_wp2))
        refine bodyPost_ret (v := .tuple #[_, _]) ?_ rfl ⟨by rw [Hsp.out, if_neg Hcn.out, if_pos hnc], ?_⟩
        · simp (maxDischargeDepth := 9) [results, Try.results75, go_sem, bun0, y0, y1, y2, y3, u0, u1, u2, u3, v0, v1, v2, v3]; try omega
        · (repeat' (with_reducible first | exact bl0 | apply bl4 | apply bl5 | apply bl1 | refine bl2 ?_ (by first | omega | (simp only [World.size_alloc, World.size_setCell, World.size_drew]; omega)) | refine bl3 (by assumption) ?_))
      · have hnb : (n == c) = false := by simpa using hnc
        rcases (show (o = false) ∨ (o = true ∧ own = true) ∨ (o = true ∧ own = false) from by cases o <;> cases own <;> simp) with rfl | ⟨rfl, rfl⟩ | ⟨rfl, rfl⟩
        all_goals
          go_wp2
          (try (go_region; all_goals go_wp2))
          refine bodyPost_ret (v := .tuple #[_, _]) ?_ rfl ⟨by rw [Hsp.out, if_neg Hcn.out, if_neg hnc], ?_⟩
          · simp (maxDischargeDepth := 9) [results, Try.results75, go_sem, y0, y1, y2, y3, u0, u1, u2, u3, v0, v1, v2, v3]
          · (repeat' (with_reducible first | exact bl0 | apply bl4 | apply bl5 | apply bl1 | refine bl2 ?_ (by first | omega | (simp only [World.size_alloc, World.size_setCell, World.size_drew]; omega)) | refine bl3 (by assumption) ?_))
theorem rSplit_calls (bh : Bun) (count : Int) (owner data : Bool) (w : World) :
    Calls Try.prog 75 #[.agg #[.int .i64 bh.c, .bool bh.o, .bool bh.h, .int .i64 bh.d], .int .i64 count, .bool owner, .bool data] w fun e w' => e = .returned (.tuple #[.agg #[.int .i64 ((rsplit bh count owner data).1).c, .bool ((rsplit bh count owner data).1).o, .bool ((rsplit bh count owner data).1).h, .int .i64 ((rsplit bh count owner data).1).d], .agg #[.int .i64 ((rsplit bh count owner data).2).c, .bool ((rsplit bh count owner data).2).o, .bool ((rsplit bh count owner data).2).h, .int .i64 ((rsplit bh count owner data).2).d]]) ∧ Below w.heap.size w w' :=
  rSplit_calls' bh.c bh.o bh.h bh.d count owner data w
end Go.Proofs.Ytipibgamajhgbaa

namespace Go.Proofs.Ytipibgamajhgbaa
open Go.RowKit
set_option linter.unusedVariables false
set_option linter.unusedSimpArgs false
set_option maxHeartbeats 2000000 in
theorem rJoin_calls' (c1 : Int) (o1 h1 : Bool) (d1 : Int) (c2 : Int) (o2 h2 : Bool) (d2 : Int) (w : World) :
    Calls Try.prog 73 #[.agg #[.int .i64 c1, .bool o1, .bool h1, .int .i64 d1], .agg #[.int .i64 c2, .bool o2, .bool h2, .int .i64 d2]] w fun e w' => e = .returned (.agg #[.int .i64 (rjoin ⟨c1, o1, h1, d1⟩ ⟨c2, o2, h2, d2⟩).c, .bool (rjoin ⟨c1, o1, h1, d1⟩ ⟨c2, o2, h2, d2⟩).o, .bool (rjoin ⟨c1, o1, h1, d1⟩ ⟨c2, o2, h2, d2⟩).h, .int .i64 (rjoin ⟨c1, o1, h1, d1⟩ ⟨c2, o2, h2, d2⟩).d]) ∧ Below w.heap.size w w' := by
  cases o2 <;> cases h2
  all_goals
    go_enter Try.func73, Try.ntmps73
    go_wp2
    refine bodyPost_ret ?_ rfl ⟨rfl, ?_⟩
    · simp (maxDischargeDepth := 9) [results, Try.results73, go_sem, rjoin]
    · (repeat' (with_reducible first | exact bl0 | apply bl4 | apply bl5 | apply bl1 | refine bl2 ?_ (by first | omega | (simp only [World.size_alloc, World.size_setCell, World.size_drew]; omega)) | refine bl3 (by assumption) ?_))
theorem rJoin_calls (a b : Bun) (w : World) :
    Calls Try.prog 73 #[.agg #[.int .i64 a.c, .bool a.o, .bool a.h, .int .i64 a.d], .agg #[.int .i64 b.c, .bool b.o, .bool b.h, .int .i64 b.d]] w fun e w' => e = .returned (.agg #[.int .i64 (rjoin a b).c, .bool (rjoin a b).o, .bool (rjoin a b).h, .int .i64 (rjoin a b).d]) ∧ Below w.heap.size w w' :=
  rJoin_calls' a.c a.o a.h a.d b.c b.o b.h b.d w
end Go.Proofs.Ytipibgamajhgbaa

namespace Go.Proofs.Ytipibgamajhgbaa
open Go.RowKit
set_option linter.unusedVariables false
set_option linter.unusedSimpArgs false
theorem right_nn {b : Bun} (h : bcheck b (max b.c 0) = 0) : 0 ≤ b.c := by
  obtain ⟨c, o, hs, d⟩ := b
  unfold bcheck at h
  cases o <;> cases hs <;> simp at h ⊢ <;> omega
theorem right_iff (c : Int) (o hs : Bool) (d : Int) (t : Int) : bcheck ⟨c, o, hs, d⟩ t = 0 ↔ (0 ≤ c ∧ c ≤ t) ∧ (c = 0 → o = false ∧ hs = false) ∧ (o = true → hs = true) ∧ (hs = false → d = 0) := by
  unfold bcheck
  cases o <;> cases hs <;> simp <;> omega
theorem rsplitN_eq {c : Int} {o hs : Bool} {d : Int} (h1 : c ≤ 9223372036854775807) (h0 : 0 ≤ c) (hz : c = 0 → o = false) (count : Int) (p : Bool) :
    rsplitN ⟨c, o, hs, d⟩ count p = (if (o && !(p && o && decide (0 < clamp count 0 c))) = true then min (clamp count 0 c) (wrap64 (c - 1)) else clamp count 0 c, p && o && decide (0 < clamp count 0 c)) := by
  have e : (if c < (if count < 0 then 0 else count) then c else (if count < 0 then 0 else count)) = clamp count 0 c := by
    unfold clamp; split <;> split <;> omega
  unfold rsplitN
  simp only [e]
  have hle : clamp count 0 c ≤ c ∧ 0 ≤ clamp count 0 c := by unfold clamp; omega
  generalize clamp count 0 c = n at hle
  have e1 : wrap64 (c - 1) = c - 1 := by unfold wrap64; omega
  rw [e1]
  cases o
  · simp
  · have : c ≠ 0 := fun h => by simpa using hz h
    cases p
    · simp only [Bool.false_and, Bool.not_false, Bool.and_true, if_true]
      by_cases hn : n = c
      · subst hn; rw [e1]; simp; omega
      · simp [hn]; omega
    · by_cases hn : 0 < n
      · simp [hn]
      · have : n ≠ c := by omega
        simp [hn, this]; omega
theorem rsplit_split {b : Bun} (h1 : b.c ≤ 9223372036854775807) (hr : bcheck b b.c = 0) (count : Int) (p q : Bool) : rsplit b count p q = split b count p q := by
  obtain ⟨c, o, hs, d⟩ := b
  simp only at h1
  rw [right_iff] at hr
  obtain ⟨⟨h0, -⟩, hz, ho, hd⟩ := hr
  have hN := rsplitN_eq (hs := hs) (d := d) h1 h0 (fun h => (hz h).1) count p
  unfold rsplit split splitW
  simp only [hN, show max c 0 = c from by omega]
  have hle : clamp count 0 c ≤ c ∧ 0 ≤ clamp count 0 c := by unfold clamp; omega
  generalize clamp count 0 c = n0 at hle
  generalize (p && o && decide (0 < n0)) = own
  have e1 : wrap64 (c - 1) = c - 1 := by unfold wrap64; omega
  rw [e1]
  generalize hn : (if (o && !own) = true then min n0 (c - 1) else n0) = n
  have hnc : n ≤ c := by rw [← hn]; split <;> omega
  clear hN e1 hn
  by_cases hlt : n < 1
  · rw [if_pos hlt, if_pos (Or.inr (by omega))]
  · rw [if_neg hlt, if_neg (by omega)]
    by_cases hc : n = c
    · rw [if_pos hc, if_neg (show ¬ n < c from by omega)]
      rfl
    · rw [if_neg hc, if_pos (show n < c from by omega)]
      cases hs
      · simp [valued, hd rfl]
      · rfl
theorem rjoin_join {a b : Bun} (ha : bcheck a (max a.c 0) = 0) (hb : bcheck b (max b.c 0) = 0) : rjoin a b = join a b := by
  obtain ⟨c1, o1, h1, d1⟩ := a
  obtain ⟨c2, o2, h2, d2⟩ := b
  rw [right_iff] at ha hb
  obtain ⟨-, -, -, ha⟩ := ha
  unfold rjoin join valued
  cases h1 <;> cases h2 <;> simp at ha ⊢
  exact ha
/-- What is known of the two parts of tokens that may be. -/
theorem split_facts {b x y : Bun} {count : Int} {p q : Bool} (h1 : b.c ≤ 9223372036854775807) (hr : bcheck b b.c = 0) (hs : split b count p q = (x, y)) :
    bcheck x b.c = 0 ∧ bcheck y b.c = 0 ∧ 0 ≤ x.c ∧ 0 ≤ y.c ∧ x.c + y.c = b.c ∧ (x.o || y.o) = b.o ∧ (x.o && y.o) = false ∧ (x.o = true → x.h = true ∧ x.d = b.d) ∧ (y.o = true → y.h = true ∧ y.d = b.d) ∧
    ((x.h || y.h) = true → (x.h = true → x.d = b.d) ∧ (y.h = true → y.d = b.d) ∧ b.h = true) ∧ ((x.h || y.h) = false → b.o = false) ∧ (count < 1 → x = bun0) ∧ x.c ≤ max count 0 := by
  obtain ⟨c, o, hs', d⟩ := b
  simp only at h1 hr
  rw [right_iff] at hr
  obtain ⟨⟨h0, -⟩, hz, ho, hd⟩ := hr
  unfold split splitW at hs
  simp only at hs
  rw [show max c 0 = c from by omega] at hs
  generalize hn0 : clamp count 0 c = n0 at hs
  have hle : n0 ≤ c ∧ 0 ≤ n0 ∧ n0 ≤ max count 0 := by rw [← hn0]; unfold clamp; omega
  generalize hown : (p && o && decide (0 < n0)) = own at hs
  have hw1 : wrap64 (c - 1) = c - 1 := by unfold wrap64; omega
  rw [hw1] at hs
  generalize hn : (if (o && !own) = true then min n0 (c - 1) else n0) = n at hs
  have hnle : n ≤ n0 := by rw [← hn]; split <;> omega
  have hn1 : (o && !own) = true → n ≤ c - 1 := by intro h; rw [if_pos h] at hn; omega
  have hown1 : own = true → o = true := by intro h; rw [h] at hown; revert hown; cases o <;> simp
  by_cases hlt : n < 1
  · rw [if_pos hlt] at hs
    obtain ⟨rfl, rfl⟩ := Prod.mk.inj hs
    have hown2 : own = false ∨ n = n0 := by
      cases own
      · exact Or.inl rfl
      · right; rw [← hn]; simp
    refine ⟨by rw [bun0, right_iff]; exact ⟨⟨by omega, h0⟩, by simp, by simp, by simp⟩, (right_iff ..).2 ⟨⟨h0, Int.le_refl _⟩, hz, ho, hd⟩, by simp [bun0], h0, by simp [bun0], by simp [bun0], by simp [bun0], by simp [bun0], fun h => ⟨ho h, rfl⟩, by simp [bun0], ?_, by simp, by simp [bun0]; omega⟩
    simp only [bun0, Bool.false_or]
    intro h
    cases o
    · rfl
    · exact absurd (ho rfl) (by simp [h])
  · rw [if_neg hlt] at hs
    obtain ⟨rfl, rfl⟩ := Prod.mk.inj hs
    have hc : 1 ≤ c := by omega
    by_cases hnc : n < c
    · rw [if_pos hnc]
      have hw : wrap64 (c - n) = c - n := by unfold wrap64; omega
      simp only [hw, right_iff, valued, bun0]
      cases o <;> cases own <;> cases hs' <;> cases q <;> simp at ho hd hown1 ⊢ <;> omega
    · rw [if_neg hnc]
      have : n = c := by omega
      subst this
      simp only [right_iff, valued, bun0]
      cases o <;> cases own <;> cases hs' <;> cases q <;> simp at ho hd hown1 hn1 ⊢ <;> omega
end Go.Proofs.Ytipibgamajhgbaa
