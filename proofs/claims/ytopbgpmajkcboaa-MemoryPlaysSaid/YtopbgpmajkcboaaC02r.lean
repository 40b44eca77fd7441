/- What the reference's Split and Join come to. -/
import Derived.Test.YtopbgpmajkcboaaC03
namespace Go.Proofs.Ytopbgpmajkcboaa
open Go.RowKit
set_option linter.unusedVariables false
set_option linter.unusedSimpArgs false
set_option maxHeartbeats 8000000 in
theorem rSplit_calls' (c : Int) (o hs : Bool) (d : Int) (count : Int) (owner data : Bool) (w : World) :
    Calls Try.prog 19 #[.agg #[.int .i64 c, .bool o, .bool hs, .int .i64 d], .int .i64 count, .bool owner, .bool data] w fun e w' => e = .returned (.tuple #[.agg #[.int .i64 ((rsplit ⟨c, o, hs, d⟩ count owner data).1).c, .bool ((rsplit ⟨c, o, hs, d⟩ count owner data).1).o, .bool ((rsplit ⟨c, o, hs, d⟩ count owner data).1).h, .int .i64 ((rsplit ⟨c, o, hs, d⟩ count owner data).1).d], .agg #[.int .i64 ((rsplit ⟨c, o, hs, d⟩ count owner data).2).c, .bool ((rsplit ⟨c, o, hs, d⟩ count owner data).2).o, .bool ((rsplit ⟨c, o, hs, d⟩ count owner data).2).h, .int .i64 ((rsplit ⟨c, o, hs, d⟩ count owner data).2).d]]) ∧ Below w.heap.size w w' := by
  obtain ⟨n, own, hno⟩ : ∃ n own, rsplitN ⟨c, o, hs, d⟩ count owner = (n, own) := ⟨_, _, rfl⟩
  have hsp : rsplit ⟨c, o, hs, d⟩ count owner data = if c = 0 ∨ n ≤ 0 then (bun0, ⟨c, o, hs, d⟩) else
    (⟨n, own, hs && (data || own), if hs && (data || own) then d else 0⟩, if n = c then bun0 else ⟨wrap64 (c - n), o && !own, hs, d⟩) := by unfold rsplit; rw [hno]
  have Hno := hide hno
  clear hno
  by_cases hcn : c = 0 ∨ n ≤ 0
  · have Hcn := hide hcn
    have Hsp := hide hsp
    clear hsp
    rcases (show c = 0 ∨ (c ≠ 0 ∧ n ≤ 0) from by omega) with rfl | ⟨hc0, hn0⟩
    all_goals
      (try (have hcb : (c == 0) = false := by simpa using hc0))
      clear hcn
      go_enter Try.func19, Try.ntmps19
      go_wp2_with (go_at_call 30; refine (rGiven_calls ⟨_, _, _, d⟩ count owner _).mono ?_; rw [Hno.out]; rintro e w1 ⟨rfl, hb_w1⟩; obtain ⟨hc_w1, hf_w1⟩ := bcell hb_w1; have z_w1 := hb_w1.size; (try simp only [World.size_alloc, World.size_setCell, World.size_drew] at z_w1); have z_w1_0 : w.heap.size < w1.heap.size := (by omega); have z_w1_1 : w.heap.size + 1 < w1.heap.size := (by omega); have z_w1_2 : w.heap.size + 1 + 1 < w1.heap.size := (by omega))
      (try (go_region; all_goals go_wp2))
      refine bodyPost_ret (v := .tuple #[.agg #[.int .i64 bun0.c, .bool bun0.o, .bool bun0.h, .int .i64 bun0.d], .agg #[.int .i64 _, .bool o, .bool hs, .int .i64 d]]) ?_ rfl ⟨by rw [Hsp.out, if_pos Hcn.out], ?_⟩
      · simp (maxDischargeDepth := 9) [results, Try.results19, go_sem, bun0, hc_w1, z_w1_0, z_w1_1, z_w1_2]
      · (repeat' (with_reducible first | exact bl0 | apply bl4 | apply bl5 | apply bl1 | refine bl2 ?_ (by first | omega | (simp only [World.size_alloc, World.size_setCell, World.size_drew]; omega)) | refine bl3 (by assumption) ?_))
  · have hc0 : c ≠ 0 := by omega
    have hcb : (c == 0) = false := by simpa using hc0
    have hn0 : 0 < n := by omega
    have Hcn := hide hcn
    obtain ⟨hd, hhd⟩ : ∃ hd, hd = (hs && (data || own)) := ⟨_, rfl⟩
    rw [← hhd] at hsp
    obtain ⟨dd, hdd⟩ : ∃ dd, dd = (if hd then d else 0) := ⟨_, rfl⟩
    rw [← hdd] at hsp
    have Hdd := hide hdd
    have Hhd := hide hhd
    have Hsp := hide hsp
    clear hcn hhd hdd hsp
    go_enter Try.func19, Try.ntmps19
    go_upto_region 5 with (go_at_call 30; refine (rGiven_calls ⟨c, _, _, d⟩ count owner _).mono ?_; rw [Hno.out]; rintro e w1 ⟨rfl, hb_w1⟩; obtain ⟨hc_w1, hf_w1⟩ := bcell hb_w1; have z_w1 := hb_w1.size; (try simp only [World.size_alloc, World.size_setCell, World.size_drew] at z_w1); have z_w1_0 : w.heap.size < w1.heap.size := (by omega); have z_w1_1 : w.heap.size + 1 < w1.heap.size := (by omega); have z_w1_2 : w.heap.size + 1 + 1 < w1.heap.size := (by omega))
    go_cut [39] (fun s wx => s = .bool hd ∧ C4 wx w.heap.size (.int .i64 c) (.bool o) (.bool hs) (.int .i64 d) ∧ C4 wx w1.heap.size (.int .i64 n) (.bool own) (.bool false) (.int .i64 0) ∧ C4 wx (w.heap.size + 1) (.int .i64 0) (.bool false) (.bool false) (.int .i64 0) ∧ C4 wx (w.heap.size + 1 + 1) (.int .i64 0) (.bool false) (.bool false) (.int .i64 0) ∧ Below w.heap.size w wx ∧ w1.heap.size < wx.heap.size)
    case first =>
      cases hs <;> cases data <;> cases own
      all_goals
        go_wp2
        go_meet
        refine ⟨by rw [Hhd.out]; rfl, by unfold C4; go_simp, by unfold C4; go_simp, by unfold C4; go_simp, by unfold C4; go_simp, by (repeat' (with_reducible first | exact bl0 | apply bl4 | apply bl5 | apply bl1 | refine bl2 ?_ (by first | omega | (simp only [World.size_alloc, World.size_setCell, World.size_drew]; omega)) | refine bl3 (by assumption) ?_)), by simp⟩
    case rest =>
     obtain ⟨rfl, ⟨⟨x0, x1, x2, x3⟩, f0, f1, f2, f3⟩, ⟨⟨y0, y1, y2, y3⟩, g0, g1, g2, g3⟩, ⟨⟨u0, u1, u2, u3⟩, k0, k1, k2, k3⟩, ⟨⟨v0, v1, v2, v3⟩, l0, l1, l2, l3⟩, hb_c, z3⟩ := hcut
     clear hc_w1 hf_w1 hb_w1
     have q0 : w.heap.size < wc.heap.size := by omega
     have q1 : w.heap.size + 1 < wc.heap.size := by omega
     have q2 : w.heap.size + 1 + 1 < wc.heap.size := by omega
     go_upto_if 39 with (fail)
     go_cut [] (fun wx => C4 wx w.heap.size (.int .i64 c) (.bool o) (.bool hs) (.int .i64 d) ∧ C4 wx w1.heap.size (.int .i64 n) (.bool own) (.bool hd) (.int .i64 dd) ∧ C4 wx (w.heap.size + 1) (.int .i64 0) (.bool false) (.bool false) (.int .i64 0) ∧ C4 wx (w.heap.size + 1 + 1) (.int .i64 0) (.bool false) (.bool false) (.int .i64 0) ∧ Below w.heap.size w wx ∧ w1.heap.size < wx.heap.size)
     case first =>
      cases hd
      all_goals
        obtain rfl := Hdd.out
        go_wp2
        go_meet
        refine ⟨by unfold C4; go_simp, by unfold C4; go_simp, by unfold C4; go_simp, by unfold C4; go_simp, by (repeat' (with_reducible first | exact bl0 | apply bl4 | apply bl5 | apply bl1 | refine bl2 ?_ (by first | omega | (simp only [World.size_alloc, World.size_setCell, World.size_drew]; omega)) | refine bl3 (by assumption) ?_)), by first | omega | (simp; omega)⟩
     case rest =>
      clear x0 x1 x2 x3 f0 f1 f2 f3 y0 y1 y2 y3 g0 g1 g2 g3 u0 u1 u2 u3 k0 k1 k2 k3 v0 v1 v2 v3 l0 l1 l2 l3 hb_c z3 q0 q1 q2
      obtain ⟨⟨⟨x0, x1, x2, x3⟩, f0, f1, f2, f3⟩, ⟨⟨y0, y1, y2, y3⟩, g0, g1, g2, g3⟩, ⟨⟨u0, u1, u2, u3⟩, k0, k1, k2, k3⟩, ⟨⟨v0, v1, v2, v3⟩, l0, l1, l2, l3⟩, hb_c, z3⟩ := hcut
      have z0 : w.heap.size < wc.heap.size := by omega
      have z1 : w.heap.size + 1 < wc.heap.size := by omega
      have z2 : w.heap.size + 1 + 1 < wc.heap.size := by omega
      by_cases hnc : n = c
      · have hnb : (n == c) = true := by simpa using hnc
        go_wp2
        (try (go_region; all_goals go_wp2))
        refine bodyPost_ret (v := .tuple #[_, _]) ?_ rfl ⟨by rw [Hsp.out, if_neg Hcn.out, if_pos hnc], ?_⟩
        · simp (maxDischargeDepth := 9) [results, Try.results19, go_sem, bun0, y0, y1, y2, y3, u0, u1, u2, u3, v0, v1, v2, v3]; try omega
        · (repeat' (with_reducible first | exact bl0 | apply bl4 | apply bl5 | apply bl1 | refine bl2 ?_ (by first | omega | (simp only [World.size_alloc, World.size_setCell, World.size_drew]; omega)) | refine bl3 (by assumption) ?_))
      · have hnb : (n == c) = false := by simpa using hnc
        rcases (show (o = false) ∨ (o = true ∧ own = true) ∨ (o = true ∧ own = false) from by cases o <;> cases own <;> simp) with rfl | ⟨rfl, rfl⟩ | ⟨rfl, rfl⟩
        all_goals
          go_wp2
          (try (go_region; all_goals go_wp2))
          refine bodyPost_ret (v := .tuple #[_, _]) ?_ rfl ⟨by rw [Hsp.out, if_neg Hcn.out, if_neg hnc], ?_⟩
          · simp (maxDischargeDepth := 9) [results, Try.results19, go_sem, y0, y1, y2, y3, u0, u1, u2, u3, v0, v1, v2, v3]
          · (repeat' (with_reducible first | exact bl0 | apply bl4 | apply bl5 | apply bl1 | refine bl2 ?_ (by first | omega | (simp only [World.size_alloc, World.size_setCell, World.size_drew]; omega)) | refine bl3 (by assumption) ?_))
theorem rSplit_calls (bh : Bun) (count : Int) (owner data : Bool) (w : World) :
    Calls Try.prog 19 #[.agg #[.int .i64 bh.c, .bool bh.o, .bool bh.h, .int .i64 bh.d], .int .i64 count, .bool owner, .bool data] w fun e w' => e = .returned (.tuple #[.agg #[.int .i64 ((rsplit bh count owner data).1).c, .bool ((rsplit bh count owner data).1).o, .bool ((rsplit bh count owner data).1).h, .int .i64 ((rsplit bh count owner data).1).d], .agg #[.int .i64 ((rsplit bh count owner data).2).c, .bool ((rsplit bh count owner data).2).o, .bool ((rsplit bh count owner data).2).h, .int .i64 ((rsplit bh count owner data).2).d]]) ∧ Below w.heap.size w w' :=
  rSplit_calls' bh.c bh.o bh.h bh.d count owner data w
end Go.Proofs.Ytopbgpmajkcboaa
