/- Layers 1 to 3: what the functions of num, bundle and perm, and those of their references, come to. -/
import Derived.Test.YtipibgamajhgbaaProg
import Derived.Test.YtipibgamajhgbaaGA
import Derived.Deep.DeepCutAuto
import Derived.Deep.RegionWith
import Derived.Deep.RegionHeld3
namespace Go.Proofs.Ytipibgamajhgbaa
open Go.RowKit
set_option linter.unusedVariables false
set_option linter.unusedSimpArgs false
theorem mixed : Try.prog.follows .mixedOrders = true := by kernel_rfl
theorem Clamp_calls (n lo hi : Int) (w : World) : Calls Try.prog 80 #[.int .i64 n, .int .i64 lo, .int .i64 hi] w fun e w' => e = .returned (.int .i64 (clamp n lo hi)) ∧ Below w.heap.size w w' := by
  go_enter Try.func80, Try.ntmps80
  go_wp2
  all_goals
    go_ret
    exact ⟨ret_int (by unfold clamp; omega), bl0⟩
theorem valued_calls (c : Int) (o h : Bool) (d : Int) (w : World) :
    Calls Try.prog 91 #[.int .i64 c, .bool o, .bool h, .int .i64 d] w fun e w' => e = .returned (.agg #[.int .i64 (valued c o h d).c, .bool (valued c o h d).o, .bool (valued c o h d).h, .int .i64 (valued c o h d).d]) ∧ Below w.heap.size w w' := by
  cases h
  all_goals
    go_enter Try.func91, Try.ntmps91
    go_wp2
    refine bodyPost_ret ?_ rfl ⟨rfl, ?_⟩
    · simp [results, Try.results91, go_sem, valued]
    · repeat' (with_reducible first | exact bl0 | apply bl4 | apply bl1 | refine bl2 ?_ (by simp only [World.size_alloc]; omega) | refine bl3 (by assumption) ?_)
set_option maxHeartbeats 8000000 in
theorem Split_calls' (c : Int) (ow hs : Bool) (d : Int) (count : Int) (owner data : Bool) (hn : 0 ≤ c) (w : World) :
    Calls Try.prog 87 #[.agg #[.int .i64 c, .bool ow, .bool hs, .int .i64 d], .int .i64 count, .bool owner, .bool data] w fun e w' => e = .returned (.tuple #[.agg #[.int .i64 ((split ⟨c, ow, hs, d⟩ count owner data).1).c, .bool ((split ⟨c, ow, hs, d⟩ count owner data).1).o, .bool ((split ⟨c, ow, hs, d⟩ count owner data).1).h, .int .i64 ((split ⟨c, ow, hs, d⟩ count owner data).1).d], .agg #[.int .i64 ((split ⟨c, ow, hs, d⟩ count owner data).2).c, .bool ((split ⟨c, ow, hs, d⟩ count owner data).2).o, .bool ((split ⟨c, ow, hs, d⟩ count owner data).2).h, .int .i64 ((split ⟨c, ow, hs, d⟩ count owner data).2).d]]) ∧ Below w.heap.size w w' := by
  obtain ⟨n0, hn0⟩ : ∃ n0, n0 = clamp count 0 c := ⟨_, rfl⟩
  have hm : max c 0 = c := by omega
  have hsp : split ⟨c, ow, hs, d⟩ count owner data = splitW ⟨c, ow, hs, d⟩ n0 owner data := by unfold split; simp only [hm, ← hn0]
  have Hsp := hide hsp
  have Hn0 := hide hn0
  clear hn0 hsp hm
  go_enter Try.func87, Try.ntmps87
  go_upto_region 2 with (go_at_call 80; refine (Clamp_calls _ _ _ _).mono ?_; rintro e w1 ⟨rfl, hb_1⟩; obtain ⟨hc_1, hf_1⟩ := bcell hb_1; have z_1 := hb_1.size; simp only [World.size_alloc] at z_1; have z1 : w.heap.size < w1.heap.size := (by omega); have z2 : w.heap.size + 1 < w1.heap.size := (by omega); have z3 : w.heap.size + 1 + 1 < w1.heap.size := (by omega); rw [← Hn0.out])
  obtain ⟨own, hown⟩ : ∃ own, own = (owner && ow && decide (0 < n0)) := ⟨_, rfl⟩
  have Hown := hide hown
  clear hown
  go_cut [2] (fun s wx => s = .bool own ∧ w1 = wx)
  case first =>
    cases ow <;> cases owner <;> by_cases h0 : 0 < n0
    all_goals (go_wp2; go_meet; exact ⟨by rw [Hown.out]; simp; try omega, rfl⟩)
  case rest =>
    obtain ⟨rfl, rfl⟩ := hcut
    go_upto_region 3 with (fail)
    go_cut [30] (fun s wx => s = .bool (ow && !own) ∧ w1 = wx)
    case first =>
      cases ow <;> cases own
      all_goals (go_wp2; go_meet; exact ⟨rfl, rfl⟩)
    case rest =>
      obtain ⟨rfl, rfl⟩ := hcut
      go_upto_if 30 with (fail)
      obtain ⟨nn, hnn⟩ : ∃ nn, nn = (if ow && !own then min n0 (wrap64 (c - 1)) else n0) := ⟨_, rfl⟩
      have hsp : splitW ⟨c, ow, hs, d⟩ n0 owner data = if nn < 1 then (bun0, ⟨c, ow, hs, d⟩) else
        (valued nn own (hs && (data || own)) d, if nn < c then valued (wrap64 (c - nn)) (ow && !own) hs d else bun0) := by rw [hnn, Hown.out]; rfl
      have Hsp2 := hide hsp
      have Hnn := hide hnn
      clear hnn hsp
      go_cut [10] (fun s wx => s = .int .i64 nn ∧ w1 = wx)
      case first =>
        cases hx : (ow && !own)
        all_goals (go_wp2; all_goals (go_meet; exact ⟨by rw [Hnn.out, hx]; simp; try omega, rfl⟩))
      case rest =>
        obtain ⟨rfl, rfl⟩ := hcut
        by_cases hlt : nn < 1
        · go_wp2
          go_region
          all_goals go_wp2
          refine bodyPost_ret (v := .tuple #[.agg #[.int .i64 bun0.c, .bool bun0.o, .bool bun0.h, .int .i64 bun0.d], .agg #[.int .i64 c, .bool ow, .bool hs, .int .i64 d]]) ?_ rfl ⟨?_, ?_⟩
          · simp [results, Try.results87, go_sem, bun0, hc_1, z1, z2, z3]
          · rw [Hsp.out, Hsp2.out, if_pos hlt]
          · (repeat' (with_reducible first | exact bl0 | apply bl4 | apply bl5 | apply bl1 | refine bl2 ?_ (by first | omega | (simp only [World.size_alloc, World.size_setCell, World.size_drew]; omega)) | refine bl3 (by assumption) ?_))
        · have hlt' : ¬ nn < 1 := hlt
          go_upto_region 7 with (fail)
          go_cut [] (fun wx => C4 wx w.heap.size (.int .i64 c) (.bool ow) (.bool hs) (.int .i64 d) ∧ C4 wx (w.heap.size + 1) (.int .i64 (valued nn own (hs && (data || own)) d).c) (.bool (valued nn own (hs && (data || own)) d).o) (.bool (valued nn own (hs && (data || own)) d).h) (.int .i64 (valued nn own (hs && (data || own)) d).d) ∧ C4 wx (w.heap.size + 1 + 1) (.int .i64 0) (.bool false) (.bool false) (.int .i64 0) ∧ Below w.heap.size w wx ∧ w.heap.size + 1 + 1 < wx.heap.size)
          case first =>
            cases hs <;> cases data <;> cases own
            all_goals
              go_wp2_with ((go_at_call 91; refine (valued_calls _ _ _ _ _).mono ?_; rintro e w2 ⟨rfl, hb_w2⟩; obtain ⟨hc_w2, hf_w2⟩ := bcell hb_w2; have z_w2 := hb_w2.size; (try simp only [World.size_alloc, World.size_setCell, World.size_drew] at z_w2); have z_w2_0 : w.heap.size < w2.heap.size := (by omega); have z_w2_1 : w.heap.size + 1 < w2.heap.size := (by omega); have z_w2_2 : w.heap.size + 1 + 1 < w2.heap.size := (by omega)))
              go_meet
              refine ⟨by unfold C4; go_simp, by unfold C4; go_simp, by unfold C4; go_simp, by (repeat' (with_reducible first | exact bl0 | apply bl4 | apply bl5 | apply bl1 | refine bl2 ?_ (by first | omega | (simp only [World.size_alloc, World.size_setCell, World.size_drew]; omega)) | refine bl3 (by assumption) ?_)), by simp; omega⟩
          case rest =>
            clear hc_1 hf_1 hb_1 z_1 z1 z2 z3
            obtain ⟨⟨⟨x0, x1, x2, x3⟩, f0, f1, f2, f3⟩, ⟨⟨y0, y1, y2, y3⟩, g0, g1, g2, g3⟩, ⟨⟨u0, u1, u2, u3⟩, k0, k1, k2, k3⟩, hb_c, z3⟩ := hcut
            have z2 : w.heap.size + 1 < wc.heap.size := by omega
            have z1 : w.heap.size < wc.heap.size := by omega
            by_cases hlt2 : nn < c
            · cases ow <;> cases own
              all_goals
                go_wp2_with ((go_at_call 91; refine (valued_calls _ _ _ _ _).mono ?_; rintro e w2 ⟨rfl, hb_w2⟩; obtain ⟨hc_w2, hf_w2⟩ := bcell hb_w2; have z_w2 := hb_w2.size; (try simp only [World.size_alloc, World.size_setCell, World.size_drew] at z_w2); have z_w2_0 : w.heap.size < w2.heap.size := (by omega); have z_w2_1 : w.heap.size + 1 < w2.heap.size := (by omega); have z_w2_2 : w.heap.size + 1 + 1 < w2.heap.size := (by omega)))
                go_region
                go_wp2
                refine bodyPost_ret (v := .tuple #[_, _]) ?_ rfl ⟨by rw [Hsp.out, Hsp2.out, if_neg (by omega), if_pos (by omega)], ?_⟩
                · simp (maxDischargeDepth := 9) [results, Try.results87, go_sem, hc_w2, z1, z2, z3, y0, y1, y2, y3, u0, u1, u2, u3]
                · (repeat' (with_reducible first | exact bl0 | apply bl4 | apply bl5 | apply bl1 | refine bl2 ?_ (by first | omega | (simp only [World.size_alloc, World.size_setCell, World.size_drew]; omega)) | refine bl3 (by assumption) ?_))
            · go_wp2
              go_region
              go_wp2
              refine bodyPost_ret (v := .tuple #[_, _]) ?_ rfl ⟨by rw [Hsp.out, Hsp2.out, if_neg (by omega), if_neg (by omega)], ?_⟩
              · simp [results, Try.results87, go_sem, bun0, y0, y1, y2, y3, u0, u1, u2, u3]
              · (repeat' (with_reducible first | exact bl0 | apply bl4 | apply bl5 | apply bl1 | refine bl2 ?_ (by first | omega | (simp only [World.size_alloc, World.size_setCell, World.size_drew]; omega)) | refine bl3 (by assumption) ?_))
theorem Split_calls (bh : Bun) (count : Int) (owner data : Bool) (hn : 0 ≤ bh.c) (w : World) :
    Calls Try.prog 87 #[.agg #[.int .i64 bh.c, .bool bh.o, .bool bh.h, .int .i64 bh.d], .int .i64 count, .bool owner, .bool data] w fun e w' => e = .returned (.tuple #[.agg #[.int .i64 ((split bh count owner data).1).c, .bool ((split bh count owner data).1).o, .bool ((split bh count owner data).1).h, .int .i64 ((split bh count owner data).1).d], .agg #[.int .i64 ((split bh count owner data).2).c, .bool ((split bh count owner data).2).o, .bool ((split bh count owner data).2).h, .int .i64 ((split bh count owner data).2).d]]) ∧ Below w.heap.size w w' :=
  Split_calls' bh.c bh.o bh.h bh.d count owner data hn w
set_option maxHeartbeats 2000000 in
theorem Join_calls' (c1 : Int) (o1 h1 : Bool) (d1 : Int) (c2 : Int) (o2 h2 : Bool) (d2 : Int) (w : World) :
    Calls Try.prog 85 #[.agg #[.int .i64 c1, .bool o1, .bool h1, .int .i64 d1], .agg #[.int .i64 c2, .bool o2, .bool h2, .int .i64 d2]] w fun e w' => e = .returned (.agg #[.int .i64 (join ⟨c1, o1, h1, d1⟩ ⟨c2, o2, h2, d2⟩).c, .bool (join ⟨c1, o1, h1, d1⟩ ⟨c2, o2, h2, d2⟩).o, .bool (join ⟨c1, o1, h1, d1⟩ ⟨c2, o2, h2, d2⟩).h, .int .i64 (join ⟨c1, o1, h1, d1⟩ ⟨c2, o2, h2, d2⟩).d]) ∧ Below w.heap.size w w' := by
  cases o1 <;> cases h1 <;> cases h2
  all_goals
    go_enter Try.func85, Try.ntmps85
    go_wp2_with ((go_at_call 91; refine (valued_calls _ _ _ _ _).mono ?_; rintro e w1 ⟨rfl, hb_w1⟩; obtain ⟨hc_w1, hf_w1⟩ := bcell hb_w1; have z_w1 := hb_w1.size; (try simp only [World.size_alloc, World.size_setCell, World.size_drew] at z_w1); have z_w1_0 : w.heap.size < w1.heap.size := (by omega); have z_w1_1 : w.heap.size + 1 < w1.heap.size := (by omega); have z_w1_2 : w.heap.size + 1 + 1 < w1.heap.size := (by omega)))
    refine bodyPost_ret ?_ rfl ⟨rfl, ?_⟩
    · simp (maxDischargeDepth := 9) [results, Try.results85, go_sem, hc_w1, z_w1_0, z_w1_1, z_w1_2, join]
    · (repeat' (with_reducible first | exact bl0 | apply bl4 | apply bl5 | apply bl1 | refine bl2 ?_ (by first | omega | (simp only [World.size_alloc, World.size_setCell, World.size_drew]; omega)) | refine bl3 (by assumption) ?_))
theorem Join_calls (a b : Bun) (w : World) :
    Calls Try.prog 85 #[.agg #[.int .i64 a.c, .bool a.o, .bool a.h, .int .i64 a.d], .agg #[.int .i64 b.c, .bool b.o, .bool b.h, .int .i64 b.d]] w fun e w' => e = .returned (.agg #[.int .i64 (join a b).c, .bool (join a b).o, .bool (join a b).h, .int .i64 (join a b).d]) ∧ Below w.heap.size w w' :=
  Join_calls' a.c a.o a.h a.d b.c b.o b.h b.d w
end Go.Proofs.Ytipibgamajhgbaa
