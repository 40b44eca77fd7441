/- What the reference's ends, and its Check, come to. -/
import Derived.Test.YtaajighbnkifhaaR04
namespace Go.Proofs.Ytaajighbnkifhaa
open Go.RowKit
set_option linter.unusedVariables false
set_option linter.unusedSimpArgs false
set_option maxHeartbeats 8000000 in
theorem rends_calls (c : Cfg) (l : Ltr) (w : World) : Calls Try.prog 24 #[.agg #[.int .i64 c.nodes, .int .i64 c.blocks, .int .i64 c.tokens, .int .i64 c.sets, .int .i64 c.ways, .int .i64 c.cap, .int .i64 c.wait, .int .i64 c.tries, .int .i64 c.policy], .agg #[.int .i64 l.kind, .int .i64 l.frm, .int .i64 l.to, .int .i64 l.block, .int .i64 l.seq, .int .i64 l.who, .bool l.wr, .int .i64 l.tok.c, .bool l.tok.o, .bool l.tok.h, .int .i64 l.tok.d]] w fun e w' => e = .returned (.bool (endsE c l)) ∧ Below w.heap.size w w' := by
  obtain ⟨n1, hn1⟩ : ∃ b, nodeE c l.frm = b := ⟨_, rfl⟩
  obtain ⟨n2, hn2⟩ : ∃ b, nodeE c l.to = b := ⟨_, rfl⟩
  obtain ⟨a1, ha1⟩ : ∃ b, anyE c l.frm = b := ⟨_, rfl⟩
  obtain ⟨a2, ha2⟩ : ∃ b, anyE c l.to = b := ⟨_, rfl⟩
  have N1 := hide hn1
  have N2 := hide hn2
  have A1 := hide ha1
  have A2 := hide ha2
  by_cases e0 : l.frm = l.to
  · have He := hide (show endsE c l = false from by simp [endsE, e0])
    have e1 : (l.frm == l.to) = true := by simpa using e0
    clear hn1 hn2 ha1 ha2 e0
    go_enter Try.func24, Try.ntmps24
    go_wp2
    go_ret
    exact ⟨ret_bool (by rw [He.out]), (by (repeat' (with_reducible first | exact bl0 | apply bl4 | apply bl5 | apply bl1 | refine bl2 ?_ (by first | omega | (simp only [World.size_alloc, World.size_setCell, World.size_drew]; omega)) | refine bl3 (by assumption) ?_)))⟩
  have e1 : (l.frm == l.to) = false := by simpa using e0
  by_cases k1 : l.kind = 1
  · have He := hide (show endsE c l = (a1 && a2) from by simp [endsE, e0, k1, ha1, ha2])
    have b1 : (l.kind == 1) = true := by simpa using k1
    clear hn1 hn2 ha1 ha2 e0 k1
    cases a1 <;> cases a2
    all_goals
      go_enter Try.func24, Try.ntmps24
      go_wp2_with (first | (go_at_call 17; (first | ((with_reducible refine (rAny_calls c l.frm _).mono ?_); rw [A1.out]; rintro e w3 ⟨rfl, hb_w3⟩; obtain ⟨hc_w3, hf_w3⟩ := bcell hb_w3; have z_w3 := hb_w3.size; (try simp only [World.size_alloc, World.size_setCell, World.size_drew, World.heap_drewN] at z_w3); have zz_w3_w_0_0 : w.heap.size < w3.heap.size := (by omega); have zz_w3_w_0_1 : w.heap.size < w3.heap.size + 1 := (by omega); have zz_w3_w_0_2 : w.heap.size < w3.heap.size + 1 + 1 := (by omega); have zz_w3_w_0_3 : w.heap.size < w3.heap.size + 1 + 1 + 1 := (by omega); have zz_w3_w_1_0 : w.heap.size + 1 < w3.heap.size := (by omega); have zz_w3_w_1_1 : w.heap.size + 1 < w3.heap.size + 1 := (by omega); have zz_w3_w_1_2 : w.heap.size + 1 < w3.heap.size + 1 + 1 := (by omega); have zz_w3_w_1_3 : w.heap.size + 1 < w3.heap.size + 1 + 1 + 1 := (by omega)) | ((with_reducible refine (rAny_calls c l.to _).mono ?_); rw [A2.out]; rintro e w4 ⟨rfl, hb_w4⟩; obtain ⟨hc_w4, hf_w4⟩ := bcell hb_w4; have z_w4 := hb_w4.size; (try simp only [World.size_alloc, World.size_setCell, World.size_drew, World.heap_drewN] at z_w4); have zz_w4_w_0_0 : w.heap.size < w4.heap.size := (by omega); have zz_w4_w_0_1 : w.heap.size < w4.heap.size + 1 := (by omega); have zz_w4_w_0_2 : w.heap.size < w4.heap.size + 1 + 1 := (by omega); have zz_w4_w_0_3 : w.heap.size < w4.heap.size + 1 + 1 + 1 := (by omega); have zz_w4_w_1_0 : w.heap.size + 1 < w4.heap.size := (by omega); have zz_w4_w_1_1 : w.heap.size + 1 < w4.heap.size + 1 := (by omega); have zz_w4_w_1_2 : w.heap.size + 1 < w4.heap.size + 1 + 1 := (by omega); have zz_w4_w_1_3 : w.heap.size + 1 < w4.heap.size + 1 + 1 + 1 := (by omega)))))
      go_ret
      exact ⟨ret_bool (by rw [He.out]; rfl), (by (repeat' (with_reducible first | exact bl0 | apply bl4 | apply bl5 | apply bl1 | refine bl2 ?_ (by first | omega | (simp only [World.size_alloc, World.size_setCell, World.size_drew]; omega)) | refine bl3 (by assumption) ?_)))⟩
  have b1 : (l.kind == 1) = false := by simpa using k1
  by_cases k2 : l.kind = 2
  · have He := hide (show endsE c l = (n1 && a2) from by simp [endsE, e0, k2, hn1, ha2])
    have b2 : (l.kind == 2) = true := by simpa using k2
    clear hn1 hn2 ha1 ha2 e0 k1 k2
    cases n1 <;> cases a2
    all_goals
      go_enter Try.func24, Try.ntmps24
      go_wp2_with (first | (go_at_call 25; (first | ((with_reducible refine (rNode_calls c l.frm _).mono ?_); rw [N1.out]; rintro e w1 ⟨rfl, hb_w1⟩; obtain ⟨hc_w1, hf_w1⟩ := bcell hb_w1; have z_w1 := hb_w1.size; (try simp only [World.size_alloc, World.size_setCell, World.size_drew, World.heap_drewN] at z_w1); have zz_w1_w_0_0 : w.heap.size < w1.heap.size := (by omega); have zz_w1_w_0_1 : w.heap.size < w1.heap.size + 1 := (by omega); have zz_w1_w_0_2 : w.heap.size < w1.heap.size + 1 + 1 := (by omega); have zz_w1_w_0_3 : w.heap.size < w1.heap.size + 1 + 1 + 1 := (by omega); have zz_w1_w_1_0 : w.heap.size + 1 < w1.heap.size := (by omega); have zz_w1_w_1_1 : w.heap.size + 1 < w1.heap.size + 1 := (by omega); have zz_w1_w_1_2 : w.heap.size + 1 < w1.heap.size + 1 + 1 := (by omega); have zz_w1_w_1_3 : w.heap.size + 1 < w1.heap.size + 1 + 1 + 1 := (by omega)) | ((with_reducible refine (rNode_calls c l.to _).mono ?_); rw [N2.out]; rintro e w2 ⟨rfl, hb_w2⟩; obtain ⟨hc_w2, hf_w2⟩ := bcell hb_w2; have z_w2 := hb_w2.size; (try simp only [World.size_alloc, World.size_setCell, World.size_drew, World.heap_drewN] at z_w2); have zz_w2_w_0_0 : w.heap.size < w2.heap.size := (by omega); have zz_w2_w_0_1 : w.heap.size < w2.heap.size + 1 := (by omega); have zz_w2_w_0_2 : w.heap.size < w2.heap.size + 1 + 1 := (by omega); have zz_w2_w_0_3 : w.heap.size < w2.heap.size + 1 + 1 + 1 := (by omega); have zz_w2_w_1_0 : w.heap.size + 1 < w2.heap.size := (by omega); have zz_w2_w_1_1 : w.heap.size + 1 < w2.heap.size + 1 := (by omega); have zz_w2_w_1_2 : w.heap.size + 1 < w2.heap.size + 1 + 1 := (by omega); have zz_w2_w_1_3 : w.heap.size + 1 < w2.heap.size + 1 + 1 + 1 := (by omega)))) | (go_at_call 17; (first | ((with_reducible refine (rAny_calls c l.frm _).mono ?_); rw [A1.out]; rintro e w3 ⟨rfl, hb_w3⟩; obtain ⟨hc_w3, hf_w3⟩ := bcell hb_w3; have z_w3 := hb_w3.size; (try simp only [World.size_alloc, World.size_setCell, World.size_drew, World.heap_drewN] at z_w3); have zz_w3_w_0_0 : w.heap.size < w3.heap.size := (by omega); have zz_w3_w_0_1 : w.heap.size < w3.heap.size + 1 := (by omega); have zz_w3_w_0_2 : w.heap.size < w3.heap.size + 1 + 1 := (by omega); have zz_w3_w_0_3 : w.heap.size < w3.heap.size + 1 + 1 + 1 := (by omega); have zz_w3_w_1_0 : w.heap.size + 1 < w3.heap.size := (by omega); have zz_w3_w_1_1 : w.heap.size + 1 < w3.heap.size + 1 := (by omega); have zz_w3_w_1_2 : w.heap.size + 1 < w3.heap.size + 1 + 1 := (by omega); have zz_w3_w_1_3 : w.heap.size + 1 < w3.heap.size + 1 + 1 + 1 := (by omega)) | ((with_reducible refine (rAny_calls c l.to _).mono ?_); rw [A2.out]; rintro e w4 ⟨rfl, hb_w4⟩; obtain ⟨hc_w4, hf_w4⟩ := bcell hb_w4; have z_w4 := hb_w4.size; (try simp only [World.size_alloc, World.size_setCell, World.size_drew, World.heap_drewN] at z_w4); have zz_w4_w_0_0 : w.heap.size < w4.heap.size := (by omega); have zz_w4_w_0_1 : w.heap.size < w4.heap.size + 1 := (by omega); have zz_w4_w_0_2 : w.heap.size < w4.heap.size + 1 + 1 := (by omega); have zz_w4_w_0_3 : w.heap.size < w4.heap.size + 1 + 1 + 1 := (by omega); have zz_w4_w_1_0 : w.heap.size + 1 < w4.heap.size := (by omega); have zz_w4_w_1_1 : w.heap.size + 1 < w4.heap.size + 1 := (by omega); have zz_w4_w_1_2 : w.heap.size + 1 < w4.heap.size + 1 + 1 := (by omega); have zz_w4_w_1_3 : w.heap.size + 1 < w4.heap.size + 1 + 1 + 1 := (by omega)))))
      go_ret
      exact ⟨ret_bool (by rw [He.out]; rfl), (by (repeat' (with_reducible first | exact bl0 | apply bl4 | apply bl5 | apply bl1 | refine bl2 ?_ (by first | omega | (simp only [World.size_alloc, World.size_setCell, World.size_drew]; omega)) | refine bl3 (by assumption) ?_)))⟩
  have b2 : (l.kind == 2) = false := by simpa using k2
  obtain ⟨q1, hq1⟩ : ∃ b, (l.frm == c.nodes) = b := ⟨_, rfl⟩
  obtain ⟨q2, hq2⟩ : ∃ b, (l.to == c.nodes) = b := ⟨_, rfl⟩
  have d1 : decide (l.frm = c.nodes) = q1 := by rw [← hq1]; rfl
  have d2 : decide (l.to = c.nodes) = q2 := by rw [← hq2]; rfl
  by_cases k4 : l.kind = 4
  · have He := hide (show endsE c l = (q1 && n2) from by simp only [endsE, e0, k4, hn2, d1]; simp)
    have b4 : (l.kind == 4) = true := by simpa using k4
    have b4' : (l.kind == 4) = true := by rw [k4]; rfl
    clear hn1 hn2 ha1 ha2 e0 k1 k2 k4 d1 d2
    cases q1 <;> cases n2
    all_goals
      go_enter Try.func24, Try.ntmps24
      go_wp2_with (first | (go_at_call 25; (first | ((with_reducible refine (rNode_calls c l.frm _).mono ?_); rw [N1.out]; rintro e w1 ⟨rfl, hb_w1⟩; obtain ⟨hc_w1, hf_w1⟩ := bcell hb_w1; have z_w1 := hb_w1.size; (try simp only [World.size_alloc, World.size_setCell, World.size_drew, World.heap_drewN] at z_w1); have zz_w1_w_0_0 : w.heap.size < w1.heap.size := (by omega); have zz_w1_w_0_1 : w.heap.size < w1.heap.size + 1 := (by omega); have zz_w1_w_0_2 : w.heap.size < w1.heap.size + 1 + 1 := (by omega); have zz_w1_w_0_3 : w.heap.size < w1.heap.size + 1 + 1 + 1 := (by omega); have zz_w1_w_1_0 : w.heap.size + 1 < w1.heap.size := (by omega); have zz_w1_w_1_1 : w.heap.size + 1 < w1.heap.size + 1 := (by omega); have zz_w1_w_1_2 : w.heap.size + 1 < w1.heap.size + 1 + 1 := (by omega); have zz_w1_w_1_3 : w.heap.size + 1 < w1.heap.size + 1 + 1 + 1 := (by omega)) | ((with_reducible refine (rNode_calls c l.to _).mono ?_); rw [N2.out]; rintro e w2 ⟨rfl, hb_w2⟩; obtain ⟨hc_w2, hf_w2⟩ := bcell hb_w2; have z_w2 := hb_w2.size; (try simp only [World.size_alloc, World.size_setCell, World.size_drew, World.heap_drewN] at z_w2); have zz_w2_w_0_0 : w.heap.size < w2.heap.size := (by omega); have zz_w2_w_0_1 : w.heap.size < w2.heap.size + 1 := (by omega); have zz_w2_w_0_2 : w.heap.size < w2.heap.size + 1 + 1 := (by omega); have zz_w2_w_0_3 : w.heap.size < w2.heap.size + 1 + 1 + 1 := (by omega); have zz_w2_w_1_0 : w.heap.size + 1 < w2.heap.size := (by omega); have zz_w2_w_1_1 : w.heap.size + 1 < w2.heap.size + 1 := (by omega); have zz_w2_w_1_2 : w.heap.size + 1 < w2.heap.size + 1 + 1 := (by omega); have zz_w2_w_1_3 : w.heap.size + 1 < w2.heap.size + 1 + 1 + 1 := (by omega)))))
      go_ret
      exact ⟨ret_bool (by rw [He.out]; rfl), (by (repeat' (with_reducible first | exact bl0 | apply bl4 | apply bl5 | apply bl1 | refine bl2 ?_ (by first | omega | (simp only [World.size_alloc, World.size_setCell, World.size_drew]; omega)) | refine bl3 (by assumption) ?_)))⟩
  have b4 : (l.kind == 4) = false := by simpa using k4
  by_cases k6 : l.kind = 6
  · have He := hide (show endsE c l = (q1 && n2) from by simp only [endsE, e0, k6, hn2, d1]; simp)
    have b6 : (l.kind == 6) = true := by simpa using k6
    have b4' : (l.kind == 4) = false := by rw [k6]; rfl
    clear hn1 hn2 ha1 ha2 e0 k1 k2 k6 d1 d2 k4
    cases q1 <;> cases n2
    all_goals
      go_enter Try.func24, Try.ntmps24
      go_wp2_with (first | (go_at_call 25; (first | ((with_reducible refine (rNode_calls c l.frm _).mono ?_); rw [N1.out]; rintro e w1 ⟨rfl, hb_w1⟩; obtain ⟨hc_w1, hf_w1⟩ := bcell hb_w1; have z_w1 := hb_w1.size; (try simp only [World.size_alloc, World.size_setCell, World.size_drew, World.heap_drewN] at z_w1); have zz_w1_w_0_0 : w.heap.size < w1.heap.size := (by omega); have zz_w1_w_0_1 : w.heap.size < w1.heap.size + 1 := (by omega); have zz_w1_w_0_2 : w.heap.size < w1.heap.size + 1 + 1 := (by omega); have zz_w1_w_0_3 : w.heap.size < w1.heap.size + 1 + 1 + 1 := (by omega); have zz_w1_w_1_0 : w.heap.size + 1 < w1.heap.size := (by omega); have zz_w1_w_1_1 : w.heap.size + 1 < w1.heap.size + 1 := (by omega); have zz_w1_w_1_2 : w.heap.size + 1 < w1.heap.size + 1 + 1 := (by omega); have zz_w1_w_1_3 : w.heap.size + 1 < w1.heap.size + 1 + 1 + 1 := (by omega)) | ((with_reducible refine (rNode_calls c l.to _).mono ?_); rw [N2.out]; rintro e w2 ⟨rfl, hb_w2⟩; obtain ⟨hc_w2, hf_w2⟩ := bcell hb_w2; have z_w2 := hb_w2.size; (try simp only [World.size_alloc, World.size_setCell, World.size_drew, World.heap_drewN] at z_w2); have zz_w2_w_0_0 : w.heap.size < w2.heap.size := (by omega); have zz_w2_w_0_1 : w.heap.size < w2.heap.size + 1 := (by omega); have zz_w2_w_0_2 : w.heap.size < w2.heap.size + 1 + 1 := (by omega); have zz_w2_w_0_3 : w.heap.size < w2.heap.size + 1 + 1 + 1 := (by omega); have zz_w2_w_1_0 : w.heap.size + 1 < w2.heap.size := (by omega); have zz_w2_w_1_1 : w.heap.size + 1 < w2.heap.size + 1 := (by omega); have zz_w2_w_1_2 : w.heap.size + 1 < w2.heap.size + 1 + 1 := (by omega); have zz_w2_w_1_3 : w.heap.size + 1 < w2.heap.size + 1 + 1 + 1 := (by omega)))))
      go_ret
      exact ⟨ret_bool (by rw [He.out]; rfl), (by (repeat' (with_reducible first | exact bl0 | apply bl4 | apply bl5 | apply bl1 | refine bl2 ?_ (by first | omega | (simp only [World.size_alloc, World.size_setCell, World.size_drew]; omega)) | refine bl3 (by assumption) ?_)))⟩
  have b6 : (l.kind == 6) = false := by simpa using k6
  have He := hide (show endsE c l = (n1 && q2) from by simp only [endsE, e0, k1, k2, k4, k6, hn1, d2]; simp)
  clear hn1 hn2 ha1 ha2 e0 k1 k2 k4 k6 d1 d2
  cases n1 <;> cases q2
  all_goals
    go_enter Try.func24, Try.ntmps24
    go_wp2_with (first | (go_at_call 25; (first | ((with_reducible refine (rNode_calls c l.frm _).mono ?_); rw [N1.out]; rintro e w1 ⟨rfl, hb_w1⟩; obtain ⟨hc_w1, hf_w1⟩ := bcell hb_w1; have z_w1 := hb_w1.size; (try simp only [World.size_alloc, World.size_setCell, World.size_drew, World.heap_drewN] at z_w1); have zz_w1_w_0_0 : w.heap.size < w1.heap.size := (by omega); have zz_w1_w_0_1 : w.heap.size < w1.heap.size + 1 := (by omega); have zz_w1_w_0_2 : w.heap.size < w1.heap.size + 1 + 1 := (by omega); have zz_w1_w_0_3 : w.heap.size < w1.heap.size + 1 + 1 + 1 := (by omega); have zz_w1_w_1_0 : w.heap.size + 1 < w1.heap.size := (by omega); have zz_w1_w_1_1 : w.heap.size + 1 < w1.heap.size + 1 := (by omega); have zz_w1_w_1_2 : w.heap.size + 1 < w1.heap.size + 1 + 1 := (by omega); have zz_w1_w_1_3 : w.heap.size + 1 < w1.heap.size + 1 + 1 + 1 := (by omega)) | ((with_reducible refine (rNode_calls c l.to _).mono ?_); rw [N2.out]; rintro e w2 ⟨rfl, hb_w2⟩; obtain ⟨hc_w2, hf_w2⟩ := bcell hb_w2; have z_w2 := hb_w2.size; (try simp only [World.size_alloc, World.size_setCell, World.size_drew, World.heap_drewN] at z_w2); have zz_w2_w_0_0 : w.heap.size < w2.heap.size := (by omega); have zz_w2_w_0_1 : w.heap.size < w2.heap.size + 1 := (by omega); have zz_w2_w_0_2 : w.heap.size < w2.heap.size + 1 + 1 := (by omega); have zz_w2_w_0_3 : w.heap.size < w2.heap.size + 1 + 1 + 1 := (by omega); have zz_w2_w_1_0 : w.heap.size + 1 < w2.heap.size := (by omega); have zz_w2_w_1_1 : w.heap.size + 1 < w2.heap.size + 1 := (by omega); have zz_w2_w_1_2 : w.heap.size + 1 < w2.heap.size + 1 + 1 := (by omega); have zz_w2_w_1_3 : w.heap.size + 1 < w2.heap.size + 1 + 1 + 1 := (by omega)))))
    go_ret
    exact ⟨ret_bool (by rw [He.out]; rfl), (by (repeat' (with_reducible first | exact bl0 | apply bl4 | apply bl5 | apply bl1 | refine bl2 ?_ (by first | omega | (simp only [World.size_alloc, World.size_setCell, World.size_drew]; omega)) | refine bl3 (by assumption) ?_)))⟩
end Go.Proofs.Ytaajighbnkifhaa
