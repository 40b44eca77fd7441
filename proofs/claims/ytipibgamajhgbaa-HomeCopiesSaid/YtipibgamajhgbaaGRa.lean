/- What the functions of layer 4's reference come to. -/
import Derived.Test.YtipibgamajhgbaaGCa
import Derived.Test.YtipibgamajhgbaaGCb
namespace Go.Proofs.Ytipibgamajhgbaa
open Go.RowKit
set_option linter.unusedVariables false
set_option linter.unusedSimpArgs false
set_option maxHeartbeats 8000000 in
theorem rConfig_calls (c : Cfg) (w : World) : Calls Try.prog 21 #[.agg #[.int .i64 c.nodes, .int .i64 c.blocks, .int .i64 c.tokens, .int .i64 c.sets, .int .i64 c.ways, .int .i64 c.cap, .int .i64 c.wait, .int .i64 c.tries, .int .i64 c.policy]] w fun e w' => e = .returned (.int .i64 (cfgE c)) ∧ Below w.heap.size w w' := by
  by_cases l0 : c.sets < 1
  · have He := hide (show cfgE c = 1 from by
      have e0 : within c.sets 1 64 = false := by simp [within]; omega
      simp [cfgE, e0])
    go_enter Try.func21, Try.ntmps21
    go_wp2
    go_ret
    exact ⟨ret_int (by rw [He.out]), (by (repeat' (with_reducible first | exact bl0 | apply bl4 | apply bl5 | apply bl1 | refine bl2 ?_ (by first | omega | (simp only [World.size_alloc, World.size_setCell, World.size_drew]; omega)) | refine bl3 (by assumption) ?_)))⟩
  by_cases h0 : 64 < c.sets
  · have He := hide (show cfgE c = 1 from by
      have e0 : within c.sets 1 64 = false := by simp [within]; omega
      simp [cfgE, e0])
    go_enter Try.func21, Try.ntmps21
    go_wp2
    go_ret
    exact ⟨ret_int (by rw [He.out]), (by (repeat' (with_reducible first | exact bl0 | apply bl4 | apply bl5 | apply bl1 | refine bl2 ?_ (by first | omega | (simp only [World.size_alloc, World.size_setCell, World.size_drew]; omega)) | refine bl3 (by assumption) ?_)))⟩
  by_cases l1 : c.ways < 1
  · have He := hide (show cfgE c = 1 from by
      have e1 : within c.ways 1 16 = false := by simp [within]; omega
      have e0 : within c.sets 1 64 = true := by simp [within]; omega
      simp [cfgE, e0, e1])
    go_enter Try.func21, Try.ntmps21
    go_wp2
    go_ret
    exact ⟨ret_int (by rw [He.out]), (by (repeat' (with_reducible first | exact bl0 | apply bl4 | apply bl5 | apply bl1 | refine bl2 ?_ (by first | omega | (simp only [World.size_alloc, World.size_setCell, World.size_drew]; omega)) | refine bl3 (by assumption) ?_)))⟩
  by_cases h1 : 16 < c.ways
  · have He := hide (show cfgE c = 1 from by
      have e1 : within c.ways 1 16 = false := by simp [within]; omega
      have e0 : within c.sets 1 64 = true := by simp [within]; omega
      simp [cfgE, e0, e1])
    go_enter Try.func21, Try.ntmps21
    go_wp2
    go_ret
    exact ⟨ret_int (by rw [He.out]), (by (repeat' (with_reducible first | exact bl0 | apply bl4 | apply bl5 | apply bl1 | refine bl2 ?_ (by first | omega | (simp only [World.size_alloc, World.size_setCell, World.size_drew]; omega)) | refine bl3 (by assumption) ?_)))⟩
  by_cases l2 : c.cap < 1
  · have He := hide (show cfgE c = 1 from by
      have e2 : within c.cap 1 65536 = false := by simp [within]; omega
      have e0 : within c.sets 1 64 = true := by simp [within]; omega
      have e1 : within c.ways 1 16 = true := by simp [within]; omega
      simp [cfgE, e0, e1, e2])
    go_enter Try.func21, Try.ntmps21
    go_wp2
    go_ret
    exact ⟨ret_int (by rw [He.out]), (by (repeat' (with_reducible first | exact bl0 | apply bl4 | apply bl5 | apply bl1 | refine bl2 ?_ (by first | omega | (simp only [World.size_alloc, World.size_setCell, World.size_drew]; omega)) | refine bl3 (by assumption) ?_)))⟩
  by_cases h2 : 65536 < c.cap
  · have He := hide (show cfgE c = 1 from by
      have e2 : within c.cap 1 65536 = false := by simp [within]; omega
      have e0 : within c.sets 1 64 = true := by simp [within]; omega
      have e1 : within c.ways 1 16 = true := by simp [within]; omega
      simp [cfgE, e0, e1, e2])
    go_enter Try.func21, Try.ntmps21
    go_wp2
    go_ret
    exact ⟨ret_int (by rw [He.out]), (by (repeat' (with_reducible first | exact bl0 | apply bl4 | apply bl5 | apply bl1 | refine bl2 ?_ (by first | omega | (simp only [World.size_alloc, World.size_setCell, World.size_drew]; omega)) | refine bl3 (by assumption) ?_)))⟩
  by_cases l3 : c.wait < 1
  · have He := hide (show cfgE c = 1 from by
      have e3 : within c.wait 1 64 = false := by simp [within]; omega
      have e0 : within c.sets 1 64 = true := by simp [within]; omega
      have e1 : within c.ways 1 16 = true := by simp [within]; omega
      have e2 : within c.cap 1 65536 = true := by simp [within]; omega
      simp [cfgE, e0, e1, e2, e3])
    go_enter Try.func21, Try.ntmps21
    go_wp2
    go_ret
    exact ⟨ret_int (by rw [He.out]), (by (repeat' (with_reducible first | exact bl0 | apply bl4 | apply bl5 | apply bl1 | refine bl2 ?_ (by first | omega | (simp only [World.size_alloc, World.size_setCell, World.size_drew]; omega)) | refine bl3 (by assumption) ?_)))⟩
  by_cases h3 : 64 < c.wait
  · have He := hide (show cfgE c = 1 from by
      have e3 : within c.wait 1 64 = false := by simp [within]; omega
      have e0 : within c.sets 1 64 = true := by simp [within]; omega
      have e1 : within c.ways 1 16 = true := by simp [within]; omega
      have e2 : within c.cap 1 65536 = true := by simp [within]; omega
      simp [cfgE, e0, e1, e2, e3])
    go_enter Try.func21, Try.ntmps21
    go_wp2
    go_ret
    exact ⟨ret_int (by rw [He.out]), (by (repeat' (with_reducible first | exact bl0 | apply bl4 | apply bl5 | apply bl1 | refine bl2 ?_ (by first | omega | (simp only [World.size_alloc, World.size_setCell, World.size_drew]; omega)) | refine bl3 (by assumption) ?_)))⟩
  by_cases l4 : c.tries < 0
  · have He := hide (show cfgE c = 1 from by
      have e4 : within c.tries 0 8 = false := by simp [within]; omega
      have e0 : within c.sets 1 64 = true := by simp [within]; omega
      have e1 : within c.ways 1 16 = true := by simp [within]; omega
      have e2 : within c.cap 1 65536 = true := by simp [within]; omega
      have e3 : within c.wait 1 64 = true := by simp [within]; omega
      simp [cfgE, e0, e1, e2, e3, e4])
    go_enter Try.func21, Try.ntmps21
    go_wp2
    go_ret
    exact ⟨ret_int (by rw [He.out]), (by (repeat' (with_reducible first | exact bl0 | apply bl4 | apply bl5 | apply bl1 | refine bl2 ?_ (by first | omega | (simp only [World.size_alloc, World.size_setCell, World.size_drew]; omega)) | refine bl3 (by assumption) ?_)))⟩
  by_cases h4 : 8 < c.tries
  · have He := hide (show cfgE c = 1 from by
      have e4 : within c.tries 0 8 = false := by simp [within]; omega
      have e0 : within c.sets 1 64 = true := by simp [within]; omega
      have e1 : within c.ways 1 16 = true := by simp [within]; omega
      have e2 : within c.cap 1 65536 = true := by simp [within]; omega
      have e3 : within c.wait 1 64 = true := by simp [within]; omega
      simp [cfgE, e0, e1, e2, e3, e4])
    go_enter Try.func21, Try.ntmps21
    go_wp2
    go_ret
    exact ⟨ret_int (by rw [He.out]), (by (repeat' (with_reducible first | exact bl0 | apply bl4 | apply bl5 | apply bl1 | refine bl2 ?_ (by first | omega | (simp only [World.size_alloc, World.size_setCell, World.size_drew]; omega)) | refine bl3 (by assumption) ?_)))⟩
  by_cases l5 : c.policy < 0
  · have He := hide (show cfgE c = 1 from by
      have e5 : within c.policy 0 2 = false := by simp [within]; omega
      have e0 : within c.sets 1 64 = true := by simp [within]; omega
      have e1 : within c.ways 1 16 = true := by simp [within]; omega
      have e2 : within c.cap 1 65536 = true := by simp [within]; omega
      have e3 : within c.wait 1 64 = true := by simp [within]; omega
      have e4 : within c.tries 0 8 = true := by simp [within]; omega
      simp [cfgE, e0, e1, e2, e3, e4, e5])
    go_enter Try.func21, Try.ntmps21
    go_wp2
    go_ret
    exact ⟨ret_int (by rw [He.out]), (by (repeat' (with_reducible first | exact bl0 | apply bl4 | apply bl5 | apply bl1 | refine bl2 ?_ (by first | omega | (simp only [World.size_alloc, World.size_setCell, World.size_drew]; omega)) | refine bl3 (by assumption) ?_)))⟩
  by_cases h5 : 2 < c.policy
  · have He := hide (show cfgE c = 1 from by
      have e5 : within c.policy 0 2 = false := by simp [within]; omega
      have e0 : within c.sets 1 64 = true := by simp [within]; omega
      have e1 : within c.ways 1 16 = true := by simp [within]; omega
      have e2 : within c.cap 1 65536 = true := by simp [within]; omega
      have e3 : within c.wait 1 64 = true := by simp [within]; omega
      have e4 : within c.tries 0 8 = true := by simp [within]; omega
      simp [cfgE, e0, e1, e2, e3, e4, e5])
    go_enter Try.func21, Try.ntmps21
    go_wp2
    go_ret
    exact ⟨ret_int (by rw [He.out]), (by (repeat' (with_reducible first | exact bl0 | apply bl4 | apply bl5 | apply bl1 | refine bl2 ?_ (by first | omega | (simp only [World.size_alloc, World.size_setCell, World.size_drew]; omega)) | refine bl3 (by assumption) ?_)))⟩
  by_cases l6 : c.nodes < 1
  · have He := hide (show cfgE c = 2 from by
      have e6 : within c.nodes 1 64 = false := by simp [within]; omega
      have e0 : within c.sets 1 64 = true := by simp [within]; omega
      have e1 : within c.ways 1 16 = true := by simp [within]; omega
      have e2 : within c.cap 1 65536 = true := by simp [within]; omega
      have e3 : within c.wait 1 64 = true := by simp [within]; omega
      have e4 : within c.tries 0 8 = true := by simp [within]; omega
      have e5 : within c.policy 0 2 = true := by simp [within]; omega
      simp [cfgE, e0, e1, e2, e3, e4, e5, e6])
    go_enter Try.func21, Try.ntmps21
    go_wp2
    go_ret
    exact ⟨ret_int (by rw [He.out]), (by (repeat' (with_reducible first | exact bl0 | apply bl4 | apply bl5 | apply bl1 | refine bl2 ?_ (by first | omega | (simp only [World.size_alloc, World.size_setCell, World.size_drew]; omega)) | refine bl3 (by assumption) ?_)))⟩
  by_cases h6 : 64 < c.nodes
  · have He := hide (show cfgE c = 2 from by
      have e6 : within c.nodes 1 64 = false := by simp [within]; omega
      have e0 : within c.sets 1 64 = true := by simp [within]; omega
      have e1 : within c.ways 1 16 = true := by simp [within]; omega
      have e2 : within c.cap 1 65536 = true := by simp [within]; omega
      have e3 : within c.wait 1 64 = true := by simp [within]; omega
      have e4 : within c.tries 0 8 = true := by simp [within]; omega
      have e5 : within c.policy 0 2 = true := by simp [within]; omega
      simp [cfgE, e0, e1, e2, e3, e4, e5, e6])
    go_enter Try.func21, Try.ntmps21
    go_wp2
    go_ret
    exact ⟨ret_int (by rw [He.out]), (by (repeat' (with_reducible first | exact bl0 | apply bl4 | apply bl5 | apply bl1 | refine bl2 ?_ (by first | omega | (simp only [World.size_alloc, World.size_setCell, World.size_drew]; omega)) | refine bl3 (by assumption) ?_)))⟩
  by_cases l7 : c.blocks < 1
  · have He := hide (show cfgE c = 3 from by
      have e7 : within c.blocks 1 64 = false := by simp [within]; omega
      have e0 : within c.sets 1 64 = true := by simp [within]; omega
      have e1 : within c.ways 1 16 = true := by simp [within]; omega
      have e2 : within c.cap 1 65536 = true := by simp [within]; omega
      have e3 : within c.wait 1 64 = true := by simp [within]; omega
      have e4 : within c.tries 0 8 = true := by simp [within]; omega
      have e5 : within c.policy 0 2 = true := by simp [within]; omega
      have e6 : within c.nodes 1 64 = true := by simp [within]; omega
      simp [cfgE, e0, e1, e2, e3, e4, e5, e6, e7])
    go_enter Try.func21, Try.ntmps21
    go_wp2
    go_ret
    exact ⟨ret_int (by rw [He.out]), (by (repeat' (with_reducible first | exact bl0 | apply bl4 | apply bl5 | apply bl1 | refine bl2 ?_ (by first | omega | (simp only [World.size_alloc, World.size_setCell, World.size_drew]; omega)) | refine bl3 (by assumption) ?_)))⟩
  by_cases h7 : 64 < c.blocks
  · have He := hide (show cfgE c = 3 from by
      have e7 : within c.blocks 1 64 = false := by simp [within]; omega
      have e0 : within c.sets 1 64 = true := by simp [within]; omega
      have e1 : within c.ways 1 16 = true := by simp [within]; omega
      have e2 : within c.cap 1 65536 = true := by simp [within]; omega
      have e3 : within c.wait 1 64 = true := by simp [within]; omega
      have e4 : within c.tries 0 8 = true := by simp [within]; omega
      have e5 : within c.policy 0 2 = true := by simp [within]; omega
      have e6 : within c.nodes 1 64 = true := by simp [within]; omega
      simp [cfgE, e0, e1, e2, e3, e4, e5, e6, e7])
    go_enter Try.func21, Try.ntmps21
    go_wp2
    go_ret
    exact ⟨ret_int (by rw [He.out]), (by (repeat' (with_reducible first | exact bl0 | apply bl4 | apply bl5 | apply bl1 | refine bl2 ?_ (by first | omega | (simp only [World.size_alloc, World.size_setCell, World.size_drew]; omega)) | refine bl3 (by assumption) ?_)))⟩
  by_cases l8 : c.tokens < c.nodes
  · have He := hide (show cfgE c = 4 from by
      have e8 : within c.tokens c.nodes 65536 = false := by simp [within]; omega
      have e0 : within c.sets 1 64 = true := by simp [within]; omega
      have e1 : within c.ways 1 16 = true := by simp [within]; omega
      have e2 : within c.cap 1 65536 = true := by simp [within]; omega
      have e3 : within c.wait 1 64 = true := by simp [within]; omega
      have e4 : within c.tries 0 8 = true := by simp [within]; omega
      have e5 : within c.policy 0 2 = true := by simp [within]; omega
      have e6 : within c.nodes 1 64 = true := by simp [within]; omega
      have e7 : within c.blocks 1 64 = true := by simp [within]; omega
      simp [cfgE, e0, e1, e2, e3, e4, e5, e6, e7, e8])
    go_enter Try.func21, Try.ntmps21
    go_wp2
    go_ret
    exact ⟨ret_int (by rw [He.out]), (by (repeat' (with_reducible first | exact bl0 | apply bl4 | apply bl5 | apply bl1 | refine bl2 ?_ (by first | omega | (simp only [World.size_alloc, World.size_setCell, World.size_drew]; omega)) | refine bl3 (by assumption) ?_)))⟩
  by_cases h8 : 65536 < c.tokens
  · have He := hide (show cfgE c = 4 from by
      have e8 : within c.tokens c.nodes 65536 = false := by simp [within]; omega
      have e0 : within c.sets 1 64 = true := by simp [within]; omega
      have e1 : within c.ways 1 16 = true := by simp [within]; omega
      have e2 : within c.cap 1 65536 = true := by simp [within]; omega
      have e3 : within c.wait 1 64 = true := by simp [within]; omega
      have e4 : within c.tries 0 8 = true := by simp [within]; omega
      have e5 : within c.policy 0 2 = true := by simp [within]; omega
      have e6 : within c.nodes 1 64 = true := by simp [within]; omega
      have e7 : within c.blocks 1 64 = true := by simp [within]; omega
      simp [cfgE, e0, e1, e2, e3, e4, e5, e6, e7, e8])
    go_enter Try.func21, Try.ntmps21
    go_wp2
    go_ret
    exact ⟨ret_int (by rw [He.out]), (by (repeat' (with_reducible first | exact bl0 | apply bl4 | apply bl5 | apply bl1 | refine bl2 ?_ (by first | omega | (simp only [World.size_alloc, World.size_setCell, World.size_drew]; omega)) | refine bl3 (by assumption) ?_)))⟩
  have He := hide (show cfgE c = 0 from by
    have e0 : within c.sets 1 64 = true := by simp [within]; omega
    have e1 : within c.ways 1 16 = true := by simp [within]; omega
    have e2 : within c.cap 1 65536 = true := by simp [within]; omega
    have e3 : within c.wait 1 64 = true := by simp [within]; omega
    have e4 : within c.tries 0 8 = true := by simp [within]; omega
    have e5 : within c.policy 0 2 = true := by simp [within]; omega
    have e6 : within c.nodes 1 64 = true := by simp [within]; omega
    have e7 : within c.blocks 1 64 = true := by simp [within]; omega
    have e8 : within c.tokens c.nodes 65536 = true := by simp [within]; omega
    simp [cfgE, e0, e1, e2, e3, e4, e5, e6, e7, e8])
  go_enter Try.func21, Try.ntmps21
  go_wp2
  go_ret
  exact ⟨ret_int (by rw [He.out]), (by (repeat' (with_reducible first | exact bl0 | apply bl4 | apply bl5 | apply bl1 | refine bl2 ?_ (by first | omega | (simp only [World.size_alloc, World.size_setCell, World.size_drew]; omega)) | refine bl3 (by assumption) ?_)))⟩
theorem rNode_calls (c : Cfg) (n : Int) (w : World) : Calls Try.prog 14 #[.agg #[.int .i64 c.nodes, .int .i64 c.blocks, .int .i64 c.tokens, .int .i64 c.sets, .int .i64 c.ways, .int .i64 c.cap, .int .i64 c.wait, .int .i64 c.tries, .int .i64 c.policy], .int .i64 n] w fun e w' => e = .returned (.bool (nodeE c n)) ∧ Below w.heap.size w w' := by
  by_cases h1 : 0 ≤ n
  all_goals
    go_enter Try.func14, Try.ntmps14
    go_wp2
    all_goals
      go_ret
      exact ⟨ret_bool (by simp [nodeE]; try omega), (by (repeat' (with_reducible first | exact bl0 | apply bl4 | apply bl5 | apply bl1 | refine bl2 ?_ (by first | omega | (simp only [World.size_alloc, World.size_setCell, World.size_drew]; omega)) | refine bl3 (by assumption) ?_)))⟩
theorem rAny_calls (c : Cfg) (n : Int) (w : World) : Calls Try.prog 57 #[.agg #[.int .i64 c.nodes, .int .i64 c.blocks, .int .i64 c.tokens, .int .i64 c.sets, .int .i64 c.ways, .int .i64 c.cap, .int .i64 c.wait, .int .i64 c.tries, .int .i64 c.policy], .int .i64 n] w fun e w' => e = .returned (.bool (anyE c n)) ∧ Below w.heap.size w w' := by
  by_cases q : n = c.nodes
  · have b1 : (n == c.nodes) = true := by simpa using q
    have Q := hide q
    clear q
    go_enter Try.func57, Try.ntmps57
    go_wp2
    go_ret
    exact ⟨ret_bool (by simp [anyE, Q.out]), (by (repeat' (with_reducible first | exact bl0 | apply bl4 | apply bl5 | apply bl1 | refine bl2 ?_ (by first | omega | (simp only [World.size_alloc, World.size_setCell, World.size_drew]; omega)) | refine bl3 (by assumption) ?_)))⟩
  · have b1 : (n == c.nodes) = false := by simpa using q
    have Q := hide q
    clear q
    go_enter Try.func57, Try.ntmps57
    go_wp2_with (go_at_call 14; refine (rNode_calls c n _).mono ?_; rintro e w1 ⟨rfl, hb_w1⟩; obtain ⟨hc_w1, hf_w1⟩ := bcell hb_w1; have z_w1 := hb_w1.size; (try simp only [World.size_alloc, World.size_setCell, World.size_drew, World.heap_drewN] at z_w1); have zz_w1_w_0_0 : w.heap.size < w1.heap.size := (by omega); have zz_w1_w_0_1 : w.heap.size < w1.heap.size + 1 := (by omega); have zz_w1_w_0_2 : w.heap.size < w1.heap.size + 1 + 1 := (by omega); have zz_w1_w_0_3 : w.heap.size < w1.heap.size + 1 + 1 + 1 := (by omega))
    go_ret
    exact ⟨ret_bool (by simp [anyE, Q.out]), (by (repeat' (with_reducible first | exact bl0 | apply bl4 | apply bl5 | apply bl1 | refine bl2 ?_ (by first | omega | (simp only [World.size_alloc, World.size_setCell, World.size_drew]; omega)) | refine bl3 (by assumption) ?_)))⟩
end Go.Proofs.Ytipibgamajhgbaa

namespace Go.Proofs.Ytipibgamajhgbaa
open Go.RowKit
set_option linter.unusedVariables false
set_option linter.unusedSimpArgs false
set_option maxHeartbeats 8000000 in
theorem rends_calls (c : Cfg) (l : Ltr) (w : World) : Calls Try.prog 28 #[.agg #[.int .i64 c.nodes, .int .i64 c.blocks, .int .i64 c.tokens, .int .i64 c.sets, .int .i64 c.ways, .int .i64 c.cap, .int .i64 c.wait, .int .i64 c.tries, .int .i64 c.policy], .agg #[.int .i64 l.kind, .int .i64 l.frm, .int .i64 l.to, .int .i64 l.block, .int .i64 l.seq, .int .i64 l.who, .bool l.wr, .int .i64 l.tok.c, .bool l.tok.o, .bool l.tok.h, .int .i64 l.tok.d]] w fun e w' => e = .returned (.bool (endsE c l)) ∧ Below w.heap.size w w' := by
  obtain ⟨n1, hn1⟩ : ∃ b, nodeE c l.frm = b := ⟨_, rfl⟩
  obtain ⟨n2, hn2⟩ : ∃ b, nodeE c l.to = b := ⟨_, rfl⟩
  obtain ⟨a1, ha1⟩ : ∃ b, anyE c l.frm = b := ⟨_, rfl⟩
  obtain ⟨a2, ha2⟩ : ∃ b, anyE c l.to = b := ⟨_, rfl⟩
  have N1 := hide hn1
  have N2 := hide hn2
  have A1 := hide ha1
  have A2 := hide ha2
  by_cases e0 : l.frm = l.to
  · have He := hide (show endsE c l = false from by simp [endsE, e0])
    have e1 : (l.frm == l.to) = true := by simpa using e0
    clear hn1 hn2 ha1 ha2 e0
    go_enter Try.func28, Try.ntmps28
    go_wp2
    go_ret
    exact ⟨ret_bool (by rw [He.out]), (by (repeat' (with_reducible first | exact bl0 | apply bl4 | apply bl5 | apply bl1 | refine bl2 ?_ (by first | omega | (simp only [World.size_alloc, World.size_setCell, World.size_drew]; omega)) | refine bl3 (by assumption) ?_)))⟩
  have e1 : (l.frm == l.to) = false := by simpa using e0
  by_cases k1 : l.kind = 1
  · have He := hide (show endsE c l = (a1 && a2) from by simp [endsE, e0, k1, ha1, ha2])
    have b1 : (l.kind == 1) = true := by simpa using k1
    clear hn1 hn2 ha1 ha2 e0 k1
    cases a1 <;> cases a2
    all_goals
      go_enter Try.func28, Try.ntmps28
      go_wp2_with (first | (go_at_call 57; (first | ((with_reducible refine (rAny_calls c l.frm _).mono ?_); rw [A1.out]; rintro e w3 ⟨rfl, hb_w3⟩; obtain ⟨hc_w3, hf_w3⟩ := bcell hb_w3; have z_w3 := hb_w3.size; (try simp only [World.size_alloc, World.size_setCell, World.size_drew, World.heap_drewN] at z_w3); have zz_w3_w_0_0 : w.heap.size < w3.heap.size := (by omega); have zz_w3_w_0_1 : w.heap.size < w3.heap.size + 1 := (by omega); have zz_w3_w_0_2 : w.heap.size < w3.heap.size + 1 + 1 := (by omega); have zz_w3_w_0_3 : w.heap.size < w3.heap.size + 1 + 1 + 1 := (by omega); have zz_w3_w_1_0 : w.heap.size + 1 < w3.heap.size := (by omega); have zz_w3_w_1_1 : w.heap.size + 1 < w3.heap.size + 1 := (by omega); have zz_w3_w_1_2 : w.heap.size + 1 < w3.heap.size + 1 + 1 := (by omega); have zz_w3_w_1_3 : w.heap.size + 1 < w3.heap.size + 1 + 1 + 1 := (by omega)) | ((with_reducible refine (rAny_calls c l.to _).mono ?_); rw [A2.out]; rintro e w4 ⟨rfl, hb_w4⟩; obtain ⟨hc_w4, hf_w4⟩ := bcell hb_w4; have z_w4 := hb_w4.size; (try simp only [World.size_alloc, World.size_setCell, World.size_drew, World.heap_drewN] at z_w4); have zz_w4_w_0_0 : w.heap.size < w4.heap.size := (by omega); have zz_w4_w_0_1 : w.heap.size < w4.heap.size + 1 := (by omega); have zz_w4_w_0_2 : w.heap.size < w4.heap.size + 1 + 1 := (by omega); have zz_w4_w_0_3 : w.heap.size < w4.heap.size + 1 + 1 + 1 := (by omega); have zz_w4_w_1_0 : w.heap.size + 1 < w4.heap.size := (by omega); have zz_w4_w_1_1 : w.heap.size + 1 < w4.heap.size + 1 := (by omega); have zz_w4_w_1_2 : w.heap.size + 1 < w4.heap.size + 1 + 1 := (by omega); have zz_w4_w_1_3 : w.heap.size + 1 < w4.heap.size + 1 + 1 + 1 := (by omega)))))
      go_ret
      exact ⟨ret_bool (by rw [He.out]; rfl), (by (repeat' (with_reducible first | exact bl0 | apply bl4 | apply bl5 | apply bl1 | refine bl2 ?_ (by first | omega | (simp only [World.size_alloc, World.size_setCell, World.size_drew]; omega)) | refine bl3 (by assumption) ?_)))⟩
  have b1 : (l.kind == 1) = false := by simpa using k1
  by_cases k2 : l.kind = 2
  · have He := hide (show endsE c l = (n1 && a2) from by simp [endsE, e0, k2, hn1, ha2])
    have b2 : (l.kind == 2) = true := by simpa using k2
    clear hn1 hn2 ha1 ha2 e0 k1 k2
    cases n1 <;> cases a2
    all_goals
      go_enter Try.func28, Try.ntmps28
      go_wp2_with (first | (go_at_call 14; (first | ((with_reducible refine (rNode_calls c l.frm _).mono ?_); rw [N1.out]; rintro e w1 ⟨rfl, hb_w1⟩; obtain ⟨hc_w1, hf_w1⟩ := bcell hb_w1; have z_w1 := hb_w1.size; (try simp only [World.size_alloc, World.size_setCell, World.size_drew, World.heap_drewN] at z_w1); have zz_w1_w_0_0 : w.heap.size < w1.heap.size := (by omega); have zz_w1_w_0_1 : w.heap.size < w1.heap.size + 1 := (by omega); have zz_w1_w_0_2 : w.heap.size < w1.heap.size + 1 + 1 := (by omega); have zz_w1_w_0_3 : w.heap.size < w1.heap.size + 1 + 1 + 1 := (by omega); have zz_w1_w_1_0 : w.heap.size + 1 < w1.heap.size := (by omega); have zz_w1_w_1_1 : w.heap.size + 1 < w1.heap.size + 1 := (by omega); have zz_w1_w_1_2 : w.heap.size + 1 < w1.heap.size + 1 + 1 := (by omega); have zz_w1_w_1_3 : w.heap.size + 1 < w1.heap.size + 1 + 1 + 1 := (by omega)) | ((with_reducible refine (rNode_calls c l.to _).mono ?_); rw [N2.out]; rintro e w2 ⟨rfl, hb_w2⟩; obtain ⟨hc_w2, hf_w2⟩ := bcell hb_w2; have z_w2 := hb_w2.size; (try simp only [World.size_alloc, World.size_setCell, World.size_drew, World.heap_drewN] at z_w2); have zz_w2_w_0_0 : w.heap.size < w2.heap.size := (by omega); have zz_w2_w_0_1 : w.heap.size < w2.heap.size + 1 := (by omega); have zz_w2_w_0_2 : w.heap.size < w2.heap.size + 1 + 1 := (by omega); have zz_w2_w_0_3 : w.heap.size < w2.heap.size + 1 + 1 + 1 := (by omega); have zz_w2_w_1_0 : w.heap.size + 1 < w2.heap.size := (by omega); have zz_w2_w_1_1 : w.heap.size + 1 < w2.heap.size + 1 := (by omega); have zz_w2_w_1_2 : w.heap.size + 1 < w2.heap.size + 1 + 1 := (by omega); have zz_w2_w_1_3 : w.heap.size + 1 < w2.heap.size + 1 + 1 + 1 := (by omega)))) | (go_at_call 57; (first | ((with_reducible refine (rAny_calls c l.frm _).mono ?_); rw [A1.out]; rintro e w3 ⟨rfl, hb_w3⟩; obtain ⟨hc_w3, hf_w3⟩ := bcell hb_w3; have z_w3 := hb_w3.size; (try simp only [World.size_alloc, World.size_setCell, World.size_drew, World.heap_drewN] at z_w3); have zz_w3_w_0_0 : w.heap.size < w3.heap.size := (by omega); have zz_w3_w_0_1 : w.heap.size < w3.heap.size + 1 := (by omega); have zz_w3_w_0_2 : w.heap.size < w3.heap.size + 1 + 1 := (by omega); have zz_w3_w_0_3 : w.heap.size < w3.heap.size + 1 + 1 + 1 := (by omega); have zz_w3_w_1_0 : w.heap.size + 1 < w3.heap.size := (by omega); have zz_w3_w_1_1 : w.heap.size + 1 < w3.heap.size + 1 := (by omega); have zz_w3_w_1_2 : w.heap.size + 1 < w3.heap.size + 1 + 1 := (by omega); have zz_w3_w_1_3 : w.heap.size + 1 < w3.heap.size + 1 + 1 + 1 := (by omega)) | ((with_reducible refine (rAny_calls c l.to _).mono ?_); rw [A2.out]; rintro e w4 ⟨rfl, hb_w4⟩; obtain ⟨hc_w4, hf_w4⟩ := bcell hb_w4; have z_w4 := hb_w4.size; (try simp only [World.size_alloc, World.size_setCell, World.size_drew, World.heap_drewN] at z_w4); have zz_w4_w_0_0 : w.heap.size < w4.heap.size := (by omega); have zz_w4_w_0_1 : w.heap.size < w4.heap.size + 1 := (by omega); have zz_w4_w_0_2 : w.heap.size < w4.heap.size + 1 + 1 := (by omega); have zz_w4_w_0_3 : w.heap.size < w4.heap.size + 1 + 1 + 1 := (by omega); have zz_w4_w_1_0 : w.heap.size + 1 < w4.heap.size := (by omega); have zz_w4_w_1_1 : w.heap.size + 1 < w4.heap.size + 1 := (by omega); have zz_w4_w_1_2 : w.heap.size + 1 < w4.heap.size + 1 + 1 := (by omega); have zz_w4_w_1_3 : w.heap.size + 1 < w4.heap.size + 1 + 1 + 1 := (by omega)))))
      go_ret
      exact ⟨ret_bool (by rw [He.out]; rfl), (by (repeat' (with_reducible first | exact bl0 | apply bl4 | apply bl5 | apply bl1 | refine bl2 ?_ (by first | omega | (simp only [World.size_alloc, World.size_setCell, World.size_drew]; omega)) | refine bl3 (by assumption) ?_)))⟩
  have b2 : (l.kind == 2) = false := by simpa using k2
  obtain ⟨q1, hq1⟩ : ∃ b, (l.frm == c.nodes) = b := ⟨_, rfl⟩
  obtain ⟨q2, hq2⟩ : ∃ b, (l.to == c.nodes) = b := ⟨_, rfl⟩
  have d1 : decide (l.frm = c.nodes) = q1 := by rw [← hq1]; rfl
  have d2 : decide (l.to = c.nodes) = q2 := by rw [← hq2]; rfl
  by_cases k4 : l.kind = 4
  · have He := hide (show endsE c l = (q1 && n2) from by simp only [endsE, e0, k4, hn2, d1]; simp)
    have b4 : (l.kind == 4) = true := by simpa using k4
    have b4' : (l.kind == 4) = true := by rw [k4]; rfl
    clear hn1 hn2 ha1 ha2 e0 k1 k2 k4 d1 d2
    cases q1 <;> cases n2
    all_goals
      go_enter Try.func28, Try.ntmps28
      go_wp2_with (first | (go_at_call 14; (first | ((with_reducible refine (rNode_calls c l.frm _).mono ?_); rw [N1.out]; rintro e w1 ⟨rfl, hb_w1⟩; obtain ⟨hc_w1, hf_w1⟩ := bcell hb_w1; have z_w1 := hb_w1.size; (try simp only [World.size_alloc, World.size_setCell, World.size_drew, World.heap_drewN] at z_w1); have zz_w1_w_0_0 : w.heap.size < w1.heap.size := (by omega); have zz_w1_w_0_1 : w.heap.size < w1.heap.size + 1 := (by omega); have zz_w1_w_0_2 : w.heap.size < w1.heap.size + 1 + 1 := (by omega); have zz_w1_w_0_3 : w.heap.size < w1.heap.size + 1 + 1 + 1 := (by omega); have zz_w1_w_1_0 : w.heap.size + 1 < w1.heap.size := (by omega); have zz_w1_w_1_1 : w.heap.size + 1 < w1.heap.size + 1 := (by omega); have zz_w1_w_1_2 : w.heap.size + 1 < w1.heap.size + 1 + 1 := (by omega); have zz_w1_w_1_3 : w.heap.size + 1 < w1.heap.size + 1 + 1 + 1 := (by omega)) | ((with_reducible refine (rNode_calls c l.to _).mono ?_); rw [N2.out]; rintro e w2 ⟨rfl, hb_w2⟩; obtain ⟨hc_w2, hf_w2⟩ := bcell hb_w2; have z_w2 := hb_w2.size; (try simp only [World.size_alloc, World.size_setCell, World.size_drew, World.heap_drewN] at z_w2); have zz_w2_w_0_0 : w.heap.size < w2.heap.size := (by omega); have zz_w2_w_0_1 : w.heap.size < w2.heap.size + 1 := (by omega); have zz_w2_w_0_2 : w.heap.size < w2.heap.size + 1 + 1 := (by omega); have zz_w2_w_0_3 : w.heap.size < w2.heap.size + 1 + 1 + 1 := (by omega); have zz_w2_w_1_0 : w.heap.size + 1 < w2.heap.size := (by omega); have zz_w2_w_1_1 : w.heap.size + 1 < w2.heap.size + 1 := (by omega); have zz_w2_w_1_2 : w.heap.size + 1 < w2.heap.size + 1 + 1 := (by omega); have zz_w2_w_1_3 : w.heap.size + 1 < w2.heap.size + 1 + 1 + 1 := (by omega)))))
      go_ret
      exact ⟨ret_bool (by rw [He.out]; rfl), (by (repeat' (with_reducible first | exact bl0 | apply bl4 | apply bl5 | apply bl1 | refine bl2 ?_ (by first | omega | (simp only [World.size_alloc, World.size_setCell, World.size_drew]; omega)) | refine bl3 (by assumption) ?_)))⟩
  have b4 : (l.kind == 4) = false := by simpa using k4
  by_cases k6 : l.kind = 6
  · have He := hide (show endsE c l = (q1 && n2) from by simp only [endsE, e0, k6, hn2, d1]; simp)
    have b6 : (l.kind == 6) = true := by simpa using k6
    have b4' : (l.kind == 4) = false := by rw [k6]; rfl
    clear hn1 hn2 ha1 ha2 e0 k1 k2 k6 d1 d2 k4
    cases q1 <;> cases n2
    all_goals
      go_enter Try.func28, Try.ntmps28
      go_wp2_with (first | (go_at_call 14; (first | ((with_reducible refine (rNode_calls c l.frm _).mono ?_); rw [N1.out]; rintro e w1 ⟨rfl, hb_w1⟩; obtain ⟨hc_w1, hf_w1⟩ := bcell hb_w1; have z_w1 := hb_w1.size; (try simp only [World.size_alloc, World.size_setCell, World.size_drew, World.heap_drewN] at z_w1); have zz_w1_w_0_0 : w.heap.size < w1.heap.size := (by omega); have zz_w1_w_0_1 : w.heap.size < w1.heap.size + 1 := (by omega); have zz_w1_w_0_2 : w.heap.size < w1.heap.size + 1 + 1 := (by omega); have zz_w1_w_0_3 : w.heap.size < w1.heap.size + 1 + 1 + 1 := (by omega); have zz_w1_w_1_0 : w.heap.size + 1 < w1.heap.size := (by omega); have zz_w1_w_1_1 : w.heap.size + 1 < w1.heap.size + 1 := (by omega); have zz_w1_w_1_2 : w.heap.size + 1 < w1.heap.size + 1 + 1 := (by omega); have zz_w1_w_1_3 : w.heap.size + 1 < w1.heap.size + 1 + 1 + 1 := (by omega)) | ((with_reducible refine (rNode_calls c l.to _).mono ?_); rw [N2.out]; rintro e w2 ⟨rfl, hb_w2⟩; obtain ⟨hc_w2, hf_w2⟩ := bcell hb_w2; have z_w2 := hb_w2.size; (try simp only [World.size_alloc, World.size_setCell, World.size_drew, World.heap_drewN] at z_w2); have zz_w2_w_0_0 : w.heap.size < w2.heap.size := (by omega); have zz_w2_w_0_1 : w.heap.size < w2.heap.size + 1 := (by omega); have zz_w2_w_0_2 : w.heap.size < w2.heap.size + 1 + 1 := (by omega); have zz_w2_w_0_3 : w.heap.size < w2.heap.size + 1 + 1 + 1 := (by omega); have zz_w2_w_1_0 : w.heap.size + 1 < w2.heap.size := (by omega); have zz_w2_w_1_1 : w.heap.size + 1 < w2.heap.size + 1 := (by omega); have zz_w2_w_1_2 : w.heap.size + 1 < w2.heap.size + 1 + 1 := (by omega); have zz_w2_w_1_3 : w.heap.size + 1 < w2.heap.size + 1 + 1 + 1 := (by omega)))))
      go_ret
      exact ⟨ret_bool (by rw [He.out]; rfl), (by (repeat' (with_reducible first | exact bl0 | apply bl4 | apply bl5 | apply bl1 | refine bl2 ?_ (by first | omega | (simp only [World.size_alloc, World.size_setCell, World.size_drew]; omega)) | refine bl3 (by assumption) ?_)))⟩
  have b6 : (l.kind == 6) = false := by simpa using k6
  have He := hide (show endsE c l = (n1 && q2) from by simp only [endsE, e0, k1, k2, k4, k6, hn1, d2]; simp)
  clear hn1 hn2 ha1 ha2 e0 k1 k2 k4 k6 d1 d2
  cases n1 <;> cases q2
  all_goals
    go_enter Try.func28, Try.ntmps28
    go_wp2_with (first | (go_at_call 14; (first | ((with_reducible refine (rNode_calls c l.frm _).mono ?_); rw [N1.out]; rintro e w1 ⟨rfl, hb_w1⟩; obtain ⟨hc_w1, hf_w1⟩ := bcell hb_w1; have z_w1 := hb_w1.size; (try simp only [World.size_alloc, World.size_setCell, World.size_drew, World.heap_drewN] at z_w1); have zz_w1_w_0_0 : w.heap.size < w1.heap.size := (by omega); have zz_w1_w_0_1 : w.heap.size < w1.heap.size + 1 := (by omega); have zz_w1_w_0_2 : w.heap.size < w1.heap.size + 1 + 1 := (by omega); have zz_w1_w_0_3 : w.heap.size < w1.heap.size + 1 + 1 + 1 := (by omega); have zz_w1_w_1_0 : w.heap.size + 1 < w1.heap.size := (by omega); have zz_w1_w_1_1 : w.heap.size + 1 < w1.heap.size + 1 := (by omega); have zz_w1_w_1_2 : w.heap.size + 1 < w1.heap.size + 1 + 1 := (by omega); have zz_w1_w_1_3 : w.heap.size + 1 < w1.heap.size + 1 + 1 + 1 := (by omega)) | ((with_reducible refine (rNode_calls c l.to _).mono ?_); rw [N2.out]; rintro e w2 ⟨rfl, hb_w2⟩; obtain ⟨hc_w2, hf_w2⟩ := bcell hb_w2; have z_w2 := hb_w2.size; (try simp only [World.size_alloc, World.size_setCell, World.size_drew, World.heap_drewN] at z_w2); have zz_w2_w_0_0 : w.heap.size < w2.heap.size := (by omega); have zz_w2_w_0_1 : w.heap.size < w2.heap.size + 1 := (by omega); have zz_w2_w_0_2 : w.heap.size < w2.heap.size + 1 + 1 := (by omega); have zz_w2_w_0_3 : w.heap.size < w2.heap.size + 1 + 1 + 1 := (by omega); have zz_w2_w_1_0 : w.heap.size + 1 < w2.heap.size := (by omega); have zz_w2_w_1_1 : w.heap.size + 1 < w2.heap.size + 1 := (by omega); have zz_w2_w_1_2 : w.heap.size + 1 < w2.heap.size + 1 + 1 := (by omega); have zz_w2_w_1_3 : w.heap.size + 1 < w2.heap.size + 1 + 1 + 1 := (by omega)))))
    go_ret
    exact ⟨ret_bool (by rw [He.out]; rfl), (by (repeat' (with_reducible first | exact bl0 | apply bl4 | apply bl5 | apply bl1 | refine bl2 ?_ (by first | omega | (simp only [World.size_alloc, World.size_setCell, World.size_drew]; omega)) | refine bl3 (by assumption) ?_)))⟩
end Go.Proofs.Ytipibgamajhgbaa

namespace Go.Proofs.Ytipibgamajhgbaa
open Go.RowKit
set_option linter.unusedVariables false
set_option linter.unusedSimpArgs false
set_option maxRecDepth 100000 in
set_option maxHeartbeats 16000000 in
theorem rlCheck_1 (c : Cfg) (l : Ltr) (k0 : ¬ l.kind < 1) (k7 : ¬ 7 < l.kind) (gb1 : ¬ l.block < 0) (gb2 : ¬ c.blocks ≤ l.block) (h1 : endsE c l = true) (S : ¬ ((4 ≤ l.kind ∧ l.seq < 1) ∨ (l.kind < 4 ∧ l.seq ≠ 0))) (W : ¬ ((l.kind = 4 ∧ nodeE c l.who = false) ∨ (l.kind ≠ 4 ∧ l.who ≠ 0))) (r1 : ¬ (l.wr = true ∧ l.kind ≠ 2)) (kd1 : l.kind = 1) (w : World) :
    Calls Try.prog 11 #[.agg #[.int .i64 c.nodes, .int .i64 c.blocks, .int .i64 c.tokens, .int .i64 c.sets, .int .i64 c.ways, .int .i64 c.cap, .int .i64 c.wait, .int .i64 c.tries, .int .i64 c.policy], .agg #[.int .i64 l.kind, .int .i64 l.frm, .int .i64 l.to, .int .i64 l.block, .int .i64 l.seq, .int .i64 l.who, .bool l.wr, .int .i64 l.tok.c, .bool l.tok.o, .bool l.tok.h, .int .i64 l.tok.d]] w fun e w' => e = .returned (.int .i64 (rlcheck c l)) ∧ Below w.heap.size w w' := by
  obtain ⟨x2, h2⟩ : ∃ b, nodeE c l.who = b := ⟨_, rfl⟩
  obtain ⟨x4, h4⟩ : ∃ b, bcheck l.tok c.tokens = b := ⟨_, rfl⟩
  have H1 := hide h1
  have H2 := hide h2
  have H4 := hide h4
  have Sq := hide S
  have Wq := hide W
  clear S W
  have hseq : l.kind < 4 → l.seq = 0 := fun h => by have := Sq.out; omega
  have hseq' : 4 ≤ l.kind → 1 ≤ l.seq := fun h => by have := Sq.out; omega
  have hwho : l.kind ≠ 4 → l.who = 0 := fun h => Classical.byContradiction fun g => Wq.out (Or.inr ⟨h, g⟩)
  have hwho' : l.kind = 4 → x2 = true := fun h => by
    cases x2
    · exact absurd (Or.inl ⟨h, h2⟩) Wq.out
    · rfl
  have hwr : l.kind ≠ 2 → l.wr = false := fun h => by
    cases hw : l.wr
    · rfl
    · exact absurd ⟨hw, h⟩ r1
  have He := hide (show rlcheck c l = if x4 ≠ 0 then x4 else if l.tok.c = 0 then 4 else 0 from by unfold rlcheck; rw [if_neg (show ¬ (l.kind < 1 ∨ 7 < l.kind) from by omega), if_neg (show ¬ (l.block < 0 ∨ c.blocks ≤ l.block) from by omega), if_neg (show ¬ (endsE c l = false) from by rw [h1]; simp), if_neg Sq.out, if_neg Wq.out, if_neg r1, if_neg (fun g => g kd1), h4])
  have hs := hseq (by omega)
  have hw := hwho (by omega)
  have hr := hwr (by omega)
  clear hseq hseq' hwho hwho' hwr r1 Sq Wq h1 h2 h4
  obtain ⟨kind, frm, tt, block, seq, who, wr, tok⟩ := l
  dsimp only at hs hw hr kd1
  subst hs hw hr kd1
  by_cases z : x4 = 0
  · subst z
    by_cases z1 : tok.c = 0
    · have z2 : (tok.c == 0) = true := by simpa using z1
      have Z := hide z1
      clear z1
      go_enter Try.func11, Try.ntmps11
      go_wp2_with (first | (go_at_call 28; refine (rends_calls c ⟨_, frm, tt, block, _, _, _, tok⟩ _).mono ?_; rw [H1.out]; rintro e w1 ⟨rfl, hb_w1⟩; obtain ⟨hc_w1, hf_w1⟩ := bcell hb_w1; have z_w1 := hb_w1.size; (try simp only [World.size_alloc, World.size_setCell, World.size_drew, World.heap_drewN] at z_w1); have zz_w1_w_0_0 : w.heap.size < w1.heap.size := (by omega); have zz_w1_w_0_1 : w.heap.size < w1.heap.size + 1 := (by omega); have zz_w1_w_0_2 : w.heap.size < w1.heap.size + 1 + 1 := (by omega); have zz_w1_w_0_3 : w.heap.size < w1.heap.size + 1 + 1 + 1 := (by omega); have zz_w1_w_1_0 : w.heap.size + 1 < w1.heap.size := (by omega); have zz_w1_w_1_1 : w.heap.size + 1 < w1.heap.size + 1 := (by omega); have zz_w1_w_1_2 : w.heap.size + 1 < w1.heap.size + 1 + 1 := (by omega); have zz_w1_w_1_3 : w.heap.size + 1 < w1.heap.size + 1 + 1 + 1 := (by omega)) | (go_at_call 14; refine (rNode_calls c _ _).mono ?_; rw [H2.out]; rintro e w2 ⟨rfl, hb_w2⟩; obtain ⟨hc_w2, hf_w2⟩ := bcell hb_w2; have z_w2 := hb_w2.size; (try simp only [World.size_alloc, World.size_setCell, World.size_drew, World.heap_drewN] at z_w2); have zz_w2_w_0_0 : w.heap.size < w2.heap.size := (by omega); have zz_w2_w_0_1 : w.heap.size < w2.heap.size + 1 := (by omega); have zz_w2_w_0_2 : w.heap.size < w2.heap.size + 1 + 1 := (by omega); have zz_w2_w_0_3 : w.heap.size < w2.heap.size + 1 + 1 + 1 := (by omega); have zz_w2_w_1_0 : w.heap.size + 1 < w2.heap.size := (by omega); have zz_w2_w_1_1 : w.heap.size + 1 < w2.heap.size + 1 := (by omega); have zz_w2_w_1_2 : w.heap.size + 1 < w2.heap.size + 1 + 1 := (by omega); have zz_w2_w_1_3 : w.heap.size + 1 < w2.heap.size + 1 + 1 + 1 := (by omega)) | (go_at_call 29; refine (rCheck_calls tok c.tokens _).mono ?_; rw [H4.out]; rintro e w3 ⟨rfl, hb_w3⟩; obtain ⟨hc_w3, hf_w3⟩ := bcell hb_w3; have z_w3 := hb_w3.size; (try simp only [World.size_alloc, World.size_setCell, World.size_drew, World.heap_drewN] at z_w3); have zz_w3_w_0_0 : w.heap.size < w3.heap.size := (by omega); have zz_w3_w_0_1 : w.heap.size < w3.heap.size + 1 := (by omega); have zz_w3_w_0_2 : w.heap.size < w3.heap.size + 1 + 1 := (by omega); have zz_w3_w_0_3 : w.heap.size < w3.heap.size + 1 + 1 + 1 := (by omega); have zz_w3_w_1_0 : w.heap.size + 1 < w3.heap.size := (by omega); have zz_w3_w_1_1 : w.heap.size + 1 < w3.heap.size + 1 := (by omega); have zz_w3_w_1_2 : w.heap.size + 1 < w3.heap.size + 1 + 1 := (by omega); have zz_w3_w_1_3 : w.heap.size + 1 < w3.heap.size + 1 + 1 + 1 := (by omega)))
      go_ret
      exact ⟨ret_int (by rw [He.out]; simp [Z.out]), (by (repeat' (with_reducible first | exact bl0 | apply bl4 | apply bl5 | apply bl1 | refine bl2 ?_ (by first | omega | (simp only [World.size_alloc, World.size_setCell, World.size_drew]; omega)) | refine bl3 (by assumption) ?_)))⟩
    · have z2 : (tok.c == 0) = false := by simpa using z1
      have Z := hide z1
      clear z1
      go_enter Try.func11, Try.ntmps11
      go_wp2_with (first | (go_at_call 28; refine (rends_calls c ⟨_, frm, tt, block, _, _, _, tok⟩ _).mono ?_; rw [H1.out]; rintro e w1 ⟨rfl, hb_w1⟩; obtain ⟨hc_w1, hf_w1⟩ := bcell hb_w1; have z_w1 := hb_w1.size; (try simp only [World.size_alloc, World.size_setCell, World.size_drew, World.heap_drewN] at z_w1); have zz_w1_w_0_0 : w.heap.size < w1.heap.size := (by omega); have zz_w1_w_0_1 : w.heap.size < w1.heap.size + 1 := (by omega); have zz_w1_w_0_2 : w.heap.size < w1.heap.size + 1 + 1 := (by omega); have zz_w1_w_0_3 : w.heap.size < w1.heap.size + 1 + 1 + 1 := (by omega); have zz_w1_w_1_0 : w.heap.size + 1 < w1.heap.size := (by omega); have zz_w1_w_1_1 : w.heap.size + 1 < w1.heap.size + 1 := (by omega); have zz_w1_w_1_2 : w.heap.size + 1 < w1.heap.size + 1 + 1 := (by omega); have zz_w1_w_1_3 : w.heap.size + 1 < w1.heap.size + 1 + 1 + 1 := (by omega)) | (go_at_call 14; refine (rNode_calls c _ _).mono ?_; rw [H2.out]; rintro e w2 ⟨rfl, hb_w2⟩; obtain ⟨hc_w2, hf_w2⟩ := bcell hb_w2; have z_w2 := hb_w2.size; (try simp only [World.size_alloc, World.size_setCell, World.size_drew, World.heap_drewN] at z_w2); have zz_w2_w_0_0 : w.heap.size < w2.heap.size := (by omega); have zz_w2_w_0_1 : w.heap.size < w2.heap.size + 1 := (by omega); have zz_w2_w_0_2 : w.heap.size < w2.heap.size + 1 + 1 := (by omega); have zz_w2_w_0_3 : w.heap.size < w2.heap.size + 1 + 1 + 1 := (by omega); have zz_w2_w_1_0 : w.heap.size + 1 < w2.heap.size := (by omega); have zz_w2_w_1_1 : w.heap.size + 1 < w2.heap.size + 1 := (by omega); have zz_w2_w_1_2 : w.heap.size + 1 < w2.heap.size + 1 + 1 := (by omega); have zz_w2_w_1_3 : w.heap.size + 1 < w2.heap.size + 1 + 1 + 1 := (by omega)) | (go_at_call 29; refine (rCheck_calls tok c.tokens _).mono ?_; rw [H4.out]; rintro e w3 ⟨rfl, hb_w3⟩; obtain ⟨hc_w3, hf_w3⟩ := bcell hb_w3; have z_w3 := hb_w3.size; (try simp only [World.size_alloc, World.size_setCell, World.size_drew, World.heap_drewN] at z_w3); have zz_w3_w_0_0 : w.heap.size < w3.heap.size := (by omega); have zz_w3_w_0_1 : w.heap.size < w3.heap.size + 1 := (by omega); have zz_w3_w_0_2 : w.heap.size < w3.heap.size + 1 + 1 := (by omega); have zz_w3_w_0_3 : w.heap.size < w3.heap.size + 1 + 1 + 1 := (by omega); have zz_w3_w_1_0 : w.heap.size + 1 < w3.heap.size := (by omega); have zz_w3_w_1_1 : w.heap.size + 1 < w3.heap.size + 1 := (by omega); have zz_w3_w_1_2 : w.heap.size + 1 < w3.heap.size + 1 + 1 := (by omega); have zz_w3_w_1_3 : w.heap.size + 1 < w3.heap.size + 1 + 1 + 1 := (by omega)))
      go_ret
      exact ⟨ret_int (by rw [He.out]; simp [Z.out]), (by (repeat' (with_reducible first | exact bl0 | apply bl4 | apply bl5 | apply bl1 | refine bl2 ?_ (by first | omega | (simp only [World.size_alloc, World.size_setCell, World.size_drew]; omega)) | refine bl3 (by assumption) ?_)))⟩
  · have z2 : (x4 == 0) = false := by simpa using z
    have z3 : (x4 != 0) = true := by simpa using z
    have Z := hide z
    clear z
    go_enter Try.func11, Try.ntmps11
    go_wp2_with (first | (go_at_call 28; refine (rends_calls c ⟨_, frm, tt, block, _, _, _, tok⟩ _).mono ?_; rw [H1.out]; rintro e w1 ⟨rfl, hb_w1⟩; obtain ⟨hc_w1, hf_w1⟩ := bcell hb_w1; have z_w1 := hb_w1.size; (try simp only [World.size_alloc, World.size_setCell, World.size_drew, World.heap_drewN] at z_w1); have zz_w1_w_0_0 : w.heap.size < w1.heap.size := (by omega); have zz_w1_w_0_1 : w.heap.size < w1.heap.size + 1 := (by omega); have zz_w1_w_0_2 : w.heap.size < w1.heap.size + 1 + 1 := (by omega); have zz_w1_w_0_3 : w.heap.size < w1.heap.size + 1 + 1 + 1 := (by omega); have zz_w1_w_1_0 : w.heap.size + 1 < w1.heap.size := (by omega); have zz_w1_w_1_1 : w.heap.size + 1 < w1.heap.size + 1 := (by omega); have zz_w1_w_1_2 : w.heap.size + 1 < w1.heap.size + 1 + 1 := (by omega); have zz_w1_w_1_3 : w.heap.size + 1 < w1.heap.size + 1 + 1 + 1 := (by omega)) | (go_at_call 14; refine (rNode_calls c _ _).mono ?_; rw [H2.out]; rintro e w2 ⟨rfl, hb_w2⟩; obtain ⟨hc_w2, hf_w2⟩ := bcell hb_w2; have z_w2 := hb_w2.size; (try simp only [World.size_alloc, World.size_setCell, World.size_drew, World.heap_drewN] at z_w2); have zz_w2_w_0_0 : w.heap.size < w2.heap.size := (by omega); have zz_w2_w_0_1 : w.heap.size < w2.heap.size + 1 := (by omega); have zz_w2_w_0_2 : w.heap.size < w2.heap.size + 1 + 1 := (by omega); have zz_w2_w_0_3 : w.heap.size < w2.heap.size + 1 + 1 + 1 := (by omega); have zz_w2_w_1_0 : w.heap.size + 1 < w2.heap.size := (by omega); have zz_w2_w_1_1 : w.heap.size + 1 < w2.heap.size + 1 := (by omega); have zz_w2_w_1_2 : w.heap.size + 1 < w2.heap.size + 1 + 1 := (by omega); have zz_w2_w_1_3 : w.heap.size + 1 < w2.heap.size + 1 + 1 + 1 := (by omega)) | (go_at_call 29; refine (rCheck_calls tok c.tokens _).mono ?_; rw [H4.out]; rintro e w3 ⟨rfl, hb_w3⟩; obtain ⟨hc_w3, hf_w3⟩ := bcell hb_w3; have z_w3 := hb_w3.size; (try simp only [World.size_alloc, World.size_setCell, World.size_drew, World.heap_drewN] at z_w3); have zz_w3_w_0_0 : w.heap.size < w3.heap.size := (by omega); have zz_w3_w_0_1 : w.heap.size < w3.heap.size + 1 := (by omega); have zz_w3_w_0_2 : w.heap.size < w3.heap.size + 1 + 1 := (by omega); have zz_w3_w_0_3 : w.heap.size < w3.heap.size + 1 + 1 + 1 := (by omega); have zz_w3_w_1_0 : w.heap.size + 1 < w3.heap.size := (by omega); have zz_w3_w_1_1 : w.heap.size + 1 < w3.heap.size + 1 := (by omega); have zz_w3_w_1_2 : w.heap.size + 1 < w3.heap.size + 1 + 1 := (by omega); have zz_w3_w_1_3 : w.heap.size + 1 < w3.heap.size + 1 + 1 + 1 := (by omega)))
    go_ret
    exact ⟨ret_int (by rw [He.out, if_pos Z.out]), (by (repeat' (with_reducible first | exact bl0 | apply bl4 | apply bl5 | apply bl1 | refine bl2 ?_ (by first | omega | (simp only [World.size_alloc, World.size_setCell, World.size_drew]; omega)) | refine bl3 (by assumption) ?_)))⟩
end Go.Proofs.Ytipibgamajhgbaa
