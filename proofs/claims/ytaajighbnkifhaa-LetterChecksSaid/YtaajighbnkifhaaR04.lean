/- What the functions of layer 4's reference come to. -/
import Derived.Test.YtaajighbnkifhaaC04a
import Derived.Test.YtaajighbnkifhaaCB
namespace Go.Proofs.Ytaajighbnkifhaa
open Go.RowKit
set_option linter.unusedVariables false
set_option linter.unusedSimpArgs false
set_option maxHeartbeats 8000000 in
theorem rConfig_calls (c : Cfg) (w : World) : Calls Try.prog 11 #[.agg #[.int .i64 c.nodes, .int .i64 c.blocks, .int .i64 c.tokens, .int .i64 c.sets, .int .i64 c.ways, .int .i64 c.cap, .int .i64 c.wait, .int .i64 c.tries, .int .i64 c.policy]] w fun e w' => e = .returned (.int .i64 (cfgE c)) ∧ Below w.heap.size w w' := by
  by_cases l0 : c.sets < 1
  · have He := hide (show cfgE c = 1 from by
      have e0 : within c.sets 1 64 = false := by simp [within]; omega
      simp [cfgE, e0])
    go_enter Try.func11, Try.ntmps11
    go_wp2
    go_ret
    exact ⟨ret_int (by rw [He.out]), (by (repeat' (with_reducible first | exact bl0 | apply bl4 | apply bl5 | apply bl1 | refine bl2 ?_ (by first | omega | (simp only [World.size_alloc, World.size_setCell, World.size_drew]; omega)) | refine bl3 (by assumption) ?_)))⟩
  by_cases h0 : 64 < c.sets
  · have He := hide (show cfgE c = 1 from by
      have e0 : within c.sets 1 64 = false := by simp [within]; omega
      simp [cfgE, e0])
    go_enter Try.func11, Try.ntmps11
    go_wp2
    go_ret
    exact ⟨ret_int (by rw [He.out]), (by (repeat' (with_reducible first | exact bl0 | apply bl4 | apply bl5 | apply bl1 | refine bl2 ?_ (by first | omega | (simp only [World.size_alloc, World.size_setCell, World.size_drew]; omega)) | refine bl3 (by assumption) ?_)))⟩
  by_cases l1 : c.ways < 1
  · have He := hide (show cfgE c = 1 from by
      have e1 : within c.ways 1 16 = false := by simp [within]; omega
      have e0 : within c.sets 1 64 = true := by simp [within]; omega
      simp [cfgE, e0, e1])
    go_enter Try.func11, Try.ntmps11
    go_wp2
    go_ret
    exact ⟨ret_int (by rw [He.out]), (by (repeat' (with_reducible first | exact bl0 | apply bl4 | apply bl5 | apply bl1 | refine bl2 ?_ (by first | omega | (simp only [World.size_alloc, World.size_setCell, World.size_drew]; omega)) | refine bl3 (by assumption) ?_)))⟩
  by_cases h1 : 16 < c.ways
  · have He := hide (show cfgE c = 1 from by
      have e1 : within c.ways 1 16 = false := by simp [within]; omega
      have e0 : within c.sets 1 64 = true := by simp [within]; omega
      simp [cfgE, e0, e1])
    go_enter Try.func11, Try.ntmps11
    go_wp2
    go_ret
    exact ⟨ret_int (by rw [He.out]), (by (repeat' (with_reducible first | exact bl0 | apply bl4 | apply bl5 | apply bl1 | refine bl2 ?_ (by first | omega | (simp only [World.size_alloc, World.size_setCell, World.size_drew]; omega)) | refine bl3 (by assumption) ?_)))⟩
  by_cases l2 : c.cap < 1
  · have He := hide (show cfgE c = 1 from by
      have e2 : within c.cap 1 65536 = false := by simp [within]; omega
      have e0 : within c.sets 1 64 = true := by simp [within]; omega
      have e1 : within c.ways 1 16 = true := by simp [within]; omega
      simp [cfgE, e0, e1, e2])
    go_enter Try.func11, Try.ntmps11
    go_wp2
    go_ret
    exact ⟨ret_int (by rw [He.out]), (by (repeat' (with_reducible first | exact bl0 | apply bl4 | apply bl5 | apply bl1 | refine bl2 ?_ (by first | omega | (simp only [World.size_alloc, World.size_setCell, World.size_drew]; omega)) | refine bl3 (by assumption) ?_)))⟩
  by_cases h2 : 65536 < c.cap
  · have He := hide (show cfgE c = 1 from by
      have e2 : within c.cap 1 65536 = false := by simp [within]; omega
      have e0 : within c.sets 1 64 = true := by simp [within]; omega
      have e1 : within c.ways 1 16 = true := by simp [within]; omega
      simp [cfgE, e0, e1, e2])
    go_enter Try.func11, Try.ntmps11
    go_wp2
    go_ret
    exact ⟨ret_int (by rw [He.out]), (by (repeat' (with_reducible first | exact bl0 | apply bl4 | apply bl5 | apply bl1 | refine bl2 ?_ (by first | omega | (simp only [World.size_alloc, World.size_setCell, World.size_drew]; omega)) | refine bl3 (by assumption) ?_)))⟩
  by_cases l3 : c.wait < 1
  · have He := hide (show cfgE c = 1 from by
      have e3 : within c.wait 1 64 = false := by simp [within]; omega
      have e0 : within c.sets 1 64 = true := by simp [within]; omega
      have e1 : within c.ways 1 16 = true := by simp [within]; omega
      have e2 : within c.cap 1 65536 = true := by simp [within]; omega
      simp [cfgE, e0, e1, e2, e3])
    go_enter Try.func11, Try.ntmps11
    go_wp2
    go_ret
    exact ⟨ret_int (by rw [He.out]), (by (repeat' (with_reducible first | exact bl0 | apply bl4 | apply bl5 | apply bl1 | refine bl2 ?_ (by first | omega | (simp only [World.size_alloc, World.size_setCell, World.size_drew]; omega)) | refine bl3 (by assumption) ?_)))⟩
  by_cases h3 : 64 < c.wait
  · have He := hide (show cfgE c = 1 from by
      have e3 : within c.wait 1 64 = false := by simp [within]; omega
      have e0 : within c.sets 1 64 = true := by simp [within]; omega
      have e1 : within c.ways 1 16 = true := by simp [within]; omega
      have e2 : within c.cap 1 65536 = true := by simp [within]; omega
      simp [cfgE, e0, e1, e2, e3])
    go_enter Try.func11, Try.ntmps11
    go_wp2
    go_ret
    exact ⟨ret_int (by rw [He.out]), (by (repeat' (with_reducible first | exact bl0 | apply bl4 | apply bl5 | apply bl1 | refine bl2 ?_ (by first | omega | (simp only [World.size_alloc, World.size_setCell, World.size_drew]; omega)) | refine bl3 (by assumption) ?_)))⟩
  by_cases l4 : c.tries < 0
  · have He := hide (show cfgE c = 1 from by
      have e4 : within c.tries 0 8 = false := by simp [within]; omega
      have e0 : within c.sets 1 64 = true := by simp [within]; omega
      have e1 : within c.ways 1 16 = true := by simp [within]; omega
      have e2 : within c.cap 1 65536 = true := by simp [within]; omega
      have e3 : within c.wait 1 64 = true := by simp [within]; omega
      simp [cfgE, e0, e1, e2, e3, e4])
    go_enter Try.func11, Try.ntmps11
    go_wp2
    go_ret
    exact ⟨ret_int (by rw [He.out]), (by (repeat' (with_reducible first | exact bl0 | apply bl4 | apply bl5 | apply bl1 | refine bl2 ?_ (by first | omega | (simp only [World.size_alloc, World.size_setCell, World.size_drew]; omega)) | refine bl3 (by assumption) ?_)))⟩
  by_cases h4 : 8 < c.tries
  · have He := hide (show cfgE c = 1 from by
      have e4 : within c.tries 0 8 = false := by simp [within]; omega
      have e0 : within c.sets 1 64 = true := by simp [within]; omega
      have e1 : within c.ways 1 16 = true := by simp [within]; omega
      have e2 : within c.cap 1 65536 = true := by simp [within]; omega
      have e3 : within c.wait 1 64 = true := by simp [within]; omega
      simp [cfgE, e0, e1, e2, e3, e4])
    go_enter Try.func11, Try.ntmps11
    go_wp2
    go_ret
    exact ⟨ret_int (by rw [He.out]), (by (repeat' (with_reducible first | exact bl0 | apply bl4 | apply bl5 | apply bl1 | refine bl2 ?_ (by first | omega | (simp only [World.size_alloc, World.size_setCell, World.size_drew]; omega)) | refine bl3 (by assumption) ?_)))⟩
  by_cases l5 : c.policy < 0
  · have He := hide (show cfgE c = 1 from by
      have e5 : within c.policy 0 2 = false := by simp [within]; omega
      have e0 : within c.sets 1 64 = true := by simp [within]; omega
      have e1 : within c.ways 1 16 = true := by simp [within]; omega
      have e2 : within c.cap 1 65536 = true := by simp [within]; omega
      have e3 : within c.wait 1 64 = true := by simp [within]; omega
      have e4 : within c.tries 0 8 = true := by simp [within]; omega
      simp [cfgE, e0, e1, e2, e3, e4, e5])
    go_enter Try.func11, Try.ntmps11
    go_wp2
    go_ret
    exact ⟨ret_int (by rw [He.out]), (by (repeat' (with_reducible first | exact bl0 | apply bl4 | apply bl5 | apply bl1 | refine bl2 ?_ (by first | omega | (simp only [World.size_alloc, World.size_setCell, World.size_drew]; omega)) | refine bl3 (by assumption) ?_)))⟩
  by_cases h5 : 2 < c.policy
  · have He := hide (show cfgE c = 1 from by
      have e5 : within c.policy 0 2 = false := by simp [within]; omega
      have e0 : within c.sets 1 64 = true := by simp [within]; omega
      have e1 : within c.ways 1 16 = true := by simp [within]; omega
      have e2 : within c.cap 1 65536 = true := by simp [within]; omega
      have e3 : within c.wait 1 64 = true := by simp [within]; omega
      have e4 : within c.tries 0 8 = true := by simp [within]; omega
      simp [cfgE, e0, e1, e2, e3, e4, e5])
    go_enter Try.func11, Try.ntmps11
    go_wp2
    go_ret
    exact ⟨ret_int (by rw [He.out]), (by (repeat' (with_reducible first | exact bl0 | apply bl4 | apply bl5 | apply bl1 | refine bl2 ?_ (by first | omega | (simp only [World.size_alloc, World.size_setCell, World.size_drew]; omega)) | refine bl3 (by assumption) ?_)))⟩
  by_cases l6 : c.nodes < 1
  · have He := hide (show cfgE c = 2 from by
      have e6 : within c.nodes 1 64 = false := by simp [within]; omega
      have e0 : within c.sets 1 64 = true := by simp [within]; omega
      have e1 : within c.ways 1 16 = true := by simp [within]; omega
      have e2 : within c.cap 1 65536 = true := by simp [within]; omega
      have e3 : within c.wait 1 64 = true := by simp [within]; omega
      have e4 : within c.tries 0 8 = true := by simp [within]; omega
      have e5 : within c.policy 0 2 = true := by simp [within]; omega
      simp [cfgE, e0, e1, e2, e3, e4, e5, e6])
    go_enter Try.func11, Try.ntmps11
    go_wp2
    go_ret
    exact ⟨ret_int (by rw [He.out]), (by (repeat' (with_reducible first | exact bl0 | apply bl4 | apply bl5 | apply bl1 | refine bl2 ?_ (by first | omega | (simp only [World.size_alloc, World.size_setCell, World.size_drew]; omega)) | refine bl3 (by assumption) ?_)))⟩
  by_cases h6 : 64 < c.nodes
  · have He := hide (show cfgE c = 2 from by
      have e6 : within c.nodes 1 64 = false := by simp [within]; omega
      have e0 : within c.sets 1 64 = true := by simp [within]; omega
      have e1 : within c.ways 1 16 = true := by simp [within]; omega
      have e2 : within c.cap 1 65536 = true := by simp [within]; omega
      have e3 : within c.wait 1 64 = true := by simp [within]; omega
      have e4 : within c.tries 0 8 = true := by simp [within]; omega
      have e5 : within c.policy 0 2 = true := by simp [within]; omega
      simp [cfgE, e0, e1, e2, e3, e4, e5, e6])
    go_enter Try.func11, Try.ntmps11
    go_wp2
    go_ret
    exact ⟨ret_int (by rw [He.out]), (by (repeat' (with_reducible first | exact bl0 | apply bl4 | apply bl5 | apply bl1 | refine bl2 ?_ (by first | omega | (simp only [World.size_alloc, World.size_setCell, World.size_drew]; omega)) | refine bl3 (by assumption) ?_)))⟩
  by_cases l7 : c.blocks < 1
  · have He := hide (show cfgE c = 3 from by
      have e7 : within c.blocks 1 64 = false := by simp [within]; omega
      have e0 : within c.sets 1 64 = true := by simp [within]; omega
      have e1 : within c.ways 1 16 = true := by simp [within]; omega
      have e2 : within c.cap 1 65536 = true := by simp [within]; omega
      have e3 : within c.wait 1 64 = true := by simp [within]; omega
      have e4 : within c.tries 0 8 = true := by simp [within]; omega
      have e5 : within c.policy 0 2 = true := by simp [within]; omega
      have e6 : within c.nodes 1 64 = true := by simp [within]; omega
      simp [cfgE, e0, e1, e2, e3, e4, e5, e6, e7])
    go_enter Try.func11, Try.ntmps11
    go_wp2
    go_ret
    exact ⟨ret_int (by rw [He.out]), (by (repeat' (with_reducible first | exact bl0 | apply bl4 | apply bl5 | apply bl1 | refine bl2 ?_ (by first | omega | (simp only [World.size_alloc, World.size_setCell, World.size_drew]; omega)) | refine bl3 (by assumption) ?_)))⟩
  by_cases h7 : 64 < c.blocks
  · have He := hide (show cfgE c = 3 from by
      have e7 : within c.blocks 1 64 = false := by simp [within]; omega
      have e0 : within c.sets 1 64 = true := by simp [within]; omega
      have e1 : within c.ways 1 16 = true := by simp [within]; omega
      have e2 : within c.cap 1 65536 = true := by simp [within]; omega
      have e3 : within c.wait 1 64 = true := by simp [within]; omega
      have e4 : within c.tries 0 8 = true := by simp [within]; omega
      have e5 : within c.policy 0 2 = true := by simp [within]; omega
      have e6 : within c.nodes 1 64 = true := by simp [within]; omega
      simp [cfgE, e0, e1, e2, e3, e4, e5, e6, e7])
    go_enter Try.func11, Try.ntmps11
    go_wp2
    go_ret
    exact ⟨ret_int (by rw [He.out]), (by (repeat' (with_reducible first | exact bl0 | apply bl4 | apply bl5 | apply bl1 | refine bl2 ?_ (by first | omega | (simp only [World.size_alloc, World.size_setCell, World.size_drew]; omega)) | refine bl3 (by assumption) ?_)))⟩
  by_cases l8 : c.tokens < c.nodes
  · have He := hide (show cfgE c = 4 from by
      have e8 : within c.tokens c.nodes 65536 = false := by simp [within]; omega
      have e0 : within c.sets 1 64 = true := by simp [within]; omega
      have e1 : within c.ways 1 16 = true := by simp [within]; omega
      have e2 : within c.cap 1 65536 = true := by simp [within]; omega
      have e3 : within c.wait 1 64 = true := by simp [within]; omega
      have e4 : within c.tries 0 8 = true := by simp [within]; omega
      have e5 : within c.policy 0 2 = true := by simp [within]; omega
      have e6 : within c.nodes 1 64 = true := by simp [within]; omega
      have e7 : within c.blocks 1 64 = true := by simp [within]; omega
      simp [cfgE, e0, e1, e2, e3, e4, e5, e6, e7, e8])
    go_enter Try.func11, Try.ntmps11
    go_wp2
    go_ret
    exact ⟨ret_int (by rw [He.out]), (by (repeat' (with_reducible first | exact bl0 | apply bl4 | apply bl5 | apply bl1 | refine bl2 ?_ (by first | omega | (simp only [World.size_alloc, World.size_setCell, World.size_drew]; omega)) | refine bl3 (by assumption) ?_)))⟩
  by_cases h8 : 65536 < c.tokens
  · have He := hide (show cfgE c = 4 from by
      have e8 : within c.tokens c.nodes 65536 = false := by simp [within]; omega
      have e0 : within c.sets 1 64 = true := by simp [within]; omega
      have e1 : within c.ways 1 16 = true := by simp [within]; omega
      have e2 : within c.cap 1 65536 = true := by simp [within]; omega
      have e3 : within c.wait 1 64 = true := by simp [within]; omega
      have e4 : within c.tries 0 8 = true := by simp [within]; omega
      have e5 : within c.policy 0 2 = true := by simp [within]; omega
      have e6 : within c.nodes 1 64 = true := by simp [within]; omega
      have e7 : within c.blocks 1 64 = true := by simp [within]; omega
      simp [cfgE, e0, e1, e2, e3, e4, e5, e6, e7, e8])
    go_enter Try.func11, Try.ntmps11
    go_wp2
    go_ret
    exact ⟨ret_int (by rw [He.out]), (by (repeat' (with_reducible first | exact bl0 | apply bl4 | apply bl5 | apply bl1 | refine bl2 ?_ (by first | omega | (simp only [World.size_alloc, World.size_setCell, World.size_drew]; omega)) | refine bl3 (by assumption) ?_)))⟩
  have He := hide (show cfgE c = 0 from by
    have e0 : within c.sets 1 64 = true := by simp [within]; omega
    have e1 : within c.ways 1 16 = true := by simp [within]; omega
    have e2 : within c.cap 1 65536 = true := by simp [within]; omega
    have e3 : within c.wait 1 64 = true := by simp [within]; omega
    have e4 : within c.tries 0 8 = true := by simp [within]; omega
    have e5 : within c.policy 0 2 = true := by simp [within]; omega
    have e6 : within c.nodes 1 64 = true := by simp [within]; omega
    have e7 : within c.blocks 1 64 = true := by simp [within]; omega
    have e8 : within c.tokens c.nodes 65536 = true := by simp [within]; omega
    simp [cfgE, e0, e1, e2, e3, e4, e5, e6, e7, e8])
  go_enter Try.func11, Try.ntmps11
  go_wp2
  go_ret
  exact ⟨ret_int (by rw [He.out]), (by (repeat' (with_reducible first | exact bl0 | apply bl4 | apply bl5 | apply bl1 | refine bl2 ?_ (by first | omega | (simp only [World.size_alloc, World.size_setCell, World.size_drew]; omega)) | refine bl3 (by assumption) ?_)))⟩
theorem rNode_calls (c : Cfg) (n : Int) (w : World) : Calls Try.prog 25 #[.agg #[.int .i64 c.nodes, .int .i64 c.blocks, .int .i64 c.tokens, .int .i64 c.sets, .int .i64 c.ways, .int .i64 c.cap, .int .i64 c.wait, .int .i64 c.tries, .int .i64 c.policy], .int .i64 n] w fun e w' => e = .returned (.bool (nodeE c n)) ∧ Below w.heap.size w w' := by
  by_cases h1 : 0 ≤ n
  all_goals
    go_enter Try.func25, Try.ntmps25
    go_wp2
    all_goals
      go_ret
      exact ⟨ret_bool (by simp [nodeE]; try omega), (by (repeat' (with_reducible first | exact bl0 | apply bl4 | apply bl5 | apply bl1 | refine bl2 ?_ (by first | omega | (simp only [World.size_alloc, World.size_setCell, World.size_drew]; omega)) | refine bl3 (by assumption) ?_)))⟩
theorem rAny_calls (c : Cfg) (n : Int) (w : World) : Calls Try.prog 17 #[.agg #[.int .i64 c.nodes, .int .i64 c.blocks, .int .i64 c.tokens, .int .i64 c.sets, .int .i64 c.ways, .int .i64 c.cap, .int .i64 c.wait, .int .i64 c.tries, .int .i64 c.policy], .int .i64 n] w fun e w' => e = .returned (.bool (anyE c n)) ∧ Below w.heap.size w w' := by
  by_cases q : n = c.nodes
  · have b1 : (n == c.nodes) = true := by simpa using q
    have Q := hide q
    clear q
    go_enter Try.func17, Try.ntmps17
    go_wp2
    go_ret
    exact ⟨ret_bool (by simp [anyE, Q.out]), (by (repeat' (with_reducible first | exact bl0 | apply bl4 | apply bl5 | apply bl1 | refine bl2 ?_ (by first | omega | (simp only [World.size_alloc, World.size_setCell, World.size_drew]; omega)) | refine bl3 (by assumption) ?_)))⟩
  · have b1 : (n == c.nodes) = false := by simpa using q
    have Q := hide q
    clear q
    go_enter Try.func17, Try.ntmps17
    go_wp2_with (go_at_call 25; refine (rNode_calls c n _).mono ?_; rintro e w1 ⟨rfl, hb_w1⟩; obtain ⟨hc_w1, hf_w1⟩ := bcell hb_w1; have z_w1 := hb_w1.size; (try simp only [World.size_alloc, World.size_setCell, World.size_drew, World.heap_drewN] at z_w1); have zz_w1_w_0_0 : w.heap.size < w1.heap.size := (by omega); have zz_w1_w_0_1 : w.heap.size < w1.heap.size + 1 := (by omega); have zz_w1_w_0_2 : w.heap.size < w1.heap.size + 1 + 1 := (by omega); have zz_w1_w_0_3 : w.heap.size < w1.heap.size + 1 + 1 + 1 := (by omega))
    go_ret
    exact ⟨ret_bool (by simp [anyE, Q.out]), (by (repeat' (with_reducible first | exact bl0 | apply bl4 | apply bl5 | apply bl1 | refine bl2 ?_ (by first | omega | (simp only [World.size_alloc, World.size_setCell, World.size_drew]; omega)) | refine bl3 (by assumption) ?_)))⟩
end Go.Proofs.Ytaajighbnkifhaa
