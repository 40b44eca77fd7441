/- LetterDrops of layer 4: what it comes to. -/
import Derived.Test.YtaajighbnkifhaaL04a
namespace Go.Proofs.Ytaajighbnkifhaa
open Go.RowKit
set_option linter.unusedVariables false
set_option linter.unusedSimpArgs false
theorem ask_plain {c : Cfg} {l : Ltr} (hk : l.kind = 2) (h : lcheck c l = 0) : l.tok = bun0 := by
  unfold lcheck at h
  rw [hk] at h
  have hr : rowOf 2 = (⟨false, true, true, true, false, false, true, false⟩, true) := by simp [rowOf]
  rw [hr] at h
  unfold lcheckR at h
  simp only [Bool.true_eq_false, if_false] at h
  split at h
  · cases h
  split at h
  · cases h
  split at h
  · cases h
  simp only [if_true] at h
  split at h
  · assumption
  · cases h
set_option maxHeartbeats 8000000 in
theorem LetterDrops_walk (c : Cfg) (hc : okCfg c) (l : Ltr) (hl : okLtr l) (w : World) :
    Calls Try.prog 5 #[.agg #[.int .i64 c.nodes, .int .i64 c.blocks, .int .i64 c.tokens, .int .i64 c.sets, .int .i64 c.ways, .int .i64 c.cap, .int .i64 c.wait, .int .i64 c.tries, .int .i64 c.policy], .agg #[.int .i64 l.kind, .int .i64 l.frm, .int .i64 l.to, .int .i64 l.block, .int .i64 l.seq, .int .i64 l.who, .bool l.wr, .int .i64 l.tok.c, .bool l.tok.o, .bool l.tok.h, .int .i64 l.tok.d]] w fun e w' => e = .returned (.bool true) ∧ Below w.heap.size w w' := by
  clear hc hl
  by_cases hk : l.kind = 2
  · have D := hide (show (l.kind == 2) = true by simpa using hk)
    have d : (l.kind == 2) = true := by simpa using hk
    by_cases hz : lcheck c l = 0
    · have ht := ask_plain hk hz
      have Hz := hide hz
      obtain ⟨kind, frm, tt, block, seq, who, wr, tok⟩ := l
      simp only at ht d
      subst ht
      clear hk hz
      go_enter Try.func5, Try.ntmps5
      go_wp2_with (first | (go_at_call 14; refine (Drops_calls ⟨kind, frm, tt, block, seq, who, wr, bun0⟩ _).mono ?_; rw [D.out]; rintro e w1 ⟨rfl, hb_w1⟩; obtain ⟨hc_w1, hf_w1⟩ := bcell hb_w1; have z_w1 := hb_w1.size; (try simp only [World.size_alloc, World.size_setCell, World.size_drew, World.heap_drewN] at z_w1); have zz_w1_w_0_0 : w.heap.size < w1.heap.size := (by omega); have zz_w1_w_0_1 : w.heap.size < w1.heap.size + 1 := (by omega); have zz_w1_w_0_2 : w.heap.size < w1.heap.size + 1 + 1 := (by omega); have zz_w1_w_0_3 : w.heap.size < w1.heap.size + 1 + 1 + 1 := (by omega); have zz_w1_w_1_0 : w.heap.size + 1 < w1.heap.size := (by omega); have zz_w1_w_1_1 : w.heap.size + 1 < w1.heap.size + 1 := (by omega); have zz_w1_w_1_2 : w.heap.size + 1 < w1.heap.size + 1 + 1 := (by omega); have zz_w1_w_1_3 : w.heap.size + 1 < w1.heap.size + 1 + 1 + 1 := (by omega)) | (go_at_call 9; refine (awake_calls _).mono ?_; rintro e w2 ⟨rfl, hb_w2⟩; obtain ⟨hc_w2, hf_w2⟩ := bcell hb_w2; have z_w2 := hb_w2.size; (try simp only [World.size_alloc, World.size_setCell, World.size_drew, World.heap_drewN] at z_w2); have zz_w2_w_0_0 : w.heap.size < w2.heap.size := (by omega); have zz_w2_w_0_1 : w.heap.size < w2.heap.size + 1 := (by omega); have zz_w2_w_0_2 : w.heap.size < w2.heap.size + 1 + 1 := (by omega); have zz_w2_w_0_3 : w.heap.size < w2.heap.size + 1 + 1 + 1 := (by omega); have zz_w2_w_1_0 : w.heap.size + 1 < w2.heap.size := (by omega); have zz_w2_w_1_1 : w.heap.size + 1 < w2.heap.size + 1 := (by omega); have zz_w2_w_1_2 : w.heap.size + 1 < w2.heap.size + 1 + 1 := (by omega); have zz_w2_w_1_3 : w.heap.size + 1 < w2.heap.size + 1 + 1 + 1 := (by omega)) | (go_at_call 12; refine (Check_calls c ⟨kind, frm, tt, block, seq, who, wr, bun0⟩ _).mono ?_; rw [Hz.out]; rintro e w3 ⟨rfl, hb_w3⟩; obtain ⟨hc_w3, hf_w3⟩ := bcell hb_w3; have z_w3 := hb_w3.size; (try simp only [World.size_alloc, World.size_setCell, World.size_drew, World.heap_drewN] at z_w3); have zz_w3_w_0_0 : w.heap.size < w3.heap.size := (by omega); have zz_w3_w_0_1 : w.heap.size < w3.heap.size + 1 := (by omega); have zz_w3_w_0_2 : w.heap.size < w3.heap.size + 1 + 1 := (by omega); have zz_w3_w_0_3 : w.heap.size < w3.heap.size + 1 + 1 + 1 := (by omega); have zz_w3_w_1_0 : w.heap.size + 1 < w3.heap.size := (by omega); have zz_w3_w_1_1 : w.heap.size + 1 < w3.heap.size + 1 := (by omega); have zz_w3_w_1_2 : w.heap.size + 1 < w3.heap.size + 1 + 1 := (by omega); have zz_w3_w_1_3 : w.heap.size + 1 < w3.heap.size + 1 + 1 + 1 := (by omega)))
      go_ret
      (refine ⟨?_, ?_⟩; (first | rfl | (go_simp; done) | (simp; done)); (first | ((repeat' (with_reducible first | exact bl0 | apply bl4 | apply bl5 | apply bl1 | refine bl2 ?_ (by first | omega | (simp only [World.size_alloc, World.size_setCell, World.size_drew]; omega)) | refine bl3 (by assumption) ?_)); done) | (go_simp; done) | (refine bl3 (by assumption) ?_; go_simp; done)))
    · obtain ⟨x, hx⟩ : ∃ x, lcheck c l = x := ⟨_, rfl⟩
      have Hx := hide hx
      rw [hx] at hz
      have z1 : (x == 0) = false := by simpa using hz
      have z2 : (x != 0) = true := by simpa using hz
      clear hk hz hx
      go_enter Try.func5, Try.ntmps5
      go_wp2_with (first | (go_at_call 14; refine (Drops_calls l _).mono ?_; rw [D.out]; rintro e w1 ⟨rfl, hb_w1⟩; obtain ⟨hc_w1, hf_w1⟩ := bcell hb_w1; have z_w1 := hb_w1.size; (try simp only [World.size_alloc, World.size_setCell, World.size_drew, World.heap_drewN] at z_w1); have zz_w1_w_0_0 : w.heap.size < w1.heap.size := (by omega); have zz_w1_w_0_1 : w.heap.size < w1.heap.size + 1 := (by omega); have zz_w1_w_0_2 : w.heap.size < w1.heap.size + 1 + 1 := (by omega); have zz_w1_w_0_3 : w.heap.size < w1.heap.size + 1 + 1 + 1 := (by omega); have zz_w1_w_1_0 : w.heap.size + 1 < w1.heap.size := (by omega); have zz_w1_w_1_1 : w.heap.size + 1 < w1.heap.size + 1 := (by omega); have zz_w1_w_1_2 : w.heap.size + 1 < w1.heap.size + 1 + 1 := (by omega); have zz_w1_w_1_3 : w.heap.size + 1 < w1.heap.size + 1 + 1 + 1 := (by omega)) | (go_at_call 9; refine (awake_calls _).mono ?_; rintro e w2 ⟨rfl, hb_w2⟩; obtain ⟨hc_w2, hf_w2⟩ := bcell hb_w2; have z_w2 := hb_w2.size; (try simp only [World.size_alloc, World.size_setCell, World.size_drew, World.heap_drewN] at z_w2); have zz_w2_w_0_0 : w.heap.size < w2.heap.size := (by omega); have zz_w2_w_0_1 : w.heap.size < w2.heap.size + 1 := (by omega); have zz_w2_w_0_2 : w.heap.size < w2.heap.size + 1 + 1 := (by omega); have zz_w2_w_0_3 : w.heap.size < w2.heap.size + 1 + 1 + 1 := (by omega); have zz_w2_w_1_0 : w.heap.size + 1 < w2.heap.size := (by omega); have zz_w2_w_1_1 : w.heap.size + 1 < w2.heap.size + 1 := (by omega); have zz_w2_w_1_2 : w.heap.size + 1 < w2.heap.size + 1 + 1 := (by omega); have zz_w2_w_1_3 : w.heap.size + 1 < w2.heap.size + 1 + 1 + 1 := (by omega)) | (go_at_call 12; refine (Check_calls c l _).mono ?_; rw [Hx.out]; rintro e w3 ⟨rfl, hb_w3⟩; obtain ⟨hc_w3, hf_w3⟩ := bcell hb_w3; have z_w3 := hb_w3.size; (try simp only [World.size_alloc, World.size_setCell, World.size_drew, World.heap_drewN] at z_w3); have zz_w3_w_0_0 : w.heap.size < w3.heap.size := (by omega); have zz_w3_w_0_1 : w.heap.size < w3.heap.size + 1 := (by omega); have zz_w3_w_0_2 : w.heap.size < w3.heap.size + 1 + 1 := (by omega); have zz_w3_w_0_3 : w.heap.size < w3.heap.size + 1 + 1 + 1 := (by omega); have zz_w3_w_1_0 : w.heap.size + 1 < w3.heap.size := (by omega); have zz_w3_w_1_1 : w.heap.size + 1 < w3.heap.size + 1 := (by omega); have zz_w3_w_1_2 : w.heap.size + 1 < w3.heap.size + 1 + 1 := (by omega); have zz_w3_w_1_3 : w.heap.size + 1 < w3.heap.size + 1 + 1 + 1 := (by omega)))
      go_ret
      (refine ⟨?_, ?_⟩; (first | rfl | (go_simp; done) | (simp; done)); (first | ((repeat' (with_reducible first | exact bl0 | apply bl4 | apply bl5 | apply bl1 | refine bl2 ?_ (by first | omega | (simp only [World.size_alloc, World.size_setCell, World.size_drew]; omega)) | refine bl3 (by assumption) ?_)); done) | (go_simp; done) | (refine bl3 (by assumption) ?_; go_simp; done)))
  · have D := hide (show (l.kind == 2) = false by simpa using hk)
    have d : (l.kind == 2) = false := by simpa using hk
    clear hk
    go_enter Try.func5, Try.ntmps5
    go_wp2_with (first | (go_at_call 14; refine (Drops_calls l _).mono ?_; rw [D.out]; rintro e w1 ⟨rfl, hb_w1⟩; obtain ⟨hc_w1, hf_w1⟩ := bcell hb_w1; have z_w1 := hb_w1.size; (try simp only [World.size_alloc, World.size_setCell, World.size_drew, World.heap_drewN] at z_w1); have zz_w1_w_0_0 : w.heap.size < w1.heap.size := (by omega); have zz_w1_w_0_1 : w.heap.size < w1.heap.size + 1 := (by omega); have zz_w1_w_0_2 : w.heap.size < w1.heap.size + 1 + 1 := (by omega); have zz_w1_w_0_3 : w.heap.size < w1.heap.size + 1 + 1 + 1 := (by omega); have zz_w1_w_1_0 : w.heap.size + 1 < w1.heap.size := (by omega); have zz_w1_w_1_1 : w.heap.size + 1 < w1.heap.size + 1 := (by omega); have zz_w1_w_1_2 : w.heap.size + 1 < w1.heap.size + 1 + 1 := (by omega); have zz_w1_w_1_3 : w.heap.size + 1 < w1.heap.size + 1 + 1 + 1 := (by omega)) | (go_at_call 9; refine (awake_calls _).mono ?_; rintro e w2 ⟨rfl, hb_w2⟩; obtain ⟨hc_w2, hf_w2⟩ := bcell hb_w2; have z_w2 := hb_w2.size; (try simp only [World.size_alloc, World.size_setCell, World.size_drew, World.heap_drewN] at z_w2); have zz_w2_w_0_0 : w.heap.size < w2.heap.size := (by omega); have zz_w2_w_0_1 : w.heap.size < w2.heap.size + 1 := (by omega); have zz_w2_w_0_2 : w.heap.size < w2.heap.size + 1 + 1 := (by omega); have zz_w2_w_0_3 : w.heap.size < w2.heap.size + 1 + 1 + 1 := (by omega); have zz_w2_w_1_0 : w.heap.size + 1 < w2.heap.size := (by omega); have zz_w2_w_1_1 : w.heap.size + 1 < w2.heap.size + 1 := (by omega); have zz_w2_w_1_2 : w.heap.size + 1 < w2.heap.size + 1 + 1 := (by omega); have zz_w2_w_1_3 : w.heap.size + 1 < w2.heap.size + 1 + 1 + 1 := (by omega)))
    go_ret
    (refine ⟨?_, ?_⟩; (first | rfl | (go_simp; done) | (simp; done)); (first | ((repeat' (with_reducible first | exact bl0 | apply bl4 | apply bl5 | apply bl1 | refine bl2 ?_ (by first | omega | (simp only [World.size_alloc, World.size_setCell, World.size_drew]; omega)) | refine bl3 (by assumption) ?_)); done) | (go_simp; done) | (refine bl3 (by assumption) ?_; go_simp; done)))
end Go.Proofs.Ytaajighbnkifhaa
