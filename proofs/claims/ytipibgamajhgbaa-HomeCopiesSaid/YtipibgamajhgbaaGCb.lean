/- What bundle.Check, and the reference's, come to. -/
import Derived.Test.YtipibgamajhgbaaProg
import Derived.Test.YtipibgamajhgbaaGA
import Derived.Test.YtipibgamajhgbaaGCa
namespace Go.Proofs.Ytipibgamajhgbaa
open Go.RowKit
set_option linter.unusedVariables false
set_option linter.unusedSimpArgs false
set_option maxHeartbeats 2000000 in
theorem rCheck_calls (b : Bun) (t : Int) (w : World) :
    Calls Try.prog 29 #[.agg #[.int .i64 b.c, .bool b.o, .bool b.h, .int .i64 b.d], .int .i64 t] w fun e w' => e = .returned (.int .i64 (bcheck b t)) ∧ Below w.heap.size w w' := by
  obtain ⟨c, o, h1, d⟩ := b
  cases o <;> cases h1
  all_goals
    go_enter Try.func29, Try.ntmps29
    go_wp2
    all_goals
      go_ret
      refine ⟨ret_int ?_, ?_⟩
      · (try simp only [bne_iff_ne, ne_eq, bne_eq_false_iff_eq] at *); simp [bcheck]; try omega
      · (repeat' (with_reducible first | exact bl0 | apply bl4 | apply bl5 | apply bl1 | refine bl2 ?_ (by first | omega | (simp only [World.size_alloc, World.size_setCell, World.size_drew]; omega)) | refine bl3 (by assumption) ?_))
set_option maxHeartbeats 2000000 in
theorem bCheck_calls (b : Bun) (t : Int) (w : World) :
    Calls Try.prog 61 #[.agg #[.int .i64 b.c, .bool b.o, .bool b.h, .int .i64 b.d], .int .i64 t] w fun e w' => e = .returned (.int .i64 (bcheck b t)) ∧ Below w.heap.size w w' := by
  obtain ⟨c, o, h1, d⟩ := b
  cases o <;> cases h1
  all_goals
    go_enter Try.func61, Try.ntmps61
    go_wp2
    all_goals
      go_ret
      refine ⟨ret_int ?_, ?_⟩
      · (try simp only [bne_iff_ne, ne_eq, bne_eq_false_iff_eq] at *); simp [bcheck]; try omega
      · (repeat' (with_reducible first | exact bl0 | apply bl4 | apply bl5 | apply bl1 | refine bl2 ?_ (by first | omega | (simp only [World.size_alloc, World.size_setCell, World.size_drew]; omega)) | refine bl3 (by assumption) ?_))
end Go.Proofs.Ytipibgamajhgbaa

namespace Go.Proofs.Ytipibgamajhgbaa
open Go.RowKit
set_option linter.unusedVariables false
set_option linter.unusedSimpArgs false
set_option maxHeartbeats 8000000 in
theorem form_calls' (c : Cfg) (kind frm tt block seq who : Int) (wr : Bool) (tok : Bun) (fh fn th tn sq wh wt tk : Bool) (w : World) :
    Calls Try.prog 60 #[.agg #[.int .i64 c.nodes, .int .i64 c.blocks, .int .i64 c.tokens, .int .i64 c.sets, .int .i64 c.ways, .int .i64 c.cap, .int .i64 c.wait, .int .i64 c.tries, .int .i64 c.policy], .agg #[.int .i64 kind, .int .i64 frm, .int .i64 tt, .int .i64 block, .int .i64 seq, .int .i64 who, .bool wr, .int .i64 tok.c, .bool tok.o, .bool tok.h, .int .i64 tok.d], .agg #[.bool fh, .bool fn, .bool th, .bool tn, .bool sq, .bool wh, .bool wt, .bool tk]] w fun e w' => e = .returned (.bool (formE c ⟨kind, frm, tt, block, seq, who, wr, tok⟩ ⟨fh, fn, th, tn, sq, wh, wt, tk⟩)) ∧ Below w.heap.size w w' := by
  obtain ⟨b, hb⟩ : ∃ b, endE c who false true = b := ⟨_, rfl⟩
  have hf : formE c ⟨kind, frm, tt, block, seq, who, wr, tok⟩ ⟨fh, fn, th, tn, sq, wh, wt, tk⟩ = ((sq && decide (1 ≤ seq) || !sq && decide (seq = 0)) && (wh && b || !wh && decide (who = 0)) && (wt || !wr)) := by simp only [formE, hb]
  have Hf := hide hf
  have Hb := hide hb
  clear hf hb
  cases sq
  · by_cases hs : seq = 0
    · have b2 : (seq == 0) = true := by simpa using hs
      have Hs := hide hs
      clear hs
      cases wh
      · by_cases hw : who = 0
        · have b3 : (who == 0) = true := by simpa using hw
          have Hw := hide hw
          clear hw
          cases wt
          · cases wr
            all_goals
              go_enter Try.func60, Try.ntmps60
              go_wp2_with (go_at_call 59; refine (end_calls c who false true _).mono ?_; rw [Hb.out]; rintro e w1 ⟨rfl, hb_w1⟩; obtain ⟨hc_w1, hf_w1⟩ := bcell hb_w1; have z_w1 := hb_w1.size; (try simp only [World.size_alloc, World.size_setCell, World.size_drew, World.heap_drewN] at z_w1); have zz_w1_w_0_0 : w.heap.size < w1.heap.size := (by omega); have zz_w1_w_0_1 : w.heap.size < w1.heap.size + 1 := (by omega); have zz_w1_w_0_2 : w.heap.size < w1.heap.size + 1 + 1 := (by omega); have zz_w1_w_0_3 : w.heap.size < w1.heap.size + 1 + 1 + 1 := (by omega); have zz_w1_w_1_0 : w.heap.size + 1 < w1.heap.size := (by omega); have zz_w1_w_1_1 : w.heap.size + 1 < w1.heap.size + 1 := (by omega); have zz_w1_w_1_2 : w.heap.size + 1 < w1.heap.size + 1 + 1 := (by omega); have zz_w1_w_1_3 : w.heap.size + 1 < w1.heap.size + 1 + 1 + 1 := (by omega); have zz_w1_w_2_0 : w.heap.size + 1 + 1 < w1.heap.size := (by omega); have zz_w1_w_2_1 : w.heap.size + 1 + 1 < w1.heap.size + 1 := (by omega); have zz_w1_w_2_2 : w.heap.size + 1 + 1 < w1.heap.size + 1 + 1 := (by omega); have zz_w1_w_2_3 : w.heap.size + 1 + 1 < w1.heap.size + 1 + 1 + 1 := (by omega))
              go_ret
              exact ⟨ret_bool (by rw [Hf.out]; simp [Hs.out, Hw.out]), (by (repeat' (with_reducible first | exact bl0 | apply bl4 | apply bl5 | apply bl1 | refine bl2 ?_ (by first | omega | (simp only [World.size_alloc, World.size_setCell, World.size_drew]; omega)) | refine bl3 (by assumption) ?_)))⟩
          · skip
            go_enter Try.func60, Try.ntmps60
            go_wp2_with (go_at_call 59; refine (end_calls c who false true _).mono ?_; rw [Hb.out]; rintro e w1 ⟨rfl, hb_w1⟩; obtain ⟨hc_w1, hf_w1⟩ := bcell hb_w1; have z_w1 := hb_w1.size; (try simp only [World.size_alloc, World.size_setCell, World.size_drew, World.heap_drewN] at z_w1); have zz_w1_w_0_0 : w.heap.size < w1.heap.size := (by omega); have zz_w1_w_0_1 : w.heap.size < w1.heap.size + 1 := (by omega); have zz_w1_w_0_2 : w.heap.size < w1.heap.size + 1 + 1 := (by omega); have zz_w1_w_0_3 : w.heap.size < w1.heap.size + 1 + 1 + 1 := (by omega); have zz_w1_w_1_0 : w.heap.size + 1 < w1.heap.size := (by omega); have zz_w1_w_1_1 : w.heap.size + 1 < w1.heap.size + 1 := (by omega); have zz_w1_w_1_2 : w.heap.size + 1 < w1.heap.size + 1 + 1 := (by omega); have zz_w1_w_1_3 : w.heap.size + 1 < w1.heap.size + 1 + 1 + 1 := (by omega); have zz_w1_w_2_0 : w.heap.size + 1 + 1 < w1.heap.size := (by omega); have zz_w1_w_2_1 : w.heap.size + 1 + 1 < w1.heap.size + 1 := (by omega); have zz_w1_w_2_2 : w.heap.size + 1 + 1 < w1.heap.size + 1 + 1 := (by omega); have zz_w1_w_2_3 : w.heap.size + 1 + 1 < w1.heap.size + 1 + 1 + 1 := (by omega))
            go_ret
            exact ⟨ret_bool (by rw [Hf.out]; simp [Hs.out, Hw.out]), (by (repeat' (with_reducible first | exact bl0 | apply bl4 | apply bl5 | apply bl1 | refine bl2 ?_ (by first | omega | (simp only [World.size_alloc, World.size_setCell, World.size_drew]; omega)) | refine bl3 (by assumption) ?_)))⟩
        · have b3 : (who == 0) = false := by simpa using hw
          have Hw := hide hw
          clear hw
          go_enter Try.func60, Try.ntmps60
          go_wp2_with (go_at_call 59; refine (end_calls c who false true _).mono ?_; rw [Hb.out]; rintro e w1 ⟨rfl, hb_w1⟩; obtain ⟨hc_w1, hf_w1⟩ := bcell hb_w1; have z_w1 := hb_w1.size; (try simp only [World.size_alloc, World.size_setCell, World.size_drew, World.heap_drewN] at z_w1); have zz_w1_w_0_0 : w.heap.size < w1.heap.size := (by omega); have zz_w1_w_0_1 : w.heap.size < w1.heap.size + 1 := (by omega); have zz_w1_w_0_2 : w.heap.size < w1.heap.size + 1 + 1 := (by omega); have zz_w1_w_0_3 : w.heap.size < w1.heap.size + 1 + 1 + 1 := (by omega); have zz_w1_w_1_0 : w.heap.size + 1 < w1.heap.size := (by omega); have zz_w1_w_1_1 : w.heap.size + 1 < w1.heap.size + 1 := (by omega); have zz_w1_w_1_2 : w.heap.size + 1 < w1.heap.size + 1 + 1 := (by omega); have zz_w1_w_1_3 : w.heap.size + 1 < w1.heap.size + 1 + 1 + 1 := (by omega); have zz_w1_w_2_0 : w.heap.size + 1 + 1 < w1.heap.size := (by omega); have zz_w1_w_2_1 : w.heap.size + 1 + 1 < w1.heap.size + 1 := (by omega); have zz_w1_w_2_2 : w.heap.size + 1 + 1 < w1.heap.size + 1 + 1 := (by omega); have zz_w1_w_2_3 : w.heap.size + 1 + 1 < w1.heap.size + 1 + 1 + 1 := (by omega))
          go_ret
          exact ⟨ret_bool (by rw [Hf.out]; simp [Hs.out, Hw.out]), (by (repeat' (with_reducible first | exact bl0 | apply bl4 | apply bl5 | apply bl1 | refine bl2 ?_ (by first | omega | (simp only [World.size_alloc, World.size_setCell, World.size_drew]; omega)) | refine bl3 (by assumption) ?_)))⟩
      · cases b
        · skip
          go_enter Try.func60, Try.ntmps60
          go_wp2_with (go_at_call 59; refine (end_calls c who false true _).mono ?_; rw [Hb.out]; rintro e w1 ⟨rfl, hb_w1⟩; obtain ⟨hc_w1, hf_w1⟩ := bcell hb_w1; have z_w1 := hb_w1.size; (try simp only [World.size_alloc, World.size_setCell, World.size_drew, World.heap_drewN] at z_w1); have zz_w1_w_0_0 : w.heap.size < w1.heap.size := (by omega); have zz_w1_w_0_1 : w.heap.size < w1.heap.size + 1 := (by omega); have zz_w1_w_0_2 : w.heap.size < w1.heap.size + 1 + 1 := (by omega); have zz_w1_w_0_3 : w.heap.size < w1.heap.size + 1 + 1 + 1 := (by omega); have zz_w1_w_1_0 : w.heap.size + 1 < w1.heap.size := (by omega); have zz_w1_w_1_1 : w.heap.size + 1 < w1.heap.size + 1 := (by omega); have zz_w1_w_1_2 : w.heap.size + 1 < w1.heap.size + 1 + 1 := (by omega); have zz_w1_w_1_3 : w.heap.size + 1 < w1.heap.size + 1 + 1 + 1 := (by omega); have zz_w1_w_2_0 : w.heap.size + 1 + 1 < w1.heap.size := (by omega); have zz_w1_w_2_1 : w.heap.size + 1 + 1 < w1.heap.size + 1 := (by omega); have zz_w1_w_2_2 : w.heap.size + 1 + 1 < w1.heap.size + 1 + 1 := (by omega); have zz_w1_w_2_3 : w.heap.size + 1 + 1 < w1.heap.size + 1 + 1 + 1 := (by omega))
          go_ret
          exact ⟨ret_bool (by rw [Hf.out]; simp [Hs.out]), (by (repeat' (with_reducible first | exact bl0 | apply bl4 | apply bl5 | apply bl1 | refine bl2 ?_ (by first | omega | (simp only [World.size_alloc, World.size_setCell, World.size_drew]; omega)) | refine bl3 (by assumption) ?_)))⟩
        · cases wt
          · cases wr
            all_goals
              go_enter Try.func60, Try.ntmps60
              go_wp2_with (go_at_call 59; refine (end_calls c who false true _).mono ?_; rw [Hb.out]; rintro e w1 ⟨rfl, hb_w1⟩; obtain ⟨hc_w1, hf_w1⟩ := bcell hb_w1; have z_w1 := hb_w1.size; (try simp only [World.size_alloc, World.size_setCell, World.size_drew, World.heap_drewN] at z_w1); have zz_w1_w_0_0 : w.heap.size < w1.heap.size := (by omega); have zz_w1_w_0_1 : w.heap.size < w1.heap.size + 1 := (by omega); have zz_w1_w_0_2 : w.heap.size < w1.heap.size + 1 + 1 := (by omega); have zz_w1_w_0_3 : w.heap.size < w1.heap.size + 1 + 1 + 1 := (by omega); have zz_w1_w_1_0 : w.heap.size + 1 < w1.heap.size := (by omega); have zz_w1_w_1_1 : w.heap.size + 1 < w1.heap.size + 1 := (by omega); have zz_w1_w_1_2 : w.heap.size + 1 < w1.heap.size + 1 + 1 := (by omega); have zz_w1_w_1_3 : w.heap.size + 1 < w1.heap.size + 1 + 1 + 1 := (by omega); have zz_w1_w_2_0 : w.heap.size + 1 + 1 < w1.heap.size := (by omega); have zz_w1_w_2_1 : w.heap.size + 1 + 1 < w1.heap.size + 1 := (by omega); have zz_w1_w_2_2 : w.heap.size + 1 + 1 < w1.heap.size + 1 + 1 := (by omega); have zz_w1_w_2_3 : w.heap.size + 1 + 1 < w1.heap.size + 1 + 1 + 1 := (by omega))
              go_ret
              exact ⟨ret_bool (by rw [Hf.out]; simp [Hs.out]), (by (repeat' (with_reducible first | exact bl0 | apply bl4 | apply bl5 | apply bl1 | refine bl2 ?_ (by first | omega | (simp only [World.size_alloc, World.size_setCell, World.size_drew]; omega)) | refine bl3 (by assumption) ?_)))⟩
          · skip
            go_enter Try.func60, Try.ntmps60
            go_wp2_with (go_at_call 59; refine (end_calls c who false true _).mono ?_; rw [Hb.out]; rintro e w1 ⟨rfl, hb_w1⟩; obtain ⟨hc_w1, hf_w1⟩ := bcell hb_w1; have z_w1 := hb_w1.size; (try simp only [World.size_alloc, World.size_setCell, World.size_drew, World.heap_drewN] at z_w1); have zz_w1_w_0_0 : w.heap.size < w1.heap.size := (by omega); have zz_w1_w_0_1 : w.heap.size < w1.heap.size + 1 := (by omega); have zz_w1_w_0_2 : w.heap.size < w1.heap.size + 1 + 1 := (by omega); have zz_w1_w_0_3 : w.heap.size < w1.heap.size + 1 + 1 + 1 := (by omega); have zz_w1_w_1_0 : w.heap.size + 1 < w1.heap.size := (by omega); have zz_w1_w_1_1 : w.heap.size + 1 < w1.heap.size + 1 := (by omega); have zz_w1_w_1_2 : w.heap.size + 1 < w1.heap.size + 1 + 1 := (by omega); have zz_w1_w_1_3 : w.heap.size + 1 < w1.heap.size + 1 + 1 + 1 := (by omega); have zz_w1_w_2_0 : w.heap.size + 1 + 1 < w1.heap.size := (by omega); have zz_w1_w_2_1 : w.heap.size + 1 + 1 < w1.heap.size + 1 := (by omega); have zz_w1_w_2_2 : w.heap.size + 1 + 1 < w1.heap.size + 1 + 1 := (by omega); have zz_w1_w_2_3 : w.heap.size + 1 + 1 < w1.heap.size + 1 + 1 + 1 := (by omega))
            go_ret
            exact ⟨ret_bool (by rw [Hf.out]; simp [Hs.out]), (by (repeat' (with_reducible first | exact bl0 | apply bl4 | apply bl5 | apply bl1 | refine bl2 ?_ (by first | omega | (simp only [World.size_alloc, World.size_setCell, World.size_drew]; omega)) | refine bl3 (by assumption) ?_)))⟩
    · have b2 : (seq == 0) = false := by simpa using hs
      have Hs := hide hs
      clear hs
      go_enter Try.func60, Try.ntmps60
      go_wp2_with (go_at_call 59; refine (end_calls c who false true _).mono ?_; rw [Hb.out]; rintro e w1 ⟨rfl, hb_w1⟩; obtain ⟨hc_w1, hf_w1⟩ := bcell hb_w1; have z_w1 := hb_w1.size; (try simp only [World.size_alloc, World.size_setCell, World.size_drew, World.heap_drewN] at z_w1); have zz_w1_w_0_0 : w.heap.size < w1.heap.size := (by omega); have zz_w1_w_0_1 : w.heap.size < w1.heap.size + 1 := (by omega); have zz_w1_w_0_2 : w.heap.size < w1.heap.size + 1 + 1 := (by omega); have zz_w1_w_0_3 : w.heap.size < w1.heap.size + 1 + 1 + 1 := (by omega); have zz_w1_w_1_0 : w.heap.size + 1 < w1.heap.size := (by omega); have zz_w1_w_1_1 : w.heap.size + 1 < w1.heap.size + 1 := (by omega); have zz_w1_w_1_2 : w.heap.size + 1 < w1.heap.size + 1 + 1 := (by omega); have zz_w1_w_1_3 : w.heap.size + 1 < w1.heap.size + 1 + 1 + 1 := (by omega); have zz_w1_w_2_0 : w.heap.size + 1 + 1 < w1.heap.size := (by omega); have zz_w1_w_2_1 : w.heap.size + 1 + 1 < w1.heap.size + 1 := (by omega); have zz_w1_w_2_2 : w.heap.size + 1 + 1 < w1.heap.size + 1 + 1 := (by omega); have zz_w1_w_2_3 : w.heap.size + 1 + 1 < w1.heap.size + 1 + 1 + 1 := (by omega))
      go_ret
      exact ⟨ret_bool (by rw [Hf.out]; simp [Hs.out]), (by (repeat' (with_reducible first | exact bl0 | apply bl4 | apply bl5 | apply bl1 | refine bl2 ?_ (by first | omega | (simp only [World.size_alloc, World.size_setCell, World.size_drew]; omega)) | refine bl3 (by assumption) ?_)))⟩
  · by_cases hs : 1 ≤ seq
    · have Hs := hide hs
      cases wh
      · by_cases hw : who = 0
        · have b3 : (who == 0) = true := by simpa using hw
          have Hw := hide hw
          clear hw
          cases wt
          · cases wr
            all_goals
              go_enter Try.func60, Try.ntmps60
              go_wp2_with (go_at_call 59; refine (end_calls c who false true _).mono ?_; rw [Hb.out]; rintro e w1 ⟨rfl, hb_w1⟩; obtain ⟨hc_w1, hf_w1⟩ := bcell hb_w1; have z_w1 := hb_w1.size; (try simp only [World.size_alloc, World.size_setCell, World.size_drew, World.heap_drewN] at z_w1); have zz_w1_w_0_0 : w.heap.size < w1.heap.size := (by omega); have zz_w1_w_0_1 : w.heap.size < w1.heap.size + 1 := (by omega); have zz_w1_w_0_2 : w.heap.size < w1.heap.size + 1 + 1 := (by omega); have zz_w1_w_0_3 : w.heap.size < w1.heap.size + 1 + 1 + 1 := (by omega); have zz_w1_w_1_0 : w.heap.size + 1 < w1.heap.size := (by omega); have zz_w1_w_1_1 : w.heap.size + 1 < w1.heap.size + 1 := (by omega); have zz_w1_w_1_2 : w.heap.size + 1 < w1.heap.size + 1 + 1 := (by omega); have zz_w1_w_1_3 : w.heap.size + 1 < w1.heap.size + 1 + 1 + 1 := (by omega); have zz_w1_w_2_0 : w.heap.size + 1 + 1 < w1.heap.size := (by omega); have zz_w1_w_2_1 : w.heap.size + 1 + 1 < w1.heap.size + 1 := (by omega); have zz_w1_w_2_2 : w.heap.size + 1 + 1 < w1.heap.size + 1 + 1 := (by omega); have zz_w1_w_2_3 : w.heap.size + 1 + 1 < w1.heap.size + 1 + 1 + 1 := (by omega))
              go_ret
              exact ⟨ret_bool (by rw [Hf.out]; simp [Hs.out, Hw.out]), (by (repeat' (with_reducible first | exact bl0 | apply bl4 | apply bl5 | apply bl1 | refine bl2 ?_ (by first | omega | (simp only [World.size_alloc, World.size_setCell, World.size_drew]; omega)) | refine bl3 (by assumption) ?_)))⟩
          · skip
            go_enter Try.func60, Try.ntmps60
            go_wp2_with (go_at_call 59; refine (end_calls c who false true _).mono ?_; rw [Hb.out]; rintro e w1 ⟨rfl, hb_w1⟩; obtain ⟨hc_w1, hf_w1⟩ := bcell hb_w1; have z_w1 := hb_w1.size; (try simp only [World.size_alloc, World.size_setCell, World.size_drew, World.heap_drewN] at z_w1); have zz_w1_w_0_0 : w.heap.size < w1.heap.size := (by omega); have zz_w1_w_0_1 : w.heap.size < w1.heap.size + 1 := (by omega); have zz_w1_w_0_2 : w.heap.size < w1.heap.size + 1 + 1 := (by omega); have zz_w1_w_0_3 : w.heap.size < w1.heap.size + 1 + 1 + 1 := (by omega); have zz_w1_w_1_0 : w.heap.size + 1 < w1.heap.size := (by omega); have zz_w1_w_1_1 : w.heap.size + 1 < w1.heap.size + 1 := (by omega); have zz_w1_w_1_2 : w.heap.size + 1 < w1.heap.size + 1 + 1 := (by omega); have zz_w1_w_1_3 : w.heap.size + 1 < w1.heap.size + 1 + 1 + 1 := (by omega); have zz_w1_w_2_0 : w.heap.size + 1 + 1 < w1.heap.size := (by omega); have zz_w1_w_2_1 : w.heap.size + 1 + 1 < w1.heap.size + 1 := (by omega); have zz_w1_w_2_2 : w.heap.size + 1 + 1 < w1.heap.size + 1 + 1 := (by omega); have zz_w1_w_2_3 : w.heap.size + 1 + 1 < w1.heap.size + 1 + 1 + 1 := (by omega))
            go_ret
            exact ⟨ret_bool (by rw [Hf.out]; simp [Hs.out, Hw.out]), (by (repeat' (with_reducible first | exact bl0 | apply bl4 | apply bl5 | apply bl1 | refine bl2 ?_ (by first | omega | (simp only [World.size_alloc, World.size_setCell, World.size_drew]; omega)) | refine bl3 (by assumption) ?_)))⟩
        · have b3 : (who == 0) = false := by simpa using hw
          have Hw := hide hw
          clear hw
          go_enter Try.func60, Try.ntmps60
          go_wp2_with (go_at_call 59; refine (end_calls c who false true _).mono ?_; rw [Hb.out]; rintro e w1 ⟨rfl, hb_w1⟩; obtain ⟨hc_w1, hf_w1⟩ := bcell hb_w1; have z_w1 := hb_w1.size; (try simp only [World.size_alloc, World.size_setCell, World.size_drew, World.heap_drewN] at z_w1); have zz_w1_w_0_0 : w.heap.size < w1.heap.size := (by omega); have zz_w1_w_0_1 : w.heap.size < w1.heap.size + 1 := (by omega); have zz_w1_w_0_2 : w.heap.size < w1.heap.size + 1 + 1 := (by omega); have zz_w1_w_0_3 : w.heap.size < w1.heap.size + 1 + 1 + 1 := (by omega); have zz_w1_w_1_0 : w.heap.size + 1 < w1.heap.size := (by omega); have zz_w1_w_1_1 : w.heap.size + 1 < w1.heap.size + 1 := (by omega); have zz_w1_w_1_2 : w.heap.size + 1 < w1.heap.size + 1 + 1 := (by omega); have zz_w1_w_1_3 : w.heap.size + 1 < w1.heap.size + 1 + 1 + 1 := (by omega); have zz_w1_w_2_0 : w.heap.size + 1 + 1 < w1.heap.size := (by omega); have zz_w1_w_2_1 : w.heap.size + 1 + 1 < w1.heap.size + 1 := (by omega); have zz_w1_w_2_2 : w.heap.size + 1 + 1 < w1.heap.size + 1 + 1 := (by omega); have zz_w1_w_2_3 : w.heap.size + 1 + 1 < w1.heap.size + 1 + 1 + 1 := (by omega))
          go_ret
          exact ⟨ret_bool (by rw [Hf.out]; simp [Hs.out, Hw.out]), (by (repeat' (with_reducible first | exact bl0 | apply bl4 | apply bl5 | apply bl1 | refine bl2 ?_ (by first | omega | (simp only [World.size_alloc, World.size_setCell, World.size_drew]; omega)) | refine bl3 (by assumption) ?_)))⟩
      · cases b
        · skip
          go_enter Try.func60, Try.ntmps60
          go_wp2_with (go_at_call 59; refine (end_calls c who false true _).mono ?_; rw [Hb.out]; rintro e w1 ⟨rfl, hb_w1⟩; obtain ⟨hc_w1, hf_w1⟩ := bcell hb_w1; have z_w1 := hb_w1.size; (try simp only [World.size_alloc, World.size_setCell, World.size_drew, World.heap_drewN] at z_w1); have zz_w1_w_0_0 : w.heap.size < w1.heap.size := (by omega); have zz_w1_w_0_1 : w.heap.size < w1.heap.size + 1 := (by omega); have zz_w1_w_0_2 : w.heap.size < w1.heap.size + 1 + 1 := (by omega); have zz_w1_w_0_3 : w.heap.size < w1.heap.size + 1 + 1 + 1 := (by omega); have zz_w1_w_1_0 : w.heap.size + 1 < w1.heap.size := (by omega); have zz_w1_w_1_1 : w.heap.size + 1 < w1.heap.size + 1 := (by omega); have zz_w1_w_1_2 : w.heap.size + 1 < w1.heap.size + 1 + 1 := (by omega); have zz_w1_w_1_3 : w.heap.size + 1 < w1.heap.size + 1 + 1 + 1 := (by omega); have zz_w1_w_2_0 : w.heap.size + 1 + 1 < w1.heap.size := (by omega); have zz_w1_w_2_1 : w.heap.size + 1 + 1 < w1.heap.size + 1 := (by omega); have zz_w1_w_2_2 : w.heap.size + 1 + 1 < w1.heap.size + 1 + 1 := (by omega); have zz_w1_w_2_3 : w.heap.size + 1 + 1 < w1.heap.size + 1 + 1 + 1 := (by omega))
          go_ret
          exact ⟨ret_bool (by rw [Hf.out]; simp [Hs.out]), (by (repeat' (with_reducible first | exact bl0 | apply bl4 | apply bl5 | apply bl1 | refine bl2 ?_ (by first | omega | (simp only [World.size_alloc, World.size_setCell, World.size_drew]; omega)) | refine bl3 (by assumption) ?_)))⟩
        · cases wt
          · cases wr
            all_goals
              go_enter Try.func60, Try.ntmps60
              go_wp2_with (go_at_call 59; refine (end_calls c who false true _).mono ?_; rw [Hb.out]; rintro e w1 ⟨rfl, hb_w1⟩; obtain ⟨hc_w1, hf_w1⟩ := bcell hb_w1; have z_w1 := hb_w1.size; (try simp only [World.size_alloc, World.size_setCell, World.size_drew, World.heap_drewN] at z_w1); have zz_w1_w_0_0 : w.heap.size < w1.heap.size := (by omega); have zz_w1_w_0_1 : w.heap.size < w1.heap.size + 1 := (by omega); have zz_w1_w_0_2 : w.heap.size < w1.heap.size + 1 + 1 := (by omega); have zz_w1_w_0_3 : w.heap.size < w1.heap.size + 1 + 1 + 1 := (by omega); have zz_w1_w_1_0 : w.heap.size + 1 < w1.heap.size := (by omega); have zz_w1_w_1_1 : w.heap.size + 1 < w1.heap.size + 1 := (by omega); have zz_w1_w_1_2 : w.heap.size + 1 < w1.heap.size + 1 + 1 := (by omega); have zz_w1_w_1_3 : w.heap.size + 1 < w1.heap.size + 1 + 1 + 1 := (by omega); have zz_w1_w_2_0 : w.heap.size + 1 + 1 < w1.heap.size := (by omega); have zz_w1_w_2_1 : w.heap.size + 1 + 1 < w1.heap.size + 1 := (by omega); have zz_w1_w_2_2 : w.heap.size + 1 + 1 < w1.heap.size + 1 + 1 := (by omega); have zz_w1_w_2_3 : w.heap.size + 1 + 1 < w1.heap.size + 1 + 1 + 1 := (by omega))
              go_ret
              exact ⟨ret_bool (by rw [Hf.out]; simp [Hs.out]), (by (repeat' (with_reducible first | exact bl0 | apply bl4 | apply bl5 | apply bl1 | refine bl2 ?_ (by first | omega | (simp only [World.size_alloc, World.size_setCell, World.size_drew]; omega)) | refine bl3 (by assumption) ?_)))⟩
          · skip
            go_enter Try.func60, Try.ntmps60
            go_wp2_with (go_at_call 59; refine (end_calls c who false true _).mono ?_; rw [Hb.out]; rintro e w1 ⟨rfl, hb_w1⟩; obtain ⟨hc_w1, hf_w1⟩ := bcell hb_w1; have z_w1 := hb_w1.size; (try simp only [World.size_alloc, World.size_setCell, World.size_drew, World.heap_drewN] at z_w1); have zz_w1_w_0_0 : w.heap.size < w1.heap.size := (by omega); have zz_w1_w_0_1 : w.heap.size < w1.heap.size + 1 := (by omega); have zz_w1_w_0_2 : w.heap.size < w1.heap.size + 1 + 1 := (by omega); have zz_w1_w_0_3 : w.heap.size < w1.heap.size + 1 + 1 + 1 := (by omega); have zz_w1_w_1_0 : w.heap.size + 1 < w1.heap.size := (by omega); have zz_w1_w_1_1 : w.heap.size + 1 < w1.heap.size + 1 := (by omega); have zz_w1_w_1_2 : w.heap.size + 1 < w1.heap.size + 1 + 1 := (by omega); have zz_w1_w_1_3 : w.heap.size + 1 < w1.heap.size + 1 + 1 + 1 := (by omega); have zz_w1_w_2_0 : w.heap.size + 1 + 1 < w1.heap.size := (by omega); have zz_w1_w_2_1 : w.heap.size + 1 + 1 < w1.heap.size + 1 := (by omega); have zz_w1_w_2_2 : w.heap.size + 1 + 1 < w1.heap.size + 1 + 1 := (by omega); have zz_w1_w_2_3 : w.heap.size + 1 + 1 < w1.heap.size + 1 + 1 + 1 := (by omega))
            go_ret
            exact ⟨ret_bool (by rw [Hf.out]; simp [Hs.out]), (by (repeat' (with_reducible first | exact bl0 | apply bl4 | apply bl5 | apply bl1 | refine bl2 ?_ (by first | omega | (simp only [World.size_alloc, World.size_setCell, World.size_drew]; omega)) | refine bl3 (by assumption) ?_)))⟩
    · have Hs := hide hs
      go_enter Try.func60, Try.ntmps60
      go_wp2_with (go_at_call 59; refine (end_calls c who false true _).mono ?_; rw [Hb.out]; rintro e w1 ⟨rfl, hb_w1⟩; obtain ⟨hc_w1, hf_w1⟩ := bcell hb_w1; have z_w1 := hb_w1.size; (try simp only [World.size_alloc, World.size_setCell, World.size_drew, World.heap_drewN] at z_w1); have zz_w1_w_0_0 : w.heap.size < w1.heap.size := (by omega); have zz_w1_w_0_1 : w.heap.size < w1.heap.size + 1 := (by omega); have zz_w1_w_0_2 : w.heap.size < w1.heap.size + 1 + 1 := (by omega); have zz_w1_w_0_3 : w.heap.size < w1.heap.size + 1 + 1 + 1 := (by omega); have zz_w1_w_1_0 : w.heap.size + 1 < w1.heap.size := (by omega); have zz_w1_w_1_1 : w.heap.size + 1 < w1.heap.size + 1 := (by omega); have zz_w1_w_1_2 : w.heap.size + 1 < w1.heap.size + 1 + 1 := (by omega); have zz_w1_w_1_3 : w.heap.size + 1 < w1.heap.size + 1 + 1 + 1 := (by omega); have zz_w1_w_2_0 : w.heap.size + 1 + 1 < w1.heap.size := (by omega); have zz_w1_w_2_1 : w.heap.size + 1 + 1 < w1.heap.size + 1 := (by omega); have zz_w1_w_2_2 : w.heap.size + 1 + 1 < w1.heap.size + 1 + 1 := (by omega); have zz_w1_w_2_3 : w.heap.size + 1 + 1 < w1.heap.size + 1 + 1 + 1 := (by omega))
      go_ret
      exact ⟨ret_bool (by rw [Hf.out]; simp [show ¬ 1 ≤ seq from by have := Hs.out; omega]; try omega), (by (repeat' (with_reducible first | exact bl0 | apply bl4 | apply bl5 | apply bl1 | refine bl2 ?_ (by first | omega | (simp only [World.size_alloc, World.size_setCell, World.size_drew]; omega)) | refine bl3 (by assumption) ?_)))⟩
theorem form_calls (c : Cfg) (l : Ltr) (r : Row8) (w : World) :
    Calls Try.prog 60 #[.agg #[.int .i64 c.nodes, .int .i64 c.blocks, .int .i64 c.tokens, .int .i64 c.sets, .int .i64 c.ways, .int .i64 c.cap, .int .i64 c.wait, .int .i64 c.tries, .int .i64 c.policy], .agg #[.int .i64 l.kind, .int .i64 l.frm, .int .i64 l.to, .int .i64 l.block, .int .i64 l.seq, .int .i64 l.who, .bool l.wr, .int .i64 l.tok.c, .bool l.tok.o, .bool l.tok.h, .int .i64 l.tok.d], .agg #[.bool r.fh, .bool r.fn, .bool r.th, .bool r.tn, .bool r.sq, .bool r.wh, .bool r.wt, .bool r.tk]] w fun e w' => e = .returned (.bool (formE c l r)) ∧ Below w.heap.size w w' :=
  form_calls' c l.kind l.frm l.to l.block l.seq l.who l.wr l.tok r.fh r.fn r.th r.tn r.sq r.wh r.wt r.tk w
end Go.Proofs.Ytipibgamajhgbaa
