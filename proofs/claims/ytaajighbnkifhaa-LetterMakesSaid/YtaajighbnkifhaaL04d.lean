/- LetterMakes of layer 4: what it comes to. -/
import Derived.Test.YtaajighbnkifhaaL04a
namespace Go.Proofs.Ytaajighbnkifhaa
open Go.RowKit
set_option linter.unusedVariables false
set_option linter.unusedSimpArgs false
set_option maxRecDepth 100000 in
set_option maxHeartbeats 8000000 in
theorem LetterMakes_m (kd : Int) (u : I4) (n : Int) (m : Nat) (hm : (max (min n 64) 0).toNat = m) (hq : (n < 0 ∧ m = 0) ∨ (64 < n ∧ m = 64) ∨ (0 ≤ n ∧ n ≤ 64 ∧ (m : Int) = n)) (w : World) :
    Calls Try.prog 7 #[.int .i64 kd, .agg #[.int .i64 u.a, .int .i64 u.b, .int .i64 u.c, .int .i64 u.d], .int .i64 n] w fun e w' => e = .returned (.bool true) ∧ Below w.heap.size w w' := by
  have Hm := hide hm
  clear hm
  rcases hq with ⟨q1, rfl⟩ | ⟨q1, rfl⟩ | ⟨q1, q2, q3⟩
  · go_enter Try.func7, Try.ntmps7
    go_wp2_with fail
    refine (Spread_calls kd u.a u.b u.c u.d n _).mono ?_; rw [Hm.out]; rintro e w1 ⟨A, cc, rfl, hr, hb_w1⟩; obtain ⟨hc_w1, hf_w1⟩ := bcell hb_w1; have z_w1 := hb_w1.size; (try simp only [World.size_alloc, World.size_setCell, World.size_drew, World.heap_drewN] at z_w1); have zz_w1_w_0_0 : w.heap.size < w1.heap.size := (by omega); have zz_w1_w_0_1 : w.heap.size < w1.heap.size + 1 := (by omega); have zz_w1_w_0_2 : w.heap.size < w1.heap.size + 1 + 1 := (by omega); have zz_w1_w_0_3 : w.heap.size < w1.heap.size + 1 + 1 + 1 := (by omega)
    have hcap := hr.2.1
    clear hr
    go_wp2_with (go_at_call 9; refine (awake_calls _).mono ?_; rintro e w2 ⟨rfl, hb_w2⟩; obtain ⟨hc_w2, hf_w2⟩ := bcell hb_w2; have z_w2 := hb_w2.size; (try simp only [World.size_alloc, World.size_setCell, World.size_drew, World.heap_drewN] at z_w2); have zz_w2_w_0_0 : w.heap.size < w2.heap.size := (by omega); have zz_w2_w_0_1 : w.heap.size < w2.heap.size + 1 := (by omega); have zz_w2_w_0_2 : w.heap.size < w2.heap.size + 1 + 1 := (by omega); have zz_w2_w_0_3 : w.heap.size < w2.heap.size + 1 + 1 + 1 := (by omega))
    go_loopw [33] (fun i wr => i = .int .i64 0 ∧ Below w.heap.size w wr) (fun i _ => 0)
    case atStart => exact ⟨rfl, by (repeat' (with_reducible first | exact bl0 | apply bl4 | apply bl5 | apply bl1 | refine bl2 ?_ (by first | omega | (simp only [World.size_alloc, World.size_setCell, World.size_drew]; omega)) | refine bl3 (by assumption) ?_))⟩
    case round =>
      obtain ⟨rfl, hbr⟩ := hrel
      go_wp2
      go_ret
      (refine ⟨?_, ?_⟩; (first | rfl | (go_simp; done) | (simp; done)); (first | ((repeat' (with_reducible first | exact bl0 | apply bl4 | apply bl5 | apply bl1 | refine bl2 ?_ (by first | omega | (simp only [World.size_alloc, World.size_setCell, World.size_drew]; omega)) | refine bl3 (by assumption) ?_)); done) | (go_simp; done) | (refine bl3 (by assumption) ?_; go_simp; done)))

  · go_enter Try.func7, Try.ntmps7
    go_wp2_with fail
    refine (Spread_calls kd u.a u.b u.c u.d n _).mono ?_; rw [Hm.out]; rintro e w1 ⟨A, cc, rfl, hr, hb_w1⟩; obtain ⟨hc_w1, hf_w1⟩ := bcell hb_w1; have z_w1 := hb_w1.size; (try simp only [World.size_alloc, World.size_setCell, World.size_drew, World.heap_drewN] at z_w1); have zz_w1_w_0_0 : w.heap.size < w1.heap.size := (by omega); have zz_w1_w_0_1 : w.heap.size < w1.heap.size + 1 := (by omega); have zz_w1_w_0_2 : w.heap.size < w1.heap.size + 1 + 1 := (by omega); have zz_w1_w_0_3 : w.heap.size < w1.heap.size + 1 + 1 + 1 := (by omega)
    obtain ⟨hn, hcap, hmax, hcells⟩ := hr
    have Hcells := hide hcells
    clear hn hcells
    go_wp2_with (go_at_call 9; refine (awake_calls _).mono ?_; rintro e w2 ⟨rfl, hb_w2⟩; obtain ⟨hc_w2, hf_w2⟩ := bcell hb_w2; have z_w2 := hb_w2.size; (try simp only [World.size_alloc, World.size_setCell, World.size_drew, World.heap_drewN] at z_w2); have zz_w2_w_0_0 : w.heap.size < w2.heap.size := (by omega); have zz_w2_w_0_1 : w.heap.size < w2.heap.size + 1 := (by omega); have zz_w2_w_0_2 : w.heap.size < w2.heap.size + 1 + 1 := (by omega); have zz_w2_w_0_3 : w.heap.size < w2.heap.size + 1 + 1 + 1 := (by omega))
    go_loopw [33] (fun i wr => ∃ k : Nat, k ≤ 64 ∧ i = .int .i64 k ∧ (wr.cell? ⟨w.heap.size, 0, none⟩ = some (.int .i64 u.a) ∧ wr.cell? ⟨w.heap.size, 1, none⟩ = some (.int .i64 u.b) ∧ wr.cell? ⟨w.heap.size, 2, none⟩ = some (.int .i64 u.c) ∧ wr.cell? ⟨w.heap.size, 3, none⟩ = some (.int .i64 u.d)) ∧ Below w.heap.size w wr ∧ Below w1.heap.size w1 wr ∧ w.heap.size < wr.heap.size) (fun i _ => 64 - (intOf i).toNat)
    case atStart => exact ⟨0, Nat.zero_le _, rfl, by go_simp, by (repeat' (with_reducible first | exact bl0 | apply bl4 | apply bl5 | apply bl1 | refine bl2 ?_ (by first | omega | (simp only [World.size_alloc, World.size_setCell, World.size_drew]; omega)) | refine bl3 (by assumption) ?_)), hb_w2, by omega⟩
    case round =>
      obtain ⟨k, hk, rfl, ⟨x0, x1, x2, x3⟩, hbr, hb1, hzr⟩ := hrel
      have Hb1 := hide hb1
      have hz1 := hb1.size
      clear hc_w1 hf_w1 hb_w1 hc_w2 hf_w2 hb_w2 hb1
      by_cases hlt : k < 64
      · obtain ⟨bb, off, rfl, hbb, hc⟩ := Hcells.out (by omega)
        have hcell := fun j v hv => hc k j _ v (spr_get kd u.a u.b u.c u.d 64 k hlt) hv
        simp only [Ltr.cs, bun0] at hcell
        have m0 : wr.cell? ⟨bb, off + k * 11, none⟩ = some (.int .i64 kd) := (Hb1.out.cell (p := ⟨bb, off + k * 11, none⟩) hbb).trans (by simpa using hcell 0 _ rfl)
        have m1 : wr.cell? ⟨bb, off + k * 11 + 1, none⟩ = some (.int .i64 u.a) := (Hb1.out.cell (p := ⟨bb, off + k * 11 + 1, none⟩) hbb).trans (by simpa using hcell 1 _ rfl)
        have m2 : wr.cell? ⟨bb, off + k * 11 + 2, none⟩ = some (.int .i64 k) := (Hb1.out.cell (p := ⟨bb, off + k * 11 + 2, none⟩) hbb).trans (by simpa using hcell 2 _ rfl)
        have m3 : wr.cell? ⟨bb, off + k * 11 + 3, none⟩ = some (.int .i64 u.b) := (Hb1.out.cell (p := ⟨bb, off + k * 11 + 3, none⟩) hbb).trans (by simpa using hcell 3 _ rfl)
        have m4 : wr.cell? ⟨bb, off + k * 11 + 4, none⟩ = some (.int .i64 u.c) := (Hb1.out.cell (p := ⟨bb, off + k * 11 + 4, none⟩) hbb).trans (by simpa using hcell 4 _ rfl)
        have m5 : wr.cell? ⟨bb, off + k * 11 + 5, none⟩ = some (.int .i64 u.d) := (Hb1.out.cell (p := ⟨bb, off + k * 11 + 5, none⟩) hbb).trans (by simpa using hcell 5 _ rfl)
        have m6 : wr.cell? ⟨bb, off + k * 11 + 6, none⟩ = some (.bool false) := (Hb1.out.cell (p := ⟨bb, off + k * 11 + 6, none⟩) hbb).trans (by simpa using hcell 6 _ rfl)
        have m7 : wr.cell? ⟨bb, off + k * 11 + 7, none⟩ = some (.int .i64 0) := (Hb1.out.cell (p := ⟨bb, off + k * 11 + 7, none⟩) hbb).trans (by simpa using hcell 7 _ rfl)
        have m8 : wr.cell? ⟨bb, off + k * 11 + 8, none⟩ = some (.bool false) := (Hb1.out.cell (p := ⟨bb, off + k * 11 + 8, none⟩) hbb).trans (by simpa using hcell 8 _ rfl)
        have m9 : wr.cell? ⟨bb, off + k * 11 + 9, none⟩ = some (.bool false) := (Hb1.out.cell (p := ⟨bb, off + k * 11 + 9, none⟩) hbb).trans (by simpa using hcell 9 _ rfl)
        have m10 : wr.cell? ⟨bb, off + k * 11 + 10, none⟩ = some (.int .i64 0) := (Hb1.out.cell (p := ⟨bb, off + k * 11 + 10, none⟩) hbb).trans (by simpa using hcell 10 _ rfl)
        clear hcell hc
        have hbr1 : bb < wr.heap.size := by omega
        go_wp2
        go_roundw
        case rel => exact ⟨k + 1, by omega, by go_num, by go_simp, by (repeat' (with_reducible first | exact bl0 | apply bl4 | apply bl5 | apply bl1 | refine bl2 ?_ (by first | omega | (simp only [World.size_alloc, World.size_setCell, World.size_drew]; omega)) | refine bl3 (by assumption) ?_)), by first | exact Hb1.out | (refine Below.trans Hb1.out ?_; exact Below.mono (by (repeat' (with_reducible first | exact bl0 | apply bl4 | apply bl5 | apply bl1 | refine bl2 ?_ (by first | omega | (simp only [World.size_alloc, World.size_setCell, World.size_drew]; omega)) | refine bl3 (by assumption) ?_))) hz1), by first | omega | (simp; done) | (simp; omega)⟩
        case measure => simp [intOf]; omega
      · go_wp2
        go_ret
        (refine ⟨?_, ?_⟩; (first | rfl | (go_simp; done) | (simp; done)); (first | ((repeat' (with_reducible first | exact bl0 | apply bl4 | apply bl5 | apply bl1 | refine bl2 ?_ (by first | omega | (simp only [World.size_alloc, World.size_setCell, World.size_drew]; omega)) | refine bl3 (by assumption) ?_)); done) | (go_simp; done) | (refine bl3 (by assumption) ?_; go_simp; done)))

  · have e1 : ((m : Int) == n) = true := by simpa using q3
    have e2 : ((m : Int) != n) = false := by simpa using q3
    have hm64 : m ≤ 64 := by omega
    clear q3
    go_enter Try.func7, Try.ntmps7
    go_wp2_with fail
    refine (Spread_calls kd u.a u.b u.c u.d n _).mono ?_; rw [Hm.out]; rintro e w1 ⟨A, cc, rfl, hr, hb_w1⟩; obtain ⟨hc_w1, hf_w1⟩ := bcell hb_w1; have z_w1 := hb_w1.size; (try simp only [World.size_alloc, World.size_setCell, World.size_drew, World.heap_drewN] at z_w1); have zz_w1_w_0_0 : w.heap.size < w1.heap.size := (by omega); have zz_w1_w_0_1 : w.heap.size < w1.heap.size + 1 := (by omega); have zz_w1_w_0_2 : w.heap.size < w1.heap.size + 1 + 1 := (by omega); have zz_w1_w_0_3 : w.heap.size < w1.heap.size + 1 + 1 + 1 := (by omega)
    obtain ⟨hn, hcap, hmax, hcells⟩ := hr
    have Hcells := hide hcells
    clear hn hcells
    go_wp2_with (go_at_call 9; refine (awake_calls _).mono ?_; rintro e w2 ⟨rfl, hb_w2⟩; obtain ⟨hc_w2, hf_w2⟩ := bcell hb_w2; have z_w2 := hb_w2.size; (try simp only [World.size_alloc, World.size_setCell, World.size_drew, World.heap_drewN] at z_w2); have zz_w2_w_0_0 : w.heap.size < w2.heap.size := (by omega); have zz_w2_w_0_1 : w.heap.size < w2.heap.size + 1 := (by omega); have zz_w2_w_0_2 : w.heap.size < w2.heap.size + 1 + 1 := (by omega); have zz_w2_w_0_3 : w.heap.size < w2.heap.size + 1 + 1 + 1 := (by omega))
    go_loopw [33] (fun i wr => ∃ k : Nat, k ≤ m ∧ i = .int .i64 k ∧ (wr.cell? ⟨w.heap.size, 0, none⟩ = some (.int .i64 u.a) ∧ wr.cell? ⟨w.heap.size, 1, none⟩ = some (.int .i64 u.b) ∧ wr.cell? ⟨w.heap.size, 2, none⟩ = some (.int .i64 u.c) ∧ wr.cell? ⟨w.heap.size, 3, none⟩ = some (.int .i64 u.d)) ∧ Below w.heap.size w wr ∧ Below w1.heap.size w1 wr ∧ w.heap.size < wr.heap.size) (fun i _ => m - (intOf i).toNat)
    case atStart => exact ⟨0, Nat.zero_le _, rfl, by go_simp, by (repeat' (with_reducible first | exact bl0 | apply bl4 | apply bl5 | apply bl1 | refine bl2 ?_ (by first | omega | (simp only [World.size_alloc, World.size_setCell, World.size_drew]; omega)) | refine bl3 (by assumption) ?_)), hb_w2, by omega⟩
    case round =>
      obtain ⟨k, hk, rfl, ⟨x0, x1, x2, x3⟩, hbr, hb1, hzr⟩ := hrel
      have Hb1 := hide hb1
      have hz1 := hb1.size
      clear hc_w1 hf_w1 hb_w1 hc_w2 hf_w2 hb_w2 hb1
      by_cases hlt : k < m
      · obtain ⟨bb, off, rfl, hbb, hc⟩ := Hcells.out (by omega)
        have hcell := fun j v hv => hc k j _ v (spr_get kd u.a u.b u.c u.d m k hlt) hv
        simp only [Ltr.cs, bun0] at hcell
        have m0 : wr.cell? ⟨bb, off + k * 11, none⟩ = some (.int .i64 kd) := (Hb1.out.cell (p := ⟨bb, off + k * 11, none⟩) hbb).trans (by simpa using hcell 0 _ rfl)
        have m1 : wr.cell? ⟨bb, off + k * 11 + 1, none⟩ = some (.int .i64 u.a) := (Hb1.out.cell (p := ⟨bb, off + k * 11 + 1, none⟩) hbb).trans (by simpa using hcell 1 _ rfl)
        have m2 : wr.cell? ⟨bb, off + k * 11 + 2, none⟩ = some (.int .i64 k) := (Hb1.out.cell (p := ⟨bb, off + k * 11 + 2, none⟩) hbb).trans (by simpa using hcell 2 _ rfl)
        have m3 : wr.cell? ⟨bb, off + k * 11 + 3, none⟩ = some (.int .i64 u.b) := (Hb1.out.cell (p := ⟨bb, off + k * 11 + 3, none⟩) hbb).trans (by simpa using hcell 3 _ rfl)
        have m4 : wr.cell? ⟨bb, off + k * 11 + 4, none⟩ = some (.int .i64 u.c) := (Hb1.out.cell (p := ⟨bb, off + k * 11 + 4, none⟩) hbb).trans (by simpa using hcell 4 _ rfl)
        have m5 : wr.cell? ⟨bb, off + k * 11 + 5, none⟩ = some (.int .i64 u.d) := (Hb1.out.cell (p := ⟨bb, off + k * 11 + 5, none⟩) hbb).trans (by simpa using hcell 5 _ rfl)
        have m6 : wr.cell? ⟨bb, off + k * 11 + 6, none⟩ = some (.bool false) := (Hb1.out.cell (p := ⟨bb, off + k * 11 + 6, none⟩) hbb).trans (by simpa using hcell 6 _ rfl)
        have m7 : wr.cell? ⟨bb, off + k * 11 + 7, none⟩ = some (.int .i64 0) := (Hb1.out.cell (p := ⟨bb, off + k * 11 + 7, none⟩) hbb).trans (by simpa using hcell 7 _ rfl)
        have m8 : wr.cell? ⟨bb, off + k * 11 + 8, none⟩ = some (.bool false) := (Hb1.out.cell (p := ⟨bb, off + k * 11 + 8, none⟩) hbb).trans (by simpa using hcell 8 _ rfl)
        have m9 : wr.cell? ⟨bb, off + k * 11 + 9, none⟩ = some (.bool false) := (Hb1.out.cell (p := ⟨bb, off + k * 11 + 9, none⟩) hbb).trans (by simpa using hcell 9 _ rfl)
        have m10 : wr.cell? ⟨bb, off + k * 11 + 10, none⟩ = some (.int .i64 0) := (Hb1.out.cell (p := ⟨bb, off + k * 11 + 10, none⟩) hbb).trans (by simpa using hcell 10 _ rfl)
        clear hcell hc
        have hbr1 : bb < wr.heap.size := by omega
        go_wp2
        go_roundw
        case rel => exact ⟨k + 1, by omega, by go_num, by go_simp, by (repeat' (with_reducible first | exact bl0 | apply bl4 | apply bl5 | apply bl1 | refine bl2 ?_ (by first | omega | (simp only [World.size_alloc, World.size_setCell, World.size_drew]; omega)) | refine bl3 (by assumption) ?_)), by first | exact Hb1.out | (refine Below.trans Hb1.out ?_; exact Below.mono (by (repeat' (with_reducible first | exact bl0 | apply bl4 | apply bl5 | apply bl1 | refine bl2 ?_ (by first | omega | (simp only [World.size_alloc, World.size_setCell, World.size_drew]; omega)) | refine bl3 (by assumption) ?_))) hz1), by first | omega | (simp; done) | (simp; omega)⟩
        case measure => simp [intOf]; omega
      · go_wp2
        go_ret
        (refine ⟨?_, ?_⟩; (first | rfl | (go_simp; done) | (simp; done)); (first | ((repeat' (with_reducible first | exact bl0 | apply bl4 | apply bl5 | apply bl1 | refine bl2 ?_ (by first | omega | (simp only [World.size_alloc, World.size_setCell, World.size_drew]; omega)) | refine bl3 (by assumption) ?_)); done) | (go_simp; done) | (refine bl3 (by assumption) ?_; go_simp; done)))

theorem LetterMakes_walk (kd : Int) (hk : okI kd) (u : I4) (hu : okI4 u) (n : Int) (hn : okI n) (w : World) :
    Calls Try.prog 7 #[.int .i64 kd, .agg #[.int .i64 u.a, .int .i64 u.b, .int .i64 u.c, .int .i64 u.d], .int .i64 n] w fun e w' => e = .returned (.bool true) ∧ Below w.heap.size w w' :=
  LetterMakes_m kd u n _ rfl (by omega) w
end Go.Proofs.Ytaajighbnkifhaa
