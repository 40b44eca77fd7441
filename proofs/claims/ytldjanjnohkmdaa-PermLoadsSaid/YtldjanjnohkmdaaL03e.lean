/- PermLoads of layer 3: what it comes to. -/
import Derived.Test.YtldjanjnohkmdaaL03a
namespace Go.Proofs.Ytldjanjnohkmdaa
open Go.RowKit
set_option linter.unusedVariables false
set_option linter.unusedSimpArgs false
theorem pdo_more (op : Opr) (b : Bun) (t : Int) : ((pdo op b t).2.2 = false → (pdo op b t).1.d = b.d) ∧ ((pdo op b t).2.2 = true → (pdo op b t).2.1 = (pdo op b t).1.d) := by
  unfold pdo
  split
  · simp
  · split <;> simp
set_option maxHeartbeats 4000000 in
theorem PermLoads_long (b : Bun) (t : Int) (A : Option Addr) (n c : Nat) (w : World) (hn : 200 < (n : Int)) (hm : n ≤ 9223372036854775807) :
    Calls Try.prog 5 #[.agg #[.int .i64 b.c, .bool b.o, .bool b.h, .int .i64 b.d], .int .i64 t, .slice A n c] w fun e w' => e = .returned (.bool true) ∧ Below w.heap.size w w' := by
  go_enter Try.func5, Try.ntmps5
  go_wp2_with (go_at_call 9; refine (awake_calls _).mono ?_; rintro e w1 ⟨rfl, hb_w1⟩; obtain ⟨hc_w1, hf_w1⟩ := bcell hb_w1; have z_w1 := hb_w1.size; (try simp only [World.size_alloc, World.size_setCell, World.size_drew] at z_w1); have z_w1_0 : w.heap.size < w1.heap.size := (by omega))
  go_ret
  (refine ⟨?_, ?_⟩; (first | rfl | (go_simp; done) | (simp; done)); (first | ((repeat' (with_reducible first | exact bl0 | apply bl4 | apply bl5 | apply bl1 | refine bl2 ?_ (by first | omega | (simp only [World.size_alloc, World.size_setCell, World.size_drew]; omega)) | refine bl3 (by assumption) ?_)); done) | (go_simp; done) | (refine bl3 (by assumption) ?_; go_simp; done)))
set_option maxHeartbeats 8000000 in
theorem PermLoads_loop (b : Bun) (t : Int) (A : Option Addr) (n c : Nat) (xs : List Opr) (w : World) (hn : n ≤ 200) (R : Rd Opr.cs 3 w A n c xs) :
    Calls Try.prog 5 #[.agg #[.int .i64 b.c, .bool b.o, .bool b.h, .int .i64 b.d], .int .i64 t, .slice A n c] w fun e w' => e = .returned (.bool true) ∧ Below w.heap.size w w' := by
  obtain ⟨hl, hnc, hcc, hcell⟩ := R
  have hn' : ¬ (200 : Int) < (n : Int) := by omega
  have Hcell := hide hcell
  have Hcc := hide hcc
  have Hl := hide hl
  clear hcell hcc hl
  go_enter Try.func5, Try.ntmps5
  go_wp2_with (go_at_call 9; refine (awake_calls _).mono ?_; rintro e w1 ⟨rfl, hb_w1⟩; obtain ⟨hc_w1, hf_w1⟩ := bcell hb_w1; have z_w1 := hb_w1.size; (try simp only [World.size_alloc, World.size_setCell, World.size_drew] at z_w1); have z_w1_0 : w.heap.size < w1.heap.size := (by omega))
  go_loopw [23] (fun i wr => ∃ (k : Nat) (h : Bun), k ≤ n ∧ i = .int .i64 k ∧ C4 wr w.heap.size (.int .i64 h.c) (.bool h.o) (.bool h.h) (.int .i64 h.d) ∧ Below w.heap.size w wr ∧ w.heap.size < wr.heap.size) (fun i _ => n - (intOf i).toNat)
  case atStart =>
    refine ⟨0, b, Nat.zero_le _, rfl, ?_, ?_, ?_⟩
    · unfold C4; go_simp
    · (repeat' (with_reducible first | exact bl0 | apply bl4 | apply bl5 | apply bl1 | refine bl2 ?_ (by first | omega | (simp only [World.size_alloc, World.size_setCell, World.size_drew]; omega)) | refine bl3 (by assumption) ?_))
    · first | omega | (simp; omega)
  case round =>
    obtain ⟨k, hh, hk, rfl, ⟨⟨x0, x1, x2, x3⟩, f0, f1, f2, f3⟩, hbr, hzr⟩ := hrel
    by_cases hlt : k < n
    · obtain ⟨bb, off, rfl, hbb, hc⟩ := Hcell.out (by omega)
      obtain ⟨x, hx⟩ : ∃ x, xs[k]? = some x := ⟨_, List.getElem?_eq_getElem (by rw [Hl.out]; exact hlt)⟩
      obtain ⟨xb, xw, xv⟩ := x
      have m0 : wr.cell? ⟨bb, off + k * 3, none⟩ = some (.int .i64 xb) := (hbr.cell (p := ⟨bb, off + k * 3, none⟩) hbb).trans (by simpa using hc k 0 _ _ hx rfl)
      have m1 : wr.cell? ⟨bb, off + k * 3 + 1, none⟩ = some (.bool xw) := (hbr.cell (p := ⟨bb, off + k * 3 + 1, none⟩) hbb).trans (hc k 1 _ _ hx rfl)
      have m2 : wr.cell? ⟨bb, off + k * 3 + 2, none⟩ = some (.int .i64 xv) := (hbr.cell (p := ⟨bb, off + k * 3 + 2, none⟩) hbb).trans (hc k 2 _ _ hx rfl)
      have hbbr : bb < wr.heap.size := by omega
      have Hc := hide hc
      have Hx := hide hx
      clear hc hx
      have hk := pdo_keeps ⟨xb, xw, xv⟩ hh t
      have hm := pdo_more ⟨xb, xw, xv⟩ hh t
      obtain ⟨r, hr⟩ : ∃ r, r = pdo ⟨xb, xw, xv⟩ hh t := ⟨_, rfl⟩
      rw [← hr] at hk hm
      have Hr := hide hr
      have k1 : (r.1.c == hh.c) = true := by simp [hk.1]
      have k2 : (r.1.o == hh.o) = true := by simp [hk.2.1]
      have k3 : (r.1.h == hh.h) = true := by simp [hk.2.2.1]
      have Hk := hide hk
      have Hm := hide hm
      clear hk hm hr
      have go1 : ∀ v0 : World, Calls Try.prog 13 #[.agg #[.int .i64 xb, .bool xw, .int .i64 xv], .agg #[.int .i64 hh.c, .bool hh.o, .bool hh.h, .int .i64 hh.d], .int .i64 t] v0 fun e w' => e = .returned (.tuple #[.agg #[.int .i64 r.1.c, .bool r.1.o, .bool r.1.h, .int .i64 r.1.d], .int .i64 r.2.1, .bool r.2.2]) ∧ Below v0.heap.size v0 w' := fun v0 => by rw [Hr.out]; exact Do_calls ⟨xb, xw, xv⟩ hh t v0
      have Go1 := hide go1
      clear go1
      rcases (show (r.2.2 = false) ∨ (r.2.2 = true ∧ xw = true) ∨ (r.2.2 = true ∧ xw = false) from by cases r.2.2 <;> cases xw <;> simp) with e1 | ⟨e1, rfl⟩ | ⟨e1, rfl⟩
      · have k4 : (r.1.d == hh.d) = true := by simp [Hm.out.1 e1]
        go_wp2_with (go_at_call 13; refine (Go1.out _).mono ?_; rintro e w2 ⟨rfl, hb_w2⟩; obtain ⟨hc_w2, hf_w2⟩ := bcell hb_w2; have z_w2 := hb_w2.size; (try simp only [World.size_alloc] at z_w2); have z_a : w.heap.size < w2.heap.size := (by omega); have z_b : wr.heap.size < w2.heap.size := (by omega); have z_c : wr.heap.size + 1 < w2.heap.size := (by omega); have z_d : w.heap.size < wr.heap.size + 1 + 1 := (by omega); have z_e : w.heap.size < wr.heap.size + 1 := (by omega); have z_f : w.heap.size < w2.heap.size + 1 := (by omega))
        all_goals
          go_roundw
          case rel =>
            refine ⟨k + 1, r.1, by omega, by go_num, ?_, ?_, ?_⟩
            · unfold C4
              go_simp
            · (repeat' (with_reducible first | exact bl0 | apply bl4 | apply bl5 | apply bl1 | refine bl2 ?_ (by first | omega | (simp only [World.size_alloc, World.size_setCell, World.size_drew]; omega)) | refine bl3 (by assumption) ?_))
            · simp only [World.size_alloc, World.size_setCell]
              omega
          case measure => simp [intOf]; omega
      · have k6 : (r.2.1 != r.1.d) = false := by simp [Hm.out.2 e1]
        have k7 : (r.1.c != hh.c) = false := by simp [Hk.out.1]
        have k8 : (r.1.o != hh.o) = false := by simp [Hk.out.2.1]
        go_wp2_with (go_at_call 13; refine (Go1.out _).mono ?_; rintro e w2 ⟨rfl, hb_w2⟩; obtain ⟨hc_w2, hf_w2⟩ := bcell hb_w2; have z_w2 := hb_w2.size; (try simp only [World.size_alloc] at z_w2); have z_a : w.heap.size < w2.heap.size := (by omega); have z_b : wr.heap.size < w2.heap.size := (by omega); have z_c : wr.heap.size + 1 < w2.heap.size := (by omega); have z_d : w.heap.size < wr.heap.size + 1 + 1 := (by omega); have z_e : w.heap.size < wr.heap.size + 1 := (by omega); have z_f : w.heap.size < w2.heap.size + 1 := (by omega))
        all_goals
          go_roundw
          case rel =>
            refine ⟨k + 1, r.1, by omega, by go_num, ?_, ?_, ?_⟩
            · unfold C4
              go_simp
            · (repeat' (with_reducible first | exact bl0 | apply bl4 | apply bl5 | apply bl1 | refine bl2 ?_ (by first | omega | (simp only [World.size_alloc, World.size_setCell, World.size_drew]; omega)) | refine bl3 (by assumption) ?_))
            · simp only [World.size_alloc, World.size_setCell]
              omega
          case measure => simp [intOf]; omega
      · have k6 : (r.2.1 != r.1.d) = false := by simp [Hm.out.2 e1]
        have k7 : (r.1.c != hh.c) = false := by simp [Hk.out.1]
        have k8 : (r.1.o != hh.o) = false := by simp [Hk.out.2.1]
        have k5 : (r.1.d == hh.d) = true := by simp [Hk.out.2.2.2 rfl]
        go_wp2_with (go_at_call 13; refine (Go1.out _).mono ?_; rintro e w2 ⟨rfl, hb_w2⟩; obtain ⟨hc_w2, hf_w2⟩ := bcell hb_w2; have z_w2 := hb_w2.size; (try simp only [World.size_alloc] at z_w2); have z_a : w.heap.size < w2.heap.size := (by omega); have z_b : wr.heap.size < w2.heap.size := (by omega); have z_c : wr.heap.size + 1 < w2.heap.size := (by omega); have z_d : w.heap.size < wr.heap.size + 1 + 1 := (by omega); have z_e : w.heap.size < wr.heap.size + 1 := (by omega); have z_f : w.heap.size < w2.heap.size + 1 := (by omega))
        all_goals
          go_roundw
          case rel =>
            refine ⟨k + 1, r.1, by omega, by go_num, ?_, ?_, ?_⟩
            · unfold C4
              go_simp
            · (repeat' (with_reducible first | exact bl0 | apply bl4 | apply bl5 | apply bl1 | refine bl2 ?_ (by first | omega | (simp only [World.size_alloc, World.size_setCell, World.size_drew]; omega)) | refine bl3 (by assumption) ?_))
            · simp only [World.size_alloc, World.size_setCell]
              omega
          case measure => simp [intOf]; omega
    · go_wp2
      go_ret
      (refine ⟨?_, ?_⟩; (first | rfl | (go_simp; done) | (simp; done)); (first | ((repeat' (with_reducible first | exact bl0 | apply bl4 | apply bl5 | apply bl1 | refine bl2 ?_ (by first | omega | (simp only [World.size_alloc, World.size_setCell, World.size_drew]; omega)) | refine bl3 (by assumption) ?_)); done) | (go_simp; done) | (refine bl3 (by assumption) ?_; go_simp; done)))
theorem PermLoads_walk (w0 : World) (b : Bun) (hb : okBun b) (t : Int) (ht : okI t) (A : Option Addr) (n c : Nat) (xs : List Opr) (R : Rd Opr.cs 3 w0 A n c xs) (hx : ∀ r ∈ xs, okOpr r) :
    Calls Try.prog 5 #[.agg #[.int .i64 b.c, .bool b.o, .bool b.h, .int .i64 b.d], .int .i64 t, .slice A n c] w0 fun e w' => e = .returned (.bool true) ∧ Below w0.heap.size w0 w' := by
  by_cases hn : n ≤ 200
  · exact PermLoads_loop b t A n c xs w0 hn R
  · obtain ⟨_, h1, h2, _⟩ := R
    exact PermLoads_long b t A n c w0 (by omega) (by omega)
end Go.Proofs.Ytldjanjnohkmdaa
