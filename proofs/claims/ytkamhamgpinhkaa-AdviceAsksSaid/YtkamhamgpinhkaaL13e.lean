/- AdviceAsks of layer 13: what it comes to. -/
import Derived.Test.YtkamhamgpinhkaaL13a
namespace Go.Proofs.Ytkamhamgpinhkaa
open Go.RowKit
set_option linter.unusedVariables false
set_option linter.unusedSimpArgs false
theorem tl_mem {p self : Int} {d : I3} : ∀ {k : Nat} {x : Int}, x ∈ tl p self d k → 0 ≤ x ∧ x < k ∧ x ≠ self
  | 0, x, h => by simp [tl] at h
  | k + 1, x, h => by
    rw [tl, List.mem_append] at h
    rcases h with h | h
    · have := tl_mem h
      omega
    · split at h
      · rename_i ha
        simp at h
        subst h
        unfold asked at ha
        simp at ha
        exact ⟨by omega, by omega, ha.2⟩
      · simp at h
theorem tl_up {p self : Int} {d : I3} : ∀ k : Nat, (tl p self d k).Pairwise (· < ·)
  | 0 => by simp [tl]
  | k + 1 => by
    rw [tl, List.pairwise_append]
    refine ⟨tl_up k, by split <;> simp, fun x hx y hy => ?_⟩
    have := tl_mem hx
    split at hy
    · simp at hy; omega
    · simp at hy
theorem tl_all {self : Int} {d : I3} : ∀ k : Nat, ((tl 1 self d k).length : Int) = k - (if 0 ≤ self ∧ self < k then 1 else 0)
  | 0 => by simp [tl]; omega
  | k + 1 => by
    rw [tl, List.length_append]
    have := tl_all (self := self) (d := d) k
    by_cases h : (k : Int) = self
    · have ha : asked 1 self d k = false := by unfold asked; rw [h]; simp
      rw [ha]
      simp only [Bool.false_eq_true, if_false, List.length_nil, Nat.add_zero]
      rw [this, if_neg (by omega), if_pos (by omega)]
      omega
    · have ha : asked 1 self d k = true := by unfold asked; simp [h]
      rw [ha]
      simp only [if_true, List.length_singleton, Int.natCast_add, Int.natCast_one]
      rw [this]
      by_cases h2 : 0 ≤ self ∧ self < k
      · rw [if_pos h2, if_pos (by omega)]; omega
      · rw [if_neg h2, if_neg (by omega)]; omega
theorem tl_null {p self : Int} (h1 : p ≠ 1) (h2 : p ≠ 2) (d : I3) : ∀ k, tl p self d k = []
  | 0 => rfl
  | k + 1 => by rw [tl, tl_null h1 h2 d k]; simp [asked, h1, h2]
set_option maxHeartbeats 8000000 in
theorem AdviceAsks_walk (c : Cfg) (hc : okCfg c) (self : Int) (hs : okI self) (d : I3) (hd : okI3 d) (w : World) :
    Calls Try.prog 5 #[.agg #[.int .i64 c.nodes, .int .i64 c.blocks, .int .i64 c.tokens, .int .i64 c.sets, .int .i64 c.ways, .int .i64 c.cap, .int .i64 c.wait, .int .i64 c.tries, .int .i64 c.policy], .int .i64 self, .agg #[.int .i64 d.a, .int .i64 d.b, .int .i64 d.c]] w fun e w' => e = .returned (.bool true) ∧ Below w.heap.size w w' := by
  clear hc hd hs
  rcases (show c.nodes < 0 ∨ 64 < c.nodes ∨ (0 ≤ c.nodes ∧ c.nodes ≤ 64) from by omega) with q | q | ⟨q0, q1⟩
  · have hL : tgts c self d = [] := by unfold tgts; rw [if_neg (by omega), show (c.nodes + 1).toNat = 0 from by omega]; rfl
    go_enter Try.func5, Try.ntmps5
    go_wp2_with fail
    refine (Targets_calls c self d _).mono ?_; rw [hL]; rintro e w1 ⟨v, rfl, ⟨A, n, cc, rfl, r1⟩, hb_w1⟩; obtain ⟨hc_w1, hf_w1⟩ := bcell hb_w1; have z_w1 := hb_w1.size; (try simp only [World.size_alloc, World.size_setCell, World.size_drew, World.heap_drewN] at z_w1); have zz_w1_w_0_0 : w.heap.size < w1.heap.size := (by omega); have zz_w1_w_0_1 : w.heap.size < w1.heap.size + 1 := (by omega); have zz_w1_w_0_2 : w.heap.size < w1.heap.size + 1 + 1 := (by omega); have zz_w1_w_0_3 : w.heap.size < w1.heap.size + 1 + 1 + 1 := (by omega); have zz_w1_w_1_0 : w.heap.size + 1 < w1.heap.size := (by omega); have zz_w1_w_1_1 : w.heap.size + 1 < w1.heap.size + 1 := (by omega); have zz_w1_w_1_2 : w.heap.size + 1 < w1.heap.size + 1 + 1 := (by omega); have zz_w1_w_1_3 : w.heap.size + 1 < w1.heap.size + 1 + 1 + 1 := (by omega)
    have n0 : n = 0 := by have := r1.1; simpa using this.symm
    subst n0
    clear r1 hL
    go_wp2_with (go_at_call 8; refine (awake_calls _).mono ?_; rintro e w2 ⟨rfl, hb_w2⟩; obtain ⟨hc_w2, hf_w2⟩ := bcell hb_w2; have z_w2 := hb_w2.size; (try simp only [World.size_alloc, World.size_setCell, World.size_drew, World.heap_drewN] at z_w2); have zz_w2_w_0_0 : w.heap.size < w2.heap.size := (by omega); have zz_w2_w_0_1 : w.heap.size < w2.heap.size + 1 := (by omega); have zz_w2_w_0_2 : w.heap.size < w2.heap.size + 1 + 1 := (by omega); have zz_w2_w_0_3 : w.heap.size < w2.heap.size + 1 + 1 + 1 := (by omega); have zz_w2_w_1_0 : w.heap.size + 1 < w2.heap.size := (by omega); have zz_w2_w_1_1 : w.heap.size + 1 < w2.heap.size + 1 := (by omega); have zz_w2_w_1_2 : w.heap.size + 1 < w2.heap.size + 1 + 1 := (by omega); have zz_w2_w_1_3 : w.heap.size + 1 < w2.heap.size + 1 + 1 + 1 := (by omega))
    go_ret
    (refine ⟨?_, ?_⟩; (first | rfl | (go_simp; done) | (simp; done)); (first | ((repeat' (with_reducible first | exact bl0 | apply bl4 | apply bl5 | apply bl1 | refine bl2 ?_ (by first | omega | (simp only [World.size_alloc, World.size_setCell, World.size_drew]; omega)) | refine bl3 (by assumption) ?_)); done) | (go_simp; done) | (refine bl3 (by assumption) ?_; go_simp; done)))
  · have hL : tgts c self d = [] := by unfold tgts; rw [if_pos q]
    go_enter Try.func5, Try.ntmps5
    go_wp2_with fail
    refine (Targets_calls c self d _).mono ?_; rw [hL]; rintro e w1 ⟨v, rfl, ⟨A, n, cc, rfl, r1⟩, hb_w1⟩; obtain ⟨hc_w1, hf_w1⟩ := bcell hb_w1; have z_w1 := hb_w1.size; (try simp only [World.size_alloc, World.size_setCell, World.size_drew, World.heap_drewN] at z_w1); have zz_w1_w_0_0 : w.heap.size < w1.heap.size := (by omega); have zz_w1_w_0_1 : w.heap.size < w1.heap.size + 1 := (by omega); have zz_w1_w_0_2 : w.heap.size < w1.heap.size + 1 + 1 := (by omega); have zz_w1_w_0_3 : w.heap.size < w1.heap.size + 1 + 1 + 1 := (by omega); have zz_w1_w_1_0 : w.heap.size + 1 < w1.heap.size := (by omega); have zz_w1_w_1_1 : w.heap.size + 1 < w1.heap.size + 1 := (by omega); have zz_w1_w_1_2 : w.heap.size + 1 < w1.heap.size + 1 + 1 := (by omega); have zz_w1_w_1_3 : w.heap.size + 1 < w1.heap.size + 1 + 1 + 1 := (by omega)
    have n0 : n = 0 := by have := r1.1; simpa using this.symm
    subst n0
    clear r1 hL
    go_wp2_with (go_at_call 8; refine (awake_calls _).mono ?_; rintro e w2 ⟨rfl, hb_w2⟩; obtain ⟨hc_w2, hf_w2⟩ := bcell hb_w2; have z_w2 := hb_w2.size; (try simp only [World.size_alloc, World.size_setCell, World.size_drew, World.heap_drewN] at z_w2); have zz_w2_w_0_0 : w.heap.size < w2.heap.size := (by omega); have zz_w2_w_0_1 : w.heap.size < w2.heap.size + 1 := (by omega); have zz_w2_w_0_2 : w.heap.size < w2.heap.size + 1 + 1 := (by omega); have zz_w2_w_0_3 : w.heap.size < w2.heap.size + 1 + 1 + 1 := (by omega); have zz_w2_w_1_0 : w.heap.size + 1 < w2.heap.size := (by omega); have zz_w2_w_1_1 : w.heap.size + 1 < w2.heap.size + 1 := (by omega); have zz_w2_w_1_2 : w.heap.size + 1 < w2.heap.size + 1 + 1 := (by omega); have zz_w2_w_1_3 : w.heap.size + 1 < w2.heap.size + 1 + 1 + 1 := (by omega))
    go_ret
    (refine ⟨?_, ?_⟩; (first | rfl | (go_simp; done) | (simp; done)); (first | ((repeat' (with_reducible first | exact bl0 | apply bl4 | apply bl5 | apply bl1 | refine bl2 ?_ (by first | omega | (simp only [World.size_alloc, World.size_setCell, World.size_drew]; omega)) | refine bl3 (by assumption) ?_)); done) | (go_simp; done) | (refine bl3 (by assumption) ?_; go_simp; done)))
  obtain ⟨L, hL⟩ : ∃ L, tgts c self d = L := ⟨_, rfl⟩
  have hL' : L = tl c.policy self d (c.nodes + 1).toNat := by rw [← hL]; unfold tgts; rw [if_neg (by omega)]
  have g1 : ∀ x ∈ L, 0 ≤ x ∧ x ≤ c.nodes ∧ x ≠ self := fun x hx => by rw [hL'] at hx; have := tl_mem hx; omega
  have g2 : L.Pairwise (· < ·) := by rw [hL']; exact tl_up _
  have g3 : c.policy = 1 → (L.length : Int) = c.nodes + 1 - (if 0 ≤ self ∧ self ≤ c.nodes then 1 else 0) := fun h => by
    rw [hL', h, tl_all]
    by_cases h2 : 0 ≤ self ∧ self ≤ c.nodes
    · rw [if_pos h2, if_pos (by omega)]; omega
    · rw [if_neg h2, if_neg (by omega)]; omega
  have g4 : c.policy = 0 → L.length = 0 := fun h => by rw [hL', tl_null (by omega) (by omega)]; rfl
  have HL := hide hL
  have G1 := hide g1
  have G2 := hide g2
  have G3 := hide g3
  have G4 := hide g4
  clear hL hL' g1 g2 g3 g4
  go_enter Try.func5, Try.ntmps5
  go_wp2_with fail
  refine (Targets_calls c self d _).mono ?_; rw [HL.out]; rintro e w1 ⟨v, rfl, ⟨A, n, cc, rfl, r1⟩, hb_w1⟩; obtain ⟨hc_w1, hf_w1⟩ := bcell hb_w1; have z_w1 := hb_w1.size; (try simp only [World.size_alloc, World.size_setCell, World.size_drew, World.heap_drewN] at z_w1); have zz_w1_w_0_0 : w.heap.size < w1.heap.size := (by omega); have zz_w1_w_0_1 : w.heap.size < w1.heap.size + 1 := (by omega); have zz_w1_w_0_2 : w.heap.size < w1.heap.size + 1 + 1 := (by omega); have zz_w1_w_0_3 : w.heap.size < w1.heap.size + 1 + 1 + 1 := (by omega); have zz_w1_w_1_0 : w.heap.size + 1 < w1.heap.size := (by omega); have zz_w1_w_1_1 : w.heap.size + 1 < w1.heap.size + 1 := (by omega); have zz_w1_w_1_2 : w.heap.size + 1 < w1.heap.size + 1 + 1 := (by omega); have zz_w1_w_1_3 : w.heap.size + 1 < w1.heap.size + 1 + 1 + 1 := (by omega)
  have Hn := hide r1.1
  have hcap := r1.2.2.1
  have hnc := r1.2.1
  have R1 := hide r1.2.2.2
  clear r1
  go_wp2_with (go_at_call 8; refine (awake_calls _).mono ?_; rintro e w2 ⟨rfl, hb_w2⟩; obtain ⟨hc_w2, hf_w2⟩ := bcell hb_w2; have z_w2 := hb_w2.size; (try simp only [World.size_alloc, World.size_setCell, World.size_drew, World.heap_drewN] at z_w2); have zz_w2_w_0_0 : w.heap.size < w2.heap.size := (by omega); have zz_w2_w_0_1 : w.heap.size < w2.heap.size + 1 := (by omega); have zz_w2_w_0_2 : w.heap.size < w2.heap.size + 1 + 1 := (by omega); have zz_w2_w_0_3 : w.heap.size < w2.heap.size + 1 + 1 + 1 := (by omega); have zz_w2_w_1_0 : w.heap.size + 1 < w2.heap.size := (by omega); have zz_w2_w_1_1 : w.heap.size + 1 < w2.heap.size + 1 := (by omega); have zz_w2_w_1_2 : w.heap.size + 1 < w2.heap.size + 1 + 1 := (by omega); have zz_w2_w_1_3 : w.heap.size + 1 < w2.heap.size + 1 + 1 + 1 := (by omega))
  go_loopw [35] (fun i wr => ∃ k : Nat, k ≤ n ∧ i = .int .i64 k ∧ wr.cell? ⟨w.heap.size, 0, none⟩ = some (.int .i64 c.nodes) ∧ wr.cell? ⟨w.heap.size, 8, none⟩ = some (.int .i64 c.policy) ∧ Below w.heap.size w wr ∧ Below w1.heap.size w1 wr) (fun i _ => n - (intOf i).toNat)
  case atStart => exact ⟨0, Nat.zero_le _, rfl, by go_simp, by go_simp, by (repeat' (with_reducible first | exact bl0 | apply bl4 | apply bl5 | apply bl1 | refine bl2 ?_ (by first | omega | (simp only [World.size_alloc, World.size_setCell, World.size_drew]; omega)) | refine bl3 (by assumption) ?_)), hb_w2⟩
  case round =>
    obtain ⟨k, hk, rfl, c0, c8, hbr, hb1⟩ := hrel
    have hzr := hbr.size
    have Hb1 := hide hb1
    clear hc_w1 hf_w1 hb_w1 hc_w2 hf_w2 hb_w2 hb1
    by_cases hlt : k < n
    · obtain ⟨bb, off, rfl, hbb, hcell⟩ := R1.out (by omega)
      obtain ⟨x, hx⟩ : ∃ x, L[k]? = some x := ⟨_, List.getElem?_eq_getElem (by rw [Hn.out]; exact hlt)⟩
      obtain ⟨a1, a2, a3⟩ := G1.out x (List.mem_of_getElem? hx)
      have a4 : (x == self) = false := by simpa using a3
      clear a3
      have m0 : wr.cell? ⟨bb, off + k, none⟩ = some (.int .i64 x) := (Hb1.out.cell (p := ⟨bb, off + k, none⟩) hbb).trans (by simpa using hcell k 0 _ _ hx rfl)
      cases k with
      | zero =>
        clear hcell hx
        simp only [Nat.add_zero] at m0
        go_wp2
        go_roundw
        case rel => exact ⟨1, by omega, by go_num, by go_simp, by go_simp, by (repeat' (with_reducible first | exact bl0 | apply bl4 | apply bl5 | apply bl1 | refine bl2 ?_ (by first | omega | (simp only [World.size_alloc, World.size_setCell, World.size_drew]; omega)) | refine bl3 (by assumption) ?_)), by exact Hb1.out⟩
        case measure => simp [intOf]; omega
      | succ j =>
        obtain ⟨y, hy⟩ : ∃ y, L[j]? = some y := ⟨_, List.getElem?_eq_getElem (by rw [Hn.out]; omega)⟩
        have m1 : wr.cell? ⟨bb, off + j, none⟩ = some (.int .i64 y) := (Hb1.out.cell (p := ⟨bb, off + j, none⟩) hbb).trans (by simpa using hcell j 0 _ _ hy rfl)
        have a5 : y < x := by
          obtain ⟨h1, rfl⟩ := List.getElem?_eq_some_iff.1 hx
          obtain ⟨h2, rfl⟩ := List.getElem?_eq_some_iff.1 hy
          exact List.pairwise_iff_getElem.1 G2.out j (j + 1) h2 h1 (by omega)
        clear hcell hx hy
        go_wp2
        go_roundw
        case rel => exact ⟨j + 1 + 1, by omega, by go_num, by go_simp, by go_simp, by (repeat' (with_reducible first | exact bl0 | apply bl4 | apply bl5 | apply bl1 | refine bl2 ?_ (by first | omega | (simp only [World.size_alloc, World.size_setCell, World.size_drew]; omega)) | refine bl3 (by assumption) ?_)), by exact Hb1.out⟩
        case measure => simp [intOf]; omega
    · clear R1
      have e : k = n := by omega
      subst e
      rcases (show c.policy = 1 ∨ c.policy = 0 ∨ (c.policy ≠ 1 ∧ c.policy ≠ 0) from by omega) with p | p | ⟨p, p'⟩
      · have g := G3.out p
        have p1 : (c.policy == 1) = true := by simpa using p
        have p1' : (c.policy != 1) = false := by rw [p]; rfl
        have p0 : (c.policy != 0) = true := by rw [p]; rfl
        rw [Hn.out] at g
        have Gk := hide g
        clear p g
        by_cases k1 : 0 ≤ self
        · by_cases k2 : self ≤ c.nodes
          · have g : ((k : Int) == c.nodes) = true := by have := Gk.out; rw [if_pos ⟨k1, k2⟩] at this; simp; omega
            go_wp2
            go_ret
            (refine ⟨?_, ?_⟩; (first | rfl | (go_simp; done) | (simp; done)); (first | ((repeat' (with_reducible first | exact bl0 | apply bl4 | apply bl5 | apply bl1 | refine bl2 ?_ (by first | omega | (simp only [World.size_alloc, World.size_setCell, World.size_drew]; omega)) | refine bl3 (by assumption) ?_)); done) | (go_simp; done) | (refine bl3 (by assumption) ?_; go_simp; done)))
          · have g : ((k : Int) == c.nodes + 1) = true := by have := Gk.out; rw [if_neg (by omega)] at this; simp; omega
            go_wp2
            go_ret
            (refine ⟨?_, ?_⟩; (first | rfl | (go_simp; done) | (simp; done)); (first | ((repeat' (with_reducible first | exact bl0 | apply bl4 | apply bl5 | apply bl1 | refine bl2 ?_ (by first | omega | (simp only [World.size_alloc, World.size_setCell, World.size_drew]; omega)) | refine bl3 (by assumption) ?_)); done) | (go_simp; done) | (refine bl3 (by assumption) ?_; go_simp; done)))
        · have g : ((k : Int) == c.nodes + 1) = true := by have := Gk.out; rw [if_neg (by omega)] at this; simp; omega
          go_wp2
          go_ret
          (refine ⟨?_, ?_⟩; (first | rfl | (go_simp; done) | (simp; done)); (first | ((repeat' (with_reducible first | exact bl0 | apply bl4 | apply bl5 | apply bl1 | refine bl2 ?_ (by first | omega | (simp only [World.size_alloc, World.size_setCell, World.size_drew]; omega)) | refine bl3 (by assumption) ?_)); done) | (go_simp; done) | (refine bl3 (by assumption) ?_; go_simp; done)))
      · have g := G4.out p
        rw [Hn.out] at g
        have p1' : (c.policy != 1) = true := by rw [p]; rfl
        have p0 : (c.policy != 0) = false := by rw [p]; rfl
        clear p
        subst g
        go_wp2
        all_goals go_ret
        all_goals (refine ⟨?_, ?_⟩; (first | rfl | (go_simp; done) | (simp; done)); (first | ((repeat' (with_reducible first | exact bl0 | apply bl4 | apply bl5 | apply bl1 | refine bl2 ?_ (by first | omega | (simp only [World.size_alloc, World.size_setCell, World.size_drew]; omega)) | refine bl3 (by assumption) ?_)); done) | (go_simp; done) | (refine bl3 (by assumption) ?_; go_simp; done)))
      · have p1' : (c.policy != 1) = true := by simpa using p
        have p0 : (c.policy != 0) = true := by simpa using p'
        clear p p'
        go_wp2
        all_goals go_ret
        all_goals (refine ⟨?_, ?_⟩; (first | rfl | (go_simp; done) | (simp; done)); (first | ((repeat' (with_reducible first | exact bl0 | apply bl4 | apply bl5 | apply bl1 | refine bl2 ?_ (by first | omega | (simp only [World.size_alloc, World.size_setCell, World.size_drew]; omega)) | refine bl3 (by assumption) ?_)); done) | (go_simp; done) | (refine bl3 (by assumption) ?_; go_simp; done)))
end Go.Proofs.Ytkamhamgpinhkaa
