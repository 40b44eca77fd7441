/- What advice.Targets comes to. -/
import Derived.Test.YtkamhamgpinhkaaP13
namespace Go.Proofs.Ytkamhamgpinhkaa
open Go.RowKit
set_option linter.unusedVariables false
set_option linter.unusedSimpArgs false
set_option maxHeartbeats 8000000 in
theorem Targets_calls' (c : Cfg) (self : Int) (d : I3) (w : World) :
    Calls Try.prog 10 #[.agg #[.int .i64 c.nodes, .int .i64 c.blocks, .int .i64 c.tokens, .int .i64 c.sets, .int .i64 c.ways, .int .i64 c.cap, .int .i64 c.wait, .int .i64 c.tries, .int .i64 c.policy], .int .i64 self, .agg #[.int .i64 d.a, .int .i64 d.b, .int .i64 d.c]] w fun e w' => ∃ v, e = .returned v ∧ w'.ownsRow w.heap.size 3 1 v (tgts c self d).length ((tgts c self d).map (Value.int .i64)) ∧ Below w.heap.size w w' := by
  obtain ⟨i0, hi, hz0, hz1, hz2⟩ := info_parts int_info
  have Hinfo := hide (And.intro hi (And.intro hz0 (And.intro hz1 hz2)))
  clear hi hz0 hz1 hz2
  by_cases hbig : 64 < c.nodes
  · go_enter Try.func10, Try.ntmps10
    go_wp2
    go_ret
    exact ⟨_, rfl, by rw [tgts, if_pos hbig]; exact World.ownsRow_nil _ _ _ _, (by (repeat' (with_reducible first | exact bl0 | apply bl4 | apply bl5 | apply bl1 | refine bl2 ?_ (by first | omega | (simp only [World.size_alloc, World.size_setCell, World.size_drew]; omega)) | refine bl3 (by assumption) ?_)))⟩
  have hsm : c.nodes ≤ 64 := by omega
  have Ht := hide (show tgts c self d = tl c.policy self d (c.nodes + 1).toNat from by simp [tgts, hbig])
  clear hbig
  go_enter Try.func10, Try.ntmps10
  go_wp2
  go_loopw [7, 8] (fun v i wr => ∃ k : Nat, k ≤ (c.nodes + 1).toNat ∧ i = .int .i64 k ∧ wr.ownsRow (w.heap.size + 1 + 1) 3 1 v (tl c.policy self d k).length ((tl c.policy self d k).map (Value.int .i64)) ∧
      Below (w.heap.size + 1 + 1) ((w.alloc (.cells #[.int .i64 c.nodes, .int .i64 c.blocks, .int .i64 c.tokens, .int .i64 c.sets, .int .i64 c.ways, .int .i64 c.cap, .int .i64 c.wait, .int .i64 c.tries, .int .i64 c.policy] 23)).alloc (.cells #[.int .i64 d.a, .int .i64 d.b, .int .i64 d.c] 46)) wr) (fun _ i _ => (c.nodes + 1).toNat - (intOf i).toNat)
  case atStart =>
    exact ⟨0, Nat.zero_le _, rfl, World.ownsRow_nil _ _ _ _, Below.refl _ _⟩
  case round =>
    obtain ⟨k, hk, rfl, hown, hbr⟩ := hrel
    have hle := tl_le c.policy self d k
    have hzr := hbr.size
    simp only [World.size_alloc] at hzr
    have z0 : w.heap.size < wr.heap.size := by omega
    have z1 : w.heap.size + 1 < wr.heap.size := by omega
    have c0 : wr.cell? ⟨w.heap.size, 0, none⟩ = some (.int .i64 c.nodes) := (hbr.cell (p := ⟨w.heap.size, 0, none⟩) (by simp; omega)).trans (by go_simp)
    have c8 : wr.cell? ⟨w.heap.size, 8, none⟩ = some (.int .i64 c.policy) := (hbr.cell (p := ⟨w.heap.size, 8, none⟩) (by simp; omega)).trans (by go_simp)
    have d0 : wr.cell? ⟨w.heap.size + 1, 0, none⟩ = some (.int .i64 d.a) := (hbr.cell (p := ⟨w.heap.size + 1, 0, none⟩) (by simp)).trans (by go_simp)
    have d1 : wr.cell? ⟨w.heap.size + 1, 1, none⟩ = some (.int .i64 d.b) := (hbr.cell (p := ⟨w.heap.size + 1, 1, none⟩) (by simp)).trans (by go_simp)
    have Hown := hide hown
    have Hbr := hide hbr
    have Hle := hide hle
    have Hzr := hide hzr
    clear hown hbr hle hzr
    by_cases hlt : (k : Int) ≤ c.nodes
    · have hk64 : k ≤ 64 := by omega
      have ne1 : ((k : Int) = self ∧ ((k : Int) == self) = true ∧ ((k : Int) != self) = false) ∨ ((k : Int) ≠ self ∧ ((k : Int) == self) = false ∧ ((k : Int) != self) = true) := by
        by_cases h : (k : Int) = self
        · exact Or.inl ⟨h, by simpa using h, by simpa using h⟩
        · exact Or.inr ⟨h, by simpa using h, by simpa using h⟩
      rcases ne1 with ⟨s1, s2, s3⟩ | ⟨s1, s2, s3⟩
      · have S1 := hide s1
        clear s1
        have Ask := hide (show asked c.policy self d k = false from by unfold asked; rw [S1.out]; simp)
        rcases (show c.policy = 1 ∨ c.policy = 2 ∨ (c.policy ≠ 1 ∧ c.policy ≠ 2) from by omega) with p | p | ⟨p, p'⟩
        · have p1 : (c.policy == 1) = true := by simpa using p
          clear p
          have hz := Hzr.out
          have hle := Hle.out
          go_wp2
          go_roundw
          case rel => exact ⟨k + 1, by omega, by go_num, by rw [tl_no Ask.out]; exact Hown.out, Hbr.out⟩
          case measure => simp [intOf]; omega
        · have p1 : (c.policy == 1) = false := by simp [p]
          have p2 : (c.policy == 2) = true := by simpa using p
          clear p
          have hz := Hzr.out
          have hle := Hle.out
          obtain ⟨x, b, hb⟩ : ∃ (x : Int) (b : Bool), True := ⟨0, true, trivial⟩
          clear hb x b
          rcases (show k < 64 ∨ k = 64 from by omega) with hk1 | hk1
          · have q0 : ((k : Int).tdiv 64) = 0 := by rw [Int.tdiv_eq_ediv_of_nonneg (by omega)]; omega
            have q1 : ((k : Int).tmod 64) = k := by rw [Int.tmod_eq_emod_of_nonneg (by omega)]; omega
            obtain ⟨b, hb⟩ : ∃ b, bit d.a k = b := ⟨_, rfl⟩
            have Hb := hide hb
            clear hb
            cases b
            all_goals
              go_wp2_with (go_at_call 18; refine (Bit_calls _ _ _).mono ?_; rw [Hb.out]; rintro e w2 ⟨rfl, hb_w2⟩; have hz_w2 := hb_w2.size; have Hown2 := hide (ownsRow_below Hown.out hb_w2); have Hbr2 := hide (Hbr.out.trans (hb_w2.mono (show w.heap.size + 1 + 1 ≤ wr.heap.size from hz))))
              go_roundw
              case rel => exact ⟨k + 1, by omega, by go_num, by rw [tl_no Ask.out]; exact Hown2.out, Hbr2.out⟩
              case measure => simp [intOf]; omega
          · have q0 : ((k : Int).tdiv 64) = 1 := by subst hk1; decide
            have q1 : ((k : Int).tmod 64) = 0 := by subst hk1; decide
            have Hk1 := hide hk1
            clear hk1
            obtain ⟨b, hb⟩ : ∃ b, bit d.b 0 = b := ⟨_, rfl⟩
            have Hb := hide hb
            clear hb
            cases b
            all_goals
              go_wp2_with (go_at_call 18; refine (Bit_calls _ _ _).mono ?_; rw [Hb.out]; rintro e w2 ⟨rfl, hb_w2⟩; have hz_w2 := hb_w2.size; have Hown2 := hide (ownsRow_below Hown.out hb_w2); have Hbr2 := hide (Hbr.out.trans (hb_w2.mono (show w.heap.size + 1 + 1 ≤ wr.heap.size from hz))))
              go_roundw
              case rel => exact ⟨k + 1, by omega, by go_num, by rw [tl_no Ask.out]; exact Hown2.out, Hbr2.out⟩
              case measure => simp [intOf]; omega
        · have p1 : (c.policy == 1) = false := by simp [p]
          have p2 : (c.policy == 2) = false := by simp [p']
          clear p p'
          have hz := Hzr.out
          have hle := Hle.out
          go_wp2
          go_roundw
          case rel => exact ⟨k + 1, by omega, by go_num, by rw [tl_no Ask.out]; exact Hown.out, Hbr.out⟩
          case measure => simp [intOf]; omega
      · have S1 := hide s1
        clear s1
        rcases (show c.policy = 1 ∨ c.policy = 2 ∨ (c.policy ≠ 1 ∧ c.policy ≠ 2) from by omega) with p | p | ⟨p, p'⟩
        · have p1 : (c.policy == 1) = true := by simpa using p
          have Ask := hide (show asked c.policy self d k = true from by unfold asked; rw [p]; simp [S1.out])
          clear p
          have hz := Hzr.out
          have hle := Hle.out
          go_wp2_with (at_builtin; refine wpList_append_own _ rfl _ _ 27 rfl (w.heap.size + 1 + 1) 3 i0 (.int .i64 0) 1 8 Try.underlying27 Hinfo.out.1 Hinfo.out.2.1 Hinfo.out.2.2.1 Hinfo.out.2.2.2 rfl (by decide) _ _ _ rfl (Hown.out.alloc _) ⟨wr.heap.size, 0, none⟩ 1 1 [.int .i64 k] rfl rfl one_new (by intro u hu; simp at hu; subst hu; rfl) (by unfold maxLen; omega) (by omega) (by simp; omega) ?_; intro v' w5 hown' hgrow _)
          go_roundw
          case rel =>
            have hown5 := push_row hown'
            rw [← tl_yes Ask.out] at hown5
            exact ⟨k + 1, by omega, by go_num, hown5, (Below.alloc Hbr.out (by omega) _).grown hgrow (by simp; omega) (fun j hj => (Hown.out.lt j hj).1)⟩
          case measure => simp [intOf]; omega
        · have P := hide p
          have p1 : (c.policy == 1) = false := by simp [p]
          have p2 : (c.policy == 2) = true := by simpa using p
          clear p
          have hz := Hzr.out
          have hle := Hle.out
          rcases (show k < 64 ∨ k = 64 from by omega) with hk1 | hk1
          · have q0 : ((k : Int).tdiv 64) = 0 := by rw [Int.tdiv_eq_ediv_of_nonneg (by omega)]; omega
            have q1 : ((k : Int).tmod 64) = k := by rw [Int.tmod_eq_emod_of_nonneg (by omega)]; omega
            obtain ⟨b, hb⟩ : ∃ b, bit d.a k = b := ⟨_, rfl⟩
            have Hb := hide hb
            have Ask := hide (show asked c.policy self d k = b from by unfold asked; rw [P.out, if_pos hk1, hb]; simp [S1.out])
            clear hb
            cases b
            · go_wp2_with (go_at_call 18; refine (Bit_calls _ _ _).mono ?_; rw [Hb.out]; rintro e w2 ⟨rfl, hb_w2⟩; have hz_w2 := hb_w2.size; have Hown2 := hide (ownsRow_below Hown.out hb_w2); have Hbr2 := hide (Hbr.out.trans (hb_w2.mono (show w.heap.size + 1 + 1 ≤ wr.heap.size from hz))))
              go_roundw
              case rel => exact ⟨k + 1, by omega, by go_num, by rw [tl_no Ask.out]; exact Hown2.out, Hbr2.out⟩
              case measure => simp [intOf]; omega
            · go_wp2_with (first | (go_at_call 18; refine (Bit_calls _ _ _).mono ?_; rw [Hb.out]; rintro e w2 ⟨rfl, hb_w2⟩; have hz_w2 := hb_w2.size; have Hown2 := hide (ownsRow_below Hown.out hb_w2); have Hbr2 := hide (Hbr.out.trans (hb_w2.mono (show w.heap.size + 1 + 1 ≤ wr.heap.size from hz)))) | (at_builtin; refine wpList_append_own _ rfl _ _ 27 rfl (w.heap.size + 1 + 1) 3 i0 (.int .i64 0) 1 8 Try.underlying27 Hinfo.out.1 Hinfo.out.2.1 Hinfo.out.2.2.1 Hinfo.out.2.2.2 rfl (by decide) _ _ _ rfl (Hown2.out.alloc _) ⟨w2.heap.size, 0, none⟩ 1 1 [.int .i64 k] rfl rfl one_new (by intro u hu; simp at hu; subst hu; rfl) (by unfold maxLen; omega) (by omega) (by simp; omega) ?_; intro v' w5 hown' hgrow _))
              go_roundw
              case rel =>
                have hown5 := push_row hown'
                rw [← tl_yes Ask.out] at hown5
                exact ⟨k + 1, by omega, by go_num, hown5, (Below.alloc Hbr2.out (by omega) _).grown hgrow (by simp; omega) (fun j hj => (Hown2.out.lt j hj).1)⟩
              case measure => simp [intOf]; omega
          · have q0 : ((k : Int).tdiv 64) = 1 := by subst hk1; decide
            have q1 : ((k : Int).tmod 64) = 0 := by subst hk1; decide
            obtain ⟨b, hb⟩ : ∃ b, bit d.b 0 = b := ⟨_, rfl⟩
            have Hb := hide hb
            have Ask := hide (show asked c.policy self d k = b from by unfold asked; rw [P.out, if_neg (by omega), hb]; simp [S1.out])
            have Hk1 := hide hk1
            clear hk1
            clear hb
            cases b
            · go_wp2_with (go_at_call 18; refine (Bit_calls _ _ _).mono ?_; rw [Hb.out]; rintro e w2 ⟨rfl, hb_w2⟩; have hz_w2 := hb_w2.size; have Hown2 := hide (ownsRow_below Hown.out hb_w2); have Hbr2 := hide (Hbr.out.trans (hb_w2.mono (show w.heap.size + 1 + 1 ≤ wr.heap.size from hz))))
              go_roundw
              case rel => exact ⟨k + 1, by omega, by go_num, by rw [tl_no Ask.out]; exact Hown2.out, Hbr2.out⟩
              case measure => simp [intOf]; omega
            · go_wp2_with (first | (go_at_call 18; refine (Bit_calls _ _ _).mono ?_; rw [Hb.out]; rintro e w2 ⟨rfl, hb_w2⟩; have hz_w2 := hb_w2.size; have Hown2 := hide (ownsRow_below Hown.out hb_w2); have Hbr2 := hide (Hbr.out.trans (hb_w2.mono (show w.heap.size + 1 + 1 ≤ wr.heap.size from hz)))) | (at_builtin; refine wpList_append_own _ rfl _ _ 27 rfl (w.heap.size + 1 + 1) 3 i0 (.int .i64 0) 1 8 Try.underlying27 Hinfo.out.1 Hinfo.out.2.1 Hinfo.out.2.2.1 Hinfo.out.2.2.2 rfl (by decide) _ _ _ rfl (Hown2.out.alloc _) ⟨w2.heap.size, 0, none⟩ 1 1 [.int .i64 k] rfl rfl one_new (by intro u hu; simp at hu; subst hu; rfl) (by unfold maxLen; omega) (by omega) (by simp; omega) ?_; intro v' w5 hown' hgrow _))
              go_roundw
              case rel =>
                have hown5 := push_row hown'
                rw [← tl_yes Ask.out] at hown5
                exact ⟨k + 1, by omega, by go_num, hown5, (Below.alloc Hbr2.out (by omega) _).grown hgrow (by simp; omega) (fun j hj => (Hown2.out.lt j hj).1)⟩
              case measure => simp [intOf]; omega
        · have Ask := hide (show asked c.policy self d k = false from by unfold asked; simp [p, p'])
          have p1 : (c.policy == 1) = false := by simp [p]
          have p2 : (c.policy == 2) = false := by simp [p']
          clear p p'
          have hz := Hzr.out
          have hle := Hle.out
          go_wp2
          go_roundw
          case rel => exact ⟨k + 1, by omega, by go_num, by rw [tl_no Ask.out]; exact Hown.out, Hbr.out⟩
          case measure => simp [intOf]; omega
    · have e : k = (c.nodes + 1).toNat := by omega
      go_wp2
      go_ret
      refine ⟨_, rfl, ?_, ?_⟩
      · rw [Ht.out, ← e]
        exact ⟨Hown.out.1, Hown.out.2.imp id fun ⟨g, cap, cur, h1, h2, h3⟩ => ⟨g, cap, cur, h1, by omega, h3⟩⟩
      · exact (Below.trans (by (repeat' (with_reducible first | exact bl0 | apply bl4 | apply bl5 | apply bl1 | refine bl2 ?_ (by first | omega | (simp only [World.size_alloc, World.size_setCell, World.size_drew]; omega)) | refine bl3 (by assumption) ?_))) (Hbr.out.mono (by omega)))
theorem Targets_calls (c : Cfg) (self : Int) (d : I3) (w : World) :
    Calls Try.prog 10 #[.agg #[.int .i64 c.nodes, .int .i64 c.blocks, .int .i64 c.tokens, .int .i64 c.sets, .int .i64 c.ways, .int .i64 c.cap, .int .i64 c.wait, .int .i64 c.tries, .int .i64 c.policy], .int .i64 self, .agg #[.int .i64 d.a, .int .i64 d.b, .int .i64 d.c]] w fun e w' => ∃ v, e = .returned v ∧ Sl icell 1 (tgts c self d) v w' ∧ Below w.heap.size w w' :=
  (Targets_calls' c self d w).mono fun e w' ⟨v, h1, h2, h3⟩ => ⟨v, h1, Sl.of_row h2, h3⟩
end Go.Proofs.Ytkamhamgpinhkaa
