/- Layer 24: that both read the same numbers. Plain words. No condition. -/
import Derived.Test.YtpkidbhpfohopaaDoorN5
noncomputable section
namespace Go.Proofs.YtpkidbhpfohopaaDoor
open Go.RowKit
set_option linter.unusedVariables false
set_option linter.unusedSimpArgs false
theorem valD_le : ∀ {l : List UInt8} {acc u : Nat}, valD acc l = some u → acc ≤ u
  | [], acc, u, h => by
    rw [valD] at h
    exact Nat.le_of_eq (Option.some.inj h)
  | c :: r, acc, u, h => by
    rw [valD] at h
    split at h
    · have := valD_le h
      omega
    · cases h
theorem valD_app : ∀ (l : List UInt8) (c : UInt8) (acc u : Nat), valD acc l = some u → 48 ≤ c.toNat → c.toNat ≤ 57 → valD acc (l ++ [c]) = some (u * 10 + (c.toNat - 48))
  | [], c, acc, u, h, h1, h2 => by
    rw [valD] at h
    obtain rfl := Option.some.inj h
    rw [List.nil_append, valD, if_pos ⟨h1, h2⟩, valD]
  | x :: l, c, acc, u, h, h1, h2 => by
    rw [valD] at h
    split at h
    · rename_i hx
      rw [List.cons_append, valD, if_pos hx]
      exact valD_app l c _ u h h1 h2
    · cases h
theorem dig_toNat {d : Nat} (h : d < 10) : (UInt8.ofNat (48 + d)).toNat = 48 + d := by
  rw [UInt8.toNat_ofNat']
  omega
theorem dig_back {c : UInt8} (h1 : 48 ≤ c.toNat) (h2 : c.toNat ≤ 57) : UInt8.ofNat (48 + (c.toNat - 48)) = c := by
  apply UInt8.toNat_inj.1
  rw [UInt8.toNat_ofNat']
  omega
theorem dec_valD : ∀ (l : List UInt8) (acc u : Nat), 0 < acc → valD acc l = some u → Lib.decDigits u = Lib.decDigits acc ++ l
  | [], acc, u, h0, h => by
    rw [valD] at h
    rw [Option.some.inj h, List.append_nil]
  | c :: r, acc, u, h0, h => by
    rw [valD] at h
    split at h
    · rename_i hc
      rw [dec_valD r _ u (by omega) h, decS (by omega)]
      have e1 : (acc * 10 + (c.toNat - 48)) / 10 = acc := by omega
      have e2 : (acc * 10 + (c.toNat - 48)) % 10 = c.toNat - 48 := by omega
      rw [e1, e2, dig_back hc.1 hc.2, List.append_assoc]
      rfl
    · cases h
theorem dec_of_val {c : UInt8} {r : List UInt8} {u : Nat} (h : valD 0 (c :: r) = some u) (hc : c.toNat ≠ 48 ∨ r = []) : Lib.decDigits u = c :: r ∧ (c.toNat ≠ 48 → 0 < u) := by
  rw [valD] at h
  split at h
  · rename_i hd
    rcases Nat.eq_zero_or_pos (0 * 10 + (c.toNat - 48)) with h0 | h0
    · have hc48 : c.toNat = 48 := by omega
      rcases hc with hc | rfl
      · exact absurd hc48 hc
      · rw [valD, h0] at h
        obtain rfl := Option.some.inj h
        refine ⟨?_, fun hh => absurd hc48 hh⟩
        rw [dec1 (by omega)]
        have := dig_back hd.1 hd.2
        rw [hc48] at this
        rw [← this]
    · refine ⟨?_, fun _ => Nat.lt_of_lt_of_le h0 (valD_le h)⟩
      rw [dec_valD r _ u h0 h, dec1 (by omega)]
      have e : 0 * 10 + (c.toNat - 48) = c.toNat - 48 := by omega
      rw [e, dig_back hd.1 hd.2]
      rfl
  · cases h
theorem val_dec : ∀ (k u : Nat), u ≤ k → valD 0 (Lib.decDigits u) = some u
  | k, u, hk => by
    by_cases h : u < 10
    · rw [dec1 h, valD, dig_toNat h, if_pos (by omega), valD]
      simp
    · rw [decS h]
      match k, hk with
      | 0, hk => omega
      | k + 1, hk =>
        rw [valD_app _ _ _ _ (val_dec k (u / 10) (by omega)) (by rw [dig_toNat (by omega)]; omega) (by rw [dig_toNat (by omega)]; omega), dig_toNat (by omega)]
        congr 1
        omega
theorem dec_head : ∀ (k u : Nat), u ≤ k → ∃ c r, Lib.decDigits u = c :: r ∧ 48 ≤ c.toNat ∧ c.toNat ≤ 57 ∧ (0 < u → c.toNat ≠ 48) ∧ (u = 0 → r = [])
  | k, u, hk => by
    by_cases h : u < 10
    · refine ⟨_, [], dec1 h, ?_, ?_, ?_, fun _ => rfl⟩ <;> rw [dig_toNat h] <;> omega
    · match k, hk with
      | 0, hk => omega
      | k + 1, hk =>
        obtain ⟨c, r, h1, h2, h3, h4, -⟩ := dec_head k (u / 10) (by omega)
        exact ⟨c, r ++ [UInt8.ofNat (48 + u % 10)], by rw [decS h, h1]; rfl, h2, h3, fun _ => h4 (by omega), fun h0 => by omega⟩
theorem pu_of_val : ∀ {l : List UInt8} {acc u : Nat}, valD acc l = some u → u < 18446744073709551616 → Lib.parseUint10 acc l = .ok u
  | [], acc, u, h, hu => by
    rw [valD] at h
    rw [Lib.parseUint10, Option.some.inj h]
  | c :: r, acc, u, h, hu => by
    rw [valD] at h
    split at h
    · rename_i hd
      have hle := valD_le h
      rw [Lib.parseUint10, if_pos hd, if_neg (by omega), if_neg (by omega)]
      exact pu_of_val h hu
    · cases h
theorem mag_of_val {l : List UInt8} {u : Nat} (hl : l ≠ []) (h : valD 0 l = some u) (hu : u < 18446744073709551616) : Lib.parseMag l = .ok u := by
  rw [Lib.parseMag, if_neg hl, pu_of_val h hu]
theorem byte0 {s : ByteArray} {c : UInt8} {r : List UInt8} (h : bl s = c :: r) : byteU s 0 = c.toNat ∧ s.size = r.length + 1 := by
  refine ⟨by rw [byteU_eq, h]; rfl, by rw [← bl_len, h]; rfl⟩
theorem ext_tail {s : ByteArray} {c : UInt8} {r : List UInt8} (h : bl s = c :: r) : bl (s.extract 1 s.size) = r := by
  rw [bl_ext, List.take_of_length_le (by rw [bl_len]; exact Nat.le_refl _), h]
  rfl
theorem bl_nil_or (s : ByteArray) : bl s = [] ∨ ∃ c r, bl s = c :: r := by
  cases h : bl s with
  | nil => exact .inl rfl
  | cons c r => exact .inr ⟨c, r, rfl⟩
/-- What refN says, over bytes. -/
theorem refN_some {s : ByteArray} {v : Int} (h : refN s = some v) : nuO s = true ∧ atV s = v := by
  rcases bl_nil_or s with hs | ⟨c, r, hs⟩
  · have hz : s.size = 0 := by rw [← bl_len, hs]; rfl
    have hd : dgS s = s := by unfold dgS; rw [if_neg (by omega)]
    unfold refN at h
    rw [hd, if_pos (.inl hz)] at h
    cases h
  · obtain ⟨hb, hsz⟩ := byte0 hs
    by_cases hc : c.toNat = 45
    · have hd : dgS s = s.extract 1 s.size := by unfold dgS; rw [if_pos ⟨by omega, by omega⟩]
      have ht := ext_tail hs
      have hts : (s.extract 1 s.size).size = r.length := by rw [← bl_len, ht]
      unfold refN at h
      rw [hd] at h
      split at h
      · cases h
      · rename_i hn
        rw [ht] at h
        cases hv : valD 0 r with
        | none => rw [hv] at h; cases h
        | some u =>
          rw [hv] at h
          simp only [hts] at h
          rw [if_pos (by omega)] at h
          split at h
          · cases h
          · rename_i hu
            obtain rfl := Option.some.inj h
            cases r with
            | nil => exact absurd (.inl (by rw [hts]; rfl)) hn
            | cons x q =>
              obtain ⟨hb2, -⟩ := byte0 ht
              have hs0 : ¬ s = ⟨#[48]⟩ := fun e => by
                have : bl s = [48] := by rw [e]
                rw [hs] at this
                injection this with h1 h2
                rw [h1] at hc
                revert hc
                decide
              have hx : x.toNat ≠ 48 := fun e => hn (.inr (.inr ⟨by rw [hb2, e]; rfl, hs0⟩))
              obtain ⟨h1, h2⟩ := dec_of_val hv (.inl hx)
              have hu0 := h2 hx
              have hat : Lib.atoiAll (bl s) = .ok (-(u : Int)) := by
                rw [hs, Lib.atoiAll]
                simp only [hc, or_true, if_true, mag_of_val (List.cons_ne_nil x q) hv (by omega)]
                simp
                omega
              have hV : atV s = -(u : Int) := by unfold atV; rw [hat]
              refine ⟨?_, hV⟩
              unfold nuO atO
              rw [hat, hV]
              simp only [Bool.true_and, decide_eq_true_eq]
              refine bl_inj ?_
              rw [bl_itoaB, itoa_n hu0, h1, hs]
              congr 1
              exact UInt8.toNat_inj.1 (by rw [hc]; rfl)
    · have hd : dgS s = s := by unfold dgS; rw [if_neg (by omega)]
      unfold refN at h
      rw [hd] at h
      split at h
      · cases h
      · rename_i hn
        rw [hs] at h
        cases hv : valD 0 (c :: r) with
        | none => rw [hv] at h; cases h
        | some u =>
          rw [hv] at h
          simp only at h
          rw [if_neg (by omega)] at h
          split at h
          · cases h
          · rename_i hu
            obtain rfl := Option.some.inj h
            have hr : c.toNat ≠ 48 ∨ r = [] := by
              by_cases e : c.toNat = 48
              · refine .inr (Classical.byContradiction fun hr => hn (.inr (.inr ⟨by rw [hb, e]; rfl, fun e2 => hr ?_⟩)))
                have : bl s = [48] := by rw [e2]
                rw [hs] at this
                injection this
              · exact .inl e
            obtain ⟨h1, -⟩ := dec_of_val hv hr
            have h43 : c.toNat ≠ 43 := fun e => by
              rw [valD, if_neg (by omega)] at hv
              cases hv
            have hat : Lib.atoiAll (bl s) = .ok (u : Int) := by
              rw [hs, Lib.atoiAll]
              simp only [hc, h43, or_self, if_false, mag_of_val (List.cons_ne_nil c r) hv (by omega)]
              simp
              omega
            have hV : atV s = (u : Int) := by unfold atV; rw [hat]
            refine ⟨?_, hV⟩
            unfold nuO atO
            rw [hat, hV]
            simp only [Bool.true_and, decide_eq_true_eq]
            refine bl_inj ?_
            rw [bl_itoaB, itoa_p, h1, hs]
theorem refN_itoa {s : ByteArray} {v : Int} (h0 : -9223372036854775808 ≤ v) (h1 : v ≤ 9223372036854775807) (hs : bl s = Lib.itoa v) : refN s = some v := by
  rcases (show 0 ≤ v ∨ v < 0 from by omega) with hv | hv
  · obtain ⟨u, rfl⟩ := Int.eq_ofNat_of_zero_le hv
    rw [itoa_p] at hs
    obtain ⟨c, r, e, hc1, hc2, hc3, hc4⟩ := dec_head u u (Nat.le_refl _)
    have hval := val_dec u u (Nat.le_refl _)
    have hlen := decDigits_len 18 u (by omega)
    rw [e] at hs hval hlen
    obtain ⟨hb, hsz⟩ := byte0 hs
    have hd : dgS s = s := by unfold dgS; rw [if_neg (by omega)]
    unfold refN
    rw [hd, hs, hval]
    simp only [List.length_cons] at hlen
    rw [if_neg]
    · simp only
      rw [if_neg (by omega), if_neg (by omega)]
    · rintro (h | h | ⟨h, h'⟩)
      · omega
      · omega
      · have hu : u = 0 := by
          rcases Nat.eq_zero_or_pos u with h0 | h0
          · exact h0
          · exact absurd (by omega) (hc3 h0)
        refine h' (bl_inj ?_)
        rw [hs, hc4 hu]
        have : c = 48 := UInt8.toNat_inj.1 (by show c.toNat = 48; omega)
        rw [this]
  · obtain ⟨u, hu⟩ := Int.eq_ofNat_of_zero_le (a := -v) (by omega)
    obtain rfl : v = -(u : Int) := by omega
    have hu0 : 0 < u := by omega
    rw [itoa_n hu0] at hs
    obtain ⟨c, r, e, hc1, hc2, hc3, hc4⟩ := dec_head u u (Nat.le_refl _)
    have hval := val_dec u u (Nat.le_refl _)
    have hlen := decDigits_len 18 u (by omega)
    rw [e] at hs hval hlen
    obtain ⟨hb, hsz⟩ := byte0 hs
    have hb : byteU s 0 = 45 := hb
    have ht := ext_tail hs
    obtain ⟨hb2, hsz2⟩ := byte0 ht
    have hd : dgS s = s.extract 1 s.size := by unfold dgS; rw [if_pos ⟨by omega, hb⟩]
    unfold refN
    rw [hd, ht, hval]
    simp only [List.length_cons] at hlen hsz
    have hc := hc3 hu0
    rw [if_neg]
    · simp only
      rw [if_pos (by omega), if_neg (by omega)]
    · rintro (h | h | ⟨h, h'⟩) <;> omega
theorem refN_eq (s : ByteArray) : refN s = if nuO s = true then some (atV s) else none := by
  by_cases h : nuO s = true
  · rw [if_pos h]
    unfold nuO at h
    simp only [Bool.and_eq_true, decide_eq_true_eq] at h
    obtain ⟨h1, h2⟩ := h
    have hb : -9223372036854775808 ≤ atV s ∧ atV s ≤ 9223372036854775807 := by
      unfold atO at h1
      unfold atV
      rcases ha : Lib.atoiAll (bl s) with v | _ | _
      · obtain ⟨b1, b2⟩ := Lib.atoiAll_bounds ha
        simp only
        omega
      · rw [ha] at h1; cases h1
      · rw [ha] at h1; cases h1
    exact refN_itoa hb.1 hb.2 (by rw [← bl_itoaB, h2])
  · rw [if_neg h]
    cases hr : refN s with
    | none => rfl
    | some v => exact absurd (refN_some hr).1 h
theorem rnO_eq (s : ByteArray) : rnO s = nuO s := by
  unfold rnO
  rw [refN_eq]
  cases nuO s <;> rfl
theorem rnV_eq {s : ByteArray} (h : nuO s = true) : rnV s = nuV s := by
  unfold rnV
  rw [refN_eq, if_pos h]
  rfl
/-- A number's text is read as that number. -/
theorem nuO_itoa {v : Int} (h0 : -9223372036854775808 ≤ v) (h1 : v ≤ 9223372036854775807) : nuO (itoaB v) = true ∧ nuV (itoaB v) = v :=
  refN_some (refN_itoa h0 h1 (bl_itoaB v))
theorem nuO_text {s : ByteArray} (h : nuO s = true) : itoaB (nuV s) = s := by
  unfold nuO at h
  simp only [Bool.and_eq_true, decide_eq_true_eq] at h
  exact h.2
end Go.Proofs.YtpkidbhpfohopaaDoor
