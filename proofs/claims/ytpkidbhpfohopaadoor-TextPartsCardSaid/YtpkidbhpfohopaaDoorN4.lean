/- Layer 24: contracts of Num, Number (the reference's) and number (text's). No condition. -/
import Derived.Test.YtpkidbhpfohopaaDoorN3
noncomputable section
namespace Go.Proofs.YtpkidbhpfohopaaDoor
open Go.RowKit
set_option linter.unusedVariables false
set_option linter.unusedSimpArgs false
/-! ### Num -/
def muN (n : Int) : Nat := 2 * n.natAbs + (if n < 0 then 1 else 0)
noncomputable def cNumK (k : Nat) : Con where
  X := Int
  args := fun n => [.int .i64 n]
  heap := fun _ => hp0
  pre := fun n => muN n < k
  res := fun n => .str (itoaB n)
  heap' := fun _ => hp0
  pure := true
  find := fun args H => match args with
    | [.int _ n] => some n
    | _ => none
theorem dec1 {u : Nat} (h : u < 10) : Lib.decDigits u = [UInt8.ofNat (48 + u)] := by rw [Lib.decDigits, dif_pos h]
theorem decS {u : Nat} (h : ¬ u < 10) : Lib.decDigits u = Lib.decDigits (u / 10) ++ [UInt8.ofNat (48 + u % 10)] := by rw [Lib.decDigits, dif_neg h]
theorem itoa_p (u : Nat) : Lib.itoa (u : Int) = Lib.decDigits u := by
  unfold Lib.itoa
  rw [if_neg (by omega), Int.toNat_natCast]
theorem itoa_n {u : Nat} (h : 0 < u) : Lib.itoa (-(u : Int)) = 45 :: Lib.decDigits u := by
  unfold Lib.itoa
  rw [if_pos (by omega), Int.natAbs_neg, Int.natAbs_natCast]
theorem tdiv_p (u : Nat) : Int.tdiv (u : Int) 10 = ((u / 10 : Nat) : Int) := rfl
theorem tmod_p (u : Nat) : Int.tmod (u : Int) 10 = ((u % 10 : Nat) : Int) := rfl
theorem tdiv_n (u : Nat) : Int.tdiv (-(u : Int)) 10 = -((u / 10 : Nat) : Int) := by rw [Int.neg_tdiv]; rfl
theorem tmod_n (u : Nat) : Int.tmod (-(u : Int)) 10 = -((u % 10 : Nat) : Int) := by rw [Int.neg_tmod]; rfl
theorem num1 {n : Int} (h0 : 0 ≤ n) (h1 : n < 10) : strU [IntKind.u8.wrap (IntKind.i64.wrap (48 + n))] = itoaB n := by
  obtain ⟨u, rfl⟩ := Int.eq_ofNat_of_zero_le h0
  have e1 : IntKind.u8.wrap (IntKind.i64.wrap (48 + (u : Int))) = ((48 + u : Nat) : Int) := by
    rw [wrap_id (by omega) (by omega)]
    simp only [IntKind.wrap, IntKind.bits, IntKind.signed]
    simp
    omega
  refine bl_inj ?_
  rw [bl_itoaB, e1, itoa_p, dec1 (by omega), strU_eq]
  rfl
theorem num2 {n : Int} (h0 : -10 < n) (h1 : n < 0) : (⟨#[45]⟩ : ByteArray) ++ itoaB (IntKind.i64.wrap (0 - n)) = itoaB n := by
  obtain ⟨u, hu⟩ := Int.eq_ofNat_of_zero_le (a := -n) (by omega)
  obtain rfl : n = -(u : Int) := by omega
  refine bl_inj ?_
  rw [bl_app, bl_itoaB, bl_itoaB, wrap_id (by omega) (by omega), show (0 : Int) - -(u : Int) = (u : Int) from by omega, itoa_p, itoa_n (by omega)]
  rfl
theorem num3 {n : Int} (h0 : 10 ≤ n) (h1 : n < 9223372036854775808) : itoaB (IntKind.i64.wrap (n.tdiv 10)) ++ itoaB (IntKind.i64.wrap (n.tmod 10)) = itoaB n := by
  obtain ⟨u, rfl⟩ := Int.eq_ofNat_of_zero_le (a := n) (by omega)
  refine bl_inj ?_
  rw [tdiv_p, tmod_p, bl_app, bl_itoaB, bl_itoaB, bl_itoaB, wrap_id (by omega) (by omega), wrap_id (by omega) (by omega), itoa_p, itoa_p, itoa_p, decS (u := u) (by omega), dec1 (u := u % 10) (by omega)]
theorem num4 {n : Int} (h0 : n ≤ -10) (h1 : -9223372036854775808 ≤ n) : itoaB (IntKind.i64.wrap (n.tdiv 10)) ++ itoaB (IntKind.i64.wrap (0 - IntKind.i64.wrap (n.tmod 10))) = itoaB n := by
  obtain ⟨u, hu⟩ := Int.eq_ofNat_of_zero_le (a := -n) (by omega)
  obtain rfl : n = -(u : Int) := by omega
  refine bl_inj ?_
  rw [tdiv_n, tmod_n, bl_app, bl_itoaB, bl_itoaB, bl_itoaB, wrap_id (n := -((u / 10 : Nat) : Int)) (by omega) (by omega), wrap_id (n := -((u % 10 : Nat) : Int)) (by omega) (by omega), wrap_id (by omega) (by omega), show (0 : Int) - -((u % 10 : Nat) : Int) = ((u % 10 : Nat) : Int) from by omega, itoa_p, itoa_n (by omega), itoa_n (by omega), decS (u := u) (by omega), dec1 (u := u % 10) (by omega)]
  rfl
theorem mu_div {n : Int} (h : n ≤ -10 ∨ 10 ≤ n) (h0 : -9223372036854775808 ≤ n) (h1 : n < 9223372036854775808) {k : Nat} (hk : muN n < k + 1) : muN (IntKind.i64.wrap (n.tdiv 10)) < k := by
  unfold muN at *
  rcases h with h | h
  · obtain ⟨u, hu⟩ := Int.eq_ofNat_of_zero_le (a := -n) (by omega)
    obtain rfl : n = -(u : Int) := by omega
    rw [tdiv_n, wrap_id (by omega) (by omega)]
    split at hk <;> split <;> omega
  · obtain ⟨u, rfl⟩ := Int.eq_ofNat_of_zero_le (a := n) (by omega)
    rw [tdiv_p, wrap_id (by omega) (by omega)]
    split at hk <;> split <;> omega
theorem mu_mod {n : Int} (h : 10 ≤ n) (h1 : n < 9223372036854775808) {k : Nat} (hk : muN n < k + 1) : muN (IntKind.i64.wrap (n.tmod 10)) < k := by
  unfold muN at *
  obtain ⟨u, rfl⟩ := Int.eq_ofNat_of_zero_le (a := n) (by omega)
  rw [tmod_p, wrap_id (by omega) (by omega)]
  split at hk <;> split <;> omega
theorem mu_modn {n : Int} (h : n ≤ -10) (h1 : -9223372036854775808 ≤ n) {k : Nat} (hk : muN n < k + 1) : muN (IntKind.i64.wrap (0 - IntKind.i64.wrap (n.tmod 10))) < k := by
  unfold muN at *
  obtain ⟨u, hu⟩ := Int.eq_ofNat_of_zero_le (a := -n) (by omega)
  obtain rfl : n = -(u : Int) := by omega
  rw [tmod_n, wrap_id (n := -((u % 10 : Nat) : Int)) (by omega) (by omega), wrap_id (by omega) (by omega)]
  split at hk <;> split <;> omega
theorem mu_neg {n : Int} (h0 : -10 < n) (h1 : n < 0) {k : Nat} (hk : muN n < k + 1) : muN (IntKind.i64.wrap (0 - n)) < k := by
  unfold muN at *
  rw [wrap_id (by omega) (by omega)]
  split at hk <;> split <;> omega
theorem wrap_len (n : Int) : (itoaB (IntKind.i64.wrap n)).size ≤ 20 := by
  have h := wrap_in .i64 n
  exact itoa_len h.1 h.2
set_option maxRecDepth 100000 in
set_option maxHeartbeats 4000000 in
theorem cNumK_s (k : Nat) (cN_ok : (cNumK k).Ok Tryd.prog 31) : (cNumK (k + 1)).Ok Tryd.prog 31 := by
  refine fun_ok (env_ok (Cons.cons cN_ok Cons.nil)) mixedP Tryd.func31 (by decide) rfl (cNumK (k + 1)) [(1000006, 1)] (fun _ => rfl) (fun _ _ => ⟨rfl, fun id k h => by cases h⟩) (fun _ => Nat.le_of_ble_eq_true rfl) ?_
  rintro (n : Int) hp ha hb
  replace hp : muN n < k + 1 := hp
  replace ha : okI n := ha.1.1
  have h0 : -9223372036854775808 ≤ n := ha.1
  have h1 : n < 9223372036854775808 := by have := ha.2; omega
  clear ha hb
  all_goals (repeat' (first
    | with_reducible refine iTr ?_
    | with_reducible refine iB ?_
    | intro _
    | exact True.intro
    | (show _ ∧ _
       first
        | refine aTT ?_
        | refine aTB ?_
        | refine aT ?_
        | refine aB ?_
        | refine a11 ?_
        | refine a01 ?_
        | refine a00 ?_
        | refine a10 ?_
        | (with_reducible refine And.intro rfl ?_)
        | refine And.intro ?_ ?_)
    | with_reducible exact rfl
    | with_reducible exact HEq.rfl
    | (show (_ : Option Nat) = _; exact rfl)
    | (show (_ : Option Blk) = _; exact rfl)
    | (with_reducible show (nodupB _ && _ && _ && _ && _) = true; exact (Eq.refl true))
    | (with_reducible show (nodupB _ && _ && _ && _) = true; exact (Eq.refl true))
    | (with_reducible show (nodupB _ && _ && _) = true; exact (Eq.refl true))
    | (with_reducible show freeOk _ _ = true; exact (Eq.refl true))
    | (with_reducible show wrOk _ _ _ _ _ = true; exact (Eq.refl true))
    | (show (_ : AV) = _; exact rfl)
    | (show (_ : ByteArray) = _; with_reducible exact rfl)
    | (show (_ : Heap) = _; exact rfl)
    | (with_reducible show (_ || !_) = true; exact (Eq.refl true))
    | (with_reducible show Nat.beq _ _ = true; exact (Eq.refl true))))
  all_goals (first | (show (_ : Int) = _) | (show (_ : Bool) = _) | (show (_ : ByteArray) = _) | (show HEq _ _) | (show ∃ _ : LInv, _) | skip)
  all_goals (try (with_reducible exact rfl))
  all_goals try (refine ⟨⟨{u : Unit // n ≤ -10}, fun u => [(0, .int .i64 n)], fun u => hp0, fun _ => 0⟩, ?_, ?_⟩; rotate_right; rintro ⟨u, hu⟩)
  all_goals (repeat' (first
    | with_reducible refine iTr ?_
    | with_reducible refine iB ?_
    | intro _
    | exact True.intro
    | (show _ ∧ _
       first
        | refine aTT ?_
        | refine aTB ?_
        | refine aT ?_
        | refine aB ?_
        | refine a11 ?_
        | refine a01 ?_
        | refine a00 ?_
        | refine a10 ?_
        | (with_reducible refine And.intro rfl ?_)
        | refine And.intro ?_ ?_)
    | with_reducible exact rfl
    | with_reducible exact HEq.rfl
    | (show (_ : Option Nat) = _; exact rfl)
    | (show (_ : Option Blk) = _; exact rfl)
    | (with_reducible show (nodupB _ && _ && _ && _ && _) = true; exact (Eq.refl true))
    | (with_reducible show (nodupB _ && _ && _ && _) = true; exact (Eq.refl true))
    | (with_reducible show (nodupB _ && _ && _) = true; exact (Eq.refl true))
    | (with_reducible show freeOk _ _ = true; exact (Eq.refl true))
    | (with_reducible show wrOk _ _ _ _ _ = true; exact (Eq.refl true))
    | (show (_ : AV) = _; exact rfl)
    | (show (_ : ByteArray) = _; with_reducible exact rfl)
    | (show (_ : Heap) = _; exact rfl)
    | (with_reducible show (_ || !_) = true; exact (Eq.refl true))
    | (with_reducible show Nat.beq _ _ = true; exact (Eq.refl true))))
  all_goals (first | (show (_ : Int) = _) | (show (_ : Bool) = _) | (show (_ : ByteArray) = _) | (show HEq _ _) | (show ∃ _ : LInv, _) | skip)
  all_goals (try (with_reducible exact rfl))
  all_goals try (refine ⟨⟨(), ?_⟩, [], ?_⟩)
  all_goals (repeat' (first
    | with_reducible refine iTr ?_
    | with_reducible refine iB ?_
    | intro _
    | exact True.intro
    | (show _ ∧ _
       first
        | refine aTT ?_
        | refine aTB ?_
        | refine aT ?_
        | refine aB ?_
        | refine a11 ?_
        | refine a01 ?_
        | refine a00 ?_
        | refine a10 ?_
        | (with_reducible refine And.intro rfl ?_)
        | refine And.intro ?_ ?_)
    | with_reducible exact rfl
    | with_reducible exact HEq.rfl
    | (show (_ : Option Nat) = _; exact rfl)
    | (show (_ : Option Blk) = _; exact rfl)
    | (with_reducible show (nodupB _ && _ && _ && _ && _) = true; exact (Eq.refl true))
    | (with_reducible show (nodupB _ && _ && _ && _) = true; exact (Eq.refl true))
    | (with_reducible show (nodupB _ && _ && _) = true; exact (Eq.refl true))
    | (with_reducible show freeOk _ _ = true; exact (Eq.refl true))
    | (with_reducible show wrOk _ _ _ _ _ = true; exact (Eq.refl true))
    | (show (_ : AV) = _; exact rfl)
    | (show (_ : ByteArray) = _; with_reducible exact rfl)
    | (show (_ : Heap) = _; exact rfl)
    | (with_reducible show (_ || !_) = true; exact (Eq.refl true))
    | (with_reducible show Nat.beq _ _ = true; exact (Eq.refl true))))
  all_goals (first | (show (_ : Int) = _) | (show (_ : Bool) = _) | (show (_ : ByteArray) = _) | (show HEq _ _) | (show ∃ _ : LInv, _) | skip)
  all_goals (try (with_reducible exact rfl))
  all_goals (simp only [cond_true, Bool.not_true, decide_eq_true_eq, decide_eq_false_iff_not] at *)
  all_goals (first
    | omega
    | exact num1 (by omega) (by omega)
    | exact num2 (by omega) (by omega)
    | exact num3 (by omega) (by omega)
    | exact num4 (by omega) (by omega)
    | exact mu_div (by omega) h0 h1 hp
    | exact mu_mod (by omega) h1 hp
    | exact mu_modn (by omega) h0 hp
    | exact mu_neg (by omega) (by omega) hp
    | (have e1 := wrap_len (n.tdiv 10); have e2 := wrap_len (n.tmod 10); have e3 := wrap_len (0 - IntKind.i64.wrap (n.tmod 10)); omega)
    | (have e1 := wrap_len (0 - n); show 1 + _ ≤ _; omega)
    | skip)
theorem cNumK_ok : ∀ k, (cNumK k).Ok Tryd.prog 31
  | 0 => ⟨Go.MuLone.run_callFunc_enter Tryd.func31 (by decide) rfl, fun _ id k h => no_blocks h, fun _ x => ⟨rfl, fun id k h => (by cases h)⟩, fun n hp => absurd hp (Nat.not_lt_zero _)⟩
  | k + 1 => cNumK_s k (cNumK_ok k)
noncomputable def cNum : Con where
  X := Int
  args := fun n => [.int .i64 n]
  heap := fun _ => hp0
  pre := fun _ => True
  res := fun n => .str (itoaB n)
  heap' := fun _ => hp0
  pure := true
  find := fun args H => match args with
    | [.int _ n] => some n
    | _ => none
theorem cNum_ok : cNum.Ok Tryd.prog 31 :=
  ⟨(cNumK_ok 0).enter, (cNumK_ok 0).lt, (cNumK_ok 0).pure, fun n _ => (cNumK_ok (muN n + 1)).calls n (Nat.lt_succ_self _)⟩
/-! ### text's number -/
def nuV (s : ByteArray) : Int := atV s
noncomputable def nuO (s : ByteArray) : Bool := atO s && decide (itoaB (atV s) = s)
noncomputable def cNumT : Con where
  X := ByteArray
  args := fun s => [.str s]
  heap := fun _ => hp0
  pre := fun s => s.size ≤ 100000 ∧ atO s = true
  res := fun s => .tup [.int .i64 (nuV s), .bool (nuO s)]
  heap' := fun _ => hp0
  pure := true
  find := fun args H => match args with
    | [.str s] => some s
    | _ => none
noncomputable def cNumF : Con where
  X := ByteArray
  args := fun s => [.str s]
  heap := fun _ => hp0
  pre := fun s => s.size ≤ 100000 ∧ atO s = false
  res := fun s => .tup [.int .i64 (nuV s), .bool (nuO s)]
  heap' := fun _ => hp0
  pure := true
  find := fun args H => match args with
    | [.str s] => some s
    | _ => none
set_option maxRecDepth 100000 in
set_option maxHeartbeats 4000000 in
theorem cNumT_ok : cNumT.Ok Tryd.prog 39 := by
  refine fun_ok (env_ok (Cons.cons cAtoiT_ok (Cons.cons cItoa_ok Cons.nil))) mixedP Tryd.func39 (by decide) rfl cNumT [] (fun _ => rfl) (fun _ _ => ⟨rfl, fun id k h => by cases h⟩) (fun _ => Nat.le_of_ble_eq_true rfl) ?_
  rintro (s : ByteArray) hp ha hb
  replace hp : s.size ≤ 100000 ∧ atO s = true := hp
  clear ha hb
  obtain ⟨hp, ho⟩ := hp
  all_goals (repeat' (first
    | with_reducible refine iTr ?_
    | with_reducible refine iB ?_
    | intro _
    | exact True.intro
    | (show _ ∧ _
       first
        | refine aTT ?_
        | refine aTB ?_
        | refine aT ?_
        | refine aB ?_
        | refine a11 ?_
        | refine a01 ?_
        | refine a00 ?_
        | refine a10 ?_
        | (with_reducible refine And.intro rfl ?_)
        | refine And.intro ?_ ?_)
    | with_reducible exact rfl
    | with_reducible exact HEq.rfl
    | (show (_ : Option Nat) = _; exact rfl)
    | (show (_ : Option Blk) = _; exact rfl)
    | (with_reducible show (nodupB _ && _ && _ && _ && _) = true; exact (Eq.refl true))
    | (with_reducible show (nodupB _ && _ && _ && _) = true; exact (Eq.refl true))
    | (with_reducible show (nodupB _ && _ && _) = true; exact (Eq.refl true))
    | (with_reducible show freeOk _ _ = true; exact (Eq.refl true))
    | (with_reducible show wrOk _ _ _ _ _ = true; exact (Eq.refl true))
    | (show (_ : AV) = _; exact rfl)
    | (show (_ : ByteArray) = _; with_reducible exact rfl)
    | (show (_ : Heap) = _; exact rfl)
    | (with_reducible show (_ || !_) = true; exact (Eq.refl true))
    | (with_reducible show Nat.beq _ _ = true; exact (Eq.refl true))))
  all_goals (first | (show (_ : Int) = _) | (show (_ : Bool) = _) | (show (_ : ByteArray) = _) | (show HEq _ _) | (show ∃ _ : LInv, _) | skip)
  all_goals (try (with_reducible exact rfl))
  all_goals (first
    | exact rfl
    | assumption
    | (unfold nuO; rw [ho]; rfl))
set_option maxRecDepth 100000 in
set_option maxHeartbeats 4000000 in
theorem cNumF_ok : cNumF.Ok Tryd.prog 39 := by
  refine fun_ok (env_ok (Cons.cons cAtoiF_ok (Cons.cons cItoa_ok Cons.nil))) mixedP Tryd.func39 (by decide) rfl cNumF [] (fun _ => rfl) (fun _ _ => ⟨rfl, fun id k h => by cases h⟩) (fun _ => Nat.le_of_ble_eq_true rfl) ?_
  rintro (s : ByteArray) hp ha hb
  replace hp : s.size ≤ 100000 ∧ atO s = false := hp
  clear ha hb
  obtain ⟨hp, ho⟩ := hp
  all_goals (repeat' (first
    | with_reducible refine iTr ?_
    | with_reducible refine iB ?_
    | intro _
    | exact True.intro
    | (show _ ∧ _
       first
        | refine aTT ?_
        | refine aTB ?_
        | refine aT ?_
        | refine aB ?_
        | refine a11 ?_
        | refine a01 ?_
        | refine a00 ?_
        | refine a10 ?_
        | (with_reducible refine And.intro rfl ?_)
        | refine And.intro ?_ ?_)
    | with_reducible exact rfl
    | with_reducible exact HEq.rfl
    | (show (_ : Option Nat) = _; exact rfl)
    | (show (_ : Option Blk) = _; exact rfl)
    | (with_reducible show (nodupB _ && _ && _ && _ && _) = true; exact (Eq.refl true))
    | (with_reducible show (nodupB _ && _ && _ && _) = true; exact (Eq.refl true))
    | (with_reducible show (nodupB _ && _ && _) = true; exact (Eq.refl true))
    | (with_reducible show freeOk _ _ = true; exact (Eq.refl true))
    | (with_reducible show wrOk _ _ _ _ _ = true; exact (Eq.refl true))
    | (show (_ : AV) = _; exact rfl)
    | (show (_ : ByteArray) = _; with_reducible exact rfl)
    | (show (_ : Heap) = _; exact rfl)
    | (with_reducible show (_ || !_) = true; exact (Eq.refl true))
    | (with_reducible show Nat.beq _ _ = true; exact (Eq.refl true))))
  all_goals (first | (show (_ : Int) = _) | (show (_ : Bool) = _) | (show (_ : ByteArray) = _) | (show HEq _ _) | (show ∃ _ : LInv, _) | skip)
  all_goals (try (with_reducible exact rfl))
  all_goals (first
    | exact rfl
    | assumption
    | (unfold nuO; rw [ho]; rfl))
noncomputable def cTNum : Con where
  X := ByteArray
  args := fun s => [.str s]
  heap := fun _ => hp0
  pre := fun s => s.size ≤ 100000
  res := fun s => .tup [.int .i64 (nuV s), .bool (nuO s)]
  heap' := fun _ => hp0
  pure := true
  find := fun args H => match args with
    | [.str s] => some s
    | _ => none
theorem cTNum_ok : cTNum.Ok Tryd.prog 39 :=
  ⟨cNumT_ok.enter, cNumT_ok.lt, cNumT_ok.pure, fun (s : ByteArray) hp => (Bool.eq_false_or_eq_true (atO s)).elim (fun h => cNumT_ok.calls s ⟨hp, h⟩) (fun h => cNumF_ok.calls s ⟨hp, h⟩)⟩
end Go.Proofs.YtpkidbhpfohopaaDoor
