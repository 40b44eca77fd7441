/- Layer 24: the reference's Number; that both read the same numbers. No condition. -/
import Derived.Test.YtpkidbhpfohopaaDoorN4
noncomputable section
namespace Go.Proofs.YtpkidbhpfohopaaDoor
open Go.RowKit
set_option linter.unusedVariables false
set_option linter.unusedSimpArgs false
def valD (acc : Nat) : List UInt8 → Option Nat
  | [] => some acc
  | c :: r => if 48 ≤ c.toNat ∧ c.toNat ≤ 57 then valD (acc * 10 + (c.toNat - 48)) r else none
def dgS (s : ByteArray) : ByteArray := if 0 < s.size ∧ byteU s 0 = 45 then s.extract 1 s.size else s
def refN (s : ByteArray) : Option Int :=
  if (dgS s).size = 0 ∨ 19 < (dgS s).size ∨ (byteU (dgS s) 0 = 48 ∧ s ≠ ⟨#[48]⟩) then none
  else match valD 0 (bl (dgS s)) with
    | none => none
    | some u => if (dgS s).size < s.size then (if 9223372036854775808 < u then none else some (-(u : Int))) else if 9223372036854775807 < u then none else some u
def rnO (s : ByteArray) : Bool := (refN s).isSome
def rnV (s : ByteArray) : Int := (refN s).getD 0
def cRNum : Con where
  X := ByteArray
  args := fun s => [.str s]
  heap := fun _ => hp0
  pre := fun s => s.size ≤ 100000
  res := fun s => .tup [.int .i64 (rnV s), .bool (rnO s)]
  heap' := fun _ => hp0
  pure := true
  find := fun args H => match args with
    | [.str s] => some s
    | _ => none
structure SNu (d : ByteArray) (i n : Nat) : Prop where
  le : i ≤ d.size
  lim : d.size ≤ 19
  lt : n < 10 ^ i
  eq : valD 0 (bl d) = valD n ((bl d).drop i)
theorem snu_0 {d : ByteArray} (h : d.size ≤ 19) : SNu d 0 0 := ⟨Nat.zero_le _, h, Nat.one_pos, rfl⟩
theorem byteU_lt {d : ByteArray} {i : Nat} : 0 ≤ byteU d i ∧ byteU d i < 256 := by
  rw [byteU_eq]
  have := ((bl d).getD i 0).toNat_lt
  omega
theorem snu_1 {d : ByteArray} {i n : Nat} (h : SNu d i n) (hi : i < d.size) (h1 : ¬ byteU d i < 48) (h2 : ¬ 57 < byteU d i) : SNu d (i + 1) (n * 10 + (((bl d).getD i 0).toNat - 48)) := by
  rw [byteU_eq] at h1 h2
  have hi' : i < (bl d).length := by rw [bl_len]; exact hi
  refine ⟨hi, h.lim, ?_, ?_⟩
  · have := h.lt
    rw [Nat.pow_succ]
    omega
  · rw [h.eq, List.drop_eq_getElem_cons hi', valD, if_pos]
    · rw [List.getD_eq_getElem?_getD, List.getElem?_eq_getElem hi']
      rfl
    · rw [List.getD_eq_getElem?_getD, List.getElem?_eq_getElem hi'] at h1 h2
      simp only [Option.getD_some] at h1 h2
      omega
theorem snu_bad {d : ByteArray} {i n : Nat} (h : SNu d i n) (hi : i < d.size) (h1 : byteU d i < 48 ∨ 57 < byteU d i) : valD 0 (bl d) = none := by
  rw [byteU_eq] at h1
  have hi' : i < (bl d).length := by rw [bl_len]; exact hi
  rw [h.eq, List.drop_eq_getElem_cons hi', valD, if_neg]
  rw [List.getD_eq_getElem?_getD, List.getElem?_eq_getElem hi'] at h1
  simp only [Option.getD_some] at h1
  omega
theorem snu_end {d : ByteArray} {i n : Nat} (h : SNu d i n) (hi : d.size ≤ i) : valD 0 (bl d) = some n := by
  rw [h.eq, List.drop_of_length_le (by rw [bl_len]; exact hi)]
  rfl
theorem snu_lt {d : ByteArray} {i n : Nat} (h : SNu d i n) : n < 10000000000000000000 := by
  have h1 := h.lt
  have h2 : 10 ^ i ≤ 10 ^ 19 := Nat.pow_le_pow_right (by decide) (Nat.le_trans h.le h.lim)
  have h3 : (10 : Nat) ^ 19 = 10000000000000000000 := by decide
  omega
theorem snu_lt1 {d : ByteArray} {i n : Nat} (h : SNu d i n) (hi : i < d.size) : n < 1000000000000000000 := by
  have h1 := h.lt
  have h2 : 10 ^ i ≤ 10 ^ 18 := Nat.pow_le_pow_right (by decide) (by have := h.lim; omega)
  have h3 : (10 : Nat) ^ 18 = 1000000000000000000 := by decide
  omega
section
variable {s d : ByteArray} {i n : Nat}
theorem rn_z (hd : d = dgS s) (h : d.size = 0 ∨ 19 < d.size ∨ (byteU d 0 = 48 ∧ ¬ s = ⟨#[48]⟩)) : refN s = none := by
  subst hd
  unfold refN
  rw [if_pos h]
theorem rn_dig (hd : d = dgS s) (hS : SNu d i n) (hi : i < d.size) (h : byteU d i < 48 ∨ 57 < byteU d i) : refN s = none := by
  subst hd
  unfold refN
  split
  · rfl
  · rw [snu_bad hS hi h]
theorem rn_ok (hd : d = dgS s) (h : ¬ (d.size = 0 ∨ 19 < d.size ∨ (byteU d 0 = 48 ∧ ¬ s = ⟨#[48]⟩))) (hS : SNu d i n) (hi : d.size ≤ i) : refN s = if d.size < s.size then (if 9223372036854775808 < n then none else some (-(n : Int))) else if 9223372036854775807 < n then none else some n := by
  subst hd
  unfold refN
  rw [if_neg h, snu_end hS hi]
theorem u64w {i n : Nat} (h : SNu d i n) (hi : i < d.size) (h1 : ¬ byteU d i < 48) (h2 : ¬ 57 < byteU d i) : IntKind.u64.wrap (IntKind.u64.wrap (IntKind.u64.wrap (10 * (n : Int)) + IntKind.u64.wrap (byteU d i)) - 48) = ((n * 10 + (((bl d).getD i 0).toNat - 48) : Nat) : Int) := by
  have h3 := snu_lt1 h hi
  have e := byteU_eq d i
  rw [e] at h1 h2 ⊢
  generalize ((bl d).getD i 0).toNat = b at *
  simp only [IntKind.wrap, IntKind.bits, IntKind.signed]
  simp
  omega
end
structure NuD where
  i : Nat
  n : Nat
set_option maxRecDepth 100000 in
set_option maxHeartbeats 4000000 in
theorem cRNum_ok : cRNum.Ok Tryd.prog 35 := by
  refine fun_ok (env_ok Cons.nil) mixedP Tryd.func35 (by decide) rfl cRNum [(1000004, 1)] (fun _ => rfl) (fun _ _ => ⟨rfl, fun id k h => by cases h⟩) (fun _ => Nat.le_of_ble_eq_true rfl) ?_
  rintro (s : ByteArray) hp ha hb
  replace hp : s.size ≤ 100000 := hp
  clear ha hb
  all_goals (repeat' (first
    | with_reducible refine iTr ?_
    | with_reducible refine iB ?_
    | intro _
    | exact True.intro
    | (show _ ∧ _
       first
        | refine aTT ?_
        | refine aTB ?_
        | refine aT ?_
        | refine aB ?_
        | refine a11 ?_
        | refine a01 ?_
        | refine a00 ?_
        | refine a10 ?_
        | (with_reducible refine And.intro rfl ?_)
        | refine And.intro ?_ ?_)
    | with_reducible exact rfl
    | with_reducible exact HEq.rfl
    | (show (_ : Option Nat) = _; exact rfl)
    | (show (_ : Option Blk) = _; exact rfl)
    | (with_reducible show (nodupB _ && _ && _ && _ && _) = true; exact (Eq.refl true))
    | (with_reducible show (nodupB _ && _ && _ && _) = true; exact (Eq.refl true))
    | (with_reducible show (nodupB _ && _ && _) = true; exact (Eq.refl true))
    | (with_reducible show freeOk _ _ = true; exact (Eq.refl true))
    | (with_reducible show wrOk _ _ _ _ _ = true; exact (Eq.refl true))
    | (show (_ : AV) = _; exact rfl)
    | (show (_ : ByteArray) = _; with_reducible exact rfl)
    | (show (_ : Heap) = _; exact rfl)
    | (with_reducible show (_ || !_) = true; exact (Eq.refl true))
    | (with_reducible show Nat.beq _ _ = true; exact (Eq.refl true))))
  all_goals (first | (show (_ : Int) = _) | (show (_ : Bool) = _) | (show (_ : ByteArray) = _) | (show HEq _ _) | (show ∃ _ : LInv, _) | skip)
  all_goals (try (with_reducible exact rfl))
  all_goals try (refine ⟨⟨{d : ByteArray // d = dgS s}, fun d => [(4, .str d.1), (0, .str s)], fun d => hp0, fun _ => 0⟩, ?_, ?_⟩; rotate_right; rintro ⟨d, hd⟩)
  all_goals (repeat' (first
    | with_reducible refine iTr ?_
    | with_reducible refine iB ?_
    | intro _
    | exact True.intro
    | (show _ ∧ _
       first
        | refine aTT ?_
        | refine aTB ?_
        | refine aT ?_
        | refine aB ?_
        | refine a11 ?_
        | refine a01 ?_
        | refine a00 ?_
        | refine a10 ?_
        | (with_reducible refine And.intro rfl ?_)
        | refine And.intro ?_ ?_)
    | with_reducible exact rfl
    | with_reducible exact HEq.rfl
    | (show (_ : Option Nat) = _; exact rfl)
    | (show (_ : Option Blk) = _; exact rfl)
    | (with_reducible show (nodupB _ && _ && _ && _ && _) = true; exact (Eq.refl true))
    | (with_reducible show (nodupB _ && _ && _ && _) = true; exact (Eq.refl true))
    | (with_reducible show (nodupB _ && _ && _) = true; exact (Eq.refl true))
    | (with_reducible show freeOk _ _ = true; exact (Eq.refl true))
    | (with_reducible show wrOk _ _ _ _ _ = true; exact (Eq.refl true))
    | (show (_ : AV) = _; exact rfl)
    | (show (_ : ByteArray) = _; with_reducible exact rfl)
    | (show (_ : Heap) = _; exact rfl)
    | (with_reducible show (_ || !_) = true; exact (Eq.refl true))
    | (with_reducible show Nat.beq _ _ = true; exact (Eq.refl true))))
  all_goals (first | (show (_ : Int) = _) | (show (_ : Bool) = _) | (show (_ : ByteArray) = _) | (show HEq _ _) | (show ∃ _ : LInv, _) | skip)
  all_goals (try (with_reducible exact rfl))
  all_goals try (refine ⟨⟨dgS s, rfl⟩, [], ?_⟩)
  all_goals (repeat' (first
    | with_reducible refine iTr ?_
    | with_reducible refine iB ?_
    | intro _
    | exact True.intro
    | (show _ ∧ _
       first
        | refine aTT ?_
        | refine aTB ?_
        | refine aT ?_
        | refine aB ?_
        | refine a11 ?_
        | refine a01 ?_
        | refine a00 ?_
        | refine a10 ?_
        | (with_reducible refine And.intro rfl ?_)
        | refine And.intro ?_ ?_)
    | with_reducible exact rfl
    | with_reducible exact HEq.rfl
    | (show (_ : Option Nat) = _; exact rfl)
    | (show (_ : Option Blk) = _; exact rfl)
    | (with_reducible show (nodupB _ && _ && _ && _ && _) = true; exact (Eq.refl true))
    | (with_reducible show (nodupB _ && _ && _ && _) = true; exact (Eq.refl true))
    | (with_reducible show (nodupB _ && _ && _) = true; exact (Eq.refl true))
    | (with_reducible show freeOk _ _ = true; exact (Eq.refl true))
    | (with_reducible show wrOk _ _ _ _ _ = true; exact (Eq.refl true))
    | (show (_ : AV) = _; exact rfl)
    | (show (_ : ByteArray) = _; with_reducible exact rfl)
    | (show (_ : Heap) = _; exact rfl)
    | (with_reducible show (_ || !_) = true; exact (Eq.refl true))
    | (with_reducible show Nat.beq _ _ = true; exact (Eq.refl true))))
  all_goals (first | (show (_ : Int) = _) | (show (_ : Bool) = _) | (show (_ : ByteArray) = _) | (show HEq _ _) | (show ∃ _ : LInv, _) | skip)
  all_goals (try (with_reducible exact rfl))
  all_goals try (refine ⟨⟨{x : NuD // SNu d x.i x.n}, fun x => [(6, AI x.1.i), (5, .int .u64 x.1.n), (4, .str d), (0, .str s)], fun x => hp0, fun x => d.size - x.1.i⟩, ⟨⟨⟨0, 0⟩, ?_⟩, [], ?_⟩, ?_⟩; rotate_right; rintro ⟨⟨i, n⟩, hS⟩)
  all_goals (repeat' (first
    | with_reducible refine iTr ?_
    | with_reducible refine iB ?_
    | intro _
    | exact True.intro
    | (show _ ∧ _
       first
        | refine aTT ?_
        | refine aTB ?_
        | refine aT ?_
        | refine aB ?_
        | refine a11 ?_
        | refine a01 ?_
        | refine a00 ?_
        | refine a10 ?_
        | (with_reducible refine And.intro rfl ?_)
        | refine And.intro ?_ ?_)
    | with_reducible exact rfl
    | with_reducible exact HEq.rfl
    | (show (_ : Option Nat) = _; exact rfl)
    | (show (_ : Option Blk) = _; exact rfl)
    | (with_reducible show (nodupB _ && _ && _ && _ && _) = true; exact (Eq.refl true))
    | (with_reducible show (nodupB _ && _ && _ && _) = true; exact (Eq.refl true))
    | (with_reducible show (nodupB _ && _ && _) = true; exact (Eq.refl true))
    | (with_reducible show freeOk _ _ = true; exact (Eq.refl true))
    | (with_reducible show wrOk _ _ _ _ _ = true; exact (Eq.refl true))
    | (show (_ : AV) = _; exact rfl)
    | (show (_ : ByteArray) = _; with_reducible exact rfl)
    | (show (_ : Heap) = _; exact rfl)
    | (with_reducible show (_ || !_) = true; exact (Eq.refl true))
    | (with_reducible show Nat.beq _ _ = true; exact (Eq.refl true))))
  all_goals (first | (show (_ : Int) = _) | (show (_ : Bool) = _) | (show (_ : ByteArray) = _) | (show HEq _ _) | (show ∃ _ : LInv, _) | skip)
  all_goals (try (with_reducible exact rfl))
  all_goals try (refine ⟨⟨⟨i + 1, n * 10 + (((bl d).getD i 0).toNat - 48)⟩, ?_⟩, ?_, ?_⟩)
  all_goals (repeat' (first
    | with_reducible refine iTr ?_
    | with_reducible refine iB ?_
    | intro _
    | exact True.intro
    | (show _ ∧ _
       first
        | refine aTT ?_
        | refine aTB ?_
        | refine aT ?_
        | refine aB ?_
        | refine a11 ?_
        | refine a01 ?_
        | refine a00 ?_
        | refine a10 ?_
        | (with_reducible refine And.intro rfl ?_)
        | refine And.intro ?_ ?_)
    | with_reducible exact rfl
    | with_reducible exact HEq.rfl
    | (show (_ : Option Nat) = _; exact rfl)
    | (show (_ : Option Blk) = _; exact rfl)
    | (with_reducible show (nodupB _ && _ && _ && _ && _) = true; exact (Eq.refl true))
    | (with_reducible show (nodupB _ && _ && _ && _) = true; exact (Eq.refl true))
    | (with_reducible show (nodupB _ && _ && _) = true; exact (Eq.refl true))
    | (with_reducible show freeOk _ _ = true; exact (Eq.refl true))
    | (with_reducible show wrOk _ _ _ _ _ = true; exact (Eq.refl true))
    | (show (_ : AV) = _; exact rfl)
    | (show (_ : ByteArray) = _; with_reducible exact rfl)
    | (show (_ : Heap) = _; exact rfl)
    | (with_reducible show (_ || !_) = true; exact (Eq.refl true))
    | (with_reducible show Nat.beq _ _ = true; exact (Eq.refl true))))
  all_goals (first | (show (_ : Int) = _) | (show (_ : Bool) = _) | (show (_ : ByteArray) = _) | (show HEq _ _) | (show ∃ _ : LInv, _) | skip)
  all_goals (try (with_reducible exact rfl))
  all_goals (try replace hS : SNu d i n := hS)
  all_goals (try dsimp only at *)
  all_goals (simp only [cond_true, cond_false, Bool.not_true, Bool.not_false, decide_eq_true_eq, decide_eq_false_iff_not, beq_iff_eq, beq_eq_false_iff_ne, Int.toNat_natCast, Int.toNat_zero, Bool.not_eq_true', Bool.not_eq_false', ne_eq] at *)
  all_goals (first
    | omega
    | exact snu_0 (by omega)
    | exact snu_1 hS (by omega) (by assumption) (by assumption)
    | exact u64w hS (by omega) (by assumption) (by assumption)
    | exact wrap_succ (by have := hS.lim; omega)
    | (have e := rn_z hd (by first | exact .inl (by omega) | exact .inr (.inl (by omega)) | exact .inr (.inr ⟨by assumption, by assumption⟩)); simp only [rnV, rnO, e]; rfl)
    | (have e := rn_dig hd hS (by omega) (by first | exact .inl (by assumption) | exact .inr (by assumption)); simp only [rnV, rnO, e]; rfl)
    | (have e := rn_ok hd (by rintro (h | h | ⟨h1, h2⟩) <;> first | omega | contradiction) hS (by omega)
       first
        | (rw [if_pos (by omega), if_pos (by omega)] at e; simp only [rnV, rnO, e]; rfl)
        | (rw [if_pos (by omega), if_neg (by omega)] at e; first | (simp only [rnO, e, Option.isSome_some]; done) | (simp only [rnV, e, Option.getD_some]; first | rfl | omega | (rw [wrap_id (n := (n : Int)) (by omega) (by omega), wrap_id (by omega) (by omega)]; omega)))
        | (rw [if_neg (by omega), if_pos (by omega)] at e; simp only [rnV, rnO, e]; rfl)
        | (rw [if_neg (by omega), if_neg (by omega)] at e; first | (simp only [rnO, e, Option.isSome_some]; done) | (simp only [rnV, e, Option.getD_some]; first | rfl | exact wrap_id (by omega) (by omega))))
    | (unfold dgS; rw [if_pos ⟨by omega, by assumption⟩]; rfl)
    | (unfold dgS; rw [if_neg (by omega)])
    | skip)
end Go.Proofs.YtpkidbhpfohopaaDoor
