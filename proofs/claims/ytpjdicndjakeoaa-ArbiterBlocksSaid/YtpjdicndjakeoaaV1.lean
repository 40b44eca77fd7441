/- Contracts of what the arbiter reaches in the library, and of the comparison of lists. No condition. -/
import Derived.Test.YtpjdicndjakeoaaY1
namespace Go.Proofs.Ytpjdicndjakeoaa
open Go.RowKit
set_option linter.unusedVariables false
set_option linter.unusedSimpArgs false
abbrev AI (n : Int) : AV := .int .i64 n
abbrev AB (b : Bool) : AV := .bool b
abbrev AAtv (a : Atv) : AV := .agg [.int .i64 a.block, .int .i64 a.node, .int .i64 a.seq]
theorem wrap_i64 (n : Int) : IntKind.i64.wrap n = wrap64 n := by
  simp only [IntKind.wrap, IntKind.bits, IntKind.signed, wrap64]
  simp
  omega
theorem wrap_id {n : Int} (h1 : -9223372036854775808 ≤ n) (h2 : n < 9223372036854775808) : IntKind.i64.wrap n = n := by
  rw [wrap_i64]
  unfold wrap64
  omega
theorem wrap_succ {i : Nat} (h : i < 9223372036854775807) : IntKind.i64.wrap (↑i + 1) = ↑(i + 1) := by
  rw [wrap_i64]
  unfold wrap64
  omega
/-- A length that is far from any bound. -/
structure Sm (n : Nat) : Prop where
  le : n ≤ 1000000
/-- A list that is given as whatever slice. -/
def slI (H : Heap) : AV → Option (List Int)
  | .vsl .int xs => some xs
  | .nils => some []
  | .slc id => match H.get id with
    | some (.seq _ _ .int xs) => some xs
    | _ => none
  | _ => none
def cCloneI : Con where
  X := List Int
  args := fun xs => [.vsl .int xs]
  heap := fun xs => hp0
  pre := fun xs => Sm xs.length
  res := fun xs => .slc 0
  heap' := fun xs => ⟨1, [(0, some (.seq false 3 .int xs))]⟩
  pure := false
  find := fun args H => match args with
    | [a] => slI H a
    | _ => none
set_option maxHeartbeats 4000000 in
theorem cCloneI_ok : cCloneI.Ok Try.prog 26 := by
  refine fun_ok (env_ok Cons.nil) mixedP Try.func26 (by decide) rfl cCloneI [] (fun _ => rfl) (fun h => by cases h) (fun _ => Nat.le_of_ble_eq_true rfl) ?_
  rintro (xs : List Int) hp ha hb
  replace hp : xs.length ≤ 1000000 := hp.le
  all_goals (repeat' (first
    | with_reducible refine iTr ?_
    | with_reducible refine iB ?_
    | intro _
    | exact True.intro
    | (show _ ∧ _
       first
        | refine aTT ?_
        | refine aTB ?_
        | refine aT ?_
        | refine aB ?_
        | refine a11 ?_
        | refine a01 ?_
        | refine a00 ?_
        | refine a10 ?_
        | (with_reducible refine And.intro rfl ?_)
        | refine And.intro ?_ ?_)
    | with_reducible exact rfl
    | with_reducible exact HEq.rfl
    | (show (_ : Option Nat) = _; exact rfl)
    | (show (_ : Option Blk) = _; exact rfl)
    | (with_reducible show (nodupB _ && _ && _ && _ && _) = true; exact (Eq.refl true))
    | (with_reducible show (nodupB _ && _ && _ && _) = true; exact (Eq.refl true))
    | (with_reducible show (nodupB _ && _ && _) = true; exact (Eq.refl true))
    | (with_reducible show freeOk _ _ = true; exact (Eq.refl true))
    | (with_reducible show wrOk _ _ _ _ _ = true; exact (Eq.refl true))
    | (show (_ : AV) = _; exact rfl)
    | (show (_ : Heap) = _; exact rfl)
    | (with_reducible show (_ || !_) = true; exact (Eq.refl true))
    | (with_reducible show Nat.beq _ _ = true; exact (Eq.refl true))))
  all_goals (first | (show (_ : Int) = _) | (show (_ : Bool) = _) | (show HEq _ _) | (show ∃ _ : LInv, _) | skip)
  all_goals (try (with_reducible exact rfl))
  all_goals (try apply heq_of_eq)
  all_goals (first | (show (0 + xs.length) * 8 ≤ _; omega) | skip)
  all_goals (first | omega | (exact List.eq_nil_of_length_eq_zero ‹_›) | (exact (List.eq_nil_of_length_eq_zero ‹_›).symm) | (simp; done) | skip)
def cCloneR : Con where
  X := List Row12
  args := fun xs => [.slc 0]
  heap := fun xs => ⟨1, [(0, some (.seq true 59 .row12 xs))]⟩
  pre := fun xs => xs.length ≤ 64
  res := fun xs => .slc 1
  heap' := fun xs => ⟨2, [(1, some (.seq false 59 .row12 xs)), (0, some (.seq true 59 .row12 xs))]⟩
  pure := false
  find := fun args H => match args with
    | [.slc id] => match H.get id with
      | some (.seq _ _ .row12 xs) => some xs
      | _ => none
    | _ => none
set_option maxHeartbeats 4000000 in
theorem cCloneR_ok : cCloneR.Ok Try.prog 31 := by
  refine fun_ok (env_ok Cons.nil) mixedP Try.func31 (by decide) rfl cCloneR [] (fun _ => rfl) (fun h => by cases h) (fun _ => Nat.le_of_ble_eq_true rfl) ?_
  rintro (xs : List Row12) hp ha hb
  replace hp : xs.length ≤ 64 := hp
  all_goals (repeat' (first
    | with_reducible refine iTr ?_
    | with_reducible refine iB ?_
    | intro _
    | exact True.intro
    | (show _ ∧ _
       first
        | refine aTT ?_
        | refine aTB ?_
        | refine aT ?_
        | refine aB ?_
        | refine a11 ?_
        | refine a01 ?_
        | refine a00 ?_
        | refine a10 ?_
        | (with_reducible refine And.intro rfl ?_)
        | refine And.intro ?_ ?_)
    | with_reducible exact rfl
    | with_reducible exact HEq.rfl
    | (show (_ : Option Nat) = _; exact rfl)
    | (show (_ : Option Blk) = _; exact rfl)
    | (with_reducible show (nodupB _ && _ && _ && _ && _) = true; exact (Eq.refl true))
    | (with_reducible show (nodupB _ && _ && _ && _) = true; exact (Eq.refl true))
    | (with_reducible show (nodupB _ && _ && _) = true; exact (Eq.refl true))
    | (with_reducible show freeOk _ _ = true; exact (Eq.refl true))
    | (with_reducible show wrOk _ _ _ _ _ = true; exact (Eq.refl true))
    | (show (_ : AV) = _; exact rfl)
    | (show (_ : Heap) = _; exact rfl)
    | (with_reducible show (_ || !_) = true; exact (Eq.refl true))
    | (with_reducible show Nat.beq _ _ = true; exact (Eq.refl true))))
  all_goals (first | (show (_ : Int) = _) | (show (_ : Bool) = _) | (show HEq _ _) | (show ∃ _ : LInv, _) | skip)
  all_goals (try (with_reducible exact rfl))
  all_goals (try apply heq_of_eq)
  all_goals (first | (show (0 + xs.length) * 128 ≤ _; omega) | skip)
  all_goals (first | omega | (exact List.eq_nil_of_length_eq_zero ‹_›) | (exact (List.eq_nil_of_length_eq_zero ‹_›).symm) | (simp; done) | skip)
def cInts : Con where
  X := List Int × List Int
  args := fun ⟨xs, ys⟩ => [.vsl .int xs, .vsl .int ys]
  heap := fun _ => hp0
  pre := fun _ => True
  res := fun ⟨xs, ys⟩ => AB (decide (xs = ys))
  heap' := fun _ => hp0
  pure := true
  find := fun args H => match args with
    | [a, b] => (slI H a).bind fun xs => (slI H b).map fun ys => (xs, ys)
    | _ => none
theorem take_succ_int {xs ys : List Int} {i : Nat} {z : Int} (hl : xs.length = ys.length) (hi : i < xs.length) (ht : xs.take i = ys.take i) (he : xs.getD i z = ys.getD i z) : xs.take (i + 1) = ys.take (i + 1) := by
  rw [List.take_add_one, List.take_add_one, ht, List.getElem?_eq_getElem hi, List.getElem?_eq_getElem (by omega)]
  rw [List.getD_eq_getElem?_getD, List.getD_eq_getElem?_getD, List.getElem?_eq_getElem hi, List.getElem?_eq_getElem (by omega)] at he
  simp at he
  simp [he]
structure SN (xs ys : List Int) (i : Nat) : Prop where
  le : i ≤ xs.length
  len : xs.length = ys.length
  eq : xs.take i = ys.take i
set_option maxHeartbeats 4000000 in
theorem cInts_ok : cInts.Ok Try.prog 15 := by
  refine fun_ok (env_ok Cons.nil) mixedP Try.func15 (by decide) rfl cInts [(6, 8)] (fun _ => rfl) (fun _ _ => ⟨rfl, fun id k h => by cases h⟩) (fun _ => Nat.le_of_ble_eq_true rfl) ?_
  rintro ⟨xs, ys⟩ hp ha hb
  all_goals (repeat' (first
    | with_reducible refine iTr ?_
    | with_reducible refine iB ?_
    | intro _
    | exact True.intro
    | (show _ ∧ _
       first
        | refine aTT ?_
        | refine aTB ?_
        | refine aT ?_
        | refine aB ?_
        | refine a11 ?_
        | refine a01 ?_
        | refine a00 ?_
        | refine a10 ?_
        | (with_reducible refine And.intro rfl ?_)
        | refine And.intro ?_ ?_)
    | with_reducible exact rfl
    | with_reducible exact HEq.rfl
    | (show (_ : Option Nat) = _; exact rfl)
    | (show (_ : Option Blk) = _; exact rfl)
    | (with_reducible show (nodupB _ && _ && _ && _ && _) = true; exact (Eq.refl true))
    | (with_reducible show (nodupB _ && _ && _ && _) = true; exact (Eq.refl true))
    | (with_reducible show (nodupB _ && _ && _) = true; exact (Eq.refl true))
    | (with_reducible show freeOk _ _ = true; exact (Eq.refl true))
    | (with_reducible show wrOk _ _ _ _ _ = true; exact (Eq.refl true))
    | (show (_ : AV) = _; exact rfl)
    | (show (_ : Heap) = _; exact rfl)
    | (with_reducible show (_ || !_) = true; exact (Eq.refl true))
    | (with_reducible show Nat.beq _ _ = true; exact (Eq.refl true))))
  all_goals (first | (show (_ : Int) = _) | (show (_ : Bool) = _) | (show HEq _ _) | (show ∃ _ : LInv, _) | skip)
  all_goals (try (with_reducible exact rfl))
  all_goals try (refine ⟨⟨{i : Nat // SN xs ys i}, fun i => [(5, AI i.1), (0, .vsl .int xs), (1, .vsl .int ys)], fun i => ⟨0, []⟩, fun i => xs.length - i.1⟩, ⟨⟨0, ?_⟩, [], ?_⟩, ?_⟩; rotate_right; rintro ⟨i, hS⟩)
  all_goals (repeat' (first
    | with_reducible refine iTr ?_
    | with_reducible refine iB ?_
    | intro _
    | exact True.intro
    | (show _ ∧ _
       first
        | refine aTT ?_
        | refine aTB ?_
        | refine aT ?_
        | refine aB ?_
        | refine a11 ?_
        | refine a01 ?_
        | refine a00 ?_
        | refine a10 ?_
        | (with_reducible refine And.intro rfl ?_)
        | refine And.intro ?_ ?_)
    | with_reducible exact rfl
    | with_reducible exact HEq.rfl
    | (show (_ : Option Nat) = _; exact rfl)
    | (show (_ : Option Blk) = _; exact rfl)
    | (with_reducible show (nodupB _ && _ && _ && _ && _) = true; exact (Eq.refl true))
    | (with_reducible show (nodupB _ && _ && _ && _) = true; exact (Eq.refl true))
    | (with_reducible show (nodupB _ && _ && _) = true; exact (Eq.refl true))
    | (with_reducible show freeOk _ _ = true; exact (Eq.refl true))
    | (with_reducible show wrOk _ _ _ _ _ = true; exact (Eq.refl true))
    | (show (_ : AV) = _; exact rfl)
    | (show (_ : Heap) = _; exact rfl)
    | (with_reducible show (_ || !_) = true; exact (Eq.refl true))
    | (with_reducible show Nat.beq _ _ = true; exact (Eq.refl true))))
  all_goals (first | (show (_ : Int) = _) | (show (_ : Bool) = _) | (show HEq _ _) | (show ∃ _ : LInv, _) | skip)
  all_goals (try (with_reducible exact rfl))
  all_goals try (refine ⟨⟨i + 1, ?_⟩, ?_, ?_⟩)
  all_goals (repeat' (first
    | with_reducible refine iTr ?_
    | with_reducible refine iB ?_
    | intro _
    | exact True.intro
    | (show _ ∧ _
       first
        | refine aTT ?_
        | refine aTB ?_
        | refine aT ?_
        | refine aB ?_
        | refine a11 ?_
        | refine a01 ?_
        | refine a00 ?_
        | refine a10 ?_
        | (with_reducible refine And.intro rfl ?_)
        | refine And.intro ?_ ?_)
    | with_reducible exact rfl
    | with_reducible exact HEq.rfl
    | (show (_ : Option Nat) = _; exact rfl)
    | (show (_ : Option Blk) = _; exact rfl)
    | (with_reducible show (nodupB _ && _ && _ && _ && _) = true; exact (Eq.refl true))
    | (with_reducible show (nodupB _ && _ && _ && _) = true; exact (Eq.refl true))
    | (with_reducible show (nodupB _ && _ && _) = true; exact (Eq.refl true))
    | (with_reducible show freeOk _ _ = true; exact (Eq.refl true))
    | (with_reducible show wrOk _ _ _ _ _ = true; exact (Eq.refl true))
    | (show (_ : AV) = _; exact rfl)
    | (show (_ : Heap) = _; exact rfl)
    | (with_reducible show (_ || !_) = true; exact (Eq.refl true))
    | (with_reducible show Nat.beq _ _ = true; exact (Eq.refl true))))
  all_goals (first | (show (_ : Int) = _) | (show (_ : Bool) = _) | (show HEq _ _) | (show ∃ _ : LInv, _) | skip)
  all_goals (try (with_reducible exact rfl))
  all_goals (try dsimp only at *)
  all_goals (try simp only [Int.toNat_natCast, decide_eq_true_eq, decide_eq_false_iff_not, bne_iff_ne, ne_eq, bne_eq_false_iff_eq, Int.natCast_inj, Bool.not_eq_true', Bool.not_eq_false'] at *)
  all_goals (first
    | omega
    | (symm; refine decide_eq_false fun e => ?_; subst e; first | exact absurd rfl ‹_› | simp_all)
    | exact ⟨Nat.zero_le _, by omega, rfl⟩
    | exact ⟨by omega, hS.len, take_succ_int hS.len (by omega) hS.eq (by assumption)⟩
    | exact wrap_succ (by omega)
    | (symm; refine decide_eq_true ?_; have h1 := hS.eq; have h2 := hS.len; rw [List.take_of_length_le (by omega), List.take_of_length_le (by omega)] at h1; exact h1)
    | skip)
end Go.Proofs.Ytpjdicndjakeoaa

