/- Contracts. No condition. -/
import Derived.Test.YtopbgpmajkcboaaY3
namespace Go.Proofs.Ytopbgpmajkcboaa
open Go.RowKit
set_option linter.unusedVariables false
set_option linter.unusedSimpArgs false
def cis : Con where
  X := List Bun × Int
  args := fun ⟨xs, i⟩ => [pM, AI i]
  heap := fun ⟨xs, i⟩ => mH true xs
  pre := fun ⟨xs, i⟩ => True
  res := fun ⟨xs, i⟩ => AB (inB xs i)
  heap' := fun ⟨xs, i⟩ => mH true xs
  pure := true
  find := fun args H => match args with
    | [.ptr id _, .int _ i] => (findM id H).map fun xs => (xs, i)
    | _ => none
set_option maxHeartbeats 4000000 in
theorem cis_ok : cis.Ok Try.prog 27 := by
  refine fun_ok (env_ok Cons.nil) mixedP Try.func27 (by decide) rfl cis [] (fun _ => rfl) (fun _ x => ⟨rfl, mH_ro x.1⟩) (fun _ => Nat.le_of_ble_eq_true rfl) ?_
  rintro ⟨xs, i⟩ hp ha hb
  all_goals (repeat' (first
    | with_reducible refine iTr ?_
    | with_reducible refine iB ?_
    | intro _
    | exact True.intro
    | (show _ ∧ _
       first
        | refine aTT ?_
        | refine aTB ?_
        | refine aT ?_
        | refine aB ?_
        | refine a11 ?_
        | refine a01 ?_
        | refine a00 ?_
        | refine a10 ?_
        | (with_reducible refine And.intro rfl ?_)
        | refine And.intro ?_ ?_)
    | with_reducible exact rfl
    | with_reducible exact HEq.rfl
    | (show (_ : Option Nat) = _; exact rfl)
    | (show (_ : Option Blk) = _; exact rfl)
    | (show (_ : Nat) = _; exact rfl)
    | (show (_ : Bool) = true; exact (Eq.refl true))))
  all_goals (first | (show (_ : Int) = _) | (show (_ : Bool) = _) | (show HEq _ _) | (show ∃ _ : LInv, _) | skip)
  all_goals (try (with_reducible exact rfl))
  all_goals (try apply heq_of_eq)
  all_goals (have hd : Ty.bun.dflt = bun0 := rfl)
  all_goals (first | (simp_all [inB, getB, putB, takeB, cis]; done) | (simp_all [inB, getB, putB, takeB, cis]; omega) | (have hx : inB xs i = false := (by simpa using ‹(!inB xs i) = true›); simp [getB, takeB, putB, hx, bun0]; done) | (have hx : inB xs i = true := (by simpa using ‹(!inB xs i) = false›); have hp2 : 0 ≤ (getB xs i).c := hp; show 0 ≤ (xs.getD i.toNat bun0).c; simpa [getB, hx] using hp2))
def cGet : Con where
  X := List Bun × Int
  args := fun ⟨xs, i⟩ => [pM, AI i]
  heap := fun ⟨xs, i⟩ => mH true xs
  pre := fun ⟨xs, i⟩ => True
  res := fun ⟨xs, i⟩ => ABun (getB xs i)
  heap' := fun ⟨xs, i⟩ => mH true xs
  pure := true
  find := fun args H => match args with
    | [.ptr id _, .int _ i] => (findM id H).map fun xs => (xs, i)
    | _ => none
set_option maxHeartbeats 4000000 in
theorem cGet_ok : cGet.Ok Try.prog 18 := by
  refine fun_ok (env_ok (Cons.cons cis_ok Cons.nil)) mixedP Try.func18 (by decide) rfl cGet [] (fun _ => rfl) (fun _ x => ⟨rfl, mH_ro x.1⟩) (fun _ => Nat.le_of_ble_eq_true rfl) ?_
  rintro ⟨xs, i⟩ hp ha hb
  all_goals (repeat' (first
    | with_reducible refine iTr ?_
    | with_reducible refine iB ?_
    | intro _
    | exact True.intro
    | (show _ ∧ _
       first
        | refine aTT ?_
        | refine aTB ?_
        | refine aT ?_
        | refine aB ?_
        | refine a11 ?_
        | refine a01 ?_
        | refine a00 ?_
        | refine a10 ?_
        | (with_reducible refine And.intro rfl ?_)
        | refine And.intro ?_ ?_)
    | with_reducible exact rfl
    | with_reducible exact HEq.rfl
    | (show (_ : Option Nat) = _; exact rfl)
    | (show (_ : Option Blk) = _; exact rfl)
    | (show (_ : Nat) = _; exact rfl)
    | (show (_ : Bool) = true; exact (Eq.refl true))))
  all_goals (first | (show (_ : Int) = _) | (show (_ : Bool) = _) | (show HEq _ _) | (show ∃ _ : LInv, _) | skip)
  all_goals (try (with_reducible exact rfl))
  all_goals (try apply heq_of_eq)
  all_goals (have hd : Ty.bun.dflt = bun0 := rfl)
  all_goals (first | (simp_all [inB, getB, putB, takeB, cGet]; done) | (simp_all [inB, getB, putB, takeB, cGet]; omega) | (have hx : inB xs i = false := (by simpa using ‹(!inB xs i) = true›); simp [getB, takeB, putB, hx, bun0]; done) | (have hx : inB xs i = true := (by simpa using ‹(!inB xs i) = false›); have hp2 : 0 ≤ (getB xs i).c := hp; show 0 ≤ (xs.getD i.toNat bun0).c; simpa [getB, hx] using hp2))
def cPut : Con where
  X := List Bun × Int × Bun
  args := fun ⟨xs, i, b⟩ => [pM, AI i, ABun b]
  heap := fun ⟨xs, i, b⟩ => mH false xs
  pre := fun ⟨xs, i, b⟩ => True
  res := fun ⟨xs, i, b⟩ => AB (inB xs i)
  heap' := fun ⟨xs, i, b⟩ => mH false (putB xs i b)
  pure := false
  find := fun args H => match args with
    | [.ptr id _, .int _ i, .agg [.int _ c, .bool o, .bool h, .int _ d]] => (findM id H).map fun xs => (xs, i, ⟨c, o, h, d⟩)
    | _ => none
set_option maxHeartbeats 4000000 in
theorem cPut_ok : cPut.Ok Try.prog 13 := by
  refine fun_ok (env_ok (Cons.cons cis_ok (Cons.cons cJoin_ok Cons.nil))) mixedP Try.func13 (by decide) rfl cPut [(3, 14)] (fun _ => rfl) (fun h => by cases h) (fun _ => Nat.le_of_ble_eq_true rfl) ?_
  rintro ⟨xs, i, b⟩ hp ha hb
  all_goals (repeat' (first
    | with_reducible refine iTr ?_
    | with_reducible refine iB ?_
    | intro _
    | exact True.intro
    | (show _ ∧ _
       first
        | refine aTT ?_
        | refine aTB ?_
        | refine aT ?_
        | refine aB ?_
        | refine a11 ?_
        | refine a01 ?_
        | refine a00 ?_
        | refine a10 ?_
        | (with_reducible refine And.intro rfl ?_)
        | refine And.intro ?_ ?_)
    | with_reducible exact rfl
    | with_reducible exact HEq.rfl
    | (show (_ : Option Nat) = _; exact rfl)
    | (show (_ : Option Blk) = _; exact rfl)
    | (show (_ : Nat) = _; exact rfl)
    | (show (_ : Bool) = true; exact (Eq.refl true))))
  all_goals (first | (show (_ : Int) = _) | (show (_ : Bool) = _) | (show HEq _ _) | (show ∃ _ : LInv, _) | skip)
  all_goals (try (with_reducible exact rfl))
  all_goals (try apply heq_of_eq)
  all_goals (have hd : Ty.bun.dflt = bun0 := rfl)
  all_goals (first | (simp_all [inB, getB, putB, takeB, cPut]; done) | (simp_all [inB, getB, putB, takeB, cPut]; omega) | (have hx : inB xs i = false := (by simpa using ‹(!inB xs i) = true›); simp [getB, takeB, putB, hx, bun0]; done) | (have hx : inB xs i = true := (by simpa using ‹(!inB xs i) = false›); have hp2 : 0 ≤ (getB xs i).c := hp; show 0 ≤ (xs.getD i.toNat bun0).c; simpa [getB, hx] using hp2))
def cTake : Con where
  X := List Bun × Int × Int × Bool × Bool
  args := fun ⟨xs, i, n, o, d⟩ => [pM, AI i, AI n, AB o, AB d]
  heap := fun ⟨xs, i, n, o, d⟩ => mH false xs
  pre := fun ⟨xs, i, n, o, d⟩ => 0 ≤ (getB xs i).c
  res := fun ⟨xs, i, n, o, d⟩ => ABun (takeB xs i n o d).1
  heap' := fun ⟨xs, i, n, o, d⟩ => mH false (takeB xs i n o d).2
  pure := false
  find := fun args H => match args with
    | [.ptr id _, .int _ i, .int _ n, .bool o, .bool d] => (findM id H).map fun xs => (xs, i, n, o, d)
    | _ => none
set_option maxHeartbeats 4000000 in
theorem cTake_ok : cTake.Ok Try.prog 15 := by
  refine fun_ok (env_ok (Cons.cons cis_ok (Cons.cons cSplit_ok Cons.nil))) mixedP Try.func15 (by decide) rfl cTake [(4, 6)] (fun _ => rfl) (fun h => by cases h) (fun _ => Nat.le_of_ble_eq_true rfl) ?_
  rintro ⟨xs, i, n, o, d⟩ hp ha hb
  all_goals (repeat' (first
    | with_reducible refine iTr ?_
    | with_reducible refine iB ?_
    | intro _
    | exact True.intro
    | (show _ ∧ _
       first
        | refine aTT ?_
        | refine aTB ?_
        | refine aT ?_
        | refine aB ?_
        | refine a11 ?_
        | refine a01 ?_
        | refine a00 ?_
        | refine a10 ?_
        | (with_reducible refine And.intro rfl ?_)
        | refine And.intro ?_ ?_)
    | with_reducible exact rfl
    | with_reducible exact HEq.rfl
    | (show (_ : Option Nat) = _; exact rfl)
    | (show (_ : Option Blk) = _; exact rfl)
    | (show (_ : Nat) = _; exact rfl)
    | (show (_ : Bool) = true; exact (Eq.refl true))))
  all_goals (first | (show (_ : Int) = _) | (show (_ : Bool) = _) | (show HEq _ _) | (show ∃ _ : LInv, _) | skip)
  all_goals (try (with_reducible exact rfl))
  all_goals (try apply heq_of_eq)
  all_goals (have hd : Ty.bun.dflt = bun0 := rfl)
  all_goals (first | (simp_all [inB, getB, putB, takeB, cTake]; done) | (simp_all [inB, getB, putB, takeB, cTake]; omega) | (have hx : inB xs i = false := (by simpa using ‹(!inB xs i) = true›); simp [getB, takeB, putB, hx, bun0]; done) | (have hx : inB xs i = true := (by simpa using ‹(!inB xs i) = false›); have hp2 : 0 ≤ (getB xs i).c := hp; show 0 ≤ (xs.getD i.toNat bun0).c; simpa [getB, hx] using hp2))
end Go.Proofs.Ytopbgpmajkcboaa
