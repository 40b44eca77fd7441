/- Contracts. No condition. -/
import Derived.Test.YtopbgpmajkcboaaY6
namespace Go.Proofs.Ytopbgpmajkcboaa
open Go.RowKit
set_option linter.unusedVariables false
set_option linter.unusedSimpArgs false
def crTake : Con where
  X := List Bun × Int × Int × Bool × Bool
  args := fun ⟨xs, i, n, o, d⟩ => [.vsl .bun xs, AI i, AI n, AB o, AB d]
  heap := fun ⟨xs, i, n, o, d⟩ => hp0
  pre := fun ⟨xs, i, n, o, d⟩ => xs.length ≤ 64
  res := fun ⟨xs, i, n, o, d⟩ => .tup [ABun (rtakeB xs i n o d).1, .vsl .bun (rtakeB xs i n o d).2]
  heap' := fun ⟨xs, i, n, o, d⟩ => hp0
  pure := true
  find := fun args H => match args with
    | [a, .int _ i, .int _ n, .bool o, .bool d] => (slB H a).map fun xs => (xs, i, n, o, d)
    | _ => none
set_option maxHeartbeats 4000000 in
theorem crTake_ok : crTake.Ok Try.prog 14 := by
  refine fun_ok (env_ok (Cons.cons crSet_ok (Cons.cons crSplit_ok Cons.nil))) mixedP Try.func14 (by decide) rfl crTake [(4, 5)] (fun _ => rfl) (fun _ _ => ⟨rfl, fun id k h => by cases h⟩) (fun _ => Nat.le_of_ble_eq_true rfl) ?_
  rintro ⟨xs, i, n, o, d⟩ hp ha hb
  all_goals (repeat' (first
    | with_reducible refine iTr ?_
    | with_reducible refine iB ?_
    | intro _
    | exact True.intro
    | (show _ ∧ _
       first
        | refine aTT ?_
        | refine aTB ?_
        | refine aT ?_
        | refine aB ?_
        | refine a11 ?_
        | refine a01 ?_
        | refine a00 ?_
        | refine a10 ?_
        | (with_reducible refine And.intro rfl ?_)
        | refine And.intro ?_ ?_)
    | with_reducible exact rfl
    | with_reducible exact HEq.rfl
    | (show (_ : Option Nat) = _; exact rfl)
    | (show (_ : Option Blk) = _; exact rfl)
    | (show (_ : Nat) = _; exact rfl)
    | (show (_ : Bool) = true; exact (Eq.refl true))))
  all_goals (first | (show (_ : Int) = _) | (show (_ : Bool) = _) | (show HEq _ _) | (show ∃ _ : LInv, _) | skip)
  all_goals (try (with_reducible exact rfl))
  all_goals (first | (have hp2 : xs.length ≤ 64 := hp) | skip)
  all_goals (clear hp ha hb)
  all_goals (try apply heq_of_eq)
  all_goals (have hd : Ty.bun.dflt = bun0 := rfl)
  all_goals (first | (simp_all [inB, getB, rputB, rtakeB, crTake, crSet]; done) | (simp_all [inB, getB, rputB, rtakeB, crTake, crSet]; omega) | (have hx : inB xs i = false := (by first | (unfold inB; simp_all; omega) | (unfold inB; simp_all; done)); simp [rtakeB, rputB, hx, bun0]; done))
def crPut : Con where
  X := List Bun × Int × Bun
  args := fun ⟨xs, i, b⟩ => [.vsl .bun xs, AI i, ABun b]
  heap := fun ⟨xs, i, b⟩ => hp0
  pre := fun ⟨xs, i, b⟩ => xs.length ≤ 64
  res := fun ⟨xs, i, b⟩ => .tup [.vsl .bun (rputB xs i b), AB (inB xs i)]
  heap' := fun ⟨xs, i, b⟩ => hp0
  pure := true
  find := fun args H => match args with
    | [a, .int _ i, .agg [.int _ c, .bool o, .bool h, .int _ d]] => (slB H a).map fun xs => (xs, i, ⟨c, o, h, d⟩)
    | _ => none
set_option maxHeartbeats 4000000 in
theorem crPut_ok : crPut.Ok Try.prog 12 := by
  refine fun_ok (env_ok (Cons.cons crSet_ok (Cons.cons crJoin_ok Cons.nil))) mixedP Try.func12 (by decide) rfl crPut [(3, 9)] (fun _ => rfl) (fun _ _ => ⟨rfl, fun id k h => by cases h⟩) (fun _ => Nat.le_of_ble_eq_true rfl) ?_
  rintro ⟨xs, i, b⟩ hp ha hb
  all_goals (repeat' (first
    | with_reducible refine iTr ?_
    | with_reducible refine iB ?_
    | intro _
    | exact True.intro
    | (show _ ∧ _
       first
        | refine aTT ?_
        | refine aTB ?_
        | refine aT ?_
        | refine aB ?_
        | refine a11 ?_
        | refine a01 ?_
        | refine a00 ?_
        | refine a10 ?_
        | (with_reducible refine And.intro rfl ?_)
        | refine And.intro ?_ ?_)
    | with_reducible exact rfl
    | with_reducible exact HEq.rfl
    | (show (_ : Option Nat) = _; exact rfl)
    | (show (_ : Option Blk) = _; exact rfl)
    | (show (_ : Nat) = _; exact rfl)
    | (show (_ : Bool) = true; exact (Eq.refl true))))
  all_goals (first | (show (_ : Int) = _) | (show (_ : Bool) = _) | (show HEq _ _) | (show ∃ _ : LInv, _) | skip)
  all_goals (try (with_reducible exact rfl))
  all_goals (first | (have hp2 : xs.length ≤ 64 := hp) | skip)
  all_goals (clear hp ha hb)
  all_goals (try apply heq_of_eq)
  all_goals (have hd : Ty.bun.dflt = bun0 := rfl)
  all_goals (first | (simp_all [inB, getB, rputB, rtakeB, crPut, crSet]; done) | (simp_all [inB, getB, rputB, rtakeB, crPut, crSet]; omega) | (have hx : inB xs i = false := (by first | (unfold inB; simp_all; omega) | (unfold inB; simp_all; done)); simp [rtakeB, rputB, hx, bun0]; done))
end Go.Proofs.Ytopbgpmajkcboaa
