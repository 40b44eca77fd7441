/- MemoryTakes of layer 10: what it comes to. No condition. -/
import Derived.Test.YtopbgpmajkcboaaY8
import Derived.Test.YtopbgpmajkcboaaZ10
namespace Go.Proofs.Ytopbgpmajkcboaa
open Go.RowKit
set_option linter.unusedVariables false
set_option linter.unusedSimpArgs false
def cMT : Con where
  X := Int × B2 × I2
  args := fun ⟨c, h, b⟩ => [AI c, .agg [.arr 2 .bool [h.a, h.b]], .agg [.arr 2 .int [b.a, b.b]]]
  heap := fun _ => hp0
  pre := fun _ => True
  res := fun _ => AB true
  heap' := fun _ => hp0
  pure := true
  find := fun _ _ => none
set_option maxHeartbeats 8000000 in
theorem cMT_ok : cMT.Ok Try.prog 5 := by
  refine fun_ok (env_ok (Cons.cons cawake_ok (Cons.cons cNew_ok (Cons.cons cTake_ok (Cons.cons cGet_ok (Cons.cons crSplit_ok Cons.nil)))))) mixedP Try.func5 (by decide) rfl cMT [(9, 36)] (fun _ => rfl) (fun _ _ => ⟨rfl, fun id k h => by cases h⟩) (fun _ => Nat.le_of_ble_eq_true rfl) ?_
  rintro ⟨c, ⟨p, q⟩, ⟨x, y⟩⟩ hp ha hb
  clear hp ha hb
  all_goals (repeat' (first
    | with_reducible refine iTr ?_
    | with_reducible refine iB ?_
    | intro _
    | exact True.intro
    | (show _ ∧ _
       first
        | refine aTT ?_
        | refine aTB ?_
        | refine aT ?_
        | refine aB ?_
        | refine a11 ?_
        | refine a01 ?_
        | refine a00 ?_
        | refine a10 ?_
        | (with_reducible refine And.intro rfl ?_)
        | refine And.intro ?_ ?_)
    | with_reducible exact rfl
    | with_reducible exact HEq.rfl
    | (show (_ : Option Nat) = _; exact rfl)
    | (show (_ : Option Blk) = _; exact rfl)
    | (show (_ : Nat) = _; exact rfl)
    | (show (_ : Bool) = true; exact (Eq.refl true))))
  all_goals (first | (show (_ : Int) = _) | (show (_ : Bool) = _) | (show HEq _ _) | (show ∃ _ : LInv, _) | skip)
  all_goals (try (with_reducible exact rfl))
  all_goals (first
    | decide
    | exact len_new64 _ _
    | exact new_nn _ _ _
    | skip)
  all_goals (try simp only [show Int.toNat 0 = 0 from rfl, show Int.toNat 1 = 1 from rfl, List.getD_cons_zero, List.getD_cons_succ, inB_take, in45, bneB', cond_true, cond_false, Bool.not_true, Bool.not_false] at *)
  all_goals (try simp only [decide_eq_true_eq, decide_eq_false_iff_not, beq_eq_false_iff_ne] at *)
  all_goals (first
    | (rw [takes0 (by omega)]; rfl)
    | (rw [takes2 (by assumption) (by omega) (by omega)]; rfl)
    | (rename_i hx; exact absurd (takes1 (by omega) (by omega)).2 hx)
    | (rename_i hx; exact absurd (takes1 (by omega) (by omega)).1 hx))
end Go.Proofs.Ytopbgpmajkcboaa
