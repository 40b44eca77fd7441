/- MemoryBack of layer 10: what it comes to. No condition. -/
import Derived.Test.YtopbgpmajkcboaaY8
import Derived.Test.YtopbgpmajkcboaaZ10
namespace Go.Proofs.Ytopbgpmajkcboaa
open Go.RowKit
set_option linter.unusedVariables false
set_option linter.unusedSimpArgs false
def cMB : Con where
  X := Int × B2 × Int
  args := fun ⟨c, h, b⟩ => [AI c, .agg [.arr 2 .bool [h.a, h.b]], AI b]
  heap := fun _ => hp0
  pre := fun _ => True
  res := fun _ => AB true
  heap' := fun _ => hp0
  pure := true
  find := fun _ _ => none
set_option maxHeartbeats 8000000 in
theorem cMB_ok : cMB.Ok Try.prog 6 := by
  refine fun_ok (env_ok (Cons.cons cawake_ok (Cons.cons cNew_ok (Cons.cons cTake_ok (Cons.cons cPut_ok (Cons.cons cAll_ok (Cons.cons cSame_ok Cons.nil))))))) mixedP Try.func6 (by decide) rfl cMB [] (fun _ => rfl) (fun _ _ => ⟨rfl, fun id k h => by cases h⟩) (fun _ => Nat.le_of_ble_eq_true rfl) ?_
  rintro ⟨c, ⟨p, q⟩, b⟩ hp ha hb
  clear hp ha hb
  all_goals (repeat' (first
    | with_reducible refine iTr ?_
    | with_reducible refine iB ?_
    | intro _
    | exact True.intro
    | (show _ ∧ _
       first
        | refine aTT ?_
        | refine aTB ?_
        | refine aT ?_
        | refine aB ?_
        | refine a11 ?_
        | refine a01 ?_
        | refine a00 ?_
        | refine a10 ?_
        | (with_reducible refine And.intro rfl ?_)
        | refine And.intro ?_ ?_)
    | with_reducible exact rfl
    | with_reducible exact HEq.rfl
    | (show (_ : Option Nat) = _; exact rfl)
    | (show (_ : Option Blk) = _; exact rfl)
    | (show (_ : Nat) = _; exact rfl)
    | (show (_ : Bool) = true; exact (Eq.refl true))))
  all_goals (first | (show (_ : Int) = _) | (show (_ : Bool) = _) | (show HEq _ _) | (show ∃ _ : LInv, _) | skip)
  all_goals (try (with_reducible exact rfl))
  all_goals (first
    | decide
    | exact len_new64 _ _
    | exact new_nn _ _ _
    | (show (putB _ _ _).length ≤ 64; rw [len_put, len_take]; exact len_new64 _ _)
    | exact decide_eq_true (back_put b c p q)
    | (exfalso; have hout : inB (newB 3 5) b = false := (by rw [in35]; simp at *; omega); simp [inB_take, take_out hout, bun0, hout] at *; done)
    | skip)
  all_goals (try (exfalso; simp only [inB_take, in35] at *))
  all_goals (try simp at *)
  all_goals (try omega)
end Go.Proofs.Ytopbgpmajkcboaa
