/- HomeServes of layer 16: of what is no world. No condition. -/
import Derived.Test.YtipibgamajhgbaaGWd
namespace Go.Proofs.Ytipibgamajhgbaa
open Go.RowKit
set_option linter.unusedVariables false
set_option linter.unusedSimpArgs false
def cServF : Con where
  X := Cfg × List Int
  args := fun ⟨c, l⟩ => [ACfg c, .vsl .int l]
  heap := fun _ => hp0
  pre := fun ⟨c, l⟩ => ¬ MadeOk c []
  res := fun _ => AB true
  heap' := fun _ => hp0
  pure := true
  find := fun _ _ => none
set_option maxRecDepth 100000 in
set_option maxHeartbeats 16000000 in
theorem cServF_ok : cServF.Ok Try.prog 5 := by
  refine fun_ok (env_ok (Cons.cons cawake_ok (Cons.cons cMadeF_ok (Cons.cons cRNode_ok (Cons.cons cTakeH_ok (Cons.cons cBegun_ok (Cons.cons cCurH_ok (Cons.cons cInts_ok Cons.nil)))))))) mixedP Try.func5 (by decide) rfl cServF [(15, 11), (2000015, 6), (3000015, 8), (3000015, 9)] (fun _ => rfl) (fun _ _ => ⟨rfl, fun id k h => by cases h⟩) (fun _ => Nat.le_of_ble_eq_true rfl) ?_
  rintro ⟨c, l⟩ hp ha hb
  replace hp : ¬ MadeOk c [] := hp
  clear ha hb
  all_goals (repeat' (first
    | with_reducible refine iTr ?_
    | with_reducible refine iB ?_
    | intro _
    | exact True.intro
    | (show _ ∧ _
       first
        | refine aTT ?_
        | refine aTB ?_
        | refine aT ?_
        | refine aB ?_
        | refine a11 ?_
        | refine a01 ?_
        | refine a00 ?_
        | refine a10 ?_
        | (with_reducible refine And.intro rfl ?_)
        | refine And.intro ?_ ?_)
    | with_reducible exact rfl
    | with_reducible exact HEq.rfl
    | (show (_ : Option Nat) = _; exact rfl)
    | (show (_ : Option Blk) = _; exact rfl)
    | (with_reducible show (nodupB _ && _ && _ && _ && _) = true; exact (Eq.refl true))
    | (with_reducible show (nodupB _ && _ && _ && _) = true; exact (Eq.refl true))
    | (with_reducible show (nodupB _ && _ && _) = true; exact (Eq.refl true))
    | (with_reducible show freeOk _ _ = true; exact (Eq.refl true))
    | (with_reducible show wrOk _ _ _ _ _ = true; exact (Eq.refl true))
    | (show (_ : AV) = _; exact rfl)
    | (with_reducible show (_ || !_) = true; exact (Eq.refl true))
    | (with_reducible show Nat.beq _ _ = true; exact (Eq.refl true))))
  all_goals (first | (show (_ : Int) = _) | (show (_ : Bool) = _) | (show HEq _ _) | (show ∃ _ : LInv, _) | skip)
  all_goals (try (with_reducible exact rfl))
  all_goals (first
    | exact (rfl : ([] : List Act16) = [])
    | exact hp (by assumption)
    | skip)
end Go.Proofs.Ytipibgamajhgbaa
