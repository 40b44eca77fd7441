/- HomeCopies of layer 16: of what is no world, or too much. No condition. -/
import Derived.Test.YtipibgamajhgbaaGWd
namespace Go.Proofs.Ytipibgamajhgbaa
open Go.RowKit
set_option linter.unusedVariables false
set_option linter.unusedSimpArgs false
def cCpF : Con where
  X := Cfg × List Act16
  args := fun ⟨c, l⟩ => [ACfg c, .vsl .act16 l]
  heap := fun _ => hp0
  pre := fun ⟨c, l⟩ => ¬ MadeOk c l
  res := fun _ => AB true
  heap' := fun _ => hp0
  pure := true
  find := fun _ _ => none
set_option maxRecDepth 100000 in
set_option maxHeartbeats 16000000 in
theorem cCpF_ok : cCpF.Ok Try.prog 8 := by
  refine fun_ok (env_ok (Cons.cons cawake_ok (Cons.cons cMadeF_ok (Cons.cons cTakeH_ok (Cons.cons cCopyH_ok (Cons.cons cSameL_ok (Cons.cons cAllH_ok (Cons.cons cSame_ok Cons.nil)))))))) mixedP Try.func8 (by decide) rfl cCpF [(22, 12), (2000022, 5), (3000022, 6), (3000022, 7), (3000022, 8), (3000022, 9)] (fun _ => rfl) (fun _ _ => ⟨rfl, fun id k h => by cases h⟩) (fun _ => Nat.le_of_ble_eq_true rfl) ?_
  rintro ⟨c, l⟩ hp ha hb
  replace hp : ¬ MadeOk c l := hp
  clear ha hb
  all_goals (repeat' (first
    | with_reducible refine iTr ?_
    | with_reducible refine iB ?_
    | intro _
    | exact True.intro
    | (show _ ∧ _
       first
        | refine aTT ?_
        | refine aTB ?_
        | refine aT ?_
        | refine aB ?_
        | refine a11 ?_
        | refine a01 ?_
        | refine a00 ?_
        | refine a10 ?_
        | (with_reducible refine And.intro rfl ?_)
        | refine And.intro ?_ ?_)
    | with_reducible exact rfl
    | with_reducible exact HEq.rfl
    | (show (_ : Option Nat) = _; exact rfl)
    | (show (_ : Option Blk) = _; exact rfl)
    | (with_reducible show (nodupB _ && _ && _ && _ && _) = true; exact (Eq.refl true))
    | (with_reducible show (nodupB _ && _ && _ && _) = true; exact (Eq.refl true))
    | (with_reducible show (nodupB _ && _ && _) = true; exact (Eq.refl true))
    | (with_reducible show freeOk _ _ = true; exact (Eq.refl true))
    | (with_reducible show wrOk _ _ _ _ _ = true; exact (Eq.refl true))
    | (show (_ : AV) = _; exact rfl)
    | (show (_ : Heap) = _; exact rfl)
    | (with_reducible show (_ || !_) = true; exact (Eq.refl true))
    | (with_reducible show Nat.beq _ _ = true; exact (Eq.refl true))))
  all_goals (first | (show (_ : Int) = _) | (show (_ : Bool) = _) | (show HEq _ _) | (show ∃ _ : LInv, _) | skip)
  all_goals (try (with_reducible exact rfl))
  all_goals (first
    | exact hp (by assumption)
    | (show decide ((200 : Int) < (l.length : Int)) = true; refine decide_eq_true (Int.not_le.1 fun h => hp ⟨bne_eq_false_iff_eq.1 (by assumption), by omega⟩))
    | skip)
end Go.Proofs.Ytipibgamajhgbaa
