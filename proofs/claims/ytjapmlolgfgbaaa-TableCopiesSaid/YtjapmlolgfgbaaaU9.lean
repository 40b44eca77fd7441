/- TableCopies of layer 11: what it comes to. No condition. -/
import Derived.Test.YtjapmlolgfgbaaaU7
namespace Go.Proofs.Ytjapmlolgfgbaaa
open Go.RowKit
set_option linter.unusedVariables false
set_option linter.unusedSimpArgs false
def cCop : Con where
  X := List Act11 × List Act11
  args := fun ⟨l, m⟩ => [.vsl .act11 l, .vsl .act11 m]
  heap := fun _ => hp0
  pre := fun _ => True
  res := fun _ => AB true
  heap' := fun _ => hp0
  pure := true
  find := fun _ _ => none
theorem cop_pre {t : Tb} {n : Nat} {l : List Act11} (h : TbL t n) (hn : n ≤ 1000) (hl : l.length ≤ 1000) : cTell.pre (t, l) := ⟨tbl_mono h hn, hl⟩
theorem cop_ls {t : Tb} {n : Nat} (h : TbL t n) (hn : n ≤ 1000000) : cTbList.pre t := Nat.le_trans h.act hn
set_option maxRecDepth 100000 in
set_option maxHeartbeats 8000000 in
theorem cCop_ok : cCop.Ok Try.prog 7 := by
  refine fun_ok (env_ok (Cons.cons cawake_ok (Cons.cons cTNew_ok (Cons.cons cTell_ok (Cons.cons cTbList_ok (Cons.cons cTbCopy_ok (Cons.cons cSameA_ok Cons.nil))))))) mixedP Try.func7 (by decide) rfl cCop [] (fun _ => rfl) (fun _ _ => ⟨rfl, fun id k h => by cases h⟩) (fun _ => Nat.le_of_ble_eq_true rfl) ?_
  rintro ⟨l, m⟩ hp ha hb
  clear hp ha hb
  all_goals (repeat' (first
    | with_reducible refine iTr ?_
    | with_reducible refine iB ?_
    | intro _
    | exact True.intro
    | (show _ ∧ _
       first
        | refine aTT ?_
        | refine aTB ?_
        | refine aT ?_
        | refine aB ?_
        | refine a11 ?_
        | refine a01 ?_
        | refine a00 ?_
        | refine a10 ?_
        | (with_reducible refine And.intro rfl ?_)
        | refine And.intro ?_ ?_)
    | with_reducible exact rfl
    | with_reducible exact HEq.rfl
    | (show (_ : Option Nat) = _; exact rfl)
    | (show (_ : Option Blk) = _; exact rfl)
    | (with_reducible show (nodupB _ && _ && _ && _ && _) = true; exact (Eq.refl true))
    | (with_reducible show (nodupB _ && _ && _ && _) = true; exact (Eq.refl true))
    | (with_reducible show (nodupB _ && _ && _) = true; exact (Eq.refl true))
    | (with_reducible show freeOk _ _ = true; exact (Eq.refl true))
    | (with_reducible show wrOk _ _ _ _ _ = true; exact (Eq.refl true))
    | (show (_ : AV) = _; exact rfl)
    | (show (_ : Heap) = _; exact rfl)
    | (with_reducible show (_ || !_) = true; exact (Eq.refl true))
    | (with_reducible show Nat.beq _ _ = true; exact (Eq.refl true))))
  all_goals (first | (show (_ : Int) = _) | (show (_ : Bool) = _) | (show HEq _ _) | (show ∃ _ : LInv, _) | skip)
  all_goals (try (with_reducible exact rfl))
  all_goals (try simp only [tb_eta, cond_true, cond_false, decide_eq_true_eq, decide_eq_false_iff_not] at *)
  all_goals (have h1 : TbL (telT tb0 l) 200 := tbl_mono (tbl_tel (l := l) tbl0) (by omega))
  all_goals (have h2 : TbL (telT (telT tb0 l) m) 400 := tbl_mono (tbl_tel (l := m) h1) (by omega))
  all_goals (first
    | omega
    | exact tbl_mono tbl0 (by omega)
    | exact tbl_mono h1 (by omega)
    | exact tbl_mono h2 (by omega)
    | exact cop_ls h1 (by omega)
    | exact cop_ls h2 (by omega)
    | rfl
    | (exfalso; simp_all; done)
    | skip)
end Go.Proofs.Ytjapmlolgfgbaaa

