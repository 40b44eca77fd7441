/- Contracts of the table: List, Copy. No condition. -/
import Derived.Test.YtjapmlolgfgbaaaU4
namespace Go.Proofs.Ytjapmlolgfgbaaa
open Go.RowKit
set_option linter.unusedVariables false
set_option linter.unusedSimpArgs false
def lsK (t : Tb) : List Int := t.act.map (·.1)
def lsT (t : Tb) : List Atv := (lsK t).map (gA t)
theorem lsK_len (t : Tb) : (lsK t).length = t.act.length := by simp [lsK]
theorem lsT_len (t : Tb) : (lsT t).length = t.act.length := by simp [lsT, lsK]
theorem map_take_succ {α β : Type} (f : α → β) {l : List α} {i : Nat} {z : α} (h : i < l.length) : (l.map f).take (i + 1) = (l.map f).take i ++ [f (l.getD i z)] := by
  rw [List.take_add_one, List.getElem?_map, List.getElem?_eq_getElem h, List.getD_eq_getElem?_getD, List.getElem?_eq_getElem h]
  rfl
theorem ls_one {t : Tb} {z : Int} (h : 0 < (lsK t).length) : HEq [gA t ((lsK t).getD 0 z)] ((lsT t).take (0 + 1)) := by
  refine heq_of_eq ?_
  unfold lsT
  rw [map_take_succ (gA t) (z := z) h]
  rfl
theorem ls_succ {t : Tb} {z : Int} {i : Nat} (h : i + 1 < (lsK t).length) : HEq ((lsT t).take (i + 1) ++ [gA t ((lsK t).getD (i + 1) z)]) ((lsT t).take (i + 2)) := by
  refine heq_of_eq ?_
  unfold lsT
  rw [map_take_succ (gA t) (z := z) h]
theorem ls_nil {t : Tb} (h : ¬ 0 < (lsK t).length) : HEq ([] : List Atv) (lsT t) := by
  refine heq_of_eq (Eq.symm (List.eq_nil_of_length_eq_zero ?_))
  rw [lsT_len, ← lsK_len]
  omega
theorem ls_all {t : Tb} {i : Nat} (h : (lsK t).length ≤ i + 1) : HEq ((lsT t).take (i + 1)) (lsT t) := by
  refine heq_of_eq (List.take_of_length_le ?_)
  rw [lsT_len, ← lsK_len]
  omega
structure SLs (t : Tb) (i : Nat) : Prop where
  le : i ≤ (lsK t).length
def cTbList : Con where
  X := Tb
  args := fun t => [pT]
  heap := fun t => tbH true t
  pre := fun t => t.act.length ≤ 1000000
  res := fun t => .slc 3
  heap' := fun t => ⟨4, (3, some (.seq false 28 .atv (lsT t))) :: (tbH true t).l⟩
  pure := false
  find := fun args H => match args with
    | [.ptr id _] => findTb id H
    | _ => none
def lsTm (t : Tb) : Nat → Tmps
  | 0 => [(13, AI (0 : Nat)), (12, AI ((lsK t).length : Nat)), (11, .slc 3), (3, .nils), (0, pT)]
  | i + 1 => [(13, AI (i + 1 : Nat)), (12, AI ((lsK t).length : Nat)), (11, .slc 3), (3, .slc 4), (0, pT)]
def lsHp (t : Tb) : Nat → Heap
  | 0 => ⟨4, (3, some (.seq false 3 .int (lsK t))) :: (tbH true t).l⟩
  | i + 1 => ⟨5, (4, some (.seq false 28 .atv ((lsT t).take (i + 1)))) :: (3, some (.seq false 3 .int (lsK t))) :: (tbH true t).l⟩
set_option maxRecDepth 100000 in
set_option maxHeartbeats 4000000 in
theorem cTbList_ok : cTbList.Ok Try.prog 13 := by
  refine fun_ok (env_ok (Cons.cons cKeys_ok (Cons.cons cSorted_ok Cons.nil))) mixedP Try.func13 (by decide) rfl cTbList [] (fun _ => rfl) (fun h => by cases h) (fun _ => Nat.le_of_ble_eq_true rfl) ?_
  rintro ⟨act, ov⟩ hp ha hb
  replace hp : act.length ≤ 1000000 := hp
  clear ha hb
  all_goals (repeat' (first
    | with_reducible refine iTr ?_
    | with_reducible refine iB ?_
    | intro _
    | exact True.intro
    | (show _ ∧ _
       first
        | refine aTT ?_
        | refine aTB ?_
        | refine aT ?_
        | refine aB ?_
        | refine a11 ?_
        | refine a01 ?_
        | refine a00 ?_
        | refine a10 ?_
        | (with_reducible refine And.intro rfl ?_)
        | refine And.intro ?_ ?_)
    | with_reducible exact rfl
    | with_reducible exact HEq.rfl
    | (show (_ : Option Nat) = _; exact rfl)
    | (show (_ : Option Blk) = _; exact rfl)
    | (with_reducible show (nodupB _ && _ && _ && _ && _) = true; exact (Eq.refl true))
    | (with_reducible show (nodupB _ && _ && _ && _) = true; exact (Eq.refl true))
    | (with_reducible show (nodupB _ && _ && _) = true; exact (Eq.refl true))
    | (with_reducible show freeOk _ _ = true; exact (Eq.refl true))
    | (with_reducible show wrOk _ _ _ _ _ = true; exact (Eq.refl true))
    | (show (_ : AV) = _; exact rfl)
    | (show (_ : Heap) = _; exact rfl)
    | (with_reducible show (_ || !_) = true; exact (Eq.refl true))
    | (with_reducible show Nat.beq _ _ = true; exact (Eq.refl true))))
  all_goals (first | (show (_ : Int) = _) | (show (_ : Bool) = _) | (show HEq _ _) | (show ∃ _ : LInv, _) | skip)
  all_goals (try (with_reducible exact rfl))
  all_goals try (refine ⟨⟨{i : Nat // SLs ⟨act, ov⟩ i}, fun i => lsTm ⟨act, ov⟩ i.1, fun i => lsHp ⟨act, ov⟩ i.1, fun i => act.length - i.1⟩, ⟨⟨0, ?_⟩, [], ?_⟩, ?_⟩; rotate_right; rintro ⟨_ | i, hS⟩)
  all_goals (repeat' (first
    | with_reducible refine iTr ?_
    | with_reducible refine iB ?_
    | intro _
    | exact True.intro
    | (show _ ∧ _
       first
        | refine aTT ?_
        | refine aTB ?_
        | refine aT ?_
        | refine aB ?_
        | refine a11 ?_
        | refine a01 ?_
        | refine a00 ?_
        | refine a10 ?_
        | (with_reducible refine And.intro rfl ?_)
        | refine And.intro ?_ ?_)
    | with_reducible exact rfl
    | with_reducible exact HEq.rfl
    | (show (_ : Option Nat) = _; exact rfl)
    | (show (_ : Option Blk) = _; exact rfl)
    | (with_reducible show (nodupB _ && _ && _ && _ && _) = true; exact (Eq.refl true))
    | (with_reducible show (nodupB _ && _ && _ && _) = true; exact (Eq.refl true))
    | (with_reducible show (nodupB _ && _ && _) = true; exact (Eq.refl true))
    | (with_reducible show freeOk _ _ = true; exact (Eq.refl true))
    | (with_reducible show wrOk _ _ _ _ _ = true; exact (Eq.refl true))
    | (show (_ : AV) = _; exact rfl)
    | (show (_ : Heap) = _; exact rfl)
    | (with_reducible show (_ || !_) = true; exact (Eq.refl true))
    | (with_reducible show Nat.beq _ _ = true; exact (Eq.refl true))))
  all_goals (first | (show (_ : Int) = _) | (show (_ : Bool) = _) | (show HEq _ _) | (show ∃ _ : LInv, _) | skip)
  all_goals (try (with_reducible exact rfl))
  all_goals try (first | refine ⟨⟨(i + 2 : Nat), ?_⟩, ?_, ?_⟩ | refine ⟨⟨(1 : Nat), ?_⟩, ?_, ?_⟩)
  all_goals (repeat' (first
    | with_reducible refine iTr ?_
    | with_reducible refine iB ?_
    | intro _
    | exact True.intro
    | (show _ ∧ _
       first
        | refine aTT ?_
        | refine aTB ?_
        | refine aT ?_
        | refine aB ?_
        | refine a11 ?_
        | refine a01 ?_
        | refine a00 ?_
        | refine a10 ?_
        | (with_reducible refine And.intro rfl ?_)
        | refine And.intro ?_ ?_)
    | with_reducible exact rfl
    | with_reducible exact HEq.rfl
    | (show (_ : Option Nat) = _; exact rfl)
    | (show (_ : Option Blk) = _; exact rfl)
    | (with_reducible show (nodupB _ && _ && _ && _ && _) = true; exact (Eq.refl true))
    | (with_reducible show (nodupB _ && _ && _ && _) = true; exact (Eq.refl true))
    | (with_reducible show (nodupB _ && _ && _) = true; exact (Eq.refl true))
    | (with_reducible show freeOk _ _ = true; exact (Eq.refl true))
    | (with_reducible show wrOk _ _ _ _ _ = true; exact (Eq.refl true))
    | (show (_ : AV) = _; exact rfl)
    | (show (_ : Heap) = _; exact rfl)
    | (with_reducible show (_ || !_) = true; exact (Eq.refl true))
    | (with_reducible show Nat.beq _ _ = true; exact (Eq.refl true))))
  all_goals (first | (show (_ : Int) = _) | (show (_ : Bool) = _) | (show HEq _ _) | (show ∃ _ : LInv, _) | skip)
  all_goals (try (with_reducible exact rfl))
  all_goals (try have hl := lsK_len ⟨act, ov⟩)
  all_goals (try have hS1 := hS.le)
  all_goals (try simp only [Int.toNat_natCast, decide_eq_true_eq, decide_eq_false_iff_not] at *)
  all_goals (first
    | exact hp
    | omega
    | exact ⟨Nat.zero_le _⟩
    | exact ⟨by omega⟩
    | exact wrap_succ (by omega)
    | (refine ls_one (t := ⟨act, ov⟩) (z := Ty.int.dflt) ?_; omega)
    | exact ls_succ (by omega)
    | exact ls_nil (by omega)
    | exact ls_all (by omega)
    | exact HEq.rfl
    | exact rfl
    | (show act.length - _ < act.length - _; omega)
    | (rw [List.length_take]; show (_ + 1) * 24 ≤ _; rw [lsT_len]; omega)
    | (show 1 * 24 ≤ _; omega)
    | (show (_ + 1) * 24 ≤ _; rw [List.length_take, lsT_len]; omega)
    | skip)
def cTbCopy : Con where
  X := Tb
  args := fun t => [pT]
  heap := fun t => tbH true t
  pre := fun _ => True
  res := fun t => .ptr 3 p0
  heap' := fun t => ⟨6, (5, some (.map false .int t.ov)) :: (4, some (.map false .atv t.act)) :: (3, some (tbO false 4 5)) :: (tbH true t).l⟩
  pure := false
  find := fun args H => match args with
    | [.ptr id _] => findTb id H
    | _ => none
abbrev cCloneA : Con := cClone .atv
abbrev cCloneI : Con := cClone .int
set_option maxRecDepth 100000 in
set_option maxHeartbeats 4000000 in
theorem cTbCopy_ok : cTbCopy.Ok Try.prog 16 := by
  refine fun_ok (env_ok (Cons.cons cCloneA_ok (Cons.cons cCloneI_ok Cons.nil))) mixedP Try.func16 (by decide) rfl cTbCopy [(1, 12), (2000001, 4), (2000001, 9), (2000001, 11), (3000001, 5), (3000001, 6), (3000001, 7), (3000001, 8)] (fun _ => rfl) (fun h => by cases h) (fun _ => Nat.le_of_ble_eq_true rfl) ?_
  rintro ⟨act, ov⟩ hp ha hb
  clear hp ha hb
  all_goals (repeat' (first
    | with_reducible refine iTr ?_
    | with_reducible refine iB ?_
    | intro _
    | exact True.intro
    | (show _ ∧ _
       first
        | refine aTT ?_
        | refine aTB ?_
        | refine aT ?_
        | refine aB ?_
        | refine a11 ?_
        | refine a01 ?_
        | refine a00 ?_
        | refine a10 ?_
        | (with_reducible refine And.intro rfl ?_)
        | refine And.intro ?_ ?_)
    | with_reducible exact rfl
    | with_reducible exact HEq.rfl
    | (show (_ : Option Nat) = _; exact rfl)
    | (show (_ : Option Blk) = _; exact rfl)
    | (with_reducible show (nodupB _ && _ && _ && _ && _) = true; exact (Eq.refl true))
    | (with_reducible show (nodupB _ && _ && _ && _) = true; exact (Eq.refl true))
    | (with_reducible show (nodupB _ && _ && _) = true; exact (Eq.refl true))
    | (with_reducible show freeOk _ _ = true; exact (Eq.refl true))
    | (with_reducible show wrOk _ _ _ _ _ = true; exact (Eq.refl true))
    | (show (_ : AV) = _; exact rfl)
    | (show (_ : Heap) = _; exact rfl)
    | (with_reducible show (_ || !_) = true; exact (Eq.refl true))
    | (with_reducible show Nat.beq _ _ = true; exact (Eq.refl true))))
  all_goals (first | (show (_ : Int) = _) | (show (_ : Bool) = _) | (show HEq _ _) | (show ∃ _ : LInv, _) | skip)
  all_goals (try (with_reducible exact rfl))

end Go.Proofs.Ytjapmlolgfgbaaa

