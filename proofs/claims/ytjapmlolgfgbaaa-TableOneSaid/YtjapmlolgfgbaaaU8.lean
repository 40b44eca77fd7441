/- TableOne of layer 11: what it comes to. No condition. -/
import Derived.Test.YtjapmlolgfgbaaaU7
namespace Go.Proofs.Ytjapmlolgfgbaaa
open Go.RowKit
set_option linter.unusedVariables false
set_option linter.unusedSimpArgs false
/-- The greatest numbers, by blocks. -/
def sqE (e : Int × Atv) : Int × Int := (e.1, e.2.seq)
def sqM (t : Tb) : List (Int × Int) := t.act.map sqE
theorem map_del (k : Int) (l : List (Int × Atv)) : (mDel l k).map sqE = mDel (l.map sqE) k := by
  unfold mDel
  rw [List.filter_map]
  rfl
theorem map_ins (k : Int) (x : Atv) : ∀ l : List (Int × Atv), (mIns k x l).map sqE = mIns k x.seq (l.map sqE)
  | [] => rfl
  | (a, y) :: r => by
    have ih := map_ins k x r
    simp only [mIns, List.map_cons, sqE]
    split
    · rfl
    · simp only [List.map_cons, ih, sqE]
theorem map_put (k : Int) (x : Atv) (l : List (Int × Atv)) : (mPut l k x).map sqE = mPut (l.map sqE) k x.seq := by
  unfold mPut
  rw [map_ins, map_del]
theorem sq_get (t : Tb) (k : Int) : (mGet (sqM t) k).getD 0 = (gA t k).seq := by
  unfold sqM gA
  generalize t.act = l
  induction l with
  | nil => rfl
  | cons e r ih =>
    obtain ⟨a, y⟩ := e
    simp only [List.map_cons, sqE, mGet]
    split
    · rfl
    · exact ih
structure SOn (l : List Atv) (i : Nat) (t : Tb) : Prop where
  le : i ≤ l.length
  len : TbL t i
  inv : TbI t
  ov : t.ov = []
theorem son_ok {l : List Atv} {i : Nat} {t : Tb} {a : Atv} (h : SOn l i t) : okA11 t a = decide (1 ≤ a.seq ∧ (gA t a.block).seq < a.seq) := by
  unfold okA11
  have : gO t a.block = 0 := by unfold gO; rw [h.ov]; rfl
  rw [this]
  apply decide_eq_decide.2
  omega
theorem son_t {l : List Atv} {i : Nat} {t : Tb} {a : Atv} (h : SOn l i t) (hi : i < l.length) : SOn l (i + 1) (actvT t a) := by
  refine ⟨by omega, tbl_actv h.len a, tbi_actv h.inv a, ?_⟩
  unfold actvT
  split
  · exact h.ov
  · exact h.ov
theorem sqM_len (t : Tb) : (sqM t).length = t.act.length := by simp [sqM]
theorem cop_ls1 {l : List Atv} {i : Nat} {t : Tb} (h : SOn l i t) (hn : l.length ≤ 1000000) : cTbList.pre t := Nat.le_trans h.len.act (by have := h.le; omega)
theorem on_f1 {l : List Atv} {i : Nat} {t : Tb} {a : Atv} (h : SOn l i t) (h1 : 1 ≤ a.seq) (h2 : ¬ okA11 t a = decide ((gA t a.block).seq < a.seq)) : False := by
  refine h2 ?_
  rw [son_ok h]
  apply decide_eq_decide.2
  omega
theorem on_f2 {l : List Atv} {i : Nat} {t : Tb} {a : Atv} (h : SOn l i t) (h1 : ¬ 1 ≤ a.seq) (h2 : ¬ okA11 t a = false) : False := by
  refine h2 ?_
  rw [son_ok h]
  exact decide_eq_false (fun h => h1 h.1)
theorem sq_upd {t : Tb} {a : Atv} (h : okA11 t a = true) : HEq (mPut (sqM t) a.block a.seq) (sqM (actvT t a)) := by
  rw [actv_t h]
  exact heq_of_eq (map_put _ _ _).symm
theorem sq_same {t : Tb} {a : Atv} (h : okA11 t a = false) : HEq (sqM t) (sqM (actvT t a)) := by
  rw [actv_f h]
theorem sq_upd2 {l : List Atv} {i : Nat} {t : Tb} {a : Atv} (h : SOn l i t) (h1 : okA11 t a = true) (h2 : okA11 t a = false) : HEq (mPut (sqM t) a.block a.seq) (sqM (actvT t a)) := by
  rw [h1] at h2
  cases h2
theorem on_wrap {j : Nat} (h : 0 < j) (h2 : j < 1000000) : IntKind.i64.wrap ((j : Int) - 1) = ((j - 1 : Nat) : Int) := by
  rw [wrap_id (by omega) (by omega)]
  omega
structure SO2 (t : Tb) (i : Nat) : Prop where
  le : i ≤ (lsT t).length
theorem lsT_get {t : Tb} {i : Nat} {z : Atv} (hI : TbI t) (h : i < (lsT t).length) : ∃ k, mGet t.act k = some ((lsT t).getD i z) ∧ k = ((lsT t).getD i z).block ∧ (lsK t)[i]? = some k := by
  have h1 : i < t.act.length := by rwa [lsT_len] at h
  have h2 := mGet_mem hI.asc (List.getElem_mem h1)
  have h3 : (lsT t).getD i z = (t.act[i]).2 := by
    rw [List.getD_eq_getElem?_getD]
    simp only [lsT, lsK, List.getElem?_map, List.getElem?_eq_getElem h1, Option.map_some, Option.getD_some]
    exact gA_some h2
  rw [h3]
  refine ⟨_, h2, (hI.blk _ _ h2).symm, ?_⟩
  simp [lsK, List.getElem?_map, List.getElem?_eq_getElem h1]
theorem ls_sq {t : Tb} {i : Nat} {z : Atv} (hI : TbI t) (h : i < (lsT t).length) : (mGet (sqM t) ((lsT t).getD i z).block).getD 0 = ((lsT t).getD i z).seq := by
  obtain ⟨k, h1, h2, -⟩ := lsT_get (z := z) hI h
  rw [sq_get, ← h2, gA_some h1]
theorem on_get {t : Tb} {i : Nat} {z : Atv} (hI : TbI t) (h : i < (lsT t).length) : (gA t ((lsT t).getD i z).block).seq = ((lsT t).getD i z).seq := by
  obtain ⟨k, h1, h2, -⟩ := lsT_get (z := z) hI h
  rw [← h2, gA_some h1]
theorem ls_asc {t : Tb} {i j : Nat} {z z' : Atv} (hI : TbI t) (h : i < (lsT t).length) (hj : j < i) : ((lsT t).getD j z').block < ((lsT t).getD i z).block := by
  obtain ⟨k, -, h2, h3⟩ := lsT_get (z := z) hI h
  obtain ⟨k', -, h2', h3'⟩ := lsT_get (z := z') (i := j) hI (by omega)
  rw [← h2, ← h2']
  have hp : (lsK t).Pairwise (· < ·) := by
    unfold lsK
    rw [List.pairwise_map]
    exact hI.asc
  have h4 := List.pairwise_iff_getElem.1 hp j i (List.getElem?_eq_some_iff.1 h3').1 (List.getElem?_eq_some_iff.1 h3).1 hj
  rw [(List.getElem?_eq_some_iff.1 h3).2, (List.getElem?_eq_some_iff.1 h3').2] at h4
  exact h4
def cOne : Con where
  X := List Atv
  args := fun l => [.vsl .atv l]
  heap := fun _ => hp0
  pre := fun _ => True
  res := fun _ => AB true
  heap' := fun _ => hp0
  pure := true
  find := fun _ _ => none
def onH (t : Tb) : Heap := ⟨4, (3, some (.map false .int (sqM t))) :: (tbH false t).l⟩
def onH2 (t : Tb) : Heap := ⟨5, (4, some (.seq false 28 .atv (lsT t))) :: (3, some (.map false .int (sqM t))) :: (tbH false t).l⟩
set_option maxRecDepth 100000 in
set_option maxHeartbeats 8000000 in
theorem cOne_ok : cOne.Ok Try.prog 4 := by
  refine fun_ok (env_ok (Cons.cons cawake_ok (Cons.cons cTNew_ok (Cons.cons cTbActv_ok (Cons.cons cTbList_ok Cons.nil))))) mixedP Try.func4 (by decide) rfl cOne [(22, 22)] (fun _ => rfl) (fun _ _ => ⟨rfl, fun id k h => by cases h⟩) (fun _ => Nat.le_of_ble_eq_true rfl) ?_
  rintro l hp ha hb
  clear hp ha hb
  all_goals (repeat' (first
    | with_reducible refine iTr ?_
    | with_reducible refine iB ?_
    | intro _
    | exact True.intro
    | (show _ ∧ _
       first
        | refine aTT ?_
        | refine aTB ?_
        | refine aT ?_
        | refine aB ?_
        | refine a11 ?_
        | refine a01 ?_
        | refine a00 ?_
        | refine a10 ?_
        | (with_reducible refine And.intro rfl ?_)
        | refine And.intro ?_ ?_)
    | with_reducible exact rfl
    | with_reducible exact HEq.rfl
    | (show (_ : Option Nat) = _; exact rfl)
    | (show (_ : Option Blk) = _; exact rfl)
    | (with_reducible show (nodupB _ && _ && _ && _ && _) = true; exact (Eq.refl true))
    | (with_reducible show (nodupB _ && _ && _ && _) = true; exact (Eq.refl true))
    | (with_reducible show (nodupB _ && _ && _) = true; exact (Eq.refl true))
    | (with_reducible show freeOk _ _ = true; exact (Eq.refl true))
    | (with_reducible show wrOk _ _ _ _ _ = true; exact (Eq.refl true))
    | (show (_ : AV) = _; exact rfl)
    | (show (_ : Heap) = _; exact rfl)
    | (with_reducible show (_ || !_) = true; exact (Eq.refl true))
    | (with_reducible show Nat.beq _ _ = true; exact (Eq.refl true))))
  all_goals (first | (show (_ : Int) = _) | (show (_ : Bool) = _) | (show HEq _ _) | (show ∃ _ : LInv, _) | skip)
  all_goals (try (with_reducible exact rfl))
  all_goals try (refine ⟨⟨{d : SDat // SOn l d.i d.t}, fun d => [(25, AI d.1.i), (24, AI l.length), (23, .vsl .atv l), (4, .hdl .mp 3), (3, pT)], fun d => onH d.1.t, fun d => l.length - d.1.i⟩, ⟨⟨⟨0, tb0⟩, ?_⟩, [], ?_⟩, ?_⟩; rotate_right; rintro ⟨⟨i, t⟩, hS⟩)
  all_goals (repeat' (first
    | with_reducible refine iTr ?_
    | with_reducible refine iB ?_
    | intro _
    | exact True.intro
    | (show _ ∧ _
       first
        | refine aTT ?_
        | refine aTB ?_
        | refine aT ?_
        | refine aB ?_
        | refine a11 ?_
        | refine a01 ?_
        | refine a00 ?_
        | refine a10 ?_
        | (with_reducible refine And.intro rfl ?_)
        | refine And.intro ?_ ?_)
    | with_reducible exact rfl
    | with_reducible exact HEq.rfl
    | (show (_ : Option Nat) = _; exact rfl)
    | (show (_ : Option Blk) = _; exact rfl)
    | (with_reducible show (nodupB _ && _ && _ && _ && _) = true; exact (Eq.refl true))
    | (with_reducible show (nodupB _ && _ && _ && _) = true; exact (Eq.refl true))
    | (with_reducible show (nodupB _ && _ && _) = true; exact (Eq.refl true))
    | (with_reducible show freeOk _ _ = true; exact (Eq.refl true))
    | (with_reducible show wrOk _ _ _ _ _ = true; exact (Eq.refl true))
    | (show (_ : AV) = _; exact rfl)
    | (show (_ : Heap) = _; exact rfl)
    | (with_reducible show (_ || !_) = true; exact (Eq.refl true))
    | (with_reducible show Nat.beq _ _ = true; exact (Eq.refl true))))
  all_goals (first | (show (_ : Int) = _) | (show (_ : Bool) = _) | (show HEq _ _) | (show ∃ _ : LInv, _) | skip)
  all_goals (try (with_reducible exact rfl))
  all_goals try (refine ⟨⟨⟨(i + 1 : Nat), actvT t (l.getD i Ty.atv.dflt)⟩, ?_⟩, ?_, ?_⟩)
  all_goals (repeat' (first
    | with_reducible refine iTr ?_
    | with_reducible refine iB ?_
    | intro _
    | exact True.intro
    | (show _ ∧ _
       first
        | refine aTT ?_
        | refine aTB ?_
        | refine aT ?_
        | refine aB ?_
        | refine a11 ?_
        | refine a01 ?_
        | refine a00 ?_
        | refine a10 ?_
        | (with_reducible refine And.intro rfl ?_)
        | refine And.intro ?_ ?_)
    | with_reducible exact rfl
    | with_reducible exact HEq.rfl
    | (show (_ : Option Nat) = _; exact rfl)
    | (show (_ : Option Blk) = _; exact rfl)
    | (with_reducible show (nodupB _ && _ && _ && _ && _) = true; exact (Eq.refl true))
    | (with_reducible show (nodupB _ && _ && _ && _) = true; exact (Eq.refl true))
    | (with_reducible show (nodupB _ && _ && _) = true; exact (Eq.refl true))
    | (with_reducible show freeOk _ _ = true; exact (Eq.refl true))
    | (with_reducible show wrOk _ _ _ _ _ = true; exact (Eq.refl true))
    | (show (_ : AV) = _; exact rfl)
    | (show (_ : Heap) = _; exact rfl)
    | (with_reducible show (_ || !_) = true; exact (Eq.refl true))
    | (with_reducible show Nat.beq _ _ = true; exact (Eq.refl true))))
  all_goals (first | (show (_ : Int) = _) | (show (_ : Bool) = _) | (show HEq _ _) | (show ∃ _ : LInv, _) | skip)
  all_goals (try (with_reducible exact rfl))
  all_goals try (refine ⟨⟨{j : Nat // SO2 t j}, fun j => [(62, AI j.1), (61, AI (lsT t).length), (60, .slc 4), (8, .slc 4), (4, .hdl .mp 3), (3, pT)], fun j => onH2 t, fun j => (lsT t).length - j.1⟩, ⟨⟨0, ?_⟩, [], ?_⟩, ?_⟩; rotate_right; rintro ⟨j, hJ⟩)
  all_goals (repeat' (first
    | with_reducible refine iTr ?_
    | with_reducible refine iB ?_
    | intro _
    | exact True.intro
    | (show _ ∧ _
       first
        | refine aTT ?_
        | refine aTB ?_
        | refine aT ?_
        | refine aB ?_
        | refine a11 ?_
        | refine a01 ?_
        | refine a00 ?_
        | refine a10 ?_
        | (with_reducible refine And.intro rfl ?_)
        | refine And.intro ?_ ?_)
    | with_reducible exact rfl
    | with_reducible exact HEq.rfl
    | (show (_ : Option Nat) = _; exact rfl)
    | (show (_ : Option Blk) = _; exact rfl)
    | (with_reducible show (nodupB _ && _ && _ && _ && _) = true; exact (Eq.refl true))
    | (with_reducible show (nodupB _ && _ && _ && _) = true; exact (Eq.refl true))
    | (with_reducible show (nodupB _ && _ && _) = true; exact (Eq.refl true))
    | (with_reducible show freeOk _ _ = true; exact (Eq.refl true))
    | (with_reducible show wrOk _ _ _ _ _ = true; exact (Eq.refl true))
    | (show (_ : AV) = _; exact rfl)
    | (show (_ : Heap) = _; exact rfl)
    | (with_reducible show (_ || !_) = true; exact (Eq.refl true))
    | (with_reducible show Nat.beq _ _ = true; exact (Eq.refl true))))
  all_goals (first | (show (_ : Int) = _) | (show (_ : Bool) = _) | (show HEq _ _) | (show ∃ _ : LInv, _) | skip)
  all_goals (try (with_reducible exact rfl))
  all_goals try (refine ⟨⟨(j + 1 : Nat), ?_⟩, ?_, ?_⟩)
  all_goals (repeat' (first
    | with_reducible refine iTr ?_
    | with_reducible refine iB ?_
    | intro _
    | exact True.intro
    | (show _ ∧ _
       first
        | refine aTT ?_
        | refine aTB ?_
        | refine aT ?_
        | refine aB ?_
        | refine a11 ?_
        | refine a01 ?_
        | refine a00 ?_
        | refine a10 ?_
        | (with_reducible refine And.intro rfl ?_)
        | refine And.intro ?_ ?_)
    | with_reducible exact rfl
    | with_reducible exact HEq.rfl
    | (show (_ : Option Nat) = _; exact rfl)
    | (show (_ : Option Blk) = _; exact rfl)
    | (with_reducible show (nodupB _ && _ && _ && _ && _) = true; exact (Eq.refl true))
    | (with_reducible show (nodupB _ && _ && _ && _) = true; exact (Eq.refl true))
    | (with_reducible show (nodupB _ && _ && _) = true; exact (Eq.refl true))
    | (with_reducible show freeOk _ _ = true; exact (Eq.refl true))
    | (with_reducible show wrOk _ _ _ _ _ = true; exact (Eq.refl true))
    | (show (_ : AV) = _; exact rfl)
    | (show (_ : Heap) = _; exact rfl)
    | (with_reducible show (_ || !_) = true; exact (Eq.refl true))
    | (with_reducible show Nat.beq _ _ = true; exact (Eq.refl true))))
  all_goals (first | (show (_ : Int) = _) | (show (_ : Bool) = _) | (show HEq _ _) | (show ∃ _ : LInv, _) | skip)
  all_goals (try (with_reducible exact rfl))
  all_goals (try dsimp only at *)
  all_goals (try replace hS : SOn l i t := hS)
  all_goals (try have hl1 := hS.le)
  all_goals (try have hl2 := hS.len.act; have hl3 := hS.len.ov)
  all_goals (try have hJ1 := hJ.le)
  all_goals (try have hlT := lsT_len t)
  all_goals (try simp only [tb_eta, atv_eta, sq_get] at *)
  all_goals (try simp only [Int.toNat_natCast, decide_eq_true_eq, decide_eq_false_iff_not, beq_iff_eq, beq_eq_false_iff_ne, bne_iff_ne, ne_eq, cond_true, cond_false, Bool.not_true, Bool.not_false, Bool.not_eq_true', Bool.not_eq_false'] at *)
  all_goals (first
    | omega
    | exact HEq.rfl
    | exact son_t hS (by omega)
    | exact ⟨by omega⟩
    | exact ⟨Nat.zero_le _⟩
    | exact wrap_succ (by omega)
    | (show List.length _ < _; (try dsimp only); omega)
    | (show List.length _ ≤ _; (try dsimp only); omega)
    | exact cop_ls1 hS (by omega)
    | (show (sqM t).length < _; rw [sqM_len]; omega)
    | exact ⟨Nat.zero_le _, tbl0, tbi0, rfl⟩
    | skip)
  all_goals (first
    | (exfalso; exact on_f1 hS (by assumption) (by assumption))
    | (exfalso; exact on_f2 hS (by assumption) (by assumption))
    | (exfalso; have h1 := sqM_len t; omega)
    | exact sq_upd (by assumption)
    | exact sq_same (by assumption)
    | exact sq_upd2 hS (by assumption) (by assumption)
    | (exfalso; have h1 := on_get (z := Ty.atv.dflt) (i := j) hS.inv (by omega); exact absurd h1 (by assumption))
    | (have hw : IntKind.i64.wrap ((j : Int) - 1) = ((j - 1 : Nat) : Int) := on_wrap (by omega) (by omega); rw [hw]; omega)
    | (exfalso; have hw : IntKind.i64.wrap ((j : Int) - 1) = ((j - 1 : Nat) : Int) := on_wrap (by omega) (by omega); simp only [hw, Int.toNat_natCast] at *; have h1 := ls_asc (z := Ty.atv.dflt) (z' := Ty.atv.dflt) (i := j) (j := j - 1) hS.inv (by omega) (by omega); omega))
end Go.Proofs.Ytjapmlolgfgbaaa

