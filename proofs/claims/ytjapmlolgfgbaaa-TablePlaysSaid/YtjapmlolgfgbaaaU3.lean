/- Contracts of the table: New, Activate, Deactivate, Active. No condition. -/
import Derived.Test.YtjapmlolgfgbaaaU2
namespace Go.Proofs.Ytjapmlolgfgbaaa
open Go.RowKit
set_option linter.unusedVariables false
set_option linter.unusedSimpArgs false
/-- What a table holds: the active ones, and what is over, by blocks. -/
structure Tb where
  act : List (Int × Atv)
  ov : List (Int × Int)
def tbO (ro : Bool) (a o : Nat) : Blk := .obj ro [.hdl .mp a, .hdl .mp o]
def tbH (ro : Bool) (t : Tb) : Heap := ⟨3, [(2, some (.map ro .int t.ov)), (1, some (.map ro .atv t.act)), (0, some (tbO ro 1 2))]⟩
theorem tbH_ro (t : Tb) : ∀ id k, (tbH true t).get id = some k → k.ro = true
  | 0, k, h => by cases h; rfl
  | 1, k, h => by cases h; rfl
  | 2, k, h => by cases h; rfl
  | _ + 3, k, h => by cases h
def findTb (id : Nat) (H : Heap) : Option Tb := match H.get id with
  | some (.obj _ [.hdl .mp a, .hdl .mp o]) => match H.get a, H.get o with
    | some (.map _ .atv act), some (.map _ .int ov) => some ⟨act, ov⟩
    | _, _ => none
  | _ => none
def tb0 : Tb := ⟨[], []⟩
def gA (t : Tb) (b : Int) : Atv := (mGet t.act b).getD zA
def gO (t : Tb) (b : Int) : Int := (mGet t.ov b).getD 0
def deaT (t : Tb) (b s : Int) : Tb := ⟨if (mGet t.act b).isSome = true ∧ (gA t b).seq ≤ s then mDel t.act b else t.act, mPut t.ov b (if gO t b < s then s else gO t b)⟩
def okA11 (t : Tb) (a : Atv) : Bool := decide (1 ≤ a.seq ∧ gO t a.block < a.seq ∧ (gA t a.block).seq < a.seq)
def actvT (t : Tb) (a : Atv) : Tb := if okA11 t a = true then ⟨mPut t.act a.block a, t.ov⟩ else t
def cTNew : Con where
  X := Unit
  args := fun _ => []
  heap := fun _ => ⟨0, []⟩
  pre := fun _ => True
  res := fun _ => .ptr 0 p0
  heap' := fun _ => tbH false tb0
  pure := false
  find := fun args H => some ()
set_option maxRecDepth 100000 in
set_option maxHeartbeats 4000000 in
theorem cTNew_ok : cTNew.Ok Try.prog 9 := by
  refine fun_ok (env_ok Cons.nil) mixedP Try.func9 (by decide) rfl cTNew [] (fun _ => rfl) (fun h => by cases h) (fun _ => Nat.le_of_ble_eq_true rfl) ?_
  rintro ⟨⟩ hp ha hb
  clear hp ha hb
  all_goals (repeat' (first
    | with_reducible refine iTr ?_
    | with_reducible refine iB ?_
    | intro _
    | exact True.intro
    | (show _ ∧ _
       first
        | refine aTT ?_
        | refine aTB ?_
        | refine aT ?_
        | refine aB ?_
        | refine a11 ?_
        | refine a01 ?_
        | refine a00 ?_
        | refine a10 ?_
        | (with_reducible refine And.intro rfl ?_)
        | refine And.intro ?_ ?_)
    | with_reducible exact rfl
    | with_reducible exact HEq.rfl
    | (show (_ : Option Nat) = _; exact rfl)
    | (show (_ : Option Blk) = _; exact rfl)
    | (with_reducible show (nodupB _ && _ && _ && _ && _) = true; exact (Eq.refl true))
    | (with_reducible show (nodupB _ && _ && _ && _) = true; exact (Eq.refl true))
    | (with_reducible show (nodupB _ && _ && _) = true; exact (Eq.refl true))
    | (with_reducible show freeOk _ _ = true; exact (Eq.refl true))
    | (with_reducible show wrOk _ _ _ _ _ = true; exact (Eq.refl true))
    | (show (_ : AV) = _; exact rfl)
    | (show (_ : Heap) = _; exact rfl)
    | (with_reducible show (_ || !_) = true; exact (Eq.refl true))
    | (with_reducible show Nat.beq _ _ = true; exact (Eq.refl true))))
  all_goals (first | (show (_ : Int) = _) | (show (_ : Bool) = _) | (show HEq _ _) | (show ∃ _ : LInv, _) | skip)
  all_goals (try (with_reducible exact rfl))
  all_goals exact HEq.rfl
theorem dea_t {act : List (Int × Atv)} {ov : List (Int × Int)} {b s : Int} {t : Tb} (ht : t = ⟨act, ov⟩) (h1 : (mGet act b).isSome = true) (h2 : ((mGet act b).getD zA).seq ≤ s) : HEq (mDel act b) (deaT t b s).act := by
  subst ht
  exact heq_of_eq (Eq.symm (if_pos ⟨h1, h2⟩))
theorem dea_f {act : List (Int × Atv)} {ov : List (Int × Int)} {b s : Int} {t : Tb} (ht : t = ⟨act, ov⟩) (h1 : ¬ ((mGet act b).isSome = true ∧ ((mGet act b).getD zA).seq ≤ s)) : HEq act (deaT t b s).act := by
  subst ht
  exact heq_of_eq (Eq.symm (if_neg h1))
def cTbDea : Con where
  X := Tb × Int × Int
  args := fun ⟨t, b, s⟩ => [pT, AI b, AI s]
  heap := fun ⟨t, b, s⟩ => tbH false t
  pre := fun ⟨t, b, s⟩ => t.ov.length < 9223372036854775807
  res := fun _ => .tup []
  heap' := fun ⟨t, b, s⟩ => tbH false (deaT t b s)
  pure := false
  find := fun args H => match args with
    | [.ptr id _, .int _ b, .int _ s] => (findTb id H).map fun t => (t, b, s)
    | _ => none
set_option maxRecDepth 100000 in
set_option maxHeartbeats 4000000 in
theorem cTbDea_ok : cTbDea.Ok Try.prog 10 := by
  refine fun_ok (env_ok Cons.nil) mixedP Try.func10 (by decide) rfl cTbDea [(0, 13)] (fun _ => rfl) (fun h => by cases h) (fun _ => Nat.le_of_ble_eq_true rfl) ?_
  rintro ⟨⟨act, ov⟩, b, s⟩ hp ha hb
  replace hp : ov.length < 9223372036854775807 := hp
  clear ha hb
  all_goals (repeat' (first
    | with_reducible refine iTr ?_
    | with_reducible refine iB ?_
    | intro _
    | exact True.intro
    | (show _ ∧ _
       first
        | refine aTT ?_
        | refine aTB ?_
        | refine aT ?_
        | refine aB ?_
        | refine a11 ?_
        | refine a01 ?_
        | refine a00 ?_
        | refine a10 ?_
        | (with_reducible refine And.intro rfl ?_)
        | refine And.intro ?_ ?_)
    | with_reducible exact rfl
    | with_reducible exact HEq.rfl
    | (show (_ : Option Nat) = _; exact rfl)
    | (show (_ : Option Blk) = _; exact rfl)
    | (with_reducible show (nodupB _ && _ && _ && _ && _) = true; exact (Eq.refl true))
    | (with_reducible show (nodupB _ && _ && _ && _) = true; exact (Eq.refl true))
    | (with_reducible show (nodupB _ && _ && _) = true; exact (Eq.refl true))
    | (with_reducible show freeOk _ _ = true; exact (Eq.refl true))
    | (with_reducible show wrOk _ _ _ _ _ = true; exact (Eq.refl true))
    | (show (_ : AV) = _; exact rfl)
    | (show (_ : Heap) = _; exact rfl)
    | (with_reducible show (_ || !_) = true; exact (Eq.refl true))
    | (with_reducible show Nat.beq _ _ = true; exact (Eq.refl true))))
  all_goals (first | (show (_ : Int) = _) | (show (_ : Bool) = _) | (show HEq _ _) | (show ∃ _ : LInv, _) | skip)
  all_goals (try (with_reducible exact rfl))
  all_goals (try dsimp only at *)
  all_goals (try simp only [cond_true, decide_eq_true_eq, decide_eq_false_iff_not, Bool.not_true] at *)
  all_goals (first
    | assumption
    | exact HEq.rfl
    | exact dea_t rfl (by assumption) (by assumption)
    | exact dea_f rfl (fun h => by first | (have h1 := h.1; have h2 := h.2; contradiction) | simp_all))
theorem actv_f {t : Tb} {a : Atv} (h : okA11 t a = false) : actvT t a = t := by simp [actvT, h]
theorem actv_t {t : Tb} {a : Atv} (h : okA11 t a = true) : actvT t a = ⟨mPut t.act a.block a, t.ov⟩ := by simp [actvT, h]
def cTbActv : Con where
  X := Tb × Atv
  args := fun ⟨t, a⟩ => [pT, AAtv a]
  heap := fun ⟨t, a⟩ => tbH false t
  pre := fun ⟨t, a⟩ => t.act.length < 9223372036854775807
  res := fun ⟨t, a⟩ => AB (okA11 t a)
  heap' := fun ⟨t, a⟩ => tbH false (actvT t a)
  pure := false
  find := fun args H => match args with
    | [.ptr id _, .agg [.int _ b, .int _ n, .int _ s]] => (findTb id H).map fun t => (t, ⟨b, n, s⟩)
    | _ => none
theorem oka_f {act : List (Int × Atv)} {ov : List (Int × Int)} {b n s : Int} (h : ¬ (1 ≤ s ∧ (mGet ov b).getD 0 < s ∧ ((mGet act b).getD ⟨0, 0, 0⟩).seq < s)) : false = okA11 ⟨act, ov⟩ ⟨b, n, s⟩ := (decide_eq_false h).symm
theorem oka_t {act : List (Int × Atv)} {ov : List (Int × Int)} {b n s : Int} (h : 1 ≤ s ∧ (mGet ov b).getD 0 < s ∧ ((mGet act b).getD ⟨0, 0, 0⟩).seq < s) : true = okA11 ⟨act, ov⟩ ⟨b, n, s⟩ := (decide_eq_true h).symm
theorem actv_h1 {act : List (Int × Atv)} {ov : List (Int × Int)} {b n s : Int} (h : ¬ (1 ≤ s ∧ (mGet ov b).getD 0 < s ∧ ((mGet act b).getD ⟨0, 0, 0⟩).seq < s)) : HEq act (actvT ⟨act, ov⟩ ⟨b, n, s⟩).act ∧ HEq ov (actvT ⟨act, ov⟩ ⟨b, n, s⟩).ov := by
  rw [actv_f (oka_f h).symm]
  exact ⟨HEq.rfl, HEq.rfl⟩
theorem actv_h2 {act : List (Int × Atv)} {ov : List (Int × Int)} {b n s : Int} (h : 1 ≤ s ∧ (mGet ov b).getD 0 < s ∧ ((mGet act b).getD ⟨0, 0, 0⟩).seq < s) : HEq (mPut act b ⟨b, n, s⟩) (actvT ⟨act, ov⟩ ⟨b, n, s⟩).act ∧ HEq ov (actvT ⟨act, ov⟩ ⟨b, n, s⟩).ov := by
  rw [actv_t (oka_t h).symm]
  exact ⟨HEq.rfl, HEq.rfl⟩
set_option maxRecDepth 100000 in
set_option maxHeartbeats 4000000 in
theorem cTbActv_ok : cTbActv.Ok Try.prog 11 := by
  refine fun_ok (env_ok Cons.nil) mixedP Try.func11 (by decide) rfl cTbActv [(1, 28), (3, 7)] (fun _ => rfl) (fun h => by cases h) (fun _ => Nat.le_of_ble_eq_true rfl) ?_
  rintro ⟨⟨act, ov⟩, ⟨b, n, s⟩⟩ hp ha hb
  replace hp : act.length < 9223372036854775807 := hp
  clear ha hb
  all_goals (repeat' (first
    | with_reducible refine iTr ?_
    | with_reducible refine iB ?_
    | intro _
    | exact True.intro
    | (show _ ∧ _
       first
        | refine aTT ?_
        | refine aTB ?_
        | refine aT ?_
        | refine aB ?_
        | refine a11 ?_
        | refine a01 ?_
        | refine a00 ?_
        | refine a10 ?_
        | (with_reducible refine And.intro rfl ?_)
        | refine And.intro ?_ ?_)
    | with_reducible exact rfl
    | with_reducible exact HEq.rfl
    | (show (_ : Option Nat) = _; exact rfl)
    | (show (_ : Option Blk) = _; exact rfl)
    | (with_reducible show (nodupB _ && _ && _ && _ && _) = true; exact (Eq.refl true))
    | (with_reducible show (nodupB _ && _ && _ && _) = true; exact (Eq.refl true))
    | (with_reducible show (nodupB _ && _ && _) = true; exact (Eq.refl true))
    | (with_reducible show freeOk _ _ = true; exact (Eq.refl true))
    | (with_reducible show wrOk _ _ _ _ _ = true; exact (Eq.refl true))
    | (show (_ : AV) = _; exact rfl)
    | (show (_ : Heap) = _; exact rfl)
    | (with_reducible show (_ || !_) = true; exact (Eq.refl true))
    | (with_reducible show Nat.beq _ _ = true; exact (Eq.refl true))))
  all_goals (first | (show (_ : Int) = _) | (show (_ : Bool) = _) | (show HEq _ _) | (show ∃ _ : LInv, _) | skip)
  all_goals (try (with_reducible exact rfl))
  all_goals (try dsimp only at *)
  all_goals (try simp only [cond_true, cond_false, decide_eq_true_eq, decide_eq_false_iff_not, Bool.not_true, Bool.not_false] at *)
  all_goals (first
    | assumption
    | exact oka_f (by omega)
    | exact oka_t (by omega)
    | (refine (actv_h1 ?_).1; omega)
    | (refine (actv_h1 ?_).2; omega)
    | (refine (actv_h2 ?_).1; omega)
    | (refine (actv_h2 ?_).2; omega))
def cTbAct : Con where
  X := Tb × Int
  args := fun ⟨t, b⟩ => [pT, AI b]
  heap := fun ⟨t, b⟩ => tbH true t
  pre := fun _ => True
  res := fun ⟨t, b⟩ => .tup [AAtv (gA t b), AB (mGet t.act b).isSome]
  heap' := fun ⟨t, b⟩ => tbH true t
  pure := true
  find := fun args H => match args with
    | [.ptr id _, .int _ b] => (findTb id H).map fun t => (t, b)
    | _ => none
set_option maxRecDepth 100000 in
set_option maxHeartbeats 4000000 in
theorem cTbAct_ok : cTbAct.Ok Try.prog 12 := by
  refine fun_ok (env_ok Cons.nil) mixedP Try.func12 (by decide) rfl cTbAct [] (fun _ => rfl) (fun _ x => ⟨rfl, tbH_ro x.1⟩) (fun _ => Nat.le_of_ble_eq_true rfl) ?_
  rintro ⟨⟨act, ov⟩, b⟩ hp ha hb
  clear hp ha hb
  all_goals (repeat' (first
    | with_reducible refine iTr ?_
    | with_reducible refine iB ?_
    | intro _
    | exact True.intro
    | (show _ ∧ _
       first
        | refine aTT ?_
        | refine aTB ?_
        | refine aT ?_
        | refine aB ?_
        | refine a11 ?_
        | refine a01 ?_
        | refine a00 ?_
        | refine a10 ?_
        | (with_reducible refine And.intro rfl ?_)
        | refine And.intro ?_ ?_)
    | with_reducible exact rfl
    | with_reducible exact HEq.rfl
    | (show (_ : Option Nat) = _; exact rfl)
    | (show (_ : Option Blk) = _; exact rfl)
    | (with_reducible show (nodupB _ && _ && _ && _ && _) = true; exact (Eq.refl true))
    | (with_reducible show (nodupB _ && _ && _ && _) = true; exact (Eq.refl true))
    | (with_reducible show (nodupB _ && _ && _) = true; exact (Eq.refl true))
    | (with_reducible show freeOk _ _ = true; exact (Eq.refl true))
    | (with_reducible show wrOk _ _ _ _ _ = true; exact (Eq.refl true))
    | (show (_ : AV) = _; exact rfl)
    | (show (_ : Heap) = _; exact rfl)
    | (with_reducible show (_ || !_) = true; exact (Eq.refl true))
    | (with_reducible show Nat.beq _ _ = true; exact (Eq.refl true))))
  all_goals (first | (show (_ : Int) = _) | (show (_ : Bool) = _) | (show HEq _ _) | (show ∃ _ : LInv, _) | skip)
  all_goals (try (with_reducible exact rfl))
  all_goals exact rfl
end Go.Proofs.Ytjapmlolgfgbaaa

