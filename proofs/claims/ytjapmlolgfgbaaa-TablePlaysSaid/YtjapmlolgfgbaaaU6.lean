/- Layer 11's laws: plain words of tables; awake, tell. No condition. -/
import Derived.Test.YtjapmlolgfgbaaaU5
namespace Go.Proofs.Ytjapmlolgfgbaaa
open Go.RowKit
set_option linter.unusedVariables false
set_option linter.unusedSimpArgs false
/-! ### lists by keys -/
section
variable {α : Type}
theorem mGet_del (k j : Int) : ∀ l : List (Int × α), mGet (mDel l k) j = if j = k then none else mGet l j
  | [] => by simp [mDel, mGet]
  | (a, x) :: r => by
    have ih := mGet_del k j r
    unfold mDel at ih ⊢
    by_cases e : a = k
    · rw [List.filter_cons_of_neg (by simp [e]), ih]
      split
      · rfl
      · rename_i h
        rw [mGet, if_neg (by omega)]
    · rw [List.filter_cons_of_pos (by simp [e]), mGet, mGet, ih]
      by_cases e2 : a = j
      · rw [if_pos e2, if_neg (by omega), if_pos e2]
      · rw [if_neg e2, if_neg e2]
theorem mGet_ins_ne {k j : Int} (x : α) (h : j ≠ k) : ∀ l : List (Int × α), mGet (mIns k x l) j = mGet l j
  | [] => by simp only [mIns, mGet]; rw [if_neg (Ne.symm h)]
  | (a, y) :: r => by
    rw [mIns]
    split
    · rw [mGet, if_neg (Ne.symm h)]
    · rw [mGet, mGet, mGet_ins_ne x h r]
theorem mGet_ins_eq {k : Int} (x : α) : ∀ l : List (Int × α), (∀ e ∈ l, e.1 ≠ k) → mGet (mIns k x l) k = some x
  | [], _ => by simp [mIns, mGet]
  | (a, y) :: r, h => by
    rw [mIns]
    split
    · simp [mGet]
    · rw [mGet, if_neg (h (a, y) (List.mem_cons_self ..))]
      exact mGet_ins_eq x r fun e he => h e (List.mem_cons_of_mem _ he)
theorem mDel_ne {l : List (Int × α)} {k : Int} : ∀ e ∈ mDel l k, e.1 ≠ k := fun e he => by simpa using (List.mem_filter.1 he).2
theorem mGet_put (k j : Int) (x : α) (l : List (Int × α)) : mGet (mPut l k x) j = if j = k then some x else mGet l j := by
  unfold mPut
  split
  · rename_i h
    subst h
    exact mGet_ins_eq x _ mDel_ne
  · rename_i h
    rw [mGet_ins_ne x h, mGet_del, if_neg h]
theorem mDel_len (l : List (Int × α)) (k : Int) : (mDel l k).length ≤ l.length := List.length_filter_le _ _
theorem mPut_len (l : List (Int × α)) (k : Int) (x : α) : (mPut l k x).length ≤ l.length + 1 := by
  unfold mPut
  rw [mIns_len]
  have := mDel_len l k
  omega
def Asc (l : List (Int × α)) : Prop := l.Pairwise (fun p q => p.1 < q.1)
theorem asc_del {l : List (Int × α)} (k : Int) (h : Asc l) : Asc (mDel l k) := List.Pairwise.filter _ h
theorem mem_ins {k : Int} {x : α} {e : Int × α} : ∀ {l : List (Int × α)}, e ∈ mIns k x l → e = (k, x) ∨ e ∈ l
  | [], h => by simp [mIns] at h; exact .inl h
  | (a, y) :: r, h => by
    rw [mIns] at h
    split at h
    · rcases List.mem_cons.1 h with rfl | h
      · exact .inl rfl
      · exact .inr h
    · rcases List.mem_cons.1 h with rfl | h
      · exact .inr (List.mem_cons_self ..)
      · rcases mem_ins h with rfl | h
        · exact .inl rfl
        · exact .inr (List.mem_cons_of_mem _ h)
theorem asc_ins {k : Int} {x : α} : ∀ {l : List (Int × α)}, Asc l → (∀ e ∈ l, e.1 ≠ k) → Asc (mIns k x l)
  | [], _, _ => List.pairwise_singleton ..
  | (a, y) :: r, h, hne => by
    have hh := List.pairwise_cons.1 h
    rw [mIns]
    split
    · rename_i hlt
      refine List.pairwise_cons.2 ⟨fun e he => ?_, h⟩
      rcases List.mem_cons.1 he with rfl | he
      · exact hlt
      · have h1 : a < e.1 := hh.1 e he
        show k < e.1
        omega
    · rename_i hlt
      have hk := hne (a, y) (List.mem_cons_self ..)
      refine List.pairwise_cons.2 ⟨fun e he => ?_, asc_ins hh.2 fun e he => hne e (List.mem_cons_of_mem _ he)⟩
      rcases mem_ins he with rfl | he
      · show a < k
        have : a ≠ k := hk
        omega
      · exact hh.1 e he
theorem asc_put {l : List (Int × α)} (k : Int) (x : α) (h : Asc l) : Asc (mPut l k x) := asc_ins (asc_del k h) mDel_ne
theorem mGet_mem {l : List (Int × α)} (h : Asc l) : ∀ {e : Int × α}, e ∈ l → mGet l e.1 = some e.2 := by
  induction l with
  | nil => intro e he; simp at he
  | cons a r ih =>
    obtain ⟨a, y⟩ := a
    intro e he
    have hh := List.pairwise_cons.1 h
    rw [mGet]
    rcases List.mem_cons.1 he with rfl | he
    · simp
    · have h1 : a < e.1 := hh.1 e he
      rw [if_neg (by omega)]
      exact ih hh.2 he
theorem mem_of_get {k : Int} {x : α} : ∀ {l : List (Int × α)}, mGet l k = some x → (k, x) ∈ l
  | [], h => by simp [mGet] at h
  | (a, y) :: r, h => by
    rw [mGet] at h
    split at h
    · rename_i e
      subst e
      injection h with h
      subst h
      exact List.mem_cons_self ..
    · exact List.mem_cons_of_mem _ (mem_of_get h)
end
/-! ### a table -/
theorem gO_dea (t : Tb) (b s j : Int) : gO (deaT t b s) j = if j = b then (if gO t b < s then s else gO t b) else gO t j := by
  unfold gO deaT
  simp only [mGet_put]
  split <;> rfl
theorem mA_dea (t : Tb) (b s j : Int) : mGet (deaT t b s).act j = if j = b ∧ (mGet t.act b).isSome = true ∧ (gA t b).seq ≤ s then none else mGet t.act j := by
  unfold deaT
  simp only
  by_cases h : (mGet t.act b).isSome = true ∧ (gA t b).seq ≤ s
  · rw [if_pos h, mGet_del]
    by_cases e : j = b
    · rw [if_pos e, if_pos ⟨e, h⟩]
    · rw [if_neg e, if_neg (fun hh => e hh.1)]
  · rw [if_neg h, if_neg (fun hh => h hh.2)]
theorem gO_actv (t : Tb) (a : Atv) (j : Int) : gO (actvT t a) j = gO t j := by
  unfold actvT
  split <;> rfl
theorem mA_actv (t : Tb) (a : Atv) (j : Int) : mGet (actvT t a).act j = if j = a.block ∧ okA11 t a = true then some a else mGet t.act j := by
  unfold actvT
  by_cases h : okA11 t a = true
  · rw [if_pos h]
    simp only [mGet_put]
    by_cases e : j = a.block
    · rw [if_pos e, if_pos ⟨e, h⟩]
    · rw [if_neg e, if_neg (fun hh => e hh.1)]
  · rw [if_neg h, if_neg (fun hh => h hh.2)]
structure TbL (t : Tb) (n : Nat) : Prop where
  act : t.act.length ≤ n
  ov : t.ov.length ≤ n
theorem tbl_dea {t : Tb} {n : Nat} (h : TbL t n) (b s : Int) : TbL (deaT t b s) (n + 1) := by
  refine ⟨?_, ?_⟩
  · unfold deaT
    simp only
    have := h.act
    split
    · have := mDel_len t.act b; omega
    · omega
  · have := mPut_len t.ov b (if gO t b < s then s else gO t b)
    have := h.ov
    show (mPut t.ov b _).length ≤ _
    omega
theorem tbl_actv {t : Tb} {n : Nat} (h : TbL t n) (a : Atv) : TbL (actvT t a) (n + 1) := by
  have h1 := h.act
  have h2 := h.ov
  unfold actvT
  split
  · refine ⟨?_, by show t.ov.length ≤ _; omega⟩
    have := mPut_len t.act a.block a
    show (mPut t.act a.block a).length ≤ _
    omega
  · exact ⟨by omega, by omega⟩
theorem tbl_mono {t : Tb} {n m : Nat} (h : TbL t n) (hm : n ≤ m) : TbL t m := ⟨Nat.le_trans h.act hm, Nat.le_trans h.ov hm⟩
theorem tbl0 : TbL tb0 0 := ⟨Nat.le_refl _, Nat.le_refl _⟩
def tel1 (t : Tb) (x : Act11) : Tb := if x.kind = 1 then actvT t x.a else deaT t x.a.block x.a.seq
def telT (t : Tb) (l : List Act11) : Tb := l.foldl tel1 t
theorem tel1_t {t : Tb} {x : Act11} (h : x.kind = 1) : tel1 t x = actvT t x.a := if_pos h
theorem tel1_f {t : Tb} {x : Act11} (h : ¬ x.kind = 1) : tel1 t x = deaT t x.a.block x.a.seq := if_neg h
theorem tbl_tel1 {t : Tb} {n : Nat} (h : TbL t n) (x : Act11) : TbL (tel1 t x) (n + 1) := by
  unfold tel1
  split
  · exact tbl_actv h _
  · exact tbl_dea h _ _
theorem tbl_tel {l : List Act11} : ∀ {t : Tb} {n : Nat}, TbL t n → TbL (telT t l) (n + l.length) := by
  induction l with
  | nil => exact fun h => h
  | cons x l ih =>
    intro t n h
    have := ih (tbl_tel1 h x)
    simp only [List.length_cons]
    rw [show n + (l.length + 1) = n + 1 + l.length from by omega]
    exact this
theorem telT_succ {t : Tb} {l : List Act11} {i : Nat} {z : Act11} (h : i < l.length) : telT t (l.take (i + 1)) = tel1 (telT t (l.take i)) (l.getD i z) := by
  unfold telT
  rw [List.take_add_one, List.getElem?_eq_getElem h, List.foldl_append, List.getD_eq_getElem?_getD, List.getElem?_eq_getElem h]
  rfl
def cawake : Con where
  X := Unit
  args := fun _ => []
  heap := fun _ => hp0
  pre := fun _ => True
  res := fun _ => AB true
  heap' := fun _ => hp0
  pure := true
  find := fun args H => some ()
set_option maxRecDepth 100000 in
set_option maxHeartbeats 8000000 in
theorem cawake_ok : cawake.Ok Try.prog 8 := by
  refine fun_ok (env_ok (Cons.cons cTNew_ok (Cons.cons cTbDea_ok (Cons.cons cTbActv_ok (Cons.cons cTbAct_ok (Cons.cons cTbList_ok Cons.nil)))))) mixedP Try.func8 (by decide) rfl cawake [] (fun _ => rfl) (fun _ _ => ⟨rfl, fun id k h => by cases h⟩) (fun _ => Nat.le_of_ble_eq_true rfl) ?_
  rintro ⟨⟩ - - -
  all_goals (repeat' (first
    | with_reducible refine iTr ?_
    | with_reducible refine iB ?_
    | intro _
    | exact True.intro
    | (show _ ∧ _
       first
        | refine aTT ?_
        | refine aTB ?_
        | refine aT ?_
        | refine aB ?_
        | refine a11 ?_
        | refine a01 ?_
        | refine a00 ?_
        | refine a10 ?_
        | (with_reducible refine And.intro rfl ?_)
        | refine And.intro ?_ ?_)
    | with_reducible exact rfl
    | with_reducible exact HEq.rfl
    | (show (_ : Option Nat) = _; exact rfl)
    | (show (_ : Option Blk) = _; exact rfl)
    | (with_reducible show (nodupB _ && _ && _ && _ && _) = true; exact (Eq.refl true))
    | (with_reducible show (nodupB _ && _ && _ && _) = true; exact (Eq.refl true))
    | (with_reducible show (nodupB _ && _ && _) = true; exact (Eq.refl true))
    | (with_reducible show freeOk _ _ = true; exact (Eq.refl true))
    | (with_reducible show wrOk _ _ _ _ _ = true; exact (Eq.refl true))
    | (show (_ : AV) = _; exact rfl)
    | (show (_ : Heap) = _; exact rfl)
    | (with_reducible show (_ || !_) = true; exact (Eq.refl true))
    | (with_reducible show Nat.beq _ _ = true; exact (Eq.refl true))))
  all_goals (first | (show (_ : Int) = _) | (show (_ : Bool) = _) | (show HEq _ _) | (show ∃ _ : LInv, _) | skip)
  all_goals (try (with_reducible exact rfl))
  all_goals (first | (show (_ : Nat) < _; decide) | (show (_ : Nat) ≤ _; decide))
theorem tl_t {t : Tb} {l : List Act11} {i : Nat} {z : Act11} (h : i < l.length) (hk : (l.getD i z).kind = 1) : telT t (l.take (i + 1)) = actvT (telT t (l.take i)) (l.getD i z).a := by
  rw [telT_succ (z := z) h, tel1_t hk]
theorem tl_f {t : Tb} {l : List Act11} {i : Nat} {z : Act11} (h : i < l.length) (hk : ¬ (l.getD i z).kind = 1) : telT t (l.take (i + 1)) = deaT (telT t (l.take i)) (l.getD i z).a.block (l.getD i z).a.seq := by
  rw [telT_succ (z := z) h, tel1_f hk]
structure STl (l : List Act11) (i : Nat) : Prop where
  le : i ≤ l.length
def cTell : Con where
  X := Tb × List Act11
  args := fun ⟨t, l⟩ => [pT, .vsl .act11 l]
  heap := fun ⟨t, l⟩ => tbH false t
  pre := fun ⟨t, l⟩ => TbL t 1000 ∧ l.length ≤ 1000
  res := fun _ => .tup []
  heap' := fun ⟨t, l⟩ => tbH false (telT t l)
  pure := false
  find := fun args H => match args with
    | [.ptr id _, .vsl .act11 l] => (findTb id H).map fun t => (t, l)
    | _ => none
set_option maxRecDepth 100000 in
set_option maxHeartbeats 8000000 in
theorem cTell_ok : cTell.Ok Try.prog 20 := by
  refine fun_ok (env_ok (Cons.cons cTbDea_ok (Cons.cons cTbActv_ok Cons.nil))) mixedP Try.func20 (by decide) rfl cTell [] (fun _ => rfl) (fun h => by cases h) (fun _ => Nat.le_of_ble_eq_true rfl) ?_
  rintro ⟨t, l⟩ hp ha hb
  replace hp : TbL t 1000 ∧ l.length ≤ 1000 := hp
  clear ha hb
  all_goals (repeat' (first
    | with_reducible refine iTr ?_
    | with_reducible refine iB ?_
    | intro _
    | exact True.intro
    | (show _ ∧ _
       first
        | refine aTT ?_
        | refine aTB ?_
        | refine aT ?_
        | refine aB ?_
        | refine a11 ?_
        | refine a01 ?_
        | refine a00 ?_
        | refine a10 ?_
        | (with_reducible refine And.intro rfl ?_)
        | refine And.intro ?_ ?_)
    | with_reducible exact rfl
    | with_reducible exact HEq.rfl
    | (show (_ : Option Nat) = _; exact rfl)
    | (show (_ : Option Blk) = _; exact rfl)
    | (with_reducible show (nodupB _ && _ && _ && _ && _) = true; exact (Eq.refl true))
    | (with_reducible show (nodupB _ && _ && _ && _) = true; exact (Eq.refl true))
    | (with_reducible show (nodupB _ && _ && _) = true; exact (Eq.refl true))
    | (with_reducible show freeOk _ _ = true; exact (Eq.refl true))
    | (with_reducible show wrOk _ _ _ _ _ = true; exact (Eq.refl true))
    | (show (_ : AV) = _; exact rfl)
    | (show (_ : Heap) = _; exact rfl)
    | (with_reducible show (_ || !_) = true; exact (Eq.refl true))
    | (with_reducible show Nat.beq _ _ = true; exact (Eq.refl true))))
  all_goals (first | (show (_ : Int) = _) | (show (_ : Bool) = _) | (show HEq _ _) | (show ∃ _ : LInv, _) | skip)
  all_goals (try (with_reducible exact rfl))
  all_goals try (refine ⟨⟨{i : Nat // STl l i}, fun i => [(8, AI i.1), (7, AI l.length), (6, .vsl .act11 l), (0, pT)], fun i => tbH false (telT t (l.take i.1)), fun i => l.length - i.1⟩, ⟨⟨0, ?_⟩, [], ?_⟩, ?_⟩; rotate_right; rintro ⟨i, hS⟩)
  all_goals (repeat' (first
    | with_reducible refine iTr ?_
    | with_reducible refine iB ?_
    | intro _
    | exact True.intro
    | (show _ ∧ _
       first
        | refine aTT ?_
        | refine aTB ?_
        | refine aT ?_
        | refine aB ?_
        | refine a11 ?_
        | refine a01 ?_
        | refine a00 ?_
        | refine a10 ?_
        | (with_reducible refine And.intro rfl ?_)
        | refine And.intro ?_ ?_)
    | with_reducible exact rfl
    | with_reducible exact HEq.rfl
    | (show (_ : Option Nat) = _; exact rfl)
    | (show (_ : Option Blk) = _; exact rfl)
    | (with_reducible show (nodupB _ && _ && _ && _ && _) = true; exact (Eq.refl true))
    | (with_reducible show (nodupB _ && _ && _ && _) = true; exact (Eq.refl true))
    | (with_reducible show (nodupB _ && _ && _) = true; exact (Eq.refl true))
    | (with_reducible show freeOk _ _ = true; exact (Eq.refl true))
    | (with_reducible show wrOk _ _ _ _ _ = true; exact (Eq.refl true))
    | (show (_ : AV) = _; exact rfl)
    | (show (_ : Heap) = _; exact rfl)
    | (with_reducible show (_ || !_) = true; exact (Eq.refl true))
    | (with_reducible show Nat.beq _ _ = true; exact (Eq.refl true))))
  all_goals (first | (show (_ : Int) = _) | (show (_ : Bool) = _) | (show HEq _ _) | (show ∃ _ : LInv, _) | skip)
  all_goals (try (with_reducible exact rfl))
  all_goals try (refine ⟨⟨(i + 1 : Nat), ?_⟩, ?_, ?_⟩)
  all_goals (repeat' (first
    | with_reducible refine iTr ?_
    | with_reducible refine iB ?_
    | intro _
    | exact True.intro
    | (show _ ∧ _
       first
        | refine aTT ?_
        | refine aTB ?_
        | refine aT ?_
        | refine aB ?_
        | refine a11 ?_
        | refine a01 ?_
        | refine a00 ?_
        | refine a10 ?_
        | (with_reducible refine And.intro rfl ?_)
        | refine And.intro ?_ ?_)
    | with_reducible exact rfl
    | with_reducible exact HEq.rfl
    | (show (_ : Option Nat) = _; exact rfl)
    | (show (_ : Option Blk) = _; exact rfl)
    | (with_reducible show (nodupB _ && _ && _ && _ && _) = true; exact (Eq.refl true))
    | (with_reducible show (nodupB _ && _ && _ && _) = true; exact (Eq.refl true))
    | (with_reducible show (nodupB _ && _ && _) = true; exact (Eq.refl true))
    | (with_reducible show freeOk _ _ = true; exact (Eq.refl true))
    | (with_reducible show wrOk _ _ _ _ _ = true; exact (Eq.refl true))
    | (show (_ : AV) = _; exact rfl)
    | (show (_ : Heap) = _; exact rfl)
    | (with_reducible show (_ || !_) = true; exact (Eq.refl true))
    | (with_reducible show Nat.beq _ _ = true; exact (Eq.refl true))))
  all_goals (first | (show (_ : Int) = _) | (show (_ : Bool) = _) | (show HEq _ _) | (show ∃ _ : LInv, _) | skip)
  all_goals (try (with_reducible exact rfl))
  all_goals (try have hS1 := hS.le)
  all_goals (try have hq := tbl_tel (l := l.take i) hp.1)
  all_goals (try have hq1 := hq.act; have hq2 := hq.ov; have hl : (l.take i).length ≤ i := List.length_take_le _ _)
  all_goals (try dsimp only at *)
  all_goals (try simp only [Int.toNat_natCast, decide_eq_true_eq, decide_eq_false_iff_not, beq_iff_eq, beq_eq_false_iff_ne, ne_eq] at *)
  all_goals (first
    | omega
    | exact ⟨Nat.zero_le _⟩
    | exact ⟨by omega⟩
    | exact wrap_succ (by omega)
    | (show List.length _ < _; dsimp only; omega)
    | exact heq_of_eq (congrArg Tb.act (tl_t (z := Ty.act11.dflt) (by omega) (by assumption))).symm
    | exact heq_of_eq (congrArg Tb.ov (tl_t (z := Ty.act11.dflt) (by omega) (by assumption))).symm
    | exact heq_of_eq (congrArg Tb.act (tl_f (z := Ty.act11.dflt) (by omega) (by assumption))).symm
    | exact heq_of_eq (congrArg Tb.ov (tl_f (z := Ty.act11.dflt) (by omega) (by assumption))).symm
    | exact HEq.rfl
    | (rw [List.take_of_length_le (by omega)]; done)
    | exact rfl
    | skip)
end Go.Proofs.Ytjapmlolgfgbaaa

