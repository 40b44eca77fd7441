/- Layer 24: a world's line, an entry's line. No condition. -/
import Derived.Test.YtpkidbhpfohopaaDoorN7
noncomputable section
namespace Go.Proofs.YtpkidbhpfohopaaDoor
open Go.RowKit
set_option linter.unusedVariables false
set_option linter.unusedSimpArgs false
abbrev hd0 (l : List ByteArray) : ByteArray := l.getD 0 Ty.str.dflt
def wWord : ByteArray := ⟨#[119, 111, 114, 108, 100]⟩
def wOk (l : List ByteArray) : Bool := okNm l 9 && decide (hd0 l = wWord)
def wV (l : List ByteArray) : Cfg := if wOk l = true then ⟨(numV l).getD 0 0, (numV l).getD 1 0, (numV l).getD 2 0, (numV l).getD 3 0, (numV l).getD 4 0, (numV l).getD 5 0, (numV l).getD 6 0, (numV l).getD 7 0, (numV l).getD 8 0⟩ else ⟨0, 0, 0, 0, 0, 0, 0, 0, 0⟩
def kindOf (w : ByteArray) : Nat := if w = ⟨#[111, 112]⟩ then 1 else if w = ⟨#[116, 97, 107, 101]⟩ then 2 else if w = ⟨#[100, 114, 111, 112]⟩ then 3 else if w = ⟨#[116, 105, 99, 107]⟩ then 4 else 0
def eOk (l : List ByteArray) : Bool := okNm l 4 && decide (kindOf (hd0 l) ≠ 0)
def eV (l : List ByteArray) : Ent := if eOk l = true then ⟨kindOf (hd0 l), (numV l).getD 0 0, (numV l).getD 1 0, (numV l).getD 2 0, (numV l).getD 3 0⟩ else ⟨0, 0, 0, 0, 0⟩
theorem tNm_len {l : List ByteArray} {n : Nat} (h : okNm l n = true) : (tNm l n).length = n ∧ 0 < l.length := by
  rw [tNm_t h]
  unfold okNm at h
  simp only [Bool.and_eq_true, decide_eq_true_eq] at h
  unfold numV
  rw [List.length_map, List.length_drop]
  omega
theorem wOk_t {l : List ByteArray} (h : okNm l 9 = true) (h2 : hd0 l = wWord) : wOk l = true := by
  unfold wOk
  rw [h, decide_eq_true h2]
  rfl
theorem wOk_f {l : List ByteArray} (h : okNm l 9 = false ∨ ¬ hd0 l = wWord) : wOk l = false := by
  unfold wOk
  rcases h with h | h
  · rw [h]; rfl
  · rw [decide_eq_false h, Bool.and_false]
theorem wV_t {l : List ByteArray} (h : wOk l = true) : wV l = ⟨(numV l).getD 0 0, (numV l).getD 1 0, (numV l).getD 2 0, (numV l).getD 3 0, (numV l).getD 4 0, (numV l).getD 5 0, (numV l).getD 6 0, (numV l).getD 7 0, (numV l).getD 8 0⟩ := if_pos h
theorem wV_f {l : List ByteArray} (h : wOk l = false) : wV l = ⟨0, 0, 0, 0, 0, 0, 0, 0, 0⟩ := if_neg (by rw [h]; decide)
theorem eOk_t {l : List ByteArray} (h : okNm l 4 = true) (h2 : kindOf (hd0 l) ≠ 0) : eOk l = true := by
  unfold eOk
  rw [h, decide_eq_true h2]
  rfl
theorem eOk_f {l : List ByteArray} (h : okNm l 4 = false ∨ kindOf (hd0 l) = 0) : eOk l = false := by
  unfold eOk
  rcases h with h | h
  · rw [h]; rfl
  · rw [decide_eq_false (fun e => e h), Bool.and_false]
theorem eV_t {l : List ByteArray} (h : eOk l = true) : eV l = ⟨kindOf (hd0 l), (numV l).getD 0 0, (numV l).getD 1 0, (numV l).getD 2 0, (numV l).getD 3 0⟩ := if_pos h
theorem eV_f {l : List ByteArray} (h : eOk l = false) : eV l = ⟨0, 0, 0, 0, 0⟩ := if_neg (by rw [h]; decide)
def cTWorld : Con where
  X := List ByteArray
  args := fun l => [.vsl .str l]
  heap := fun _ => hp0
  pre := fun l => LiOk l
  res := fun l => .tup [.agg (enc .cfg (wV l)), .bool (wOk l)]
  heap' := fun _ => hp0
  pure := true
  find := fun args H => match args with
    | [v] => slS H v
    | _ => none
set_option maxRecDepth 100000 in
set_option maxHeartbeats 4000000 in
theorem cTWorld_ok : cTWorld.Ok Tryd.prog 18 := by
  refine fun_ok (env_ok (Cons.cons cTNums_ok Cons.nil)) mixedP Tryd.func18 (by decide) rfl cTWorld [(4, 27)] (fun _ => rfl) (fun _ _ => ⟨rfl, fun id k h => by cases h⟩) (fun _ => Nat.le_of_ble_eq_true rfl) ?_
  rintro (l : List ByteArray) hp ha hb
  replace hp : LiOk l := hp
  clear ha hb
  all_goals (repeat' (first
    | with_reducible refine iTr ?_
    | with_reducible refine iB ?_
    | intro _
    | exact True.intro
    | (show _ ∧ _
       first
        | refine aTT ?_
        | refine aTB ?_
        | refine aT ?_
        | refine aB ?_
        | refine a11 ?_
        | refine a01 ?_
        | refine a00 ?_
        | refine a10 ?_
        | (with_reducible refine And.intro rfl ?_)
        | refine And.intro ?_ ?_)
    | with_reducible exact rfl
    | with_reducible exact HEq.rfl
    | (show (_ : Option Nat) = _; exact rfl)
    | (show (_ : Option Blk) = _; exact rfl)
    | (with_reducible show (nodupB _ && _ && _ && _ && _) = true; exact (Eq.refl true))
    | (with_reducible show (nodupB _ && _ && _ && _) = true; exact (Eq.refl true))
    | (with_reducible show (nodupB _ && _ && _) = true; exact (Eq.refl true))
    | (with_reducible show freeOk _ _ = true; exact (Eq.refl true))
    | (with_reducible show wrOk _ _ _ _ _ = true; exact (Eq.refl true))
    | (show (_ : AV) = _; exact rfl)
    | (show (_ : ByteArray) = _; with_reducible exact rfl)
    | (show (_ : Heap) = _; exact rfl)
    | (with_reducible show (_ || !_) = true; exact (Eq.refl true))
    | (with_reducible show Nat.beq _ _ = true; exact (Eq.refl true))))
  all_goals (first | (show (_ : Int) = _) | (show (_ : Bool) = _) | (show (_ : ByteArray) = _) | (show HEq _ _) | (show ∃ _ : LInv, _) | skip)
  all_goals (try (with_reducible exact rfl))
  all_goals (try dsimp only at *)
  all_goals (try simp only [Int.reduceToNat, Int.toNat_natCast, cond_true, cond_false, Bool.not_true, Bool.not_false, decide_eq_true_eq, decide_eq_false_iff_not, Bool.not_eq_true', Bool.not_eq_false', bne_iff_ne, ne_eq, bne_eq_false_iff_eq] at *)
  all_goals (try have hT := tNm_len (l := l) (n := 9) (by assumption))
  all_goals (first
    | omega
    | exact rfl
    | exact hp
    | exact (wOk_f (.inl (by assumption))).symm
    | exact (wOk_f (.inr (by assumption))).symm
    | exact (wOk_t (by assumption) (by assumption)).symm
    | (rw [wV_f (wOk_f (.inl (by assumption)))]; done)
    | (rw [wV_f (wOk_f (.inr (by assumption)))]; done)
    | (rw [wV_t (wOk_t (by assumption) (by assumption)), tNm_t (by assumption)]; done)
    | (rw [wV_t (wOk_t (by assumption) (by assumption)), tNm_t (by assumption)]; rfl)
    | skip)
def entT : Nat → List ByteArray → Tmps := fun i l => [(24, AI i), (23, AI (5 : Nat)), (22, .slc 2), (4, .slc 1), (2, .ptr 0 p0), (0, .vsl .str l)]
structure SEn (l : List ByteArray) (i : Nat) : Prop where
  le : i ≤ 5
  no : ∀ j, j < i → ¬ wordL.getD j Ty.str.dflt = hd0 l
theorem sen_1 {l : List ByteArray} {i : Nat} (h : SEn l i) (hi : i < 5) (hn : ¬ wordL.getD i Ty.str.dflt = hd0 l) : SEn l (i + 1) := by
  refine ⟨hi, fun j hj => ?_⟩
  rcases Nat.lt_succ_iff_lt_or_eq.1 hj with hj | rfl
  · exact h.no j hj
  · exact hn
theorem kind_e {l : List ByteArray} (h : hd0 l = ⟨#[]⟩) : kindOf (hd0 l) = 0 := by
  rw [h]
  decide
theorem kind_no {l : List ByteArray} {i : Nat} (h : SEn l i) (hi : 5 ≤ i) : kindOf (hd0 l) = 0 := by
  have h1 := h.no 1 (by omega)
  have h2 := h.no 2 (by omega)
  have h3 := h.no 3 (by omega)
  have h4 := h.no 4 (by omega)
  unfold kindOf
  rw [if_neg (fun e => h1 e.symm), if_neg (fun e => h2 e.symm), if_neg (fun e => h3 e.symm), if_neg (fun e => h4 e.symm)]
theorem kind_at {l : List ByteArray} {i : Nat} (h : SEn l i) (hi : i < 5) (hn : wordL.getD i Ty.str.dflt = hd0 l) (he : ¬ hd0 l = ⟨#[]⟩) : kindOf (hd0 l) = i ∧ kindOf (hd0 l) ≠ 0 := by
  rw [← hn] at he ⊢
  match i, hi with
  | 0, _ => exact absurd rfl he
  | 1, _ => decide
  | 2, _ => decide
  | 3, _ => decide
  | 4, _ => decide
def cTEntry : Con where
  X := List ByteArray
  args := fun l => [.vsl .str l]
  heap := fun _ => hp0
  pre := fun l => LiOk l
  res := fun l => .tup [.agg (enc .ent (eV l)), .bool (eOk l)]
  heap' := fun _ => hp0
  pure := true
  find := fun args H => match args with
    | [v] => slS H v
    | _ => none
set_option maxRecDepth 100000 in
set_option maxHeartbeats 4000000 in
theorem cTEntry_ok : cTEntry.Ok Tryd.prog 20 := by
  refine fun_ok (env_ok (Cons.cons cTNums_ok (Cons.cons cTWords_ok Cons.nil))) mixedP Tryd.func20 (by decide) rfl cTEntry [(8, 13)] (fun _ => rfl) (fun _ _ => ⟨rfl, fun id k h => by cases h⟩) (fun _ => Nat.le_of_ble_eq_true rfl) ?_
  rintro (l : List ByteArray) hp ha hb
  replace hp : LiOk l := hp
  clear ha hb
  all_goals (repeat' (first
    | with_reducible refine iTr ?_
    | with_reducible refine iB ?_
    | intro _
    | exact True.intro
    | (show _ ∧ _
       first
        | refine aTT ?_
        | refine aTB ?_
        | refine aT ?_
        | refine aB ?_
        | refine a11 ?_
        | refine a01 ?_
        | refine a00 ?_
        | refine a10 ?_
        | (with_reducible refine And.intro rfl ?_)
        | refine And.intro ?_ ?_)
    | with_reducible exact rfl
    | with_reducible exact HEq.rfl
    | (show (_ : Option Nat) = _; exact rfl)
    | (show (_ : Option Blk) = _; exact rfl)
    | (with_reducible show (nodupB _ && _ && _ && _ && _) = true; exact (Eq.refl true))
    | (with_reducible show (nodupB _ && _ && _ && _) = true; exact (Eq.refl true))
    | (with_reducible show (nodupB _ && _ && _) = true; exact (Eq.refl true))
    | (with_reducible show freeOk _ _ = true; exact (Eq.refl true))
    | (with_reducible show wrOk _ _ _ _ _ = true; exact (Eq.refl true))
    | (show (_ : AV) = _; exact rfl)
    | (show (_ : ByteArray) = _; with_reducible exact rfl)
    | (show (_ : Heap) = _; exact rfl)
    | (with_reducible show (_ || !_) = true; exact (Eq.refl true))
    | (with_reducible show Nat.beq _ _ = true; exact (Eq.refl true))))
  all_goals (first | (show (_ : Int) = _) | (show (_ : Bool) = _) | (show (_ : ByteArray) = _) | (show HEq _ _) | (show ∃ _ : LInv, _) | skip)
  all_goals (try (with_reducible exact rfl))
  all_goals try (refine ⟨⟨{i : Nat // SEn l i}, fun i => entT i.1 l, fun i => ⟨3, [(2, some (.seq false 9 .str wordL)), (1, some (.seq false 3 .int (tNm l 4))), (0, some (.obj false [AI 0, AI 0, AI 0, AI 0, AI 0]))]⟩, fun i => 5 - i.1⟩, ⟨⟨0, ?_⟩, [], ?_⟩, ?_⟩; rotate_right; rintro ⟨i, hS⟩)
  all_goals (repeat' (first
    | with_reducible refine iTr ?_
    | with_reducible refine iB ?_
    | intro _
    | exact True.intro
    | (show _ ∧ _
       first
        | refine aTT ?_
        | refine aTB ?_
        | refine aT ?_
        | refine aB ?_
        | refine a11 ?_
        | refine a01 ?_
        | refine a00 ?_
        | refine a10 ?_
        | (with_reducible refine And.intro rfl ?_)
        | refine And.intro ?_ ?_)
    | with_reducible exact rfl
    | with_reducible exact HEq.rfl
    | (show (_ : Option Nat) = _; exact rfl)
    | (show (_ : Option Blk) = _; exact rfl)
    | (with_reducible show (nodupB _ && _ && _ && _ && _) = true; exact (Eq.refl true))
    | (with_reducible show (nodupB _ && _ && _ && _) = true; exact (Eq.refl true))
    | (with_reducible show (nodupB _ && _ && _) = true; exact (Eq.refl true))
    | (with_reducible show freeOk _ _ = true; exact (Eq.refl true))
    | (with_reducible show wrOk _ _ _ _ _ = true; exact (Eq.refl true))
    | (show (_ : AV) = _; exact rfl)
    | (show (_ : ByteArray) = _; with_reducible exact rfl)
    | (show (_ : Heap) = _; exact rfl)
    | (with_reducible show (_ || !_) = true; exact (Eq.refl true))
    | (with_reducible show Nat.beq _ _ = true; exact (Eq.refl true))))
  all_goals (first | (show (_ : Int) = _) | (show (_ : Bool) = _) | (show (_ : ByteArray) = _) | (show HEq _ _) | (show ∃ _ : LInv, _) | skip)
  all_goals (try (with_reducible exact rfl))
  all_goals try (refine ⟨⟨(i + 1 : Nat), ?_⟩, ?_, ?_⟩)
  all_goals (repeat' (first
    | with_reducible refine iTr ?_
    | with_reducible refine iB ?_
    | intro _
    | exact True.intro
    | (show _ ∧ _
       first
        | refine aTT ?_
        | refine aTB ?_
        | refine aT ?_
        | refine aB ?_
        | refine a11 ?_
        | refine a01 ?_
        | refine a00 ?_
        | refine a10 ?_
        | (with_reducible refine And.intro rfl ?_)
        | refine And.intro ?_ ?_)
    | with_reducible exact rfl
    | with_reducible exact HEq.rfl
    | (show (_ : Option Nat) = _; exact rfl)
    | (show (_ : Option Blk) = _; exact rfl)
    | (with_reducible show (nodupB _ && _ && _ && _ && _) = true; exact (Eq.refl true))
    | (with_reducible show (nodupB _ && _ && _ && _) = true; exact (Eq.refl true))
    | (with_reducible show (nodupB _ && _ && _) = true; exact (Eq.refl true))
    | (with_reducible show freeOk _ _ = true; exact (Eq.refl true))
    | (with_reducible show wrOk _ _ _ _ _ = true; exact (Eq.refl true))
    | (show (_ : AV) = _; exact rfl)
    | (show (_ : ByteArray) = _; with_reducible exact rfl)
    | (show (_ : Heap) = _; exact rfl)
    | (with_reducible show (_ || !_) = true; exact (Eq.refl true))
    | (with_reducible show Nat.beq _ _ = true; exact (Eq.refl true))))
  all_goals (first | (show (_ : Int) = _) | (show (_ : Bool) = _) | (show (_ : ByteArray) = _) | (show HEq _ _) | (show ∃ _ : LInv, _) | skip)
  all_goals (try (with_reducible exact rfl))
  all_goals (try replace hS : SEn l i := hS)
  all_goals (try dsimp only at *)
  all_goals (try simp only [Int.reduceToNat, Int.toNat_natCast, cond_true, cond_false, Bool.not_true, Bool.not_false, decide_eq_true_eq, decide_eq_false_iff_not, Bool.not_eq_true', Bool.not_eq_false', bne_iff_ne, ne_eq, bne_eq_false_iff_eq] at *)
  all_goals (try have hT := tNm_len (l := l) (n := 4) (by assumption))
  all_goals (try have hS1 := hS.le)
  all_goals (try have hwl : wordL.length = 5 := rfl)
  all_goals (first
    | omega
    | exact rfl
    | exact hp
    | exact HEq.rfl
    | exact (eOk_f (.inl (by assumption))).symm
    | exact (eOk_f (.inr (kind_e (by assumption)))).symm
    | exact (eOk_f (.inr (kind_no hS (by omega)))).symm
    | exact (eOk_t (by assumption) (kind_at hS (by omega) (by assumption) (by assumption)).2).symm
    | (rw [eV_f (eOk_f (.inl (by assumption)))]; done)
    | (rw [eV_f (eOk_f (.inr (kind_e (by assumption))))]; done)
    | (rw [eV_f (eOk_f (.inr (kind_no hS (by omega))))]; done)
    | (rw [eV_t (eOk_t (by assumption) (kind_at hS (by omega) (by assumption) (by assumption)).2), tNm_t (by assumption)]; first | done | rfl)
    | (rw [eV_t (eOk_t (by assumption) (kind_at hS (by omega) (by assumption) (by assumption)).2)]; exact (congrArg _ (kind_at hS (by omega) (by assumption) (by assumption)).1).symm)
    | exact ⟨Nat.zero_le _, fun j hj => absurd hj (Nat.not_lt_zero _)⟩
    | exact sen_1 hS (by omega) (by assumption)
    | exact wrap_succ (by omega)
    | (show 5 - (i + 1) < 5 - i; omega)
    | skip)
  all_goals trace_state
structure SRn (l : List ByteArray) (i : Nat) : Prop where
  le : i ≤ 4
  no : ∀ j, j < i → ¬ wordL.getD (j + 1) Ty.str.dflt = hd0 l
theorem srn_1 {l : List ByteArray} {i : Nat} (h : SRn l i) (hi : i < 4) (hn : ¬ wordL.getD (i + 1) Ty.str.dflt = hd0 l) : SRn l (i + 1) := by
  refine ⟨hi, fun j hj => ?_⟩
  rcases Nat.lt_succ_iff_lt_or_eq.1 hj with hj | rfl
  · exact h.no j hj
  · exact hn
theorem kindr_no {l : List ByteArray} {i : Nat} (h : SRn l i) (hi : 4 ≤ i) : kindOf (hd0 l) = 0 := by
  have h1 := h.no 0 (by omega)
  have h2 := h.no 1 (by omega)
  have h3 := h.no 2 (by omega)
  have h4 := h.no 3 (by omega)
  unfold kindOf
  rw [if_neg (fun e => h1 e.symm), if_neg (fun e => h2 e.symm), if_neg (fun e => h3 e.symm), if_neg (fun e => h4 e.symm)]
theorem kindr_at {l : List ByteArray} {i : Nat} (h : SRn l i) (hi : i < 4) (hn : wordL.getD (i + 1) Ty.str.dflt = hd0 l) : kindOf (hd0 l) = i + 1 ∧ kindOf (hd0 l) ≠ 0 := by
  rw [← hn]
  match i, hi with
  | 0, _ => decide
  | 1, _ => decide
  | 2, _ => decide
  | 3, _ => decide
theorem rNm_eq {l : List ByteArray} {n : Nat} (h : okNm l n = true) : rNm l = numV l := by
  unfold okNm at h
  simp only [Bool.and_eq_true] at h
  exact rnm_t h.2
theorem rNm_len {l : List ByteArray} {n : Nat} (h : okNm l n = true) : (rNm l).length = n ∧ 0 < l.length := by
  rw [rNm_eq h, ← tNm_t h]
  exact tNm_len h
def cREntry : Con where
  X := List ByteArray
  args := fun l => [.vsl .str l]
  heap := fun _ => hp0
  pre := fun l => LiOk l
  res := fun l => .tup [.agg (enc .ent (eV l)), .bool (eOk l)]
  heap' := fun _ => hp0
  pure := true
  find := fun args H => match args with
    | [v] => slS H v
    | _ => none
set_option maxRecDepth 100000 in
set_option maxHeartbeats 4000000 in
theorem cREntry_ok : cREntry.Ok Tryd.prog 23 := by
  refine fun_ok (env_ok (Cons.cons cRNums_ok (Cons.cons cRWords_ok Cons.nil))) mixedP Tryd.func23 (by decide) rfl cREntry [(7, 7), (8, 13), (2000007, 0), (3000007, 1), (3000007, 4), (3000007, 5), (3000007, 6)] (fun _ => rfl) (fun _ _ => ⟨rfl, fun id k h => by cases h⟩) (fun _ => Nat.le_of_ble_eq_true rfl) ?_
  rintro (l : List ByteArray) hp ha hb
  replace hp : LiOk l := hp
  clear ha hb
  all_goals (repeat' (first
    | with_reducible refine iTr ?_
    | with_reducible refine iB ?_
    | intro _
    | exact True.intro
    | (show _ ∧ _
       first
        | refine aTT ?_
        | refine aTB ?_
        | refine aT ?_
        | refine aB ?_
        | refine a11 ?_
        | refine a01 ?_
        | refine a00 ?_
        | refine a10 ?_
        | (with_reducible refine And.intro rfl ?_)
        | refine And.intro ?_ ?_)
    | with_reducible exact rfl
    | with_reducible exact HEq.rfl
    | (show (_ : Option Nat) = _; exact rfl)
    | (show (_ : Option Blk) = _; exact rfl)
    | (with_reducible show (nodupB _ && _ && _ && _ && _) = true; exact (Eq.refl true))
    | (with_reducible show (nodupB _ && _ && _ && _) = true; exact (Eq.refl true))
    | (with_reducible show (nodupB _ && _ && _) = true; exact (Eq.refl true))
    | (with_reducible show freeOk _ _ = true; exact (Eq.refl true))
    | (with_reducible show wrOk _ _ _ _ _ = true; exact (Eq.refl true))
    | (show (_ : AV) = _; exact rfl)
    | (show (_ : ByteArray) = _; with_reducible exact rfl)
    | (show (_ : Heap) = _; exact rfl)
    | (with_reducible show (_ || !_) = true; exact (Eq.refl true))
    | (with_reducible show Nat.beq _ _ = true; exact (Eq.refl true))))
  all_goals (first | (show (_ : Int) = _) | (show (_ : Bool) = _) | (show (_ : ByteArray) = _) | (show HEq _ _) | (show ∃ _ : LInv, _) | skip)
  all_goals (try (with_reducible exact rfl))
  all_goals try (refine ⟨⟨{i : Nat // SRn l i}, fun i => [(6, AI (i.1 + 1 : Nat)), (4, .slc 1), (2, .ptr 0 p0), (0, .vsl .str l)], fun i => ⟨2, [(1, some (.seq false 3 .int (rNm l))), (0, some (.obj false [AI 0, AI 0, AI 0, AI 0, AI 0]))]⟩, fun i => 5 - i.1⟩, ⟨⟨0, ?_⟩, [], ?_⟩, ?_⟩; rotate_right; rintro ⟨i, hS⟩)
  all_goals (repeat' (first
    | with_reducible refine iTr ?_
    | with_reducible refine iB ?_
    | intro _
    | exact True.intro
    | (show _ ∧ _
       first
        | refine aTT ?_
        | refine aTB ?_
        | refine aT ?_
        | refine aB ?_
        | refine a11 ?_
        | refine a01 ?_
        | refine a00 ?_
        | refine a10 ?_
        | (with_reducible refine And.intro rfl ?_)
        | refine And.intro ?_ ?_)
    | with_reducible exact rfl
    | with_reducible exact HEq.rfl
    | (show (_ : Option Nat) = _; exact rfl)
    | (show (_ : Option Blk) = _; exact rfl)
    | (with_reducible show (nodupB _ && _ && _ && _ && _) = true; exact (Eq.refl true))
    | (with_reducible show (nodupB _ && _ && _ && _) = true; exact (Eq.refl true))
    | (with_reducible show (nodupB _ && _ && _) = true; exact (Eq.refl true))
    | (with_reducible show freeOk _ _ = true; exact (Eq.refl true))
    | (with_reducible show wrOk _ _ _ _ _ = true; exact (Eq.refl true))
    | (show (_ : AV) = _; exact rfl)
    | (show (_ : ByteArray) = _; with_reducible exact rfl)
    | (show (_ : Heap) = _; exact rfl)
    | (with_reducible show (_ || !_) = true; exact (Eq.refl true))
    | (with_reducible show Nat.beq _ _ = true; exact (Eq.refl true))))
  all_goals (first | (show (_ : Int) = _) | (show (_ : Bool) = _) | (show (_ : ByteArray) = _) | (show HEq _ _) | (show ∃ _ : LInv, _) | skip)
  all_goals (try (with_reducible exact rfl))
  all_goals try (refine ⟨⟨(i + 1 : Nat), ?_⟩, ?_, ?_⟩)
  all_goals (repeat' (first
    | with_reducible refine iTr ?_
    | with_reducible refine iB ?_
    | intro _
    | exact True.intro
    | (show _ ∧ _
       first
        | refine aTT ?_
        | refine aTB ?_
        | refine aT ?_
        | refine aB ?_
        | refine a11 ?_
        | refine a01 ?_
        | refine a00 ?_
        | refine a10 ?_
        | (with_reducible refine And.intro rfl ?_)
        | refine And.intro ?_ ?_)
    | with_reducible exact rfl
    | with_reducible exact HEq.rfl
    | (show (_ : Option Nat) = _; exact rfl)
    | (show (_ : Option Blk) = _; exact rfl)
    | (with_reducible show (nodupB _ && _ && _ && _ && _) = true; exact (Eq.refl true))
    | (with_reducible show (nodupB _ && _ && _ && _) = true; exact (Eq.refl true))
    | (with_reducible show (nodupB _ && _ && _) = true; exact (Eq.refl true))
    | (with_reducible show freeOk _ _ = true; exact (Eq.refl true))
    | (with_reducible show wrOk _ _ _ _ _ = true; exact (Eq.refl true))
    | (show (_ : AV) = _; exact rfl)
    | (show (_ : ByteArray) = _; with_reducible exact rfl)
    | (show (_ : Heap) = _; exact rfl)
    | (with_reducible show (_ || !_) = true; exact (Eq.refl true))
    | (with_reducible show Nat.beq _ _ = true; exact (Eq.refl true))))
  all_goals (first | (show (_ : Int) = _) | (show (_ : Bool) = _) | (show (_ : ByteArray) = _) | (show HEq _ _) | (show ∃ _ : LInv, _) | skip)
  all_goals (try (with_reducible exact rfl))
  all_goals (try replace hS : SRn l i := hS)
  all_goals (try dsimp only at *)
  all_goals (try simp only [Int.reduceToNat, Int.toNat_natCast, cond_true, cond_false, Bool.not_true, Bool.not_false, decide_eq_true_eq, decide_eq_false_iff_not, Bool.not_eq_true', Bool.not_eq_false', bne_iff_ne, ne_eq, bne_eq_false_iff_eq] at *)
  all_goals (try have hT := rNm_len (l := l) (n := 4) (by assumption))
  all_goals (try have hS1 := hS.le)
  all_goals (try have hwl : wordL.length = 5 := rfl)
  all_goals (first
    | omega
    | exact rfl
    | exact hp
    | exact HEq.rfl
    | exact (eOk_f (.inl (by assumption))).symm
    | exact (eOk_f (.inr (kindr_no hS (by omega)))).symm
    | exact (eOk_t (by assumption) (kindr_at hS (by omega) (by assumption)).2).symm
    | (rw [eV_f (eOk_f (.inl (by assumption)))]; done)
    | (rw [eV_f (eOk_f (.inr (kindr_no hS (by omega))))]; done)
    | (rw [eV_t (eOk_t (by assumption) (kindr_at hS (by omega) (by assumption)).2), rNm_eq (n := 4) (by assumption)]; first | done | rfl)
    | (rw [eV_t (eOk_t (by assumption) (kindr_at hS (by omega) (by assumption)).2)]; exact (congrArg _ (kindr_at hS (by omega) (by assumption)).1).symm)
    | exact ⟨Nat.zero_le _, fun j hj => absurd hj (Nat.not_lt_zero _)⟩
    | exact srn_1 hS (by omega) (by assumption)
    | exact wrap_succ (by omega)
    | skip)
end Go.Proofs.YtpkidbhpfohopaaDoor
