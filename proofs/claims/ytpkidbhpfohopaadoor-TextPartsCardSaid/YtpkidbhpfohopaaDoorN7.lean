/- Layer 24: the numbers of a line, in both. No condition. -/
import Derived.Test.YtpkidbhpfohopaaDoorN6
noncomputable section
namespace Go.Proofs.YtpkidbhpfohopaaDoor
open Go.RowKit
set_option linter.unusedVariables false
set_option linter.unusedSimpArgs false
def numOk (l : List ByteArray) : Bool := (l.drop 1).all nuO
def numV (l : List ByteArray) : List Int := (l.drop 1).map nuV
def okNm (l : List ByteArray) (n : Nat) : Bool := decide (l.length = n + 1) && numOk l
def tNm (l : List ByteArray) (n : Nat) : List Int := if okNm l n = true then numV l else []
def rNm (l : List ByteArray) : List Int := if numOk l = true then numV l else []
structure LiOk (l : List ByteArray) : Prop where
  len : l.length ≤ 100001
  mem : ∀ x ∈ l, x.size ≤ 100000
def cTNums : Con where
  X := List ByteArray × Nat
  args := fun x => [.vsl .str x.1, AI x.2]
  heap := fun _ => hp0
  pre := fun x => LiOk x.1 ∧ x.2 ≤ 100
  res := fun x => .tup [.slc 0, .bool (okNm x.1 x.2)]
  heap' := fun x => ⟨1, [(0, some (.seq false 3 .int (tNm x.1 x.2)))]⟩
  pure := false
  find := fun args H => match args with
    | [v, .int _ k] => match slS H v with
      | some l => some (l, k.toNat)
      | none => none
    | _ => none
structure SNm (l : List ByteArray) (i : Nat) : Prop where
  le : i ≤ (l.drop 1).length
  ok : ∀ x ∈ (l.drop 1).take i, nuO x = true
theorem snm_0 (l : List ByteArray) : SNm l 0 := ⟨Nat.zero_le _, fun x hx => by simp at hx⟩
theorem getD_mem {l : List ByteArray} {i : Nat} (h : i < l.length) : l.getD i Ty.str.dflt ∈ l := by
  rw [List.getD_eq_getElem?_getD, List.getElem?_eq_getElem h]
  exact List.getElem_mem h
theorem snm_1 {l : List ByteArray} {i : Nat} (h : SNm l i) (hi : i < (l.drop 1).length) (hn : nuO ((l.drop 1).getD i Ty.str.dflt) = true) : SNm l (i + 1) := by
  refine ⟨hi, fun x hx => ?_⟩
  rw [List.take_add_one, List.getElem?_eq_getElem hi] at hx
  rcases List.mem_append.1 hx with hx | hx
  · exact h.ok x hx
  · simp only [Option.toList_some, List.mem_singleton] at hx
    rw [List.getD_eq_getElem?_getD, List.getElem?_eq_getElem hi] at hn
    rw [hx]
    exact hn
theorem snm_all {l : List ByteArray} {i : Nat} (h : SNm l i) (hi : (l.drop 1).length ≤ i) : numOk l = true := by
  unfold numOk
  rw [List.all_eq_true]
  intro x hx
  exact h.ok x (by rwa [List.take_of_length_le hi])
theorem snm_bad {l : List ByteArray} {i : Nat} (hn : nuO ((l.drop 1).getD i Ty.str.dflt) = false) (hi : i < (l.drop 1).length) : numOk l = false := by
  unfold numOk
  rw [List.all_eq_false]
  exact ⟨_, getD_mem hi, by rw [hn]; decide⟩
theorem numV_step {l : List ByteArray} {i : Nat} (h : i < (l.drop 1).length) : (numV l).take (i + 1) = (numV l).take i ++ [nuV ((l.drop 1).getD i Ty.str.dflt)] := by
  unfold numV
  rw [List.take_add_one, List.getElem?_map, List.getElem?_eq_getElem h, List.getD_eq_getElem?_getD, List.getElem?_eq_getElem h]
  rfl
theorem okNm_t {l : List ByteArray} {n : Nat} (h : l.length = n + 1) (h2 : numOk l = true) : okNm l n = true := by
  unfold okNm
  rw [h2, decide_eq_true h]
  rfl
theorem okNm_f {l : List ByteArray} {n : Nat} (h : ¬ l.length = n + 1 ∨ numOk l = false) : okNm l n = false := by
  unfold okNm
  rcases h with h | h
  · rw [decide_eq_false h]; rfl
  · rw [h, Bool.and_false]
theorem tNm_t {l : List ByteArray} {n : Nat} (h : okNm l n = true) : tNm l n = numV l := if_pos h
theorem tNm_f {l : List ByteArray} {n : Nat} (h : okNm l n = false) : tNm l n = [] := if_neg (by rw [h]; decide)
def tnT (l : List ByteArray) : Nat → Tmps
  | 0 => [(19, AI (0 : Nat)), (18, AI ((l.drop 1).length : Nat)), (17, .vsl .str (l.drop 1)), (6, .nils)]
  | i + 1 => [(19, AI (i + 1 : Nat)), (18, AI ((l.drop 1).length : Nat)), (17, .vsl .str (l.drop 1)), (6, .slc 0)]
def tnH (l : List ByteArray) : Nat → Heap
  | 0 => hp0
  | i + 1 => ⟨1, [(0, some (.seq false 3 .int ((numV l).take (i + 1))))]⟩
set_option maxRecDepth 100000 in
set_option maxHeartbeats 4000000 in
theorem cTNums_ok : cTNums.Ok Tryd.prog 33 := by
  refine fun_ok (env_ok (Cons.cons cTNum_ok Cons.nil)) mixedP Tryd.func33 (by decide) rfl cTNums [] (fun _ => rfl) (fun h => by cases h) (fun _ => Nat.le_of_ble_eq_true rfl) ?_
  rintro ⟨l, n⟩ hp ha hb
  replace hp : LiOk l ∧ n ≤ 100 := hp
  clear ha hb
  obtain ⟨⟨hl, hm⟩, hn⟩ := hp
  have hw : IntKind.i64.wrap (↑n + 1) = ((n + 1 : Nat) : Int) := wrap_succ (by omega)
  all_goals (repeat' (first
    | with_reducible refine iTr ?_
    | with_reducible refine iB ?_
    | intro _
    | exact True.intro
    | (show _ ∧ _
       first
        | refine aTT ?_
        | refine aTB ?_
        | refine aT ?_
        | refine aB ?_
        | refine a11 ?_
        | refine a01 ?_
        | refine a00 ?_
        | refine a10 ?_
        | (with_reducible refine And.intro rfl ?_)
        | refine And.intro ?_ ?_)
    | with_reducible exact rfl
    | with_reducible exact HEq.rfl
    | (show (_ : Option Nat) = _; exact rfl)
    | (show (_ : Option Blk) = _; exact rfl)
    | (with_reducible show (nodupB _ && _ && _ && _ && _) = true; exact (Eq.refl true))
    | (with_reducible show (nodupB _ && _ && _ && _) = true; exact (Eq.refl true))
    | (with_reducible show (nodupB _ && _ && _) = true; exact (Eq.refl true))
    | (with_reducible show freeOk _ _ = true; exact (Eq.refl true))
    | (with_reducible show wrOk _ _ _ _ _ = true; exact (Eq.refl true))
    | (show (_ : AV) = _; exact rfl)
    | (show (_ : ByteArray) = _; with_reducible exact rfl)
    | (show (_ : Heap) = _; exact rfl)
    | (with_reducible show (_ || !_) = true; exact (Eq.refl true))
    | (with_reducible show Nat.beq _ _ = true; exact (Eq.refl true))))
  all_goals (first | (show (_ : Int) = _) | (show (_ : Bool) = _) | (show (_ : ByteArray) = _) | (show HEq _ _) | (show ∃ _ : LInv, _) | skip)
  all_goals (try (with_reducible exact rfl))
  all_goals try (refine ⟨⟨{i : Nat // SNm l i}, fun i => tnT l i.1, fun i => tnH l i.1, fun i => l.length - i.1⟩, ⟨⟨0, ?_⟩, [], ?_⟩, ?_⟩; rotate_right; rintro ⟨_ | i, hS⟩)
  all_goals (repeat' (first
    | with_reducible refine iTr ?_
    | with_reducible refine iB ?_
    | intro _
    | exact True.intro
    | (show _ ∧ _
       first
        | refine aTT ?_
        | refine aTB ?_
        | refine aT ?_
        | refine aB ?_
        | refine a11 ?_
        | refine a01 ?_
        | refine a00 ?_
        | refine a10 ?_
        | (with_reducible refine And.intro rfl ?_)
        | refine And.intro ?_ ?_)
    | with_reducible exact rfl
    | with_reducible exact HEq.rfl
    | (show (_ : Option Nat) = _; exact rfl)
    | (show (_ : Option Blk) = _; exact rfl)
    | (with_reducible show (nodupB _ && _ && _ && _ && _) = true; exact (Eq.refl true))
    | (with_reducible show (nodupB _ && _ && _ && _) = true; exact (Eq.refl true))
    | (with_reducible show (nodupB _ && _ && _) = true; exact (Eq.refl true))
    | (with_reducible show freeOk _ _ = true; exact (Eq.refl true))
    | (with_reducible show wrOk _ _ _ _ _ = true; exact (Eq.refl true))
    | (show (_ : AV) = _; exact rfl)
    | (show (_ : ByteArray) = _; with_reducible exact rfl)
    | (show (_ : Heap) = _; exact rfl)
    | (with_reducible show (_ || !_) = true; exact (Eq.refl true))
    | (with_reducible show Nat.beq _ _ = true; exact (Eq.refl true))))
  all_goals (first | (show (_ : Int) = _) | (show (_ : Bool) = _) | (show (_ : ByteArray) = _) | (show HEq _ _) | (show ∃ _ : LInv, _) | skip)
  all_goals (try (with_reducible exact rfl))
  all_goals try (first | refine ⟨⟨(i + 2 : Nat), ?_⟩, ?_, ?_⟩ | refine ⟨⟨(1 : Nat), ?_⟩, ?_, ?_⟩)
  all_goals (repeat' (first
    | with_reducible refine iTr ?_
    | with_reducible refine iB ?_
    | intro _
    | exact True.intro
    | (show _ ∧ _
       first
        | refine aTT ?_
        | refine aTB ?_
        | refine aT ?_
        | refine aB ?_
        | refine a11 ?_
        | refine a01 ?_
        | refine a00 ?_
        | refine a10 ?_
        | (with_reducible refine And.intro rfl ?_)
        | refine And.intro ?_ ?_)
    | with_reducible exact rfl
    | with_reducible exact HEq.rfl
    | (show (_ : Option Nat) = _; exact rfl)
    | (show (_ : Option Blk) = _; exact rfl)
    | (with_reducible show (nodupB _ && _ && _ && _ && _) = true; exact (Eq.refl true))
    | (with_reducible show (nodupB _ && _ && _ && _) = true; exact (Eq.refl true))
    | (with_reducible show (nodupB _ && _ && _) = true; exact (Eq.refl true))
    | (with_reducible show freeOk _ _ = true; exact (Eq.refl true))
    | (with_reducible show wrOk _ _ _ _ _ = true; exact (Eq.refl true))
    | (show (_ : AV) = _; exact rfl)
    | (show (_ : ByteArray) = _; with_reducible exact rfl)
    | (show (_ : Heap) = _; exact rfl)
    | (with_reducible show (_ || !_) = true; exact (Eq.refl true))
    | (with_reducible show Nat.beq _ _ = true; exact (Eq.refl true))))
  all_goals (first | (show (_ : Int) = _) | (show (_ : Bool) = _) | (show (_ : ByteArray) = _) | (show HEq _ _) | (show ∃ _ : LInv, _) | skip)
  all_goals (try (with_reducible exact rfl))
  all_goals (try have hd : (l.drop 1).length = l.length - 1 := List.length_drop)
  all_goals (try have hS1 := hS.le)
  all_goals (try replace hS : SNm l (i + 1) := hS)
  all_goals (try simp only [hw] at *)
  all_goals (try simp only [Int.toNat_natCast, decide_eq_true_eq, decide_eq_false_iff_not, Int.toNat_one, Bool.not_eq_true', Bool.not_eq_false', bne_iff_ne, ne_eq, bne_eq_false_iff_eq] at *)
  all_goals (first
    | omega
    | exact HEq.rfl
    | exact snm_0 l
    | exact snm_1 hS (by omega) (by assumption)
    | exact snm_1 (snm_0 l) (by omega) (by assumption)
    | exact (okNm_f (.inl (by omega))).symm
    | exact (okNm_f (.inr (snm_bad (by assumption) (by omega)))).symm
    | exact (okNm_t (by omega) (snm_all hS (by omega))).symm
    | exact (okNm_t (by omega) (snm_all (snm_0 l) (by omega))).symm
    | exact heq_of_eq (tNm_f (okNm_f (.inl (by omega)))).symm
    | exact heq_of_eq (tNm_f (okNm_f (.inr (snm_bad (by assumption) (by omega))))).symm
    | exact wrap_succ (by omega)
    | exact hm _ (List.mem_of_mem_drop (getD_mem (by omega)))
    | (show l.length - _ < l.length - _; omega)
    | exact heq_of_eq (numV_step (by omega)).symm
    | exact heq_of_eq ((tNm_t (okNm_t (by omega) (snm_all hS (by omega)))).trans (List.take_of_length_le (by unfold numV; rw [List.length_map]; omega)).symm).symm
    | (refine heq_of_eq (Eq.trans ?_ (numV_step (i := 0) (by omega)).symm); rw [List.take_zero]; rfl)
    | exact heq_of_eq ((tNm_t (okNm_t (by omega) (snm_all hS (by omega)))).trans (List.eq_nil_of_length_eq_zero (by unfold numV; rw [List.length_map]; omega))).symm
    | (show 1 * 8 ≤ _; omega)
    | (show ((List.take _ _).length + 1) * 8 ≤ _; rw [List.length_take]; unfold numV; rw [List.length_map]; omega)
    | skip)
theorem rnm_t {l : List ByteArray} (h : numOk l = true) : rNm l = numV l := if_pos h
theorem rnm_f {l : List ByteArray} (h : numOk l = false) : rNm l = [] := if_neg (by rw [h]; decide)
def cRNums : Con where
  X := List ByteArray × Nat
  args := fun x => [.vsl .str x.1, AI x.2]
  heap := fun _ => hp0
  pre := fun x => LiOk x.1 ∧ 0 < x.2 ∧ x.2 ≤ 100
  res := fun x => .tup [.slc 0, .bool (okNm x.1 x.2)]
  heap' := fun x => ⟨1, [(0, some (.seq false 3 .int (rNm x.1)))]⟩
  pure := false
  find := fun args H => match args with
    | [v, .int _ k] => match slS H v with
      | some l => some (l, k.toNat)
      | none => none
    | _ => none
theorem rnV_step {l : List ByteArray} {i : Nat} (h : i + 1 < l.length) (hn : nuO (l.getD (i + 1) Ty.str.dflt) = true) : (numV l).take (i + 1) = (numV l).take i ++ [rnV (l.getD (i + 1) Ty.str.dflt)] := by
  have e : (l.drop 1).getD i Ty.str.dflt = l.getD (i + 1) Ty.str.dflt := by
    rw [List.getD_eq_getElem?_getD, List.getD_eq_getElem?_getD, List.getElem?_drop]
    congr 2
    omega
  rw [numV_step (by rw [List.length_drop]; omega), e, rnV_eq hn]
theorem snr_1 {l : List ByteArray} {i : Nat} (h : SNm l i) (hn : nuO (l.getD (i + 1) Ty.str.dflt) = true) (hi : i + 1 < l.length) : SNm l (i + 1) := by
  have e : (l.drop 1).getD i Ty.str.dflt = l.getD (i + 1) Ty.str.dflt := by
    rw [List.getD_eq_getElem?_getD, List.getD_eq_getElem?_getD, List.getElem?_drop]
    congr 2
    omega
  exact snm_1 h (by rw [List.length_drop]; omega) (by rw [e]; exact hn)
theorem snr_bad {l : List ByteArray} {i : Nat} (hn : nuO (l.getD (i + 1) Ty.str.dflt) = false) (hi : i + 1 < l.length) : numOk l = false := by
  have e : (l.drop 1).getD i Ty.str.dflt = l.getD (i + 1) Ty.str.dflt := by
    rw [List.getD_eq_getElem?_getD, List.getD_eq_getElem?_getD, List.getElem?_drop]
    congr 2
    omega
  exact snm_bad (i := i) (by rw [e]; exact hn) (by rw [List.length_drop]; omega)
set_option maxRecDepth 100000 in
set_option maxHeartbeats 4000000 in
theorem cRNums_ok : cRNums.Ok Tryd.prog 22 := by
  refine fun_ok (env_ok (Cons.cons cRNum_ok Cons.nil)) mixedP Tryd.func22 (by decide) rfl cRNums [] (fun _ => rfl) (fun h => by cases h) (fun _ => Nat.le_of_ble_eq_true rfl) ?_
  rintro ⟨l, n⟩ hp ha hb
  replace hp : LiOk l ∧ 0 < n ∧ n ≤ 100 := hp
  clear ha hb
  obtain ⟨⟨hl, hm⟩, hn0, hn⟩ := hp
  have hw : IntKind.i64.wrap (↑n + 1) = ((n + 1 : Nat) : Int) := wrap_succ (by omega)
  all_goals (repeat' (first
    | with_reducible refine iTr ?_
    | with_reducible refine iB ?_
    | intro _
    | exact True.intro
    | (show _ ∧ _
       first
        | refine aTT ?_
        | refine aTB ?_
        | refine aT ?_
        | refine aB ?_
        | refine a11 ?_
        | refine a01 ?_
        | refine a00 ?_
        | refine a10 ?_
        | (with_reducible refine And.intro rfl ?_)
        | refine And.intro ?_ ?_)
    | with_reducible exact rfl
    | with_reducible exact HEq.rfl
    | (show (_ : Option Nat) = _; exact rfl)
    | (show (_ : Option Blk) = _; exact rfl)
    | (with_reducible show (nodupB _ && _ && _ && _ && _) = true; exact (Eq.refl true))
    | (with_reducible show (nodupB _ && _ && _ && _) = true; exact (Eq.refl true))
    | (with_reducible show (nodupB _ && _ && _) = true; exact (Eq.refl true))
    | (with_reducible show freeOk _ _ = true; exact (Eq.refl true))
    | (with_reducible show wrOk _ _ _ _ _ = true; exact (Eq.refl true))
    | (show (_ : AV) = _; exact rfl)
    | (show (_ : ByteArray) = _; with_reducible exact rfl)
    | (show (_ : Heap) = _; exact rfl)
    | (with_reducible show (_ || !_) = true; exact (Eq.refl true))
    | (with_reducible show Nat.beq _ _ = true; exact (Eq.refl true))))
  all_goals (first | (show (_ : Int) = _) | (show (_ : Bool) = _) | (show (_ : ByteArray) = _) | (show HEq _ _) | (show ∃ _ : LInv, _) | skip)
  all_goals (try (with_reducible exact rfl))
  all_goals try (refine ⟨⟨{i : Nat // SNm l i}, fun i => [(7, AI (i.1 + 1 : Nat)), (6, .slc 0), (0, .vsl .str l), (1, AI n)], fun i => ⟨1, [(0, some (.seq false 3 .int ((numV l).take i.1)))]⟩, fun i => l.length - i.1⟩, ⟨⟨0, ?_⟩, [], ?_⟩, ?_⟩; rotate_right; rintro ⟨i, hS⟩)
  all_goals (repeat' (first
    | with_reducible refine iTr ?_
    | with_reducible refine iB ?_
    | intro _
    | exact True.intro
    | (show _ ∧ _
       first
        | refine aTT ?_
        | refine aTB ?_
        | refine aT ?_
        | refine aB ?_
        | refine a11 ?_
        | refine a01 ?_
        | refine a00 ?_
        | refine a10 ?_
        | (with_reducible refine And.intro rfl ?_)
        | refine And.intro ?_ ?_)
    | with_reducible exact rfl
    | with_reducible exact HEq.rfl
    | (show (_ : Option Nat) = _; exact rfl)
    | (show (_ : Option Blk) = _; exact rfl)
    | (with_reducible show (nodupB _ && _ && _ && _ && _) = true; exact (Eq.refl true))
    | (with_reducible show (nodupB _ && _ && _ && _) = true; exact (Eq.refl true))
    | (with_reducible show (nodupB _ && _ && _) = true; exact (Eq.refl true))
    | (with_reducible show freeOk _ _ = true; exact (Eq.refl true))
    | (with_reducible show wrOk _ _ _ _ _ = true; exact (Eq.refl true))
    | (show (_ : AV) = _; exact rfl)
    | (show (_ : ByteArray) = _; with_reducible exact rfl)
    | (show (_ : Heap) = _; exact rfl)
    | (with_reducible show (_ || !_) = true; exact (Eq.refl true))
    | (with_reducible show Nat.beq _ _ = true; exact (Eq.refl true))))
  all_goals (first | (show (_ : Int) = _) | (show (_ : Bool) = _) | (show (_ : ByteArray) = _) | (show HEq _ _) | (show ∃ _ : LInv, _) | skip)
  all_goals (try (with_reducible exact rfl))
  all_goals try (refine ⟨⟨(i + 1 : Nat), ?_⟩, ?_, ?_⟩)
  all_goals (repeat' (first
    | with_reducible refine iTr ?_
    | with_reducible refine iB ?_
    | intro _
    | exact True.intro
    | (show _ ∧ _
       first
        | refine aTT ?_
        | refine aTB ?_
        | refine aT ?_
        | refine aB ?_
        | refine a11 ?_
        | refine a01 ?_
        | refine a00 ?_
        | refine a10 ?_
        | (with_reducible refine And.intro rfl ?_)
        | refine And.intro ?_ ?_)
    | with_reducible exact rfl
    | with_reducible exact HEq.rfl
    | (show (_ : Option Nat) = _; exact rfl)
    | (show (_ : Option Blk) = _; exact rfl)
    | (with_reducible show (nodupB _ && _ && _ && _ && _) = true; exact (Eq.refl true))
    | (with_reducible show (nodupB _ && _ && _ && _) = true; exact (Eq.refl true))
    | (with_reducible show (nodupB _ && _ && _) = true; exact (Eq.refl true))
    | (with_reducible show freeOk _ _ = true; exact (Eq.refl true))
    | (with_reducible show wrOk _ _ _ _ _ = true; exact (Eq.refl true))
    | (show (_ : AV) = _; exact rfl)
    | (show (_ : ByteArray) = _; with_reducible exact rfl)
    | (show (_ : Heap) = _; exact rfl)
    | (with_reducible show (_ || !_) = true; exact (Eq.refl true))
    | (with_reducible show Nat.beq _ _ = true; exact (Eq.refl true))))
  all_goals (first | (show (_ : Int) = _) | (show (_ : Bool) = _) | (show (_ : ByteArray) = _) | (show HEq _ _) | (show ∃ _ : LInv, _) | skip)
  all_goals (try (with_reducible exact rfl))
  all_goals (try have hd : (l.drop 1).length = l.length - 1 := List.length_drop)
  all_goals (try have hS1 := hS.le)
  all_goals (try dsimp only at *)
  all_goals (try simp only [hw, rnO_eq] at *)
  all_goals (try simp only [Int.toNat_natCast, decide_eq_true_eq, decide_eq_false_iff_not, Int.toNat_one, Bool.not_eq_true', Bool.not_eq_false', bne_iff_ne, ne_eq, bne_eq_false_iff_eq, beq_iff_eq, beq_eq_false_iff_ne, Bool.not_true, Bool.not_false] at *)
  all_goals (try have hv : (numV l).length = l.length - 1 := by unfold numV; rw [List.length_map]; exact hd)
  all_goals (try have ht : ((numV l).take i).length = min i (l.length - 1) := by rw [List.length_take, hv])
  all_goals (first
    | omega
    | exact HEq.rfl
    | exact snm_0 l
    | exact snr_1 hS (by assumption) (by omega)
    | exact (okNm_f (.inr (snr_bad (by assumption) (by omega)))).symm
    | exact (okNm_f (.inl (by omega))).symm
    | exact heq_of_eq (rnm_f (snr_bad (by assumption) (by omega))).symm
    | exact wrap_succ (by omega)
    | exact hm _ (getD_mem (by omega))
    | exact heq_of_eq (rnV_step (by omega) (by assumption)).symm
    | exact heq_of_eq ((rnm_t (snm_all hS (by omega))).trans (List.take_of_length_le (by omega)).symm).symm
    | (show (((l.length : Nat) : Int) == ((n + 1 : Nat) : Int)) = (decide (l.length = n + 1) && numOk l)
       rw [snm_all hS (by omega), Bool.and_true]
       by_cases h : l.length = n + 1
       · rw [h, decide_eq_true rfl, beq_self_eq_true]
       · rw [decide_eq_false h]
         exact beq_eq_false_iff_ne.2 (by omega))
    | (show ((List.take _ _).length + 1) * 8 ≤ _; omega)
    | skip)
end Go.Proofs.YtpkidbhpfohopaaDoor
