/- TablePlays of layer 11: what it comes to. No condition. -/
import Derived.Test.YtjapmlolgfgbaaaU12
namespace Go.Proofs.Ytjapmlolgfgbaaa
open Go.RowKit
set_option linter.unusedVariables false
set_option linter.unusedSimpArgs false
def stT (t : Tb) (x : Act11) : Tb := if x.kind = 1 then actvT t x.a else if x.kind = 2 then deaT t x.a.block x.a.seq else t
def stOn (on off : List Atv) (x : Act11) : List Atv := if x.kind = 1 then (actT on off x.a).1 else on
def stOff (off : List Atv) (x : Act11) : List Atv := if x.kind = 2 then off ++ [⟨x.a.block, 0, x.a.seq⟩] else off
theorem st_1 {t : Tb} {on off : List Atv} {x : Act11} (h : x.kind = 1) : stT t x = actvT t x.a ∧ stOn on off x = (actT on off x.a).1 ∧ stOff off x = off :=
  ⟨if_pos h, if_pos h, if_neg (by omega)⟩
theorem st_2 {t : Tb} {on off : List Atv} {x : Act11} (h1 : ¬ x.kind = 1) (h : x.kind = 2) : stT t x = deaT t x.a.block x.a.seq ∧ stOn on off x = on ∧ stOff off x = off ++ [⟨x.a.block, 0, x.a.seq⟩] := by
  refine ⟨?_, if_neg h1, if_pos h⟩
  unfold stT
  rw [if_neg h1, if_pos h]
theorem st_3 {t : Tb} {on off : List Atv} {x : Act11} (h1 : ¬ x.kind = 1) (h : ¬ x.kind = 2) : stT t x = t ∧ stOn on off x = on ∧ stOff off x = off := by
  refine ⟨?_, if_neg h1, if_neg h⟩
  unfold stT
  rw [if_neg h1, if_neg h]
structure SPl (l : List Act11) (i : Nat) (t : Tb) (on off : List Atv) : Prop where
  le : i ≤ l.length
  len : TbL t i
  lon : on.length ≤ i
  loff : off.length ≤ i
  rel : RPl t on off
theorem spl_t {l : List Act11} {i : Nat} {t : Tb} {on off : List Atv} {x : Act11} (h : SPl l i t on off) (hi : i < l.length) : SPl l (i + 1) (stT t x) (stOn on off x) (stOff off x) := by
  have h1 := h.lon
  have h2 := h.loff
  by_cases hk1 : x.kind = 1
  · obtain ⟨e1, e2, e3⟩ := st_1 (t := t) (on := on) (off := off) hk1
    rw [e1, e2, e3]
    refine ⟨by omega, tbl_actv h.len _, ?_, by omega, rpl_actv h.rel _⟩
    unfold actT
    split
    · show on.length ≤ _; omega
    · show (on ++ [x.a]).length ≤ _; rw [List.length_append]; show on.length + 1 ≤ _; omega
  · by_cases hk2 : x.kind = 2
    · obtain ⟨e1, e2, e3⟩ := st_2 (t := t) (on := on) (off := off) hk1 hk2
      rw [e1, e2, e3]
      refine ⟨by omega, tbl_dea h.len _ _, by omega, ?_, rpl_dea h.rel _ _⟩
      rw [List.length_append]; show off.length + 1 ≤ _; omega
    · obtain ⟨e1, e2, e3⟩ := st_3 (t := t) (on := on) (off := off) hk1 hk2
      rw [e1, e2, e3]
      exact ⟨by omega, tbl_mono h.len (by omega), by omega, by omega, h.rel⟩
structure PDat where
  i : Nat
  t : Tb
  on : List Atv
  off : List Atv
abbrev pM : AV := .ptr 3 p0
def plH (t : Tb) (on off : List Atv) : Heap := ⟨4, (3, some (.obj false [.vsl .atv on, .vsl .atv off])) :: (tbH false t).l⟩
def cPlay : Con where
  X := List Act11 × Int
  args := fun ⟨l, b⟩ => [.vsl .act11 l, AI b]
  heap := fun _ => hp0
  pre := fun _ => True
  res := fun _ => AB true
  heap' := fun _ => hp0
  pure := true
  find := fun _ _ => none
set_option maxRecDepth 100000 in
set_option maxHeartbeats 16000000 in
theorem cPlay_ok : cPlay.Ok Try.prog 6 := by
  refine fun_ok (env_ok (Cons.cons cawake_ok (Cons.cons cTNew_ok (Cons.cons cTbDea_ok (Cons.cons cTbActv_ok (Cons.cons cTbAct_ok (Cons.cons cTbList_ok (Cons.cons cTbCopy_ok (Cons.cons cTActv_ok (Cons.cons cTDea_ok (Cons.cons cTAct_ok (Cons.cons cTRList_ok (Cons.cons cSameA_ok Cons.nil))))))))))))) mixedP Try.func6 (by decide) rfl cPlay [(11, 7), (1000023, 1), (2000011, 3), (3000011, 4), (3000011, 5), (3000011, 6)] (fun _ => rfl) (fun _ _ => ⟨rfl, fun id k h => by cases h⟩) (fun _ => Nat.le_of_ble_eq_true rfl) ?_
  rintro ⟨l, b⟩ hp ha hb
  clear hp ha hb
  all_goals (repeat' (first
    | with_reducible refine iTr ?_
    | with_reducible refine iB ?_
    | intro _
    | exact True.intro
    | (show _ ∧ _
       first
        | refine aTT ?_
        | refine aTB ?_
        | refine aT ?_
        | refine aB ?_
        | refine a11 ?_
        | refine a01 ?_
        | refine a00 ?_
        | refine a10 ?_
        | (with_reducible refine And.intro rfl ?_)
        | refine And.intro ?_ ?_)
    | with_reducible exact rfl
    | with_reducible exact HEq.rfl
    | (show (_ : Option Nat) = _; exact rfl)
    | (show (_ : Option Blk) = _; exact rfl)
    | (with_reducible show (nodupB _ && _ && _ && _ && _) = true; exact (Eq.refl true))
    | (with_reducible show (nodupB _ && _ && _ && _) = true; exact (Eq.refl true))
    | (with_reducible show (nodupB _ && _ && _) = true; exact (Eq.refl true))
    | (with_reducible show freeOk _ _ = true; exact (Eq.refl true))
    | (with_reducible show wrOk _ _ _ _ _ = true; exact (Eq.refl true))
    | (show (_ : AV) = _; exact rfl)
    | (show (_ : Heap) = _; exact rfl)
    | (with_reducible show (_ || !_) = true; exact (Eq.refl true))
    | (with_reducible show Nat.beq _ _ = true; exact (Eq.refl true))))
  all_goals (first | (show (_ : Int) = _) | (show (_ : Bool) = _) | (show HEq _ _) | (show ∃ _ : LInv, _) | skip)
  all_goals (try (with_reducible exact rfl))
  all_goals try (refine ⟨⟨{d : PDat // SPl l d.i d.t d.on d.off}, fun d => [(29, AI d.1.i), (28, AI l.length), (27, .vsl .act11 l), (5, pT), (6, pM), (1, AI b)], fun d => plH d.1.t d.1.on d.1.off, fun d => l.length - d.1.i⟩, ⟨⟨⟨0, tb0, [], []⟩, ?_⟩, [], ?_⟩, ?_⟩; rotate_right; rintro ⟨⟨i, t, on, off⟩, hS⟩)
  all_goals (repeat' (first
    | with_reducible refine iTr ?_
    | with_reducible refine iB ?_
    | intro _
    | exact True.intro
    | (show _ ∧ _
       first
        | refine aTT ?_
        | refine aTB ?_
        | refine aT ?_
        | refine aB ?_
        | refine a11 ?_
        | refine a01 ?_
        | refine a00 ?_
        | refine a10 ?_
        | (with_reducible refine And.intro rfl ?_)
        | refine And.intro ?_ ?_)
    | with_reducible exact rfl
    | with_reducible exact HEq.rfl
    | (show (_ : Option Nat) = _; exact rfl)
    | (show (_ : Option Blk) = _; exact rfl)
    | (with_reducible show (nodupB _ && _ && _ && _ && _) = true; exact (Eq.refl true))
    | (with_reducible show (nodupB _ && _ && _ && _) = true; exact (Eq.refl true))
    | (with_reducible show (nodupB _ && _ && _) = true; exact (Eq.refl true))
    | (with_reducible show freeOk _ _ = true; exact (Eq.refl true))
    | (with_reducible show wrOk _ _ _ _ _ = true; exact (Eq.refl true))
    | (show (_ : AV) = _; exact rfl)
    | (show (_ : Heap) = _; exact rfl)
    | (with_reducible show (_ || !_) = true; exact (Eq.refl true))
    | (with_reducible show Nat.beq _ _ = true; exact (Eq.refl true))))
  all_goals (first | (show (_ : Int) = _) | (show (_ : Bool) = _) | (show HEq _ _) | (show ∃ _ : LInv, _) | skip)
  all_goals (try (with_reducible exact rfl))
  all_goals try (refine ⟨⟨{d : PDat // SPl l (i + 1) d.t d.on d.off}, fun d => [(29, AI i), (28, AI l.length), (27, .vsl .act11 l), (5, pT), (6, pM), (1, AI b)], fun d => plH d.1.t d.1.on d.1.off, fun _ => 0⟩, ?_, ?_⟩; rotate_right; rintro ⟨⟨j, t2, on2, off2⟩, hJ⟩)
  all_goals (repeat' (first
    | with_reducible refine iTr ?_
    | with_reducible refine iB ?_
    | intro _
    | exact True.intro
    | (show _ ∧ _
       first
        | refine aTT ?_
        | refine aTB ?_
        | refine aT ?_
        | refine aB ?_
        | refine a11 ?_
        | refine a01 ?_
        | refine a00 ?_
        | refine a10 ?_
        | (with_reducible refine And.intro rfl ?_)
        | refine And.intro ?_ ?_)
    | with_reducible exact rfl
    | with_reducible exact HEq.rfl
    | (show (_ : Option Nat) = _; exact rfl)
    | (show (_ : Option Blk) = _; exact rfl)
    | (with_reducible show (nodupB _ && _ && _ && _ && _) = true; exact (Eq.refl true))
    | (with_reducible show (nodupB _ && _ && _ && _) = true; exact (Eq.refl true))
    | (with_reducible show (nodupB _ && _ && _) = true; exact (Eq.refl true))
    | (with_reducible show freeOk _ _ = true; exact (Eq.refl true))
    | (with_reducible show wrOk _ _ _ _ _ = true; exact (Eq.refl true))
    | (show (_ : AV) = _; exact rfl)
    | (show (_ : Heap) = _; exact rfl)
    | (with_reducible show (_ || !_) = true; exact (Eq.refl true))
    | (with_reducible show Nat.beq _ _ = true; exact (Eq.refl true))))
  all_goals (first | (show (_ : Int) = _) | (show (_ : Bool) = _) | (show HEq _ _) | (show ∃ _ : LInv, _) | skip)
  all_goals (try (with_reducible exact rfl))
  all_goals try (refine ⟨⟨⟨0, stT t (l.getD i Ty.act11.dflt), stOn on off (l.getD i Ty.act11.dflt), stOff off (l.getD i Ty.act11.dflt)⟩, ?_⟩, [], ?_⟩)
  all_goals (repeat' (first
    | with_reducible refine iTr ?_
    | with_reducible refine iB ?_
    | intro _
    | exact True.intro
    | (show _ ∧ _
       first
        | refine aTT ?_
        | refine aTB ?_
        | refine aT ?_
        | refine aB ?_
        | refine a11 ?_
        | refine a01 ?_
        | refine a00 ?_
        | refine a10 ?_
        | (with_reducible refine And.intro rfl ?_)
        | refine And.intro ?_ ?_)
    | with_reducible exact rfl
    | with_reducible exact HEq.rfl
    | (show (_ : Option Nat) = _; exact rfl)
    | (show (_ : Option Blk) = _; exact rfl)
    | (with_reducible show (nodupB _ && _ && _ && _ && _) = true; exact (Eq.refl true))
    | (with_reducible show (nodupB _ && _ && _ && _) = true; exact (Eq.refl true))
    | (with_reducible show (nodupB _ && _ && _) = true; exact (Eq.refl true))
    | (with_reducible show freeOk _ _ = true; exact (Eq.refl true))
    | (with_reducible show wrOk _ _ _ _ _ = true; exact (Eq.refl true))
    | (show (_ : AV) = _; exact rfl)
    | (show (_ : Heap) = _; exact rfl)
    | (with_reducible show (_ || !_) = true; exact (Eq.refl true))
    | (with_reducible show Nat.beq _ _ = true; exact (Eq.refl true))))
  all_goals (first | (show (_ : Int) = _) | (show (_ : Bool) = _) | (show HEq _ _) | (show ∃ _ : LInv, _) | skip)
  all_goals (try (with_reducible exact rfl))
  all_goals try (refine ⟨⟨⟨(i + 1 : Nat), t2, on2, off2⟩, ?_⟩, ?_, ?_⟩)
  all_goals (repeat' (first
    | with_reducible refine iTr ?_
    | with_reducible refine iB ?_
    | intro _
    | exact True.intro
    | (show _ ∧ _
       first
        | refine aTT ?_
        | refine aTB ?_
        | refine aT ?_
        | refine aB ?_
        | refine a11 ?_
        | refine a01 ?_
        | refine a00 ?_
        | refine a10 ?_
        | (with_reducible refine And.intro rfl ?_)
        | refine And.intro ?_ ?_)
    | with_reducible exact rfl
    | with_reducible exact HEq.rfl
    | (show (_ : Option Nat) = _; exact rfl)
    | (show (_ : Option Blk) = _; exact rfl)
    | (with_reducible show (nodupB _ && _ && _ && _ && _) = true; exact (Eq.refl true))
    | (with_reducible show (nodupB _ && _ && _ && _) = true; exact (Eq.refl true))
    | (with_reducible show (nodupB _ && _ && _) = true; exact (Eq.refl true))
    | (with_reducible show freeOk _ _ = true; exact (Eq.refl true))
    | (with_reducible show wrOk _ _ _ _ _ = true; exact (Eq.refl true))
    | (show (_ : AV) = _; exact rfl)
    | (show (_ : Heap) = _; exact rfl)
    | (with_reducible show (_ || !_) = true; exact (Eq.refl true))
    | (with_reducible show Nat.beq _ _ = true; exact (Eq.refl true))))
  all_goals (first | (show (_ : Int) = _) | (show (_ : Bool) = _) | (show HEq _ _) | (show ∃ _ : LInv, _) | skip)
  all_goals (try (with_reducible exact rfl))
  all_goals (try dsimp only at *)
  all_goals (try replace hS : SPl l i t on off := hS)
  all_goals (try replace hJ : SPl l (i + 1) t2 on2 off2 := hJ)
  all_goals (try have hl1 := hS.le)
  all_goals (try have hl2 := hS.len.act; have hl3 := hS.len.ov; have hl4 := hS.lon; have hl5 := hS.loff)
  all_goals (try have hm1 := hJ.le; have hm2 := hJ.len.act; have hm3 := hJ.len.ov; have hm4 := hJ.lon; have hm5 := hJ.loff)
  all_goals (try simp only [tb_eta, atv_eta] at *)
  all_goals (try simp only [Int.toNat_natCast, decide_eq_true_eq, decide_eq_false_iff_not, beq_iff_eq, beq_eq_false_iff_ne, bne_iff_ne, ne_eq, cond_true, cond_false, Bool.not_true, Bool.not_false, Bool.not_eq_true', Bool.not_eq_false'] at *)
  all_goals (first
    | omega
    | exact HEq.rfl
    | exact rfl
    | assumption
    | exact spl_t hS (by omega)
    | exact wrap_succ (by omega)
    | (show List.length _ < _; (try dsimp only); omega)
    | (show List.length _ ≤ _; (try dsimp only); omega)
    | exact heq_of_eq (congrArg Tb.act (st_1 (on := on) (off := off) (by assumption)).1).symm
    | exact heq_of_eq (congrArg Tb.ov (st_1 (on := on) (off := off) (by assumption)).1).symm
    | exact heq_of_eq (st_1 (t := t) (on := on) (off := off) (by assumption)).2.1.symm
    | exact heq_of_eq (st_1 (t := t) (on := on) (off := off) (by assumption)).2.2.symm
    | exact heq_of_eq (congrArg Tb.act (st_2 (on := on) (off := off) (by assumption) (by assumption)).1).symm
    | exact heq_of_eq (congrArg Tb.ov (st_2 (on := on) (off := off) (by assumption) (by assumption)).1).symm
    | exact heq_of_eq (st_2 (t := t) (on := on) (off := off) (by assumption) (by assumption)).2.1.symm
    | exact heq_of_eq (st_2 (t := t) (on := on) (off := off) (by assumption) (by assumption)).2.2.symm
    | exact heq_of_eq (congrArg Tb.act (st_3 (on := on) (off := off) (by assumption) (by assumption)).1).symm
    | exact heq_of_eq (congrArg Tb.ov (st_3 (on := on) (off := off) (by assumption) (by assumption)).1).symm
    | exact heq_of_eq (st_3 (t := t) (on := on) (off := off) (by assumption) (by assumption)).2.1.symm
    | exact heq_of_eq (st_3 (t := t) (on := on) (off := off) (by assumption) (by assumption)).2.2.symm
    | exact ⟨Nat.zero_le _, tbl0, Nat.zero_le _, Nat.zero_le _, rpl0⟩
    | skip)
  all_goals (first
    | (have hd := (tbl_dea hS.len b 1099511627776).act; show List.length _ < _; (try dsimp only); omega)
    | (exfalso; have e1 := rpl_ok hS.rel (l.getD i Ty.act11.dflt).a; exact absurd e1 (by assumption))
    | (exfalso; have e1 := rpl_bs hJ.rel b; have e2 := rpl_some hJ.rel b; have e3 := rpl_list hJ.rel; first | exact absurd e2 (by assumption) | exact absurd e3 (by assumption) | (simp only [e1, beq_self_eq_true, Bool.and_self] at *; simp at *; done))
    | skip)
end Go.Proofs.Ytjapmlolgfgbaaa

