/- TableBlocks of layer 11: what it comes to. No condition. -/
import Derived.Test.YtjapmlolgfgbaaaU7
namespace Go.Proofs.Ytjapmlolgfgbaaa
open Go.RowKit
set_option linter.unusedVariables false
set_option linter.unusedSimpArgs false
def cBlk : Con where
  X := List Act11 × Int
  args := fun ⟨l, b⟩ => [.vsl .act11 l, AI b]
  heap := fun _ => hp0
  pre := fun _ => True
  res := fun _ => AB true
  heap' := fun _ => hp0
  pure := true
  find := fun _ _ => none
/-- What the second table is told: but what is of the block. -/
def bk1 (b : Int) (u : Tb) (x : Act11) : Tb := if x.a.block = b then tel1 u x else u
theorem bk1_t {b : Int} {u : Tb} {x : Act11} (h : x.a.block = b) : bk1 b u x = tel1 u x := if_pos h
theorem bk1_f {b : Int} {u : Tb} {x : Act11} (h : ¬ x.a.block = b) : bk1 b u x = u := if_neg h
theorem bk1_a {b : Int} {u : Tb} {x : Act11} (h : (x.a.block != b) = false) (hk : x.kind = 1) : bk1 b u x = actvT u x.a := by
  rw [bk1_t (by simpa using h), tel1_t hk]
theorem bk1_d {b : Int} {u : Tb} {x : Act11} (h : (x.a.block != b) = false) (hk : ¬ x.kind = 1) : bk1 b u x = deaT u x.a.block x.a.seq := by
  rw [bk1_t (by simpa using h), tel1_f hk]
structure BDat where
  i : Nat
  t : Tb
  u : Tb
/-- Of the block both tables know the same. -/
structure SBl (l : List Act11) (b : Int) (i : Nat) (t u : Tb) : Prop where
  le : i ≤ l.length
  lt : TbL t i
  lu : TbL u i
  ov : gO t b = gO u b
  act : mGet t.act b = mGet u.act b
theorem same_gA {t u : Tb} {b : Int} (h : mGet t.act b = mGet u.act b) : gA t b = gA u b := by unfold gA; rw [h]
theorem same_ok {t u : Tb} {a : Atv} (ho : gO t a.block = gO u a.block) (h : mGet t.act a.block = mGet u.act a.block) : okA11 t a = okA11 u a := by
  unfold okA11
  rw [ho, same_gA h]
theorem sbl_t {l : List Act11} {b : Int} {i : Nat} {t u : Tb} {x : Act11} (h : SBl l b i t u) (hi : i < l.length) : SBl l b (i + 1) (tel1 t x) (bk1 b u x) := by
  refine ⟨by omega, tbl_tel1 h.lt x, ?_, ?_, ?_⟩
  · unfold bk1
    split
    · exact tbl_tel1 h.lu x
    · exact tbl_mono h.lu (by omega)
  · unfold bk1 tel1
    by_cases hb : x.a.block = b
    · rw [if_pos hb]
      split
      · rw [gO_actv, gO_actv]; exact h.ov
      · rw [gO_dea, gO_dea, hb, h.ov]
    · rw [if_neg hb]
      split
      · rw [gO_actv]; exact h.ov
      · rw [gO_dea, if_neg (Ne.symm hb)]; exact h.ov
  · unfold bk1 tel1
    by_cases hb : x.a.block = b
    · rw [if_pos hb]
      have h1 : gO t x.a.block = gO u x.a.block := by rw [hb]; exact h.ov
      have h2 : mGet t.act x.a.block = mGet u.act x.a.block := by rw [hb]; exact h.act
      split
      · rw [mA_actv, mA_actv, same_ok h1 h2, h.act]
      · rw [mA_dea, mA_dea, h2, same_gA h2, h.act]
    · rw [if_neg hb]
      split
      · rw [mA_actv, if_neg (fun hh => hb hh.1.symm)]; exact h.act
      · rw [mA_dea, if_neg (fun hh => hb hh.1.symm)]; exact h.act
def twoL (t u : Tb) : List (Nat × Option Blk) := [(5, some (.map false .int u.ov)), (4, some (.map false .atv u.act)), (3, some (tbO false 4 5)), (2, some (.map false .int t.ov)), (1, some (.map false .atv t.act)), (0, some (tbO false 1 2))]
def twoH (t u : Tb) : Heap := ⟨6, twoL t u⟩
def xO (x : Act11) : Blk := .obj false [AI x.kind, AI x.a.block, AI x.a.node, AI x.a.seq]
abbrev pU : AV := .ptr 3 p0
inductive L3 where
  | a | b | c
def L3.n : L3 → Nat
  | .a => 2
  | .b => 1
  | .c => 0
def blT (l : List Act11) (b : Int) (i : Nat) : L3 → Tmps
  | .a => [(41, AI 0), (40, AI (2 : Nat)), (39, .hdl (.osl 2) 7), (8, .ptr 6 p0), (33, AI i), (32, AI l.length), (31, .vsl .act11 l), (6, pU), (5, pT), (1, AI b)]
  | .b => [(41, AI 1), (40, AI (2 : Nat)), (39, .hdl (.osl 2) 7), (8, .ptr 6 p0), (33, AI i), (32, AI l.length), (31, .vsl .act11 l), (6, pU), (5, pT), (1, AI b)]
  | .c => [(41, AI 2), (40, AI (2 : Nat)), (39, .hdl (.osl 2) 7), (8, .ptr 6 p0), (33, AI i), (32, AI l.length), (31, .vsl .act11 l), (6, pU), (5, pT), (1, AI b)]
def blH (b : Int) (t u : Tb) (x : Act11) : L3 → Heap
  | .a => ⟨8, (7, some (.obj false [pT, pU])) :: (6, some (xO x)) :: twoL t u⟩
  | .b => ⟨8, (7, some (.obj false [pT, pU])) :: (6, some (xO x)) :: twoL (tel1 t x) u⟩
  | .c => ⟨8, (7, some (.obj false [pT, pU])) :: (6, some (xO x)) :: twoL (tel1 t x) (bk1 b u x)⟩
set_option maxRecDepth 100000 in
set_option maxHeartbeats 8000000 in
theorem cBlk_ok : cBlk.Ok Try.prog 5 := by
  refine fun_ok (env_ok (Cons.cons cawake_ok (Cons.cons cTNew_ok (Cons.cons cTbDea_ok (Cons.cons cTbActv_ok (Cons.cons cTbAct_ok Cons.nil)))))) mixedP Try.func5 (by decide) rfl cBlk [] (fun _ => rfl) (fun _ _ => ⟨rfl, fun id k h => by cases h⟩) (fun _ => Nat.le_of_ble_eq_true rfl) ?_
  rintro ⟨l, b⟩ hp ha hb
  clear hp ha hb
  all_goals (repeat' (first
    | with_reducible refine iTr ?_
    | with_reducible refine iB ?_
    | intro _
    | exact True.intro
    | (show _ ∧ _
       first
        | refine aTT ?_
        | refine aTB ?_
        | refine aT ?_
        | refine aB ?_
        | refine a11 ?_
        | refine a01 ?_
        | refine a00 ?_
        | refine a10 ?_
        | (with_reducible refine And.intro rfl ?_)
        | refine And.intro ?_ ?_)
    | with_reducible exact rfl
    | with_reducible exact HEq.rfl
    | (show (_ : Option Nat) = _; exact rfl)
    | (show (_ : Option Blk) = _; exact rfl)
    | (with_reducible show (nodupB _ && _ && _ && _ && _) = true; exact (Eq.refl true))
    | (with_reducible show (nodupB _ && _ && _ && _) = true; exact (Eq.refl true))
    | (with_reducible show (nodupB _ && _ && _) = true; exact (Eq.refl true))
    | (with_reducible show freeOk _ _ = true; exact (Eq.refl true))
    | (with_reducible show wrOk _ _ _ _ _ = true; exact (Eq.refl true))
    | (show (_ : AV) = _; exact rfl)
    | (show (_ : Heap) = _; exact rfl)
    | (with_reducible show (_ || !_) = true; exact (Eq.refl true))
    | (with_reducible show Nat.beq _ _ = true; exact (Eq.refl true))))
  all_goals (first | (show (_ : Int) = _) | (show (_ : Bool) = _) | (show HEq _ _) | (show ∃ _ : LInv, _) | skip)
  all_goals (try (with_reducible exact rfl))
  all_goals try (refine ⟨⟨{d : BDat // SBl l b d.i d.t d.u}, fun d => [(33, AI d.1.i), (32, AI l.length), (31, .vsl .act11 l), (6, pU), (5, pT), (1, AI b)], fun d => twoH d.1.t d.1.u, fun d => l.length - d.1.i⟩, ⟨⟨⟨0, tb0, tb0⟩, ?_⟩, [], ?_⟩, ?_⟩; rotate_right; rintro ⟨⟨i, t, u⟩, hS⟩)
  all_goals (repeat' (first
    | with_reducible refine iTr ?_
    | with_reducible refine iB ?_
    | intro _
    | exact True.intro
    | (show _ ∧ _
       first
        | refine aTT ?_
        | refine aTB ?_
        | refine aT ?_
        | refine aB ?_
        | refine a11 ?_
        | refine a01 ?_
        | refine a00 ?_
        | refine a10 ?_
        | (with_reducible refine And.intro rfl ?_)
        | refine And.intro ?_ ?_)
    | with_reducible exact rfl
    | with_reducible exact HEq.rfl
    | (show (_ : Option Nat) = _; exact rfl)
    | (show (_ : Option Blk) = _; exact rfl)
    | (with_reducible show (nodupB _ && _ && _ && _ && _) = true; exact (Eq.refl true))
    | (with_reducible show (nodupB _ && _ && _ && _) = true; exact (Eq.refl true))
    | (with_reducible show (nodupB _ && _ && _) = true; exact (Eq.refl true))
    | (with_reducible show freeOk _ _ = true; exact (Eq.refl true))
    | (with_reducible show wrOk _ _ _ _ _ = true; exact (Eq.refl true))
    | (show (_ : AV) = _; exact rfl)
    | (show (_ : Heap) = _; exact rfl)
    | (with_reducible show (_ || !_) = true; exact (Eq.refl true))
    | (with_reducible show Nat.beq _ _ = true; exact (Eq.refl true))))
  all_goals (first | (show (_ : Int) = _) | (show (_ : Bool) = _) | (show HEq _ _) | (show ∃ _ : LInv, _) | skip)
  all_goals (try (with_reducible exact rfl))
  all_goals try (refine ⟨⟨L3, fun d => blT l b i d, fun d => blH b t u (l.getD i Ty.act11.dflt) d, fun d => d.n⟩, ⟨L3.a, [], ?_⟩, ?_⟩; rotate_right; rintro ⟨⟩)
  all_goals (repeat' (first
    | with_reducible refine iTr ?_
    | with_reducible refine iB ?_
    | intro _
    | exact True.intro
    | (show _ ∧ _
       first
        | refine aTT ?_
        | refine aTB ?_
        | refine aT ?_
        | refine aB ?_
        | refine a11 ?_
        | refine a01 ?_
        | refine a00 ?_
        | refine a10 ?_
        | (with_reducible refine And.intro rfl ?_)
        | refine And.intro ?_ ?_)
    | with_reducible exact rfl
    | with_reducible exact HEq.rfl
    | (show (_ : Option Nat) = _; exact rfl)
    | (show (_ : Option Blk) = _; exact rfl)
    | (with_reducible show (nodupB _ && _ && _ && _ && _) = true; exact (Eq.refl true))
    | (with_reducible show (nodupB _ && _ && _ && _) = true; exact (Eq.refl true))
    | (with_reducible show (nodupB _ && _ && _) = true; exact (Eq.refl true))
    | (with_reducible show freeOk _ _ = true; exact (Eq.refl true))
    | (with_reducible show wrOk _ _ _ _ _ = true; exact (Eq.refl true))
    | (show (_ : AV) = _; exact rfl)
    | (show (_ : Heap) = _; exact rfl)
    | (with_reducible show (_ || !_) = true; exact (Eq.refl true))
    | (with_reducible show Nat.beq _ _ = true; exact (Eq.refl true))))
  all_goals (first | (show (_ : Int) = _) | (show (_ : Bool) = _) | (show HEq _ _) | (show ∃ _ : LInv, _) | skip)
  all_goals (try (with_reducible exact rfl))
  all_goals try (first
    | refine ⟨L3.b, (show L3.n L3.b < L3.n L3.a from by decide), ?_⟩
    | refine ⟨L3.c, (show L3.n L3.c < L3.n L3.b from by decide), ?_⟩
    | refine ⟨⟨⟨(i + 1 : Nat), tel1 t (l.getD i Ty.act11.dflt), bk1 b u (l.getD i Ty.act11.dflt)⟩, ?_⟩, ?_, ?_⟩)
  all_goals (repeat' (first
    | with_reducible refine iTr ?_
    | with_reducible refine iB ?_
    | intro _
    | exact True.intro
    | (show _ ∧ _
       first
        | refine aTT ?_
        | refine aTB ?_
        | refine aT ?_
        | refine aB ?_
        | refine a11 ?_
        | refine a01 ?_
        | refine a00 ?_
        | refine a10 ?_
        | (with_reducible refine And.intro rfl ?_)
        | refine And.intro ?_ ?_)
    | with_reducible exact rfl
    | with_reducible exact HEq.rfl
    | (show (_ : Option Nat) = _; exact rfl)
    | (show (_ : Option Blk) = _; exact rfl)
    | (with_reducible show (nodupB _ && _ && _ && _ && _) = true; exact (Eq.refl true))
    | (with_reducible show (nodupB _ && _ && _ && _) = true; exact (Eq.refl true))
    | (with_reducible show (nodupB _ && _ && _) = true; exact (Eq.refl true))
    | (with_reducible show freeOk _ _ = true; exact (Eq.refl true))
    | (with_reducible show wrOk _ _ _ _ _ = true; exact (Eq.refl true))
    | (show (_ : AV) = _; exact rfl)
    | (show (_ : Heap) = _; exact rfl)
    | (with_reducible show (_ || !_) = true; exact (Eq.refl true))
    | (with_reducible show Nat.beq _ _ = true; exact (Eq.refl true))))
  all_goals (first | (show (_ : Int) = _) | (show (_ : Bool) = _) | (show HEq _ _) | (show ∃ _ : LInv, _) | skip)
  all_goals (try (with_reducible exact rfl))
  all_goals (try dsimp only at *)
  all_goals (try replace hS : SBl l b i t u := hS)
  all_goals (try have hl1 := hS.le)
  all_goals (try have hl2 := hS.lt.act; have hl3 := hS.lt.ov; have hl4 := hS.lu.act; have hl5 := hS.lu.ov)
  all_goals (try simp only [tb_eta, atv_eta] at *)
  all_goals (try simp only [Int.toNat_natCast, decide_eq_true_eq, decide_eq_false_iff_not, beq_iff_eq, beq_eq_false_iff_ne, bne_iff_ne, ne_eq, cond_true, cond_false, Bool.not_true, Bool.not_false, Bool.not_eq_true', Bool.not_eq_false'] at *)
  all_goals (first
    | omega
    | exact HEq.rfl
    | exact rfl
    | exact sbl_t hS (by omega)
    | exact wrap_succ (by omega)
    | (show List.length _ < _; (try dsimp only); omega)
    | exact heq_of_eq (congrArg Tb.act (tel1_t (by assumption))).symm
    | exact heq_of_eq (congrArg Tb.ov (tel1_t (by assumption))).symm
    | exact heq_of_eq (congrArg Tb.act (tel1_f (by assumption))).symm
    | exact heq_of_eq (congrArg Tb.ov (tel1_f (by assumption))).symm
    | exact ⟨Nat.zero_le _, tbl0, tbl0, rfl, rfl⟩
    | skip)
  all_goals (first
    | exact heq_of_eq (congrArg Tb.act (bk1_f (by assumption))).symm
    | exact heq_of_eq (congrArg Tb.ov (bk1_f (by assumption))).symm
    | exact heq_of_eq (congrArg Tb.act (bk1_a (by assumption) (by assumption))).symm
    | exact heq_of_eq (congrArg Tb.ov (bk1_a (by assumption) (by assumption))).symm
    | exact heq_of_eq (congrArg Tb.act (bk1_d (by assumption) (by assumption))).symm
    | exact heq_of_eq (congrArg Tb.ov (bk1_d (by assumption) (by assumption))).symm
    | (exfalso; have hq := sbl_t (x := l.getD i Ty.act11.dflt) hS (by omega); have h1 := hq.act; have h2 := same_gA hq.act; first | exact absurd (congrArg Option.isSome h1) (by assumption) | (simp only [h2, beq_self_eq_true, Bool.and_self] at *; simp at *; done)))
end Go.Proofs.Ytjapmlolgfgbaaa

