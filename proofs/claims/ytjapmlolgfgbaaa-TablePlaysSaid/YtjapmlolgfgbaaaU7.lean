/- Layer 11's laws: the bridge from a contract to a law's walk. No condition. -/
import Derived.Test.YtjapmlolgfgbaaaU6
namespace Go.Proofs.Ytjapmlolgfgbaaa
open Go.RowKit
set_option linter.unusedVariables false
set_option linter.unusedSimpArgs false
def fr0 : Nat → RS := fun _ => ⟨0, 0, 0, true⟩
abbrev C0 (w : World) : Cx := cx (fun _ => False) fr0 hp0 w
theorem rel0 (w : World) : Rel (fun _ => False) fr0 hp0 w :=
  ⟨fun _ _ h => (by cases h), fun _ _ h => (by cases h), fun _ _ _ _ h => (by cases h), fun _ _ h => (by cases h), fun _ h => False.elim h⟩
theorem mt0 (w : World) (b : Nat) : ¬ (C0 w).mt b := by
  rintro (⟨id, k, h, -⟩ | h)
  · cases h
  · exact h
theorem walk_of_con {P : Program} {f : FuncId} {c : Con} (hc : c.Ok P f) (x : c.X) (hpre : c.pre x) (hh : c.heap x = hp0) (hh' : c.heap' x = hp0) (hres : c.res x = .bool true) (w : World) (vs : List Value) (hv : RVs (C0 w) (c.args x) vs) :
    Calls P f vs.toArray w fun e w' => e = .returned (.bool true) ∧ Below w.heap.size w w' := by
  have h := hc.calls x hpre (fun _ => False) fr0 w vs (by rw [hh]; exact rel0 w) (by rw [hh]; exact hv)
  refine h.mono fun e w' ⟨v, he, φ', h1, h2, h3⟩ => ?_
  rw [hh] at h3
  have h1 : RV (cx (fun _ => False) φ' (c.heap' x) w') (c.res x) v := h1
  rw [hres] at h1
  have e1 := rv_bool_inv h1
  subst e1
  refine ⟨he, h3.os, h3.tape, h3.output, h3.le.size, fun b hb => h3.le.blk b hb ?_⟩
  rintro ⟨id, k, h, -⟩
  cases h
theorem rv_vsl {w : World} {t : Ty} (cs : t.den → List Value) {A : Option Addr} {n c : Nat} {xs : List t.den} (R : Rdc cs t.sz w A n c xs) (hcs : ∀ x ∈ xs, Reps (C0 w) (enc t x) (cs x)) : RV1 (C0 w) (.vsl t xs) (.slice A n c) := by
  obtain ⟨⟨h1, h2, h3, h4⟩, hn⟩ := R
  subst h1
  refine Reps.vsl (fun i => ((xs[i]?).map cs).getD []) h2 ?_ (fun h0 => ?_) (fun i x hx => ?_) .nil
  · exact ⟨h3, hn⟩
  · obtain ⟨b, off, hA, hb, hcell⟩ := h4 h0
    refine ⟨b, off, hA, mt0 w b, hb, fun i hi j v hv => ?_⟩
    rw [List.getElem?_eq_getElem hi] at hv
    exact hcell i j _ v (List.getElem?_eq_getElem hi) hv
  · rw [hx]
    exact hcs x (List.mem_of_getElem? hx)
theorem rv_int0 {w : World} {n : Int} (h : okI n) : RV1 (C0 w) (AI n) (.int .i64 n) := plain_rv1 (a := AI n) rfl ⟨h, trivial⟩
theorem rv_atv {w : World} {r : Atv} (h : okAtv r) : RV1 (C0 w) (.agg (enc .atv r)) (.agg #[.int .i64 r.block, .int .i64 r.node, .int .i64 r.seq]) :=
  plain_rv1 (a := .agg (enc .atv r)) rfl ⟨h.1, h.2.1, h.2.2, trivial⟩
theorem reps_atv {w : World} {r : Atv} (h : okAtv r) : Reps (C0 w) (enc .atv r) r.cs :=
  plain_reps (az := enc .atv r) rfl ⟨h.1, h.2.1, h.2.2, trivial⟩
theorem reps_act11 {w : World} {r : Act11} (h : okAct11 r) : Reps (C0 w) (enc .act11 r) r.cs :=
  plain_reps (az := enc .act11 r) rfl ⟨h.1, h.2.1, h.2.2.1, h.2.2.2, trivial⟩
/-- What holds of each table that calls alone have made. -/
structure TbI (t : Tb) : Prop where
  blk : ∀ b a, mGet t.act b = some a → a.block = b
  ovr : ∀ b a, mGet t.act b = some a → gO t b < a.seq
  pos : ∀ b a, mGet t.act b = some a → 1 ≤ a.seq
  asc : Asc t.act
theorem tbi0 : TbI tb0 := ⟨fun b a h => (by cases h), fun b a h => (by cases h), fun b a h => (by cases h), List.Pairwise.nil⟩
theorem tb_eta (t : Tb) : (⟨t.act, t.ov⟩ : Tb) = t := rfl
theorem atv_eta (a : Atv) : (⟨a.block, a.node, a.seq⟩ : Atv) = a := rfl
theorem gA_some {t : Tb} {b : Int} {a : Atv} (h : mGet t.act b = some a) : gA t b = a := by simp [gA, h]
theorem tb_know {t : Tb} {b s : Int} (hI : TbI t) (ho : s ≤ gO t b) (h : (mGet t.act b).isSome = true) : s < (gA t b).seq ∧ (gA t b).block = b := by
  obtain ⟨a, ha⟩ := Option.isSome_iff_exists.1 h
  rw [gA_some ha]
  have := hI.ovr b a ha
  exact ⟨by omega, hI.blk b a ha⟩
theorem tbi_dea {t : Tb} (h : TbI t) (b s : Int) : TbI (deaT t b s) := by
  have key : ∀ j a, mGet (deaT t b s).act j = some a → mGet t.act j = some a ∧ ¬ (j = b ∧ a.seq ≤ s) := fun j a hj => by
    rw [mA_dea] at hj
    split at hj
    · cases hj
    · rename_i hn
      refine ⟨hj, fun hh => hn ⟨hh.1, ?_, ?_⟩⟩
      · rw [← hh.1, hj]; rfl
      · rw [← hh.1, gA_some hj]; exact hh.2
  refine ⟨fun j a hj => h.blk j a (key j a hj).1, fun j a hj => ?_, fun j a hj => h.pos j a (key j a hj).1, ?_⟩
  · obtain ⟨h1, h2⟩ := key j a hj
    have h3 := h.ovr j a h1
    rw [gO_dea]
    split
    · rename_i e
      have : ¬ a.seq ≤ s := fun hh => h2 ⟨e, hh⟩
      rw [e] at h3
      split <;> omega
    · exact h3
  · unfold deaT
    simp only
    split
    · exact asc_del _ h.asc
    · exact h.asc
theorem tbi_actv {t : Tb} (h : TbI t) (a : Atv) : TbI (actvT t a) := by
  by_cases hk : okA11 t a = true
  · have hk' : 1 ≤ a.seq ∧ gO t a.block < a.seq ∧ (gA t a.block).seq < a.seq := by simpa [okA11] using hk
    have key : ∀ j x, mGet (actvT t a).act j = some x → (j = a.block ∧ x = a) ∨ mGet t.act j = some x := fun j x hj => by
      rw [mA_actv] at hj
      split at hj
      · rename_i e
        injection hj with hj
        exact .inl ⟨e.1, hj.symm⟩
      · exact .inr hj
    refine ⟨fun j x hj => ?_, fun j x hj => ?_, fun j x hj => ?_, ?_⟩
    · rcases key j x hj with ⟨e, rfl⟩ | hj
      · exact e.symm
      · exact h.blk j x hj
    · rw [gO_actv]
      rcases key j x hj with ⟨rfl, rfl⟩ | hj
      · exact hk'.2.1
      · exact h.ovr j x hj
    · rcases key j x hj with ⟨rfl, rfl⟩ | hj
      · exact hk'.1
      · exact h.pos j x hj
    · rw [actv_t hk]
      exact asc_put _ _ h.asc
  · rw [actv_f (by simpa using hk)]
    exact h
theorem tbi_tel1 {t : Tb} (h : TbI t) (x : Act11) : TbI (tel1 t x) := by
  unfold tel1
  split
  · exact tbi_actv h _
  · exact tbi_dea h _ _
theorem gO_tel1 (t : Tb) (x : Act11) (b : Int) : gO t b ≤ gO (tel1 t x) b := by
  unfold tel1
  split
  · rw [gO_actv]; exact Int.le_refl _
  · rw [gO_dea]
    split
    · rename_i e
      subst e
      split <;> omega
    · exact Int.le_refl _
structure SSt (l : List Act11) (b s : Int) (i : Nat) (t : Tb) : Prop where
  le : i ≤ l.length
  len : TbL t (i + 1)
  inv : TbI t
  ov : s ≤ gO t b
theorem sst_t {l : List Act11} {b s : Int} {i : Nat} {t : Tb} {x : Act11} (h : SSt l b s i t) (hi : i < l.length) : SSt l b s (i + 1) (tel1 t x) :=
  ⟨by omega, tbl_tel1 h.len x, tbi_tel1 h.inv x, Int.le_trans h.ov (gO_tel1 t x b)⟩
theorem sst_0 {b s : Int} : s ≤ gO (deaT tb0 b s) b := by
  rw [gO_dea, if_pos rfl]
  split <;> omega
def cStale : Con where
  X := List Act11 × Int × Int
  args := fun ⟨l, b, s⟩ => [.vsl .act11 l, AI b, AI s]
  heap := fun _ => hp0
  pre := fun _ => True
  res := fun _ => AB true
  heap' := fun _ => hp0
  pure := true
  find := fun _ _ => none
structure SDat where
  i : Nat
  t : Tb
set_option maxRecDepth 100000 in
set_option maxHeartbeats 8000000 in
theorem cStale_ok : cStale.Ok Try.prog 3 := by
  refine fun_ok (env_ok (Cons.cons cawake_ok (Cons.cons cTNew_ok (Cons.cons cTbDea_ok (Cons.cons cTbActv_ok (Cons.cons cTbAct_ok Cons.nil)))))) mixedP Try.func3 (by decide) rfl cStale [] (fun _ => rfl) (fun _ _ => ⟨rfl, fun id k h => by cases h⟩) (fun _ => Nat.le_of_ble_eq_true rfl) ?_
  rintro ⟨l, b, s⟩ hp ha hb
  clear hp ha hb
  all_goals (repeat' (first
    | with_reducible refine iTr ?_
    | with_reducible refine iB ?_
    | intro _
    | exact True.intro
    | (show _ ∧ _
       first
        | refine aTT ?_
        | refine aTB ?_
        | refine aT ?_
        | refine aB ?_
        | refine a11 ?_
        | refine a01 ?_
        | refine a00 ?_
        | refine a10 ?_
        | (with_reducible refine And.intro rfl ?_)
        | refine And.intro ?_ ?_)
    | with_reducible exact rfl
    | with_reducible exact HEq.rfl
    | (show (_ : Option Nat) = _; exact rfl)
    | (show (_ : Option Blk) = _; exact rfl)
    | (with_reducible show (nodupB _ && _ && _ && _ && _) = true; exact (Eq.refl true))
    | (with_reducible show (nodupB _ && _ && _ && _) = true; exact (Eq.refl true))
    | (with_reducible show (nodupB _ && _ && _) = true; exact (Eq.refl true))
    | (with_reducible show freeOk _ _ = true; exact (Eq.refl true))
    | (with_reducible show wrOk _ _ _ _ _ = true; exact (Eq.refl true))
    | (show (_ : AV) = _; exact rfl)
    | (show (_ : Heap) = _; exact rfl)
    | (with_reducible show (_ || !_) = true; exact (Eq.refl true))
    | (with_reducible show Nat.beq _ _ = true; exact (Eq.refl true))))
  all_goals (first | (show (_ : Int) = _) | (show (_ : Bool) = _) | (show HEq _ _) | (show ∃ _ : LInv, _) | skip)
  all_goals (try (with_reducible exact rfl))
  all_goals try (refine ⟨⟨{d : SDat // SSt l b s d.i d.t}, fun d => [(29, AI d.1.i), (28, AI l.length), (27, .vsl .act11 l), (7, pT), (1, AI b), (2, AI s)], fun d => tbH false d.1.t, fun d => l.length - d.1.i⟩, ⟨⟨⟨0, deaT tb0 b s⟩, ?_⟩, [], ?_⟩, ?_⟩; rotate_right; rintro ⟨⟨i, t⟩, hS⟩)
  all_goals (repeat' (first
    | with_reducible refine iTr ?_
    | with_reducible refine iB ?_
    | intro _
    | exact True.intro
    | (show _ ∧ _
       first
        | refine aTT ?_
        | refine aTB ?_
        | refine aT ?_
        | refine aB ?_
        | refine a11 ?_
        | refine a01 ?_
        | refine a00 ?_
        | refine a10 ?_
        | (with_reducible refine And.intro rfl ?_)
        | refine And.intro ?_ ?_)
    | with_reducible exact rfl
    | with_reducible exact HEq.rfl
    | (show (_ : Option Nat) = _; exact rfl)
    | (show (_ : Option Blk) = _; exact rfl)
    | (with_reducible show (nodupB _ && _ && _ && _ && _) = true; exact (Eq.refl true))
    | (with_reducible show (nodupB _ && _ && _ && _) = true; exact (Eq.refl true))
    | (with_reducible show (nodupB _ && _ && _) = true; exact (Eq.refl true))
    | (with_reducible show freeOk _ _ = true; exact (Eq.refl true))
    | (with_reducible show wrOk _ _ _ _ _ = true; exact (Eq.refl true))
    | (show (_ : AV) = _; exact rfl)
    | (show (_ : Heap) = _; exact rfl)
    | (with_reducible show (_ || !_) = true; exact (Eq.refl true))
    | (with_reducible show Nat.beq _ _ = true; exact (Eq.refl true))))
  all_goals (first | (show (_ : Int) = _) | (show (_ : Bool) = _) | (show HEq _ _) | (show ∃ _ : LInv, _) | skip)
  all_goals (try (with_reducible exact rfl))
  all_goals try (refine ⟨⟨⟨(i + 1 : Nat), tel1 t (l.getD i Ty.act11.dflt)⟩, ?_⟩, ?_, ?_⟩)
  all_goals (repeat' (first
    | with_reducible refine iTr ?_
    | with_reducible refine iB ?_
    | intro _
    | exact True.intro
    | (show _ ∧ _
       first
        | refine aTT ?_
        | refine aTB ?_
        | refine aT ?_
        | refine aB ?_
        | refine a11 ?_
        | refine a01 ?_
        | refine a00 ?_
        | refine a10 ?_
        | (with_reducible refine And.intro rfl ?_)
        | refine And.intro ?_ ?_)
    | with_reducible exact rfl
    | with_reducible exact HEq.rfl
    | (show (_ : Option Nat) = _; exact rfl)
    | (show (_ : Option Blk) = _; exact rfl)
    | (with_reducible show (nodupB _ && _ && _ && _ && _) = true; exact (Eq.refl true))
    | (with_reducible show (nodupB _ && _ && _ && _) = true; exact (Eq.refl true))
    | (with_reducible show (nodupB _ && _ && _) = true; exact (Eq.refl true))
    | (with_reducible show freeOk _ _ = true; exact (Eq.refl true))
    | (with_reducible show wrOk _ _ _ _ _ = true; exact (Eq.refl true))
    | (show (_ : AV) = _; exact rfl)
    | (show (_ : Heap) = _; exact rfl)
    | (with_reducible show (_ || !_) = true; exact (Eq.refl true))
    | (with_reducible show Nat.beq _ _ = true; exact (Eq.refl true))))
  all_goals (first | (show (_ : Int) = _) | (show (_ : Bool) = _) | (show HEq _ _) | (show ∃ _ : LInv, _) | skip)
  all_goals (try (with_reducible exact rfl))
  all_goals (try dsimp only at *)
  all_goals (try simp only [tb_eta, atv_eta, Int.toNat_natCast, decide_eq_true_eq, decide_eq_false_iff_not, beq_iff_eq, beq_eq_false_iff_ne, bne_iff_ne, ne_eq, cond_true, cond_false, Bool.not_true, Bool.not_false] at *)
  all_goals (try replace hS : SSt l b s i t := hS)
  all_goals (try have hl1 := hS.le)
  all_goals (try have hl2 := hS.len.act; have hl3 := hS.len.ov)
  all_goals (first
    | (have hq := sst_t (x := l.getD i Ty.act11.dflt) hS (by omega); first
        | (rw [tel1_t (by assumption)] at hq; have hk := tb_know hq.inv hq.ov (by assumption); first | (exfalso; omega) | (exfalso; simp_all; done))
        | (rw [tel1_f (by assumption)] at hq; have hk := tb_know hq.inv hq.ov (by assumption); first | (exfalso; omega) | (exfalso; simp_all; done)))
    | omega
    | exact sst_t hS (by omega)
    | exact wrap_succ (by omega)
    | (show List.length _ < _; (try dsimp only); omega)
    | (show List.length _ < _; decide)
    | exact heq_of_eq (congrArg Tb.act (tel1_t (by assumption))).symm
    | exact heq_of_eq (congrArg Tb.ov (tel1_t (by assumption))).symm
    | exact heq_of_eq (congrArg Tb.act (tel1_f (by assumption))).symm
    | exact heq_of_eq (congrArg Tb.ov (tel1_f (by assumption))).symm
    | exact ⟨Nat.zero_le _, tbl_dea tbl0 b s, tbi_dea tbi0 b s, sst_0⟩
    | skip)
end Go.Proofs.Ytjapmlolgfgbaaa

