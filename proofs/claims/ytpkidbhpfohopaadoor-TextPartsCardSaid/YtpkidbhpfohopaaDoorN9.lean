/- Layer 24: Parse of text. No condition. -/
import Derived.Test.YtpkidbhpfohopaaDoorN8
noncomputable section
namespace Go.Proofs.YtpkidbhpfohopaaDoor
open Go.RowKit
set_option linter.unusedVariables false
set_option linter.unusedSimpArgs false
inductive GoR where
  | ok (l : List Ent)
  | bad (k : Nat)
def GoR.put (e : Ent) : GoR → GoR
  | .ok l => .ok (e :: l)
  | .bad k => .bad k
/-- The entries of lines, the last of which is empty; or the number of the first line that is wrong. -/
def goE : List ByteArray → Nat → GoR
  | [], k => .bad k
  | x :: r, k => match r with
    | [] => if x = ⟨#[]⟩ then .ok [] else .bad k
    | y :: r' => if eOk (splB 32 x) = true then (goE r (k + 1)).put (eV (splB 32 x)) else .bad k
structure PRes where
  c : Cfg
  l : List Ent
  n : Nat
  o : Bool
def cfg0 : Cfg := ⟨0, 0, 0, 0, 0, 0, 0, 0, 0⟩
def finR (c : Cfg) (l : List Ent) : GoR → PRes
  | .ok m => ⟨c, l ++ m, 0, true⟩
  | .bad k => ⟨cfg0, [], k, false⟩
/-- What is parsed of a text. -/
def prS (s : ByteArray) : PRes :=
  match splB 10 s with
  | [] => ⟨cfg0, [], 1, false⟩
  | x :: r => match r with
    | [] => ⟨cfg0, [], 1, false⟩
    | y :: r' => if wOk (splB 32 x) = true then finR (wV (splB 32 x)) [] (goE r 2) else ⟨cfg0, [], 1, false⟩
theorem splB_cut {t : ByteArray} (h : cuE t = true) : splB 10 t = cuL t :: splB 10 (cuR t) := by
  rcases cu_cases t with ⟨h1, h2, -⟩ | ⟨-, -, -, h4⟩
  · unfold splB
    rw [h1, spt_cut _ _ h2, List.map_cons]
    rfl
  · rw [h] at h4
    cases h4
theorem splB_end {t : ByteArray} (h : cuE t = false) : splB 10 t = [t] := by
  rcases cu_cases t with ⟨-, -, h3⟩ | ⟨h1, -, -, -⟩
  · rw [h] at h3
    cases h3
  · unfold splB
    rw [spt_end _ h1]
    rfl
theorem splB_cons (t : ByteArray) : ∃ y r, splB 10 t = y :: r := by
  cases h : splB 10 t with
  | nil =>
    unfold splB at h
    exact absurd (List.map_eq_nil_iff.1 h) (spt_ne 10 _)
  | cons y r => exact ⟨y, r, rfl⟩
theorem cu_lt {t : ByteArray} (h : cuE t = true) : (cuR t).size < t.size := by
  rcases cu_cases t with ⟨h1, -, -⟩ | ⟨-, -, -, h4⟩
  · have := congrArg List.length h1
    rw [bl_len, List.length_append, List.length_cons, bl_len, bl_len] at this
    omega
  · rw [h] at h4
    cases h4
theorem goE_cut {t : ByteArray} {k : Nat} (h : cuE t = true) : goE (splB 10 t) k = if eOk (splB 32 (cuL t)) = true then (goE (splB 10 (cuR t)) (k + 1)).put (eV (splB 32 (cuL t))) else .bad k := by
  obtain ⟨y, r, e⟩ := splB_cons (cuR t)
  rw [splB_cut h, e]
  rfl
theorem goE_end {t : ByteArray} {k : Nat} (h : cuE t = false) : goE (splB 10 t) k = if t = ⟨#[]⟩ then .ok [] else .bad k := by
  rw [splB_end h]
  rfl
theorem goE_nil {k : Nat} : goE (splB 10 ⟨#[]⟩) k = .ok [] := by
  rw [show splB 10 ⟨#[]⟩ = [⟨#[]⟩] from rfl]
  rfl
theorem fin_put (c : Cfg) (l : List Ent) (e : Ent) (g : GoR) : finR c l (g.put e) = finR c (l ++ [e]) g := by
  cases g with
  | ok m => simp [finR, GoR.put]
  | bad k => rfl
theorem pr_cut {s : ByteArray} (h : cuE s = true) (hw : wOk (splB 32 (cuL s)) = true) : prS s = finR (wV (splB 32 (cuL s))) [] (goE (splB 10 (cuR s)) 2) := by
  obtain ⟨y, r, e⟩ := splB_cons (cuR s)
  unfold prS
  rw [splB_cut h, e]
  simp only
  rw [if_pos hw]
theorem pr_bad {s : ByteArray} (h : cuE s = false ∨ wOk (splB 32 (cuL s)) = false) : prS s = ⟨cfg0, [], 1, false⟩ := by
  cases hc : cuE s with
  | false =>
    unfold prS
    rw [splB_end hc]
  | true =>
    rw [hc] at h
    have hw : wOk (splB 32 (cuL s)) = false := h.elim (fun h => by cases h) id
    obtain ⟨y, r, e⟩ := splB_cons (cuR s)
    unfold prS
    rw [splB_cut hc, e]
    simp only
    rw [if_neg (by rw [hw]; decide)]
theorem liok (c : UInt8) {s : ByteArray} (h : s.size ≤ 100000) : LiOk (splB c s) :=
  ⟨by have := splB_len c s; omega, fun x hx => Nat.le_trans (splB_mem_len hx) h⟩
theorem pr_end {s t : ByteArray} {c : Cfg} {l : List Ent} {k : Nat} (h : prS s = finR c l (goE (splB 10 t) k)) (ht : t = ⟨#[]⟩) : prS s = ⟨c, l, 0, true⟩ := by
  rw [h, ht, goE_nil]
  show (⟨c, l ++ [], 0, true⟩ : PRes) = _
  rw [List.append_nil]
theorem pr_err {s t : ByteArray} {c : Cfg} {l : List Ent} {k : Nat} (h : prS s = finR c l (goE (splB 10 t) k)) (he : eOk (splB 32 (cuL t)) = false ∨ cuE t = false) (ht : ¬ t = ⟨#[]⟩) : prS s = ⟨cfg0, [], k, false⟩ := by
  rw [h]
  cases hc : cuE t with
  | false =>
    rw [goE_end hc, if_neg ht]
    rfl
  | true =>
    rw [hc] at he
    have he : eOk (splB 32 (cuL t)) = false := he.elim id (fun h => by cases h)
    rw [goE_cut hc, if_neg (by rw [he]; decide)]
    rfl
theorem pr_next {s t : ByteArray} {c : Cfg} {l : List Ent} {k : Nat} (h : prS s = finR c l (goE (splB 10 t) k)) (he : eOk (splB 32 (cuL t)) = true) (hc : cuE t = true) : prS s = finR c (l ++ [eV (splB 32 (cuL t))]) (goE (splB 10 (cuR t)) (k + 1)) := by
  rw [h, goE_cut hc, if_pos he, fin_put]
inductive PtD where
  | a
  | b (t : ByteArray) (c : Cfg)
  | c (k : Nat) (t : ByteArray) (c : Cfg) (l : List Ent)
structure PB (s t : ByteArray) (c : Cfg) : Prop where
  eq : prS s = finR c [] (goE (splB 10 t) 2)
  lt : t.size < s.size
structure PC (s : ByteArray) (k : Nat) (t : ByteArray) (c : Cfg) (l : List Ent) : Prop where
  eq : prS s = finR c l (goE (splB 10 t) k)
  k3 : 3 ≤ k
  kl : l.length + 2 = k
  lt : t.size + k < s.size + 2
def PIn (s : ByteArray) : PtD → Prop
  | .a => True
  | .b t c => PB s t c
  | .c k t c l => PC s k t c l
def ptT (s : ByteArray) : PtD → Tmps
  | .a => [(4, AI (1 : Nat)), (0, .str s), (2, .ptr 0 p0), (3, .nils)]
  | .b t c => [(4, AI (2 : Nat)), (0, .str t), (2, .ptr 0 p0), (3, .nils)]
  | .c k t c l => [(4, AI k), (0, .str t), (2, .ptr 0 p0), (3, .slc 1)]
def ptH : PtD → Heap
  | .a => ⟨1, [(0, some (.obj false (enc .cfg cfg0)))]⟩
  | .b t c => ⟨1, [(0, some (.obj false (enc .cfg c)))]⟩
  | .c k t c l => ⟨2, [(1, some (.seq false 40 .ent l)), (0, some (.obj false (enc .cfg c)))]⟩
def ptM (s : ByteArray) : PtD → Nat
  | .a => s.size
  | .b t c => t.size
  | .c k t c l => t.size
def cTParse : Con where
  X := ByteArray
  args := fun s => [.str s]
  heap := fun _ => hp0
  pre := fun s => s.size ≤ 100000
  res := fun s => .tup [.agg (enc .cfg (prS s).c), .slc 0, AI (prS s).n, .bool (prS s).o]
  heap' := fun s => ⟨1, [(0, some (.seq false 40 .ent (prS s).l))]⟩
  pure := false
  find := fun args H => match args with
    | [.str s] => some s
    | _ => none
set_option maxRecDepth 100000 in
set_option maxHeartbeats 8000000 in
theorem cTParse_ok : cTParse.Ok Tryd.prog 10 := by
  refine fun_ok (env_ok (Cons.cons cCut_ok (Cons.cons cSplit_ok (Cons.cons cTWorld_ok (Cons.cons cTEntry_ok Cons.nil))))) mixedP Tryd.func10 (by decide) rfl cTParse [] (fun _ => rfl) (fun h => by cases h) (fun _ => Nat.le_of_ble_eq_true rfl) ?_
  rintro (s : ByteArray) hp ha hb
  replace hp : s.size ≤ 100000 := hp
  clear ha hb
  all_goals (repeat' (first
    | with_reducible refine iTr ?_
    | with_reducible refine iB ?_
    | intro _
    | exact True.intro
    | (show _ ∧ _
       first
        | refine aTT ?_
        | refine aTB ?_
        | refine aT ?_
        | refine aB ?_
        | refine a11 ?_
        | refine a01 ?_
        | refine a00 ?_
        | refine a10 ?_
        | (with_reducible refine And.intro rfl ?_)
        | refine And.intro ?_ ?_)
    | with_reducible exact rfl
    | with_reducible exact HEq.rfl
    | (show (_ : Option Nat) = _; exact rfl)
    | (show (_ : Option Blk) = _; exact rfl)
    | (with_reducible show (nodupB _ && _ && _ && _ && _) = true; exact (Eq.refl true))
    | (with_reducible show (nodupB _ && _ && _ && _) = true; exact (Eq.refl true))
    | (with_reducible show (nodupB _ && _ && _) = true; exact (Eq.refl true))
    | (with_reducible show freeOk _ _ = true; exact (Eq.refl true))
    | (with_reducible show wrOk _ _ _ _ _ = true; exact (Eq.refl true))
    | (show (_ : AV) = _; exact rfl)
    | (show (_ : ByteArray) = _; with_reducible exact rfl)
    | (show (_ : Heap) = _; exact rfl)
    | (with_reducible show (_ || !_) = true; exact (Eq.refl true))
    | (with_reducible show Nat.beq _ _ = true; exact (Eq.refl true))))
  all_goals (first | (show (_ : Int) = _) | (show (_ : Bool) = _) | (show (_ : ByteArray) = _) | (show HEq _ _) | (show ∃ _ : LInv, _) | skip)
  all_goals (try (with_reducible exact rfl))
  all_goals try (refine ⟨⟨{d : PtD // PIn s d}, fun d => ptT s d.1, fun d => ptH d.1, fun d => ptM s d.1⟩, ⟨⟨.a, ?_⟩, [], ?_⟩, ?_⟩; rotate_right; rintro ⟨_ | ⟨t, c⟩ | ⟨k, t, c, l⟩, hS⟩)
  all_goals (repeat' (first
    | with_reducible refine iTr ?_
    | with_reducible refine iB ?_
    | intro _
    | exact True.intro
    | (show _ ∧ _
       first
        | refine aTT ?_
        | refine aTB ?_
        | refine aT ?_
        | refine aB ?_
        | refine a11 ?_
        | refine a01 ?_
        | refine a00 ?_
        | refine a10 ?_
        | (with_reducible refine And.intro rfl ?_)
        | refine And.intro ?_ ?_)
    | with_reducible exact rfl
    | with_reducible exact HEq.rfl
    | (show (_ : Option Nat) = _; exact rfl)
    | (show (_ : Option Blk) = _; exact rfl)
    | (with_reducible show (nodupB _ && _ && _ && _ && _) = true; exact (Eq.refl true))
    | (with_reducible show (nodupB _ && _ && _ && _) = true; exact (Eq.refl true))
    | (with_reducible show (nodupB _ && _ && _) = true; exact (Eq.refl true))
    | (with_reducible show freeOk _ _ = true; exact (Eq.refl true))
    | (with_reducible show wrOk _ _ _ _ _ = true; exact (Eq.refl true))
    | (show (_ : AV) = _; exact rfl)
    | (show (_ : ByteArray) = _; with_reducible exact rfl)
    | (show (_ : Heap) = _; exact rfl)
    | (with_reducible show (_ || !_) = true; exact (Eq.refl true))
    | (with_reducible show Nat.beq _ _ = true; exact (Eq.refl true))))
  all_goals (first | (show (_ : Int) = _) | (show (_ : Bool) = _) | (show (_ : ByteArray) = _) | (show HEq _ _) | (show ∃ _ : LInv, _) | skip)
  all_goals (try (with_reducible exact rfl))
  all_goals try (first | refine ⟨⟨.c (k + 1) (cuR t) c (l ++ [eV (splB 32 (cuL t))]), ?_⟩, ?_, ?_⟩ | refine ⟨⟨.c 3 (cuR t) c [eV (splB 32 (cuL t))], ?_⟩, ?_, ?_⟩ | refine ⟨⟨.b (cuR s) (wV (splB 32 (cuL s))), ?_⟩, ?_, ?_⟩)
  all_goals (repeat' (first
    | with_reducible refine iTr ?_
    | with_reducible refine iB ?_
    | intro _
    | exact True.intro
    | (show _ ∧ _
       first
        | refine aTT ?_
        | refine aTB ?_
        | refine aT ?_
        | refine aB ?_
        | refine a11 ?_
        | refine a01 ?_
        | refine a00 ?_
        | refine a10 ?_
        | (with_reducible refine And.intro rfl ?_)
        | refine And.intro ?_ ?_)
    | with_reducible exact rfl
    | with_reducible exact HEq.rfl
    | (show (_ : Option Nat) = _; exact rfl)
    | (show (_ : Option Blk) = _; exact rfl)
    | (with_reducible show (nodupB _ && _ && _ && _ && _) = true; exact (Eq.refl true))
    | (with_reducible show (nodupB _ && _ && _ && _) = true; exact (Eq.refl true))
    | (with_reducible show (nodupB _ && _ && _) = true; exact (Eq.refl true))
    | (with_reducible show freeOk _ _ = true; exact (Eq.refl true))
    | (with_reducible show wrOk _ _ _ _ _ = true; exact (Eq.refl true))
    | (show (_ : AV) = _; exact rfl)
    | (show (_ : ByteArray) = _; with_reducible exact rfl)
    | (show (_ : Heap) = _; exact rfl)
    | (with_reducible show (_ || !_) = true; exact (Eq.refl true))
    | (with_reducible show Nat.beq _ _ = true; exact (Eq.refl true))))
  all_goals (first | (show (_ : Int) = _) | (show (_ : Bool) = _) | (show (_ : ByteArray) = _) | (show HEq _ _) | (show ∃ _ : LInv, _) | skip)
  all_goals (try (with_reducible exact rfl))
  all_goals (try dsimp only at *)
  all_goals (try replace hS : PC s k t c l := hS)
  all_goals (try replace hS : PB s t c := hS)
  all_goals (try simp only [Int.reduceToNat, Int.toNat_natCast, cond_true, cond_false, Bool.not_true, Bool.not_false, decide_eq_true_eq, decide_eq_false_iff_not, Bool.not_eq_true', Bool.not_eq_false', bne_iff_ne, ne_eq, bne_eq_false_iff_eq, beq_iff_eq, beq_eq_false_iff_ne] at *)
  all_goals (try have hk := hS.k3)
  all_goals (try omega)
  all_goals (try have hlt := hS.lt)
  all_goals (try have hcl := cu_len s)
  all_goals (try have hcl := cu_len t)
  all_goals (try have hkl := hS.kl)
  all_goals (first
    | exact rfl
    | exact hp
    | exact liok 32 (by omega)
    | (show ByteArray.size _ ≤ 100000; omega)
    | (have e := pr_bad (s := s) (by first | exact .inl (by assumption) | exact .inr (by assumption)); rw [e]; first | done | rfl | exact HEq.rfl)
    | (have e := pr_end hS.eq (by assumption); rw [e]; first | done | rfl | exact HEq.rfl)
    | (have e := pr_err hS.eq (by first | exact .inl (by assumption) | exact .inr (by assumption)) (by assumption); rw [e]; first | done | rfl | exact HEq.rfl)
    | exact ⟨pr_cut (by assumption) (by assumption), cu_lt (by assumption)⟩
    | exact ⟨pr_next hS.eq (by assumption) (by assumption), by omega, rfl, by have := cu_lt (t := t) (by assumption); omega⟩
    | exact ⟨pr_next hS.eq (by assumption) (by assumption), by omega, by rw [List.length_append]; show l.length + 1 + 2 = _; omega, by have := cu_lt (t := t) (by assumption); omega⟩
    | exact cu_lt (by assumption)
    | exact wrap_succ (by omega)
    | (show 1 * 40 ≤ _; omega)
    | (show (l.length + 1) * 40 ≤ _; omega)
    | skip)
  all_goals trace_state
end Go.Proofs.YtpkidbhpfohopaaDoor
