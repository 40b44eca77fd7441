/- Layer 24: the reference's Same. No condition. -/
import Derived.Test.YtpkidbhpfohopaaDoorN13
noncomputable section
namespace Go.Proofs.YtpkidbhpfohopaaDoor
open Go.RowKit
set_option linter.unusedVariables false
set_option linter.unusedSimpArgs false
def cSame : Con where
  X := List Ent × List Ent
  args := fun x => [.vsl .ent x.1, .vsl .ent x.2]
  heap := fun _ => hp0
  pre := fun _ => True
  res := fun x => .bool (decide (x.1 = x.2))
  heap' := fun _ => hp0
  pure := true
  find := fun args H => match args with
    | [u, v] => match slE H u, slE H v with
      | some a, some b => some (a, b)
      | _, _ => none
    | _ => none
theorem ent_t {x y : Ent} (h : (x.kind == y.kind && (x.a == y.a && (x.b == y.b && (x.c == y.c && (x.d == y.d && true))))) = true) : x = y := by
  simp only [Bool.and_eq_true, beq_iff_eq, and_true] at h
  obtain ⟨h1, h2, h3, h4, h5⟩ := h
  cases x
  cases y
  subst h1 h2 h3 h4 h5
  rfl
theorem ent_f {x y : Ent} (h : (x.kind == y.kind && (x.a == y.a && (x.b == y.b && (x.c == y.c && (x.d == y.d && true))))) = false) : ¬ x = y := fun e => by
  subst e
  simp at h
structure SSm (a b : List Ent) (i : Nat) : Prop where
  le : i ≤ a.length
  len : a.length = b.length
  eq : a.take i = b.take i
theorem ssm_1 {a b : List Ent} {i : Nat} (h : SSm a b i) (hi : i < a.length) (he : a.getD i Ty.ent.dflt = b.getD i Ty.ent.dflt) : SSm a b (i + 1) := by
  have hb : i < b.length := by have := h.len; omega
  refine ⟨hi, h.len, ?_⟩
  rw [List.getD_eq_getElem?_getD, List.getElem?_eq_getElem hi, List.getD_eq_getElem?_getD, List.getElem?_eq_getElem hb] at he
  rw [List.take_add_one, List.take_add_one, h.eq, List.getElem?_eq_getElem hi, List.getElem?_eq_getElem hb]
  exact congrArg (fun e => List.take i b ++ [e]) he
theorem ssm_t {a b : List Ent} {i : Nat} (h : SSm a b i) (hi : a.length ≤ i) : decide (a = b) = true := by
  have := h.eq
  rw [List.take_of_length_le hi, List.take_of_length_le (by rw [← h.len]; exact hi)] at this
  exact decide_eq_true this
theorem ssm_n {a b : List Ent} (h : ¬ a.length = b.length) : decide (a = b) = false := decide_eq_false fun e => h (by rw [e])
theorem ssm_f {a b : List Ent} {i : Nat} (he : ¬ a.getD i Ty.ent.dflt = b.getD i Ty.ent.dflt) : decide (a = b) = false := decide_eq_false fun e => he (by rw [e])
set_option maxRecDepth 100000 in
set_option maxHeartbeats 8000000 in
theorem cSame_ok : cSame.Ok Tryd.prog 12 := by
  refine fun_ok (env_ok Cons.nil) mixedP Tryd.func12 (by decide) rfl cSame [(6, 8)] (fun _ => rfl) (fun _ _ => ⟨rfl, fun id k h => by cases h⟩) (fun _ => Nat.le_of_ble_eq_true rfl) ?_
  rintro ⟨(a : List Ent), (b : List Ent)⟩ hp ha hb
  have hla : a.length ≤ 9223372036854775807 := ha.1.1.1
  have hlb : b.length ≤ 9223372036854775807 := ha.2.1.1.1
  clear ha hb hp
  all_goals (repeat' (first
    | with_reducible refine iTr ?_
    | with_reducible refine iB ?_
    | intro _
    | exact True.intro
    | (show _ ∧ _
       first
        | refine aTT ?_
        | refine aTB ?_
        | refine aT ?_
        | refine aB ?_
        | refine a11 ?_
        | refine a01 ?_
        | refine a00 ?_
        | refine a10 ?_
        | (with_reducible refine And.intro rfl ?_)
        | refine And.intro ?_ ?_)
    | with_reducible exact rfl
    | with_reducible exact HEq.rfl
    | (show (_ : Option Nat) = _; exact rfl)
    | (show (_ : Option Blk) = _; exact rfl)
    | (with_reducible show (nodupB _ && _ && _ && _ && _) = true; exact (Eq.refl true))
    | (with_reducible show (nodupB _ && _ && _ && _) = true; exact (Eq.refl true))
    | (with_reducible show (nodupB _ && _ && _) = true; exact (Eq.refl true))
    | (with_reducible show freeOk _ _ = true; exact (Eq.refl true))
    | (with_reducible show wrOk _ _ _ _ _ = true; exact (Eq.refl true))
    | (show (_ : AV) = _; exact rfl)
    | (show (_ : ByteArray) = _; with_reducible exact rfl)
    | (show (_ : Heap) = _; exact rfl)
    | (with_reducible show (_ || !_) = true; exact (Eq.refl true))
    | (with_reducible show Nat.beq _ _ = true; exact (Eq.refl true))))
  all_goals (first | (show (_ : Int) = _) | (show (_ : Bool) = _) | (show (_ : ByteArray) = _) | (show HEq _ _) | (show ∃ _ : LInv, _) | skip)
  all_goals (try (with_reducible exact rfl))
  all_goals try (refine ⟨⟨{i : Nat // SSm a b i}, fun i => [(5, AI i.1), (0, .vsl .ent a), (1, .vsl .ent b)], fun i => hp0, fun i => a.length - i.1⟩, ⟨⟨0, ?_⟩, [], ?_⟩, ?_⟩; rotate_right; rintro ⟨i, hS⟩)
  all_goals (repeat' (first
    | with_reducible refine iTr ?_
    | with_reducible refine iB ?_
    | intro _
    | exact True.intro
    | (show _ ∧ _
       first
        | refine aTT ?_
        | refine aTB ?_
        | refine aT ?_
        | refine aB ?_
        | refine a11 ?_
        | refine a01 ?_
        | refine a00 ?_
        | refine a10 ?_
        | (with_reducible refine And.intro rfl ?_)
        | refine And.intro ?_ ?_)
    | with_reducible exact rfl
    | with_reducible exact HEq.rfl
    | (show (_ : Option Nat) = _; exact rfl)
    | (show (_ : Option Blk) = _; exact rfl)
    | (with_reducible show (nodupB _ && _ && _ && _ && _) = true; exact (Eq.refl true))
    | (with_reducible show (nodupB _ && _ && _ && _) = true; exact (Eq.refl true))
    | (with_reducible show (nodupB _ && _ && _) = true; exact (Eq.refl true))
    | (with_reducible show freeOk _ _ = true; exact (Eq.refl true))
    | (with_reducible show wrOk _ _ _ _ _ = true; exact (Eq.refl true))
    | (show (_ : AV) = _; exact rfl)
    | (show (_ : ByteArray) = _; with_reducible exact rfl)
    | (show (_ : Heap) = _; exact rfl)
    | (with_reducible show (_ || !_) = true; exact (Eq.refl true))
    | (with_reducible show Nat.beq _ _ = true; exact (Eq.refl true))))
  all_goals (first | (show (_ : Int) = _) | (show (_ : Bool) = _) | (show (_ : ByteArray) = _) | (show HEq _ _) | (show ∃ _ : LInv, _) | skip)
  all_goals (try (with_reducible exact rfl))
  all_goals try (refine ⟨⟨(i + 1 : Nat), ?_⟩, ?_, ?_⟩)
  all_goals (repeat' (first
    | with_reducible refine iTr ?_
    | with_reducible refine iB ?_
    | intro _
    | exact True.intro
    | (show _ ∧ _
       first
        | refine aTT ?_
        | refine aTB ?_
        | refine aT ?_
        | refine aB ?_
        | refine a11 ?_
        | refine a01 ?_
        | refine a00 ?_
        | refine a10 ?_
        | (with_reducible refine And.intro rfl ?_)
        | refine And.intro ?_ ?_)
    | with_reducible exact rfl
    | with_reducible exact HEq.rfl
    | (show (_ : Option Nat) = _; exact rfl)
    | (show (_ : Option Blk) = _; exact rfl)
    | (with_reducible show (nodupB _ && _ && _ && _ && _) = true; exact (Eq.refl true))
    | (with_reducible show (nodupB _ && _ && _ && _) = true; exact (Eq.refl true))
    | (with_reducible show (nodupB _ && _ && _) = true; exact (Eq.refl true))
    | (with_reducible show freeOk _ _ = true; exact (Eq.refl true))
    | (with_reducible show wrOk _ _ _ _ _ = true; exact (Eq.refl true))
    | (show (_ : AV) = _; exact rfl)
    | (show (_ : ByteArray) = _; with_reducible exact rfl)
    | (show (_ : Heap) = _; exact rfl)
    | (with_reducible show (_ || !_) = true; exact (Eq.refl true))
    | (with_reducible show Nat.beq _ _ = true; exact (Eq.refl true))))
  all_goals (first | (show (_ : Int) = _) | (show (_ : Bool) = _) | (show (_ : ByteArray) = _) | (show HEq _ _) | (show ∃ _ : LInv, _) | skip)
  all_goals (try (with_reducible exact rfl))
  all_goals (try dsimp only at *)
  all_goals (try replace hS : SSm a b i := hS)
  all_goals (try simp only [Int.reduceToNat, Int.toNat_natCast, cond_true, cond_false, Bool.not_true, Bool.not_false, decide_eq_true_eq, decide_eq_false_iff_not, Bool.not_eq_true', Bool.not_eq_false', bne_iff_ne, ne_eq, bne_eq_false_iff_eq, beq_iff_eq, beq_eq_false_iff_ne] at *)
  all_goals (try have hi1 := hS.le)
  all_goals (try have hl1 := hS.len)
  all_goals (first
    | omega
    | exact rfl
    | exact HEq.rfl
    | exact ⟨Nat.zero_le _, by omega, rfl⟩
    | exact ssm_1 hS (by omega) (ent_t (by assumption))
    | exact (ssm_t hS (by omega)).symm
    | exact (ssm_n (by omega)).symm
    | exact (ssm_f (ent_f (by assumption))).symm
    | exact wrap_succ (by omega)
    | skip)
  all_goals trace_state
end Go.Proofs.YtpkidbhpfohopaaDoor
