/- Contracts of the reference's Ask, Done, Ack. No condition. -/
import Derived.Test.YtpjdicndjakeoaaV13
namespace Go.Proofs.Ytpjdicndjakeoaa
open Go.RowKit
set_option linter.unusedVariables false
set_option linter.unusedSimpArgs false
structure PAM (n : Int) (rows : List RRow12) (b nd : Int) : Prop where
  r : isM n rows b nd = true → RowM (addM (getM rows b) nd)
theorem askM_t {n : Int} {rows : List RRow12} {b nd : Int} (h : isM n rows b nd = true) : askM n rows b nd = (setM rows b (beginM b (addM (getM rows b) nd)).1, (beginM b (addM (getM rows b) nd)).2) := if_pos h
theorem askM_f {n : Int} {rows : List RRow12} {b nd : Int} (h : isM n rows b nd = false) : askM n rows b nd = (rows, zA, false) := if_neg (by rw [h]; decide)
theorem isM_f {n : Int} {rows : List RRow12} {b nd : Int} (h : ¬ ((0 ≤ b ∧ b < rows.length) ∧ 0 ≤ nd ∧ nd < n)) : isM n rows b nd = false := by
  cases e : isM n rows b nd with
  | false => rfl
  | true => exact absurd (isM_iff.1 e) h
theorem onM_1 {rows : List RRow12} {b s ph : Int} (h : inM rows b = false) : onM rows b s ph = false := by simp [onM, h]
theorem onM_2 {rows : List RRow12} {b s ph : Int} (h : ¬ (getM rows b).phase = ph) : onM rows b s ph = false := by simp [onM, h]
theorem onM_3 {rows : List RRow12} {b s ph : Int} (h : ¬ (getM rows b).begun = s) : onM rows b s ph = false := by simp [onM, h]
theorem onM_t {rows : List RRow12} {b s ph : Int} (h : inM rows b = true) (h1 : (getM rows b).phase = ph) (h2 : (getM rows b).begun = s) : onM rows b s ph = true := by simp [onM, h, h1, h2]
theorem doneM_t {rows : List RRow12} {b s : Int} (h : onM rows b s 1 = true) : doneM rows b s = (setM rows b ⟨(getM rows b).asked, (getM rows b).begun, 2, []⟩, true) := if_pos h
theorem doneM_f {rows : List RRow12} {b s : Int} (h : onM rows b s 1 = false) : doneM rows b s = (rows, false) := if_neg (by rw [h]; decide)
def cAskM : Con where
  X := Int × List RRow12 × Int × Int
  args := fun ⟨n, rows, b, nd⟩ => [pA, AI b, AI nd]
  heap := fun ⟨n, rows, b, nd⟩ => rH false n rows
  pre := fun ⟨n, rows, b, nd⟩ => PAM n rows b nd
  res := fun ⟨n, rows, b, nd⟩ => .tup [AAtv (askM n rows b nd).2.1, AB (askM n rows b nd).2.2]
  heap' := fun ⟨n, rows, b, nd⟩ => rH false n (askM n rows b nd).1
  pure := false
  find := fun args H => match args with
    | [.ptr id _, .int _ b, .int _ nd] => (findR id H).map fun (n, rows) => (n, rows, b, nd)
    | _ => none
set_option maxRecDepth 100000 in
set_option maxHeartbeats 8000000 in
theorem cAskM_ok : cAskM.Ok Try.prog 18 := by
  refine fun_ok (env_ok (Cons.cons cBlock_ok (Cons.cons cbegin_ok Cons.nil))) mixedP Try.func18 (by decide) rfl cAskM [(3, 18), (2000003, 5), (2000003, 14), (2000003, 17), (4000003, 0), (5000003, 0), (6000003, 0), (4000003, 1), (5000003, 1), (6000003, 1), (4000003, 2), (5000003, 2), (6000003, 2), (4000003, 3), (5000003, 3), (6000003, 3), (4000003, 4), (5000003, 4), (6000003, 4), (3000003, 6), (5000003, 6), (6000003, 6), (3000003, 7), (3000003, 8), (3000003, 9), (3000003, 10), (3000003, 11), (3000003, 12), (3000003, 13), (3000003, 15), (4000003, 15), (3000003, 16), (4000003, 16)] (fun _ => rfl) (fun h => by cases h) (fun _ => Nat.le_of_ble_eq_true rfl) ?_
  rintro ⟨n, rows, b, nd⟩ hp ha hb
  replace hp : PAM n rows b nd := hp
  clear ha hb
  all_goals (repeat' (first
    | with_reducible refine iTr ?_
    | with_reducible refine iB ?_
    | intro _
    | exact True.intro
    | (show _ ∧ _
       first
        | refine aTT ?_
        | refine aTB ?_
        | refine aT ?_
        | refine aB ?_
        | refine a11 ?_
        | refine a01 ?_
        | refine a00 ?_
        | refine a10 ?_
        | (with_reducible refine And.intro rfl ?_)
        | refine And.intro ?_ ?_)
    | with_reducible exact rfl
    | with_reducible exact HEq.rfl
    | (show (_ : Option Nat) = _; exact rfl)
    | (show (_ : Option Blk) = _; exact rfl)
    | (with_reducible show (nodupB _ && _ && _ && _ && _) = true; exact (Eq.refl true))
    | (with_reducible show (nodupB _ && _ && _ && _) = true; exact (Eq.refl true))
    | (with_reducible show (nodupB _ && _ && _) = true; exact (Eq.refl true))
    | (with_reducible show freeOk _ _ = true; exact (Eq.refl true))
    | (with_reducible show wrOk _ _ _ _ _ = true; exact (Eq.refl true))
    | (show (_ : AV) = _; exact rfl)
    | (with_reducible show (_ || !_) = true; exact (Eq.refl true))
    | (with_reducible show Nat.beq _ _ = true; exact (Eq.refl true))))
  all_goals (first | (show (_ : Int) = _) | (show (_ : Bool) = _) | (show HEq _ _) | (show ∃ _ : LInv, _) | skip)
  all_goals (try (with_reducible exact rfl))
  all_goals (try dsimp only at *)
  all_goals (try simp only [Bool.not_true, Bool.not_false, Bool.not_eq_true', Bool.not_eq_false', cond_true, cond_false, decide_eq_true_eq, decide_eq_false_iff_not] at *)
  all_goals (first
    | (have hi : inM rows b = false := (by assumption); have hx : isM n rows b nd = false := (by simp [isM, hi]); rw [askM_f hx]; done)
    | (have hx : isM n rows b nd = false := isM_f (by omega); rw [askM_f hx]; done)
    | skip)
  all_goals (have hi : inM rows b = true := (by assumption); have hb := inM_iff.1 hi; have hlt : b.toNat < rows.length := (by omega); have hx : isM n rows b nd = true := isM_iff.2 ⟨hb, by omega, by omega⟩; have hr := hp.r hx; have hl : (getM rows b).asked.length + 1 ≤ 1000 := (by have h1 : ((getM rows b).asked ++ [nd]).length ≤ 1000 := hr.len; rw [List.length_append, List.length_singleton] at h1; exact h1))
  all_goals (first
    | omega
    | (show (0 + (getM rows b).asked.length) * 8 ≤ _; omega)
    | (show (([] ++ (getM rows b).asked).length + 1) * 8 ≤ _; rw [List.nil_append]; omega)
    | (rw [inM_iff, List.length_set]; exact hb)
    | (rw [getM_set hlt]; exact hr)
    | (rw [askM_t hx, getM_set hlt]; done)
    | (rw [askM_t hx, getM_set hlt]; rfl)
    | (apply heq_of_eq; rw [askM_t hx, getM_set hlt]; unfold setM; rw [List.set_set]; rfl)
    | skip)
def cDoneM : Con where
  X := Int × List RRow12 × Int × Int
  args := fun ⟨n, rows, b, s⟩ => [pA, AI b, AI s]
  heap := fun ⟨n, rows, b, s⟩ => rH false n rows
  pre := fun ⟨n, rows, b, s⟩ => True
  res := fun ⟨n, rows, b, s⟩ => AB (doneM rows b s).2
  heap' := fun ⟨n, rows, b, s⟩ => rH false n (doneM rows b s).1
  pure := false
  find := fun args H => match args with
    | [.ptr id _, .int _ b, .int _ s] => (findR id H).map fun (n, rows) => (n, rows, b, s)
    | _ => none
set_option maxRecDepth 100000 in
set_option maxHeartbeats 8000000 in
theorem cDoneM_ok : cDoneM.Ok Try.prog 20 := by
  refine fun_ok (env_ok (Cons.cons cBlock_ok Cons.nil)) mixedP Try.func20 (by decide) rfl cDoneM [] (fun _ => rfl) (fun h => by cases h) (fun _ => Nat.le_of_ble_eq_true rfl) ?_
  rintro ⟨n, rows, b, s⟩ hp ha hb
  clear hp ha hb
  all_goals (repeat' (first
    | with_reducible refine iTr ?_
    | with_reducible refine iB ?_
    | intro _
    | exact True.intro
    | (show _ ∧ _
       first
        | refine aTT ?_
        | refine aTB ?_
        | refine aT ?_
        | refine aB ?_
        | refine a11 ?_
        | refine a01 ?_
        | refine a00 ?_
        | refine a10 ?_
        | (with_reducible refine And.intro rfl ?_)
        | refine And.intro ?_ ?_)
    | with_reducible exact rfl
    | with_reducible exact HEq.rfl
    | (show (_ : Option Nat) = _; exact rfl)
    | (show (_ : Option Blk) = _; exact rfl)
    | (with_reducible show (nodupB _ && _ && _ && _ && _) = true; exact (Eq.refl true))
    | (with_reducible show (nodupB _ && _ && _ && _) = true; exact (Eq.refl true))
    | (with_reducible show (nodupB _ && _ && _) = true; exact (Eq.refl true))
    | (with_reducible show freeOk _ _ = true; exact (Eq.refl true))
    | (with_reducible show wrOk _ _ _ _ _ = true; exact (Eq.refl true))
    | (show (_ : AV) = _; exact rfl)
    | (with_reducible show (_ || !_) = true; exact (Eq.refl true))
    | (with_reducible show Nat.beq _ _ = true; exact (Eq.refl true))))
  all_goals (first | (show (_ : Int) = _) | (show (_ : Bool) = _) | (show HEq _ _) | (show ∃ _ : LInv, _) | skip)
  all_goals (try (with_reducible exact rfl))
  all_goals (try dsimp only at *)
  all_goals (try simp only [Bool.not_true, Bool.not_false, Bool.not_eq_true', Bool.not_eq_false', cond_true, cond_false, bne_iff_ne, ne_eq, bne_eq_false_iff_eq, List.length_set] at *)
  all_goals (first
    | (rw [doneM_f (by first | exact onM_1 (by assumption) | exact onM_2 (by assumption) | exact onM_3 (by assumption))]; done)
    | skip)
  all_goals (have hi : inM rows b = true := (by assumption); have hb := inM_iff.1 hi; have hlt : b.toNat < rows.length := (by omega))
  all_goals (first
    | omega
    | (rw [doneM_t (onM_t hi (by assumption) (by assumption))]; done)
    | (apply heq_of_eq; rw [doneM_t (onM_t hi (by assumption) (by assumption))]; unfold setM; simp only [getD_set_self, List.set_set, hlt]; rfl)
    | skip)
end Go.Proofs.Ytpjdicndjakeoaa

