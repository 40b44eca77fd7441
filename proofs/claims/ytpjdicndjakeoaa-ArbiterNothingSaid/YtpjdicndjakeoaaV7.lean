/- ArbiterNothing of layer 12: what it comes to. No condition. -/
import Derived.Test.YtpjdicndjakeoaaV6
namespace Go.Proofs.Ytpjdicndjakeoaa
open Go.RowKit
set_option linter.unusedVariables false
set_option linter.unusedSimpArgs false
theorem newN_id {n : Int} (h1 : 0 ≤ n) (h2 : n ≤ 64) : newN n = n := by
  unfold newN
  repeat' split
  all_goals omega
theorem len_newR (m : Int) : (newR m).length = (newN m).toNat := by simp [newR]
theorem isR_false {n : Int} {rows : List Row12} {b nd : Int} (h : ¬ ((0 ≤ b ∧ b < rows.length) ∧ 0 ≤ nd ∧ nd < n)) : isR n rows b nd = false := by
  cases e : isR n rows b nd with
  | false => rfl
  | true => exact absurd (isR_iff.1 e) h
def row1 : Row12 := ⟨1, ⟨0, 0, 1⟩, true, false, List.replicate 64 false, []⟩
def R1 (m : Int) : List Row12 := setR (newR m) 0 row1
theorem getR_newR {m b : Int} (h : inR (newR m) b = true) : getR (newR m) b = zRow := by
  have h := inR_iff.1 h
  rw [len_newR] at h
  unfold getR newR
  rw [List.getD_eq_getElem?_getD, List.getElem?_replicate, if_pos (by omega)]
  rfl
theorem len_R1 {m : Int} (h1 : 1 ≤ m) (h2 : m ≤ 64) : ((R1 m).length : Int) = m := by
  unfold R1
  rw [len_setR, len_newR, newN_id (by omega) h2]
  omega
theorem ask0 {n m : Int} (hn : 1 ≤ n) (h1 : 1 ≤ m) (h2 : m ≤ 64) : askA n (newR m) 0 0 = (R1 m, ⟨0, 0, 1⟩, true) := by
  have hl : ((newR m).length : Int) = m := by rw [len_newR, newN_id (by omega) h2]; omega
  have hx : isR n (newR m) 0 0 = true := isR_iff.2 ⟨⟨by omega, by omega⟩, by omega, by omega⟩
  rw [ask_t hx, getR_newR (inR_iff.2 ⟨by omega, by omega⟩)]
  rfl
theorem get_R1 {m b : Int} (h1 : 1 ≤ m) (h2 : m ≤ 64) (h : inR (R1 m) b = true) : getR (R1 m) b = if b = 0 then row1 else zRow := by
  have hb := inR_iff.1 h
  rw [len_R1 h1 h2] at hb
  have hl : ((newR m).length : Int) = m := by rw [len_newR, newN_id (by omega) h2]; omega
  split
  · rename_i e
    subst e
    exact getR_setR (by have : (0 : Int).toNat = 0 := rfl; omega)
  · rename_i e
    unfold R1 setR getR
    rw [List.getD_eq_getElem?_getD, List.getElem?_set_ne (by have : (0 : Int).toNat = 0 := rfl; omega), ← List.getD_eq_getElem?_getD]
    exact getR_newR (inR_iff.2 ⟨hb.1, by omega⟩)
theorem in_R1 {m : Int} (h1 : 1 ≤ m) (h2 : m ≤ 64) : inR (R1 m) 0 = true := inR_iff.2 ⟨by omega, by rw [len_R1 h1 h2]; omega⟩
theorem cur_R1 {m : Int} (h1 : 1 ≤ m) (h2 : m ≤ 64) : curR (R1 m) 0 = (⟨0, 0, 1⟩, true) := by
  unfold curR
  rw [in_R1 h1 h2, get_R1 h1 h2 (in_R1 h1 h2)]
  rfl
theorem wait_R1 {m b : Int} (h1 : 1 ≤ m) (h2 : m ≤ 64) : waitR (R1 m) b = [] := by
  unfold waitR
  split
  · rename_i h
    rw [get_R1 h1 h2 h]
    split <;> rfl
  · rfl
theorem out_R1 {m b : Int} (h1 : 1 ≤ m) (h2 : m ≤ 64) (h : b < 0 ∨ m ≤ b) : curR (R1 m) b = (zA, false) ∧ doneA (R1 m) b 1 = (R1 m, false) := by
  have hx : inR (R1 m) b = false := inR_false (by rw [len_R1 h1 h2]; omega)
  refine ⟨by simp [curR, hx], done_f (by simp [isOn, hx])⟩
theorem sm_new {n m b nd : Int} : PAsk n (newR m) b nd := ⟨fun h => by rw [getR_newR (inR_iff.2 (isR_iff.1 h).1)]; exact ⟨by decide⟩⟩
theorem sm_R1 {n m b nd : Int} (h1 : 1 ≤ m) (h2 : m ≤ 64) : PAsk n (R1 m) b nd := ⟨fun h => by rw [get_R1 h1 h2 (inR_iff.2 (isR_iff.1 h).1)]; split <;> exact ⟨by decide⟩⟩
def cAN : Con where
  X := I2 × Act12
  args := fun ⟨s, x⟩ => [.agg [.arr 2 .int [s.a, s.b]], .agg (enc .act12 x)]
  heap := fun _ => hp0
  pre := fun _ => True
  res := fun _ => AB true
  heap' := fun _ => hp0
  pure := true
  find := fun _ _ => none
set_option maxRecDepth 100000 in
set_option maxHeartbeats 8000000 in
theorem cAN_ok : cAN.Ok Try.prog 5 := by
  refine fun_ok (env_ok (Cons.cons cawake_ok (Cons.cons cNewA_ok (Cons.cons cAsk_ok (Cons.cons cDone_ok (Cons.cons cAck_ok (Cons.cons cCur_ok (Cons.cons cWait_ok Cons.nil)))))))) mixedP Try.func5 (by decide) rfl cAN [] (fun _ => rfl) (fun _ _ => ⟨rfl, fun id k h => by cases h⟩) (fun _ => Nat.le_of_ble_eq_true rfl) ?_
  rintro ⟨⟨sa, sb⟩, ⟨k, b, s, nd⟩⟩ hp ha hb
  clear hp ha hb
  all_goals (repeat' (first
    | with_reducible refine iTr ?_
    | with_reducible refine iB ?_
    | intro _
    | exact True.intro
    | (show _ ∧ _
       first
        | refine aTT ?_
        | refine aTB ?_
        | refine aT ?_
        | refine aB ?_
        | refine a11 ?_
        | refine a01 ?_
        | refine a00 ?_
        | refine a10 ?_
        | (with_reducible refine And.intro rfl ?_)
        | refine And.intro ?_ ?_)
    | with_reducible exact rfl
    | with_reducible exact HEq.rfl
    | (show (_ : Option Nat) = _; exact rfl)
    | (show (_ : Option Blk) = _; exact rfl)
    | (with_reducible show (nodupB _ && _ && _ && _ && _) = true; exact (Eq.refl true))
    | (with_reducible show (nodupB _ && _ && _ && _) = true; exact (Eq.refl true))
    | (with_reducible show (nodupB _ && _ && _) = true; exact (Eq.refl true))
    | (with_reducible show freeOk _ _ = true; exact (Eq.refl true))
    | (with_reducible show wrOk _ _ _ _ _ = true; exact (Eq.refl true))
    | (show (_ : AV) = _; exact rfl)
    | (with_reducible show (_ || !_) = true; exact (Eq.refl true))
    | (with_reducible show Nat.beq _ _ = true; exact (Eq.refl true))))
  all_goals (first | (show (_ : Int) = _) | (show (_ : Bool) = _) | (show HEq _ _) | (show ∃ _ : LInv, _) | skip)
  all_goals (try (with_reducible exact rfl))
  all_goals (first | (show (0 : Int) ≤ _; omega) | (show (_ : Int) < ((2 : Nat) : Int); omega) | (show Int.toNat _ < 2; decide) | skip)
  all_goals (have hs0 : ∀ d, [sa, sb].getD (Int.toNat 0) d = sa := fun _ => rfl; have hs1 : ∀ d, [sa, sb].getD (Int.toNat 1) d = sb := fun _ => rfl)
  all_goals (try dsimp only at *)
  all_goals (try simp only [hs0, hs1, cond_true, cond_false, Bool.not_true, Bool.not_false, decide_eq_true_eq, decide_eq_false_iff_not] at *)
  all_goals (have h1 : 1 ≤ sb := (by omega); have h2 : sb ≤ 64 := (by omega); have h3 : 1 ≤ sa := (by omega); have h4 : sa ≤ 64 := (by omega); have e0 : newN sa = sa := newN_id (by omega) h4)
  all_goals (try simp only [e0] at *)
  all_goals (first | exact sm_new | skip)
  all_goals (try simp only [ask0 h3 h1 h2] at *)
  all_goals (first | exact sm_R1 h1 h2 | skip)
  all_goals (have hf : isR sa (R1 sb) b nd = false := isR_false (by rw [len_R1 h1 h2]; omega))
  all_goals (try simp only [ask_f hf, ack_f (isEnd_0 hf)] at *)
  all_goals (first | exact ⟨h4⟩ | skip)
  all_goals (try simp only [cur_R1 h1 h2] at *)
  all_goals (first
    | (exfalso; simp at *; done)
    | (have ho : b < 0 ∨ sb ≤ b := (by omega); have hc := out_R1 h1 h2 ho; simp only [hc.1, hc.2] at *; first | (exfalso; simp at *; done) | exact ⟨by rw [wait_R1 h1 h2]; decide⟩ | (rw [wait_R1 h1 h2] at *; first | rfl | (exfalso; simp at *; done)))
    | exact ⟨by rw [wait_R1 h1 h2]; decide⟩
    | (rw [wait_R1 h1 h2]; rfl)
    | skip)
end Go.Proofs.Ytpjdicndjakeoaa

