/- Contracts of the arbiter's Ask, Done, Ack, Copy. No condition. -/
import Derived.Test.YtpjdicndjakeoaaV2
namespace Go.Proofs.Ytpjdicndjakeoaa
open Go.RowKit
set_option linter.unusedVariables false
set_option linter.unusedSimpArgs false
def addQ (r : Row12) (nd : Int) : Row12 := ⟨r.seq, r.act, r.on, r.ending, r.knows, r.queue ++ [nd]⟩
def askA (n : Int) (rows : List Row12) (b nd : Int) : List Row12 × Atv × Bool :=
  if isR n rows b nd then (setR rows b (nextR b (addQ (getR rows b) nd)).1, (nextR b (addQ (getR rows b) nd)).2) else (rows, zA, false)
structure PAsk (n : Int) (rows : List Row12) (b nd : Int) : Prop where
  sm : isR n rows b nd = true → Sm (getR rows b).queue.length
def overR (r : Row12) : Row12 := ⟨r.seq, r.act, false, true, List.replicate 64 false, r.queue⟩
def isOn (rows : List Row12) (b s : Int) : Bool := inR rows b && ((getR rows b).on && decide ((getR rows b).act.seq = s))
def doneA (rows : List Row12) (b s : Int) : List Row12 × Bool :=
  if isOn rows b s then (setR rows b (overR (getR rows b)), true) else (rows, false)
def allN (n : Int) : List Bool := List.replicate n.toNat true ++ List.replicate (64 - n.toNat) false
def knowR (r : Row12) (nd : Int) : Row12 := ⟨r.seq, r.act, r.on, r.ending, r.knows.set nd.toNat true, r.queue⟩
def endR (r : Row12) (nd : Int) : Row12 := ⟨r.seq, r.act, r.on, false, r.knows.set nd.toNat true, r.queue⟩
def isEnd (n : Int) (rows : List Row12) (b s nd : Int) : Bool := isR n rows b nd && ((getR rows b).ending && decide ((getR rows b).act.seq = s))
def ackA (n : Int) (rows : List Row12) (b s nd : Int) : List Row12 × Atv × Bool :=
  if isEnd n rows b s nd then (if (getR rows b).knows.set nd.toNat true = allN n then (setR rows b (nextR b (endR (getR rows b) nd)).1, (nextR b (endR (getR rows b) nd)).2) else (setR rows b (knowR (getR rows b) nd), zA, false)) else (rows, zA, false)
theorem isR_iff {n : Int} {rows : List Row12} {b nd : Int} : isR n rows b nd = true ↔ (0 ≤ b ∧ b < rows.length) ∧ 0 ≤ nd ∧ nd < n := by simp [isR, inR]
theorem getR_set {rows : List Row12} {b : Int} {v : Row12} (h : b.toNat < rows.length) : getR (rows.set b.toNat v) b = v := getD_set_self h
theorem ask_t {n : Int} {rows : List Row12} {b nd : Int} (h : isR n rows b nd = true) : askA n rows b nd = (setR rows b (nextR b (addQ (getR rows b) nd)).1, (nextR b (addQ (getR rows b) nd)).2) := if_pos h
theorem ask_f {n : Int} {rows : List Row12} {b nd : Int} (h : isR n rows b nd = false) : askA n rows b nd = (rows, zA, false) := if_neg (by rw [h]; decide)
theorem done_t {rows : List Row12} {b s : Int} (h : isOn rows b s = true) : doneA rows b s = (setR rows b (overR (getR rows b)), true) := if_pos h
theorem done_f {rows : List Row12} {b s : Int} (h : isOn rows b s = false) : doneA rows b s = (rows, false) := if_neg (by rw [h]; decide)
def cAsk : Con where
  X := Int × List Row12 × Int × Int
  args := fun ⟨n, rows, b, nd⟩ => [pA, AI b, AI nd]
  heap := fun ⟨n, rows, b, nd⟩ => aH false n rows
  pre := fun ⟨n, rows, b, nd⟩ => PAsk n rows b nd
  res := fun ⟨n, rows, b, nd⟩ => .tup [AAtv (askA n rows b nd).2.1, AB (askA n rows b nd).2.2]
  heap' := fun ⟨n, rows, b, nd⟩ => aH false n (askA n rows b nd).1
  pure := false
  find := fun args H => match args with
    | [.ptr id _, .int _ b, .int _ nd] => (findA id H).map fun (n, rows) => (n, rows, b, nd)
    | _ => none
set_option maxRecDepth 100000 in
set_option maxHeartbeats 8000000 in
theorem cAsk_ok : cAsk.Ok Try.prog 11 := by
  refine fun_ok (env_ok (Cons.cons cis_ok (Cons.cons cnext_ok (Cons.cons cCloneI_ok Cons.nil)))) mixedP Try.func11 (by decide) rfl cAsk [] (fun _ => rfl) (fun h => by cases h) (fun _ => Nat.le_of_ble_eq_true rfl) ?_
  rintro ⟨n, rows, b, nd⟩ hp ha hb
  replace hp : PAsk n rows b nd := hp
  clear ha hb
  all_goals (repeat' (first
    | with_reducible refine iTr ?_
    | with_reducible refine iB ?_
    | intro _
    | exact True.intro
    | (show _ ∧ _
       first
        | refine aTT ?_
        | refine aTB ?_
        | refine aT ?_
        | refine aB ?_
        | refine a11 ?_
        | refine a01 ?_
        | refine a00 ?_
        | refine a10 ?_
        | (with_reducible refine And.intro rfl ?_)
        | refine And.intro ?_ ?_)
    | with_reducible exact rfl
    | with_reducible exact HEq.rfl
    | (show (_ : Option Nat) = _; exact rfl)
    | (show (_ : Option Blk) = _; exact rfl)
    | (with_reducible show (nodupB _ && _ && _ && _ && _) = true; exact (Eq.refl true))
    | (with_reducible show (nodupB _ && _ && _ && _) = true; exact (Eq.refl true))
    | (with_reducible show (nodupB _ && _ && _) = true; exact (Eq.refl true))
    | (with_reducible show freeOk _ _ = true; exact (Eq.refl true))
    | (with_reducible show wrOk _ _ _ _ _ = true; exact (Eq.refl true))
    | (show (_ : AV) = _; exact rfl)
    | (show (_ : Heap) = _; exact rfl)
    | (with_reducible show (_ || !_) = true; exact (Eq.refl true))
    | (with_reducible show Nat.beq _ _ = true; exact (Eq.refl true))))
  all_goals (first | (show (_ : Int) = _) | (show (_ : Bool) = _) | (show HEq _ _) | (show ∃ _ : LInv, _) | skip)
  all_goals (try (with_reducible exact rfl))
  all_goals (try dsimp only at *)
  all_goals (first
    | (rw [ask_f (by simpa using ‹(!isR n rows b nd) = true›)]; done)
    | (rw [ask_f (by simpa using ‹(!isR n rows b nd) = true›)]; rfl)
    | skip)
  all_goals (have hx : isR n rows b nd = true := (by simpa using ‹(!isR n rows b nd) = false›))
  all_goals (have hbn := isR_iff.1 hx; have hlt : b.toNat < rows.length := (by omega))
  all_goals (first
    | omega
    | exact hp.sm hx
    | (have hs : (rows.getD b.toNat Ty.row12.dflt).queue.length ≤ 1000000 := (hp.sm hx).le; show ((rows.getD b.toNat Ty.row12.dflt).queue.length + 1) * 8 ≤ _; omega)
    | (rw [inR_iff, List.length_set]; exact hbn.1)
    | (rw [ask_t hx, getR_set hlt]; done)
    | (rw [ask_t hx, getR_set hlt]; rfl)
    | (apply heq_of_eq; rw [ask_t hx, getR_set hlt]; unfold setR; rw [List.set_set]; rfl)
    | skip)
def cDone : Con where
  X := Int × List Row12 × Int × Int
  args := fun ⟨n, rows, b, s⟩ => [pA, AI b, AI s]
  heap := fun ⟨n, rows, b, s⟩ => aH false n rows
  pre := fun ⟨n, rows, b, s⟩ => True
  res := fun ⟨n, rows, b, s⟩ => AB (doneA rows b s).2
  heap' := fun ⟨n, rows, b, s⟩ => aH false n (doneA rows b s).1
  pure := false
  find := fun args H => match args with
    | [.ptr id _, .int _ b, .int _ s] => (findA id H).map fun (n, rows) => (n, rows, b, s)
    | _ => none
set_option maxRecDepth 100000 in
set_option maxHeartbeats 8000000 in
theorem cDone_ok : cDone.Ok Try.prog 13 := by
  refine fun_ok (env_ok Cons.nil) mixedP Try.func13 (by decide) rfl cDone [] (fun _ => rfl) (fun h => by cases h) (fun _ => Nat.le_of_ble_eq_true rfl) ?_
  rintro ⟨n, rows, b, s⟩ hp ha hb
  clear hp ha hb
  all_goals (repeat' (first
    | with_reducible refine iTr ?_
    | with_reducible refine iB ?_
    | intro _
    | exact True.intro
    | (show _ ∧ _
       first
        | refine aTT ?_
        | refine aTB ?_
        | refine aT ?_
        | refine aB ?_
        | refine a11 ?_
        | refine a01 ?_
        | refine a00 ?_
        | refine a10 ?_
        | (with_reducible refine And.intro rfl ?_)
        | refine And.intro ?_ ?_)
    | with_reducible exact rfl
    | with_reducible exact HEq.rfl
    | (show (_ : Option Nat) = _; exact rfl)
    | (show (_ : Option Blk) = _; exact rfl)
    | (with_reducible show (nodupB _ && _ && _ && _ && _) = true; exact (Eq.refl true))
    | (with_reducible show (nodupB _ && _ && _ && _) = true; exact (Eq.refl true))
    | (with_reducible show (nodupB _ && _ && _) = true; exact (Eq.refl true))
    | (with_reducible show freeOk _ _ = true; exact (Eq.refl true))
    | (with_reducible show wrOk _ _ _ _ _ = true; exact (Eq.refl true))
    | (show (_ : AV) = _; exact rfl)
    | (show (_ : Heap) = _; exact rfl)
    | (with_reducible show (_ || !_) = true; exact (Eq.refl true))
    | (with_reducible show Nat.beq _ _ = true; exact (Eq.refl true))))
  all_goals (first | (show (_ : Int) = _) | (show (_ : Bool) = _) | (show HEq _ _) | (show ∃ _ : LInv, _) | skip)
  all_goals (try (with_reducible exact rfl))
  all_goals (try dsimp only at *)
  all_goals (try simp only [Bool.not_false, Bool.not_true, decide_eq_true_eq, decide_eq_false_iff_not, Bool.not_eq_true', Bool.not_eq_false', cond_false, cond_true, bne_iff_ne, bne_eq_false_iff_eq, List.length_set] at *)
  all_goals (first
    | omega
    | (have hx : isOn rows b s = false := (by first | (have hi : inR rows b = false := inR_false (by omega); simp [isOn, hi]; done) | (have hi : (getR rows b).on = false := (by assumption); simp [isOn, hi]; done) | (have hi : (getR rows b).act.seq ≠ s := (by assumption); simp [isOn, hi]; done)); rw [done_f hx]; done)
    | (have hx : isOn rows b s = true := (by have hi : inR rows b = true := inR_iff.2 ⟨by omega, by omega⟩; have h1 : (getR rows b).on = true := (by assumption); have h2 : (getR rows b).act.seq = s := (by assumption); simp [isOn, hi, h1, h2]; done); have hlt : b.toNat < rows.length := (by omega); rw [done_t hx]; first | done | (apply heq_of_eq; unfold setR; simp only [getD_set_self, List.set_set, List.length_set, hlt]; rfl))
    | skip)
end Go.Proofs.Ytpjdicndjakeoaa

