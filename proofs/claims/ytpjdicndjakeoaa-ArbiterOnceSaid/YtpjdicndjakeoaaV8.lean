/- ArbiterOnce of layer 12: what it comes to. No condition. -/
import Derived.Test.YtpjdicndjakeoaaV6
namespace Go.Proofs.Ytpjdicndjakeoaa
open Go.RowKit
set_option linter.unusedVariables false
set_option linter.unusedSimpArgs false
theorem wid {n : Int} (h1 : 0 ≤ n) (h2 : n ≤ 64) : newN n = n := by
  unfold newN
  repeat' split
  all_goals omega
/-- While one is active. -/
structure O1 (n : Int) (i : Nat) (rows : List Row12) : Prop where
  len : rows.length = 1
  on : (getR rows 0).on = true
  ending : (getR rows 0).ending = false
  seq : (getR rows 0).act.seq = 1
  q : (getR rows 0).queue.length ≤ i + 1
structure S1 (n : Int) (m i : Nat) (rows : List Row12) : Prop where
  le : i ≤ m
  m100 : m ≤ 100
  o : O1 n i rows
theorem ask_on {n : Int} {i : Nat} {rows : List Row12} (h : O1 n i rows) (nd : Int) : O1 n (i + 1) (askA n rows 0 nd).1 ∧ (askA n rows 0 nd).2.2 = false := by
  by_cases hx : isR n rows 0 nd = true
  · have hq : quiet (addQ (getR rows 0) nd) = true := quiet_on h.on
    have hlt : (0 : Int).toNat < rows.length := by rw [h.len]; decide
    rw [ask_t hx, next_q hq]
    refine ⟨⟨by rw [len_setR]; exact h.len, ?_, ?_, ?_, ?_⟩, rfl⟩ <;> dsimp only <;> rw [getR_setR hlt]
    · exact h.on
    · exact h.ending
    · exact h.seq
    · have := h.q
      show ((getR rows 0).queue ++ [nd]).length ≤ i + 1 + 1
      rw [List.length_append, List.length_singleton]
      omega
  · rw [ask_f (by simpa using hx)]
    exact ⟨⟨h.len, h.on, h.ending, h.seq, Nat.le_succ_of_le h.q⟩, rfl⟩
theorem ack_on {n : Int} {i : Nat} {rows : List Row12} (h : O1 n i rows) (s nd : Int) : ackA n rows 0 s nd = (rows, zA, false) :=
  ack_f (isEnd_1 (by rw [h.ending]; rfl))
/-- While it is ending, and the last node doesn't know. -/
structure O2 (n : Int) (rows : List Row12) : Prop where
  len : rows.length = 1
  on : (getR rows 0).on = false
  k : (getR rows 0).knows.getD (n - 1).toNat false = false
structure S2 (n : Int) (m i : Nat) (rows : List Row12) : Prop where
  le : i ≤ m
  m100 : m ≤ 100
  o : O2 n rows
theorem done_on {n : Int} {i : Nat} {rows : List Row12} (h : O1 n i rows) : doneA rows 0 1 = (setR rows 0 (overR (getR rows 0)), true) ∧ O2 n (setR rows 0 (overR (getR rows 0))) ∧ doneA (setR rows 0 (overR (getR rows 0))) 0 1 = (setR rows 0 (overR (getR rows 0)), false) := by
  have hlt : (0 : Int).toNat < rows.length := by rw [h.len]; decide
  have hi : inR rows 0 = true := inR_iff.2 ⟨by omega, by rw [h.len]; decide⟩
  refine ⟨done_t (by simp [isOn, hi, h.on, h.seq]), ⟨by rw [len_setR]; exact h.len, by rw [getR_setR hlt]; rfl, ?_⟩, done_f ?_⟩
  · rw [getR_setR hlt]
    show (List.replicate 64 false).getD _ false = false
    rw [List.getD_eq_getElem?_getD, List.getElem?_replicate]
    split <;> rfl
  · have : (getR (setR rows 0 (overR (getR rows 0))) 0).on = false := by rw [getR_setR hlt]; rfl
    simp [isOn, this]
theorem ack_k {n : Int} {rows : List Row12} (h : O2 n rows) (h1 : 2 ≤ n) (h2 : n ≤ 64) {s nd : Int} (hn : nd ≠ n - 1) : O2 n (ackA n rows 0 s nd).1 ∧ (ackA n rows 0 s nd).2.2 = false := by
  have hlt : (0 : Int).toNat < rows.length := by rw [h.len]; decide
  by_cases hx : isEnd n rows 0 s nd = true
  · have hr : isR n rows 0 nd = true := by
      cases e : isR n rows 0 nd with
      | true => rfl
      | false => rw [isEnd_0 e] at hx; cases hx
    have hr := isR_iff.1 hr
    have hk : ((getR rows 0).knows.set nd.toNat true).getD (n - 1).toNat false = false := by
      rw [List.getD_eq_getElem?_getD, List.getElem?_set_ne (by omega), ← List.getD_eq_getElem?_getD]
      exact h.k
    have hne : ¬ (getR rows 0).knows.set nd.toNat true = allN n := fun e => by
      rw [e] at hk
      unfold allN at hk
      rw [List.getD_eq_getElem?_getD, List.getElem?_append_left (by simp; omega), List.getElem?_replicate, if_pos (by omega)] at hk
      cases hk
    rw [ack_1 hx hne]
    refine ⟨⟨by rw [len_setR]; exact h.len, ?_, ?_⟩, rfl⟩ <;> dsimp only <;> rw [getR_setR hlt]
    · exact h.on
    · exact hk
  · rw [ack_f (by simpa using hx)]
    exact ⟨h, rfl⟩
theorem O2.cur {n : Int} {rows : List Row12} (h : O2 n rows) : curR rows 0 = (zA, false) := by simp [curR, h.on]
theorem newR1 : newR 1 = [zRow] := by decide
theorem start_1 {n : Int} (h1 : 2 ≤ n) : O1 n 0 (askA n (askA n (newR 1) 0 0).1 0 1).1 := by
  have e : askA n (newR 1) 0 0 = ([⟨1, ⟨0, 0, 1⟩, true, false, List.replicate 64 false, []⟩], ⟨0, 0, 1⟩, true) := by
    rw [newR1, ask_t (isR_iff.2 ⟨by decide, by omega, by omega⟩)]
    rfl
  rw [e]
  have e2 : askA n [⟨1, ⟨0, 0, 1⟩, true, false, List.replicate 64 false, []⟩] 0 1 = ([⟨1, ⟨0, 0, 1⟩, true, false, List.replicate 64 false, [1]⟩], zA, false) := by
    rw [ask_t (isR_iff.2 ⟨by simp, by omega, by omega⟩)]
    rfl
  rw [e2]
  exact ⟨rfl, rfl, rfl, rfl, by simp [getR]⟩
theorem sm_ask0 {n : Int} : PAsk n (newR 1) 0 0 := ⟨fun _ => by rw [newR1]; exact ⟨by decide⟩⟩
theorem sm_ask1 {n : Int} (h1 : 2 ≤ n) : PAsk n (askA n (newR 1) 0 0).1 0 1 := by
  have e : askA n (newR 1) 0 0 = ([⟨1, ⟨0, 0, 1⟩, true, false, List.replicate 64 false, []⟩], ⟨0, 0, 1⟩, true) := by
    rw [newR1, ask_t (isR_iff.2 ⟨by decide, by omega, by omega⟩)]
    rfl
  rw [e]
  exact ⟨fun _ => ⟨by simp [getR]⟩⟩
def stepK (n : Int) (rows : List Row12) (a : Act12) : List Row12 := if a.node = IntKind.i64.wrap (n - 1) then rows else (ackA n rows 0 1 a.node).1
def cAO : Con where
  X := Int × List Act12
  args := fun ⟨n, l⟩ => [AI n, .vsl .act12 l]
  heap := fun _ => hp0
  pre := fun _ => True
  res := fun _ => AB true
  heap' := fun _ => hp0
  pure := true
  find := fun _ _ => none
set_option maxRecDepth 100000 in
set_option maxHeartbeats 16000000 in
theorem cAO_ok : cAO.Ok Try.prog 4 := by
  refine fun_ok (env_ok (Cons.cons cawake_ok (Cons.cons cNewA_ok (Cons.cons cAsk_ok (Cons.cons cDone_ok (Cons.cons cAck_ok (Cons.cons cCur_ok (Cons.cons cWait_ok Cons.nil)))))))) mixedP Try.func4 (by decide) rfl cAO [] (fun _ => rfl) (fun _ _ => ⟨rfl, fun id k h => by cases h⟩) (fun _ => Nat.le_of_ble_eq_true rfl) ?_
  rintro ⟨n, l⟩ hp ha hb
  clear hp ha hb
  all_goals (repeat' (first
    | with_reducible refine iTr ?_
    | with_reducible refine iB ?_
    | intro _
    | exact True.intro
    | (show _ ∧ _
       first
        | refine aTT ?_
        | refine aTB ?_
        | refine aT ?_
        | refine aB ?_
        | refine a11 ?_
        | refine a01 ?_
        | refine a00 ?_
        | refine a10 ?_
        | (with_reducible refine And.intro rfl ?_)
        | refine And.intro ?_ ?_)
    | with_reducible exact rfl
    | with_reducible exact HEq.rfl
    | (show (_ : Option Nat) = _; exact rfl)
    | (show (_ : Option Blk) = _; exact rfl)
    | (with_reducible show (nodupB _ && _ && _ && _ && _) = true; exact (Eq.refl true))
    | (with_reducible show (nodupB _ && _ && _ && _) = true; exact (Eq.refl true))
    | (with_reducible show (nodupB _ && _ && _) = true; exact (Eq.refl true))
    | (with_reducible show freeOk _ _ = true; exact (Eq.refl true))
    | (with_reducible show wrOk _ _ _ _ _ = true; exact (Eq.refl true))
    | (show (_ : AV) = _; exact rfl)
    | (with_reducible show (_ || !_) = true; exact (Eq.refl true))
    | (with_reducible show Nat.beq _ _ = true; exact (Eq.refl true))))
  all_goals (first | (show (_ : Int) = _) | (show (_ : Bool) = _) | (show HEq _ _) | (show ∃ _ : LInv, _) | skip)
  all_goals (try (with_reducible exact rfl))
  all_goals try (refine ⟨⟨{s : Nat × List Row12 // S1 n l.length s.1 s.2}, fun s => [(44, AI s.1.1), (43, AI l.length), (42, .vsl .act12 l), (5, .ptr 0 ⟨0,0,0,none⟩), (0, AI n), (1, .vsl .act12 l)], fun s => ⟨2, [(1, some (.seq false 59 .row12 s.1.2)), (0, some (.obj false [.int .i64 (newN n), .slc 1]))]⟩, fun s => l.length - s.1.1⟩, ⟨⟨(0, (askA (newN n) (askA (newN n) (newR 1) 0 0).1 0 1).1), ?_⟩, [], ?_⟩, ?_⟩; rotate_right; rintro ⟨⟨i, rows⟩, hS⟩)
  all_goals (repeat' (first
    | with_reducible refine iTr ?_
    | with_reducible refine iB ?_
    | intro _
    | exact True.intro
    | (show _ ∧ _
       first
        | refine aTT ?_
        | refine aTB ?_
        | refine aT ?_
        | refine aB ?_
        | refine a11 ?_
        | refine a01 ?_
        | refine a00 ?_
        | refine a10 ?_
        | (with_reducible refine And.intro rfl ?_)
        | refine And.intro ?_ ?_)
    | with_reducible exact rfl
    | with_reducible exact HEq.rfl
    | (show (_ : Option Nat) = _; exact rfl)
    | (show (_ : Option Blk) = _; exact rfl)
    | (with_reducible show (nodupB _ && _ && _ && _ && _) = true; exact (Eq.refl true))
    | (with_reducible show (nodupB _ && _ && _ && _) = true; exact (Eq.refl true))
    | (with_reducible show (nodupB _ && _ && _) = true; exact (Eq.refl true))
    | (with_reducible show freeOk _ _ = true; exact (Eq.refl true))
    | (with_reducible show wrOk _ _ _ _ _ = true; exact (Eq.refl true))
    | (show (_ : AV) = _; exact rfl)
    | (with_reducible show (_ || !_) = true; exact (Eq.refl true))
    | (with_reducible show Nat.beq _ _ = true; exact (Eq.refl true))))
  all_goals (first | (show (_ : Int) = _) | (show (_ : Bool) = _) | (show HEq _ _) | (show ∃ _ : LInv, _) | skip)
  all_goals (try (with_reducible exact rfl))
  all_goals try (refine ⟨⟨(i + 1, (ackA (newN n) (askA (newN n) rows 0 (l.getD i Ty.act12.dflt).node).1 0 (l.getD i Ty.act12.dflt).seq (l.getD i Ty.act12.dflt).node).1), ?_⟩, ?_, ?_⟩)
  all_goals (repeat' (first
    | with_reducible refine iTr ?_
    | with_reducible refine iB ?_
    | intro _
    | exact True.intro
    | (show _ ∧ _
       first
        | refine aTT ?_
        | refine aTB ?_
        | refine aT ?_
        | refine aB ?_
        | refine a11 ?_
        | refine a01 ?_
        | refine a00 ?_
        | refine a10 ?_
        | (with_reducible refine And.intro rfl ?_)
        | refine And.intro ?_ ?_)
    | with_reducible exact rfl
    | with_reducible exact HEq.rfl
    | (show (_ : Option Nat) = _; exact rfl)
    | (show (_ : Option Blk) = _; exact rfl)
    | (with_reducible show (nodupB _ && _ && _ && _ && _) = true; exact (Eq.refl true))
    | (with_reducible show (nodupB _ && _ && _ && _) = true; exact (Eq.refl true))
    | (with_reducible show (nodupB _ && _ && _) = true; exact (Eq.refl true))
    | (with_reducible show freeOk _ _ = true; exact (Eq.refl true))
    | (with_reducible show wrOk _ _ _ _ _ = true; exact (Eq.refl true))
    | (show (_ : AV) = _; exact rfl)
    | (with_reducible show (_ || !_) = true; exact (Eq.refl true))
    | (with_reducible show Nat.beq _ _ = true; exact (Eq.refl true))))
  all_goals (first | (show (_ : Int) = _) | (show (_ : Bool) = _) | (show HEq _ _) | (show ∃ _ : LInv, _) | skip)
  all_goals (try (with_reducible exact rfl))
  all_goals try (refine ⟨⟨{s : Nat × List Row12 // S2 n l.length s.1 s.2}, fun s => [(76, AI s.1.1), (75, AI l.length), (74, .vsl .act12 l), (5, .ptr 0 ⟨0,0,0,none⟩), (0, AI n)], fun s => ⟨2, [(1, some (.seq false 59 .row12 s.1.2)), (0, some (.obj false [.int .i64 (newN n), .slc 1]))]⟩, fun s => l.length - s.1.1⟩, ⟨⟨(0, setR rows 0 (overR (getR rows 0))), ?_⟩, [], ?_⟩, ?_⟩; rotate_right; rintro ⟨⟨j, rows2⟩, hS2⟩)
  all_goals (repeat' (first
    | with_reducible refine iTr ?_
    | with_reducible refine iB ?_
    | intro _
    | exact True.intro
    | (show _ ∧ _
       first
        | refine aTT ?_
        | refine aTB ?_
        | refine aT ?_
        | refine aB ?_
        | refine a11 ?_
        | refine a01 ?_
        | refine a00 ?_
        | refine a10 ?_
        | (with_reducible refine And.intro rfl ?_)
        | refine And.intro ?_ ?_)
    | with_reducible exact rfl
    | with_reducible exact HEq.rfl
    | (show (_ : Option Nat) = _; exact rfl)
    | (show (_ : Option Blk) = _; exact rfl)
    | (with_reducible show (nodupB _ && _ && _ && _ && _) = true; exact (Eq.refl true))
    | (with_reducible show (nodupB _ && _ && _ && _) = true; exact (Eq.refl true))
    | (with_reducible show (nodupB _ && _ && _) = true; exact (Eq.refl true))
    | (with_reducible show freeOk _ _ = true; exact (Eq.refl true))
    | (with_reducible show wrOk _ _ _ _ _ = true; exact (Eq.refl true))
    | (show (_ : AV) = _; exact rfl)
    | (with_reducible show (_ || !_) = true; exact (Eq.refl true))
    | (with_reducible show Nat.beq _ _ = true; exact (Eq.refl true))))
  all_goals (first | (show (_ : Int) = _) | (show (_ : Bool) = _) | (show HEq _ _) | (show ∃ _ : LInv, _) | skip)
  all_goals (try (with_reducible exact rfl))
  all_goals try (refine ⟨⟨(j + 1, stepK (newN n) rows2 (l.getD j Ty.act12.dflt)), ?_⟩, ?_, ?_⟩)
  all_goals (repeat' (first
    | with_reducible refine iTr ?_
    | with_reducible refine iB ?_
    | intro _
    | exact True.intro
    | (show _ ∧ _
       first
        | refine aTT ?_
        | refine aTB ?_
        | refine aT ?_
        | refine aB ?_
        | refine a11 ?_
        | refine a01 ?_
        | refine a00 ?_
        | refine a10 ?_
        | (with_reducible refine And.intro rfl ?_)
        | refine And.intro ?_ ?_)
    | with_reducible exact rfl
    | with_reducible exact HEq.rfl
    | (show (_ : Option Nat) = _; exact rfl)
    | (show (_ : Option Blk) = _; exact rfl)
    | (with_reducible show (nodupB _ && _ && _ && _ && _) = true; exact (Eq.refl true))
    | (with_reducible show (nodupB _ && _ && _ && _) = true; exact (Eq.refl true))
    | (with_reducible show (nodupB _ && _ && _) = true; exact (Eq.refl true))
    | (with_reducible show freeOk _ _ = true; exact (Eq.refl true))
    | (with_reducible show wrOk _ _ _ _ _ = true; exact (Eq.refl true))
    | (show (_ : AV) = _; exact rfl)
    | (with_reducible show (_ || !_) = true; exact (Eq.refl true))
    | (with_reducible show Nat.beq _ _ = true; exact (Eq.refl true))))
  all_goals (first | (show (_ : Int) = _) | (show (_ : Bool) = _) | (show HEq _ _) | (show ∃ _ : LInv, _) | skip)
  all_goals (try (with_reducible exact rfl))
  all_goals (try dsimp only at *)
  all_goals (try simp only [cond_true, cond_false, Bool.not_true, Bool.not_false, decide_eq_true_eq, decide_eq_false_iff_not, Int.toNat_natCast] at *)
  all_goals (have h2 : 2 ≤ n := (by omega); have h64 : n ≤ 64 := (by omega); have e0 : newN n = n := wid (by omega) h64; have hl : l.length ≤ 100 := (by omega))
  all_goals (try simp only [e0] at *)
  all_goals (first
    | omega
    | rfl
    | exact sm_ask0
    | exact sm_ask1 h2
    | (show S1 _ _ 0 _; exact ⟨Nat.zero_le _, hl, start_1 h2⟩)
    | exact wrap_succ (by omega)
    | skip)
  all_goals (first
    | exact ⟨fun _ => ⟨by have h1 : (getR rows 0).queue.length ≤ i + 1 := hS.o.q; omega⟩⟩
    | (show S1 _ _ (i + 1) _; rw [ack_on (ask_on hS.o _).1]; exact ⟨by omega, hl, (ask_on hS.o _).1⟩)
    | exact (ask_on hS.o (l.getD i Ty.act12.dflt).node).2.symm.trans (by assumption)
    | exact (congrArg (fun x => x.2.2) (ack_on (ask_on hS.o (l.getD i Ty.act12.dflt).node).1 (l.getD i Ty.act12.dflt).seq (l.getD i Ty.act12.dflt).node)).symm.trans (by assumption)
    | (have hd := done_on hS.o; first | (show S2 _ _ 0 _; exact ⟨Nat.zero_le _, hl, hd.2.1⟩) | (apply heq_of_eq; rw [hd.1]; dsimp only; rw [hd.2.2]; done) | (exfalso; have h5 : (!(doneA rows 0 1).2) = true := (by assumption); rw [hd.1] at h5; cases h5) | (exfalso; have h5 : (doneA (doneA rows 0 1).1 0 1).2 = true := (by assumption); rw [hd.1] at h5; dsimp only at h5; rw [hd.2.2] at h5; cases h5))
    | exact ⟨h64⟩
    | (rw [hS2.o.cur]; rfl)
    | skip)
  all_goals (have hw : IntKind.i64.wrap (n - 1) = n - 1 := wrap_id (by omega) (by omega))
  all_goals (first
    | (have hk : (l.getD j Ty.act12.dflt).node = IntKind.i64.wrap (n - 1) := (by simpa using ‹((l.getD j Ty.act12.dflt).node == IntKind.i64.wrap (n - 1)) = true›); have e : stepK n rows2 (l.getD j Ty.act12.dflt) = rows2 := if_pos hk; rw [e]; first | exact ⟨by omega, hl, hS2.o⟩ | done)
    | (have hk : ¬ (l.getD j Ty.act12.dflt).node = IntKind.i64.wrap (n - 1) := (by simpa using ‹((l.getD j Ty.act12.dflt).node == IntKind.i64.wrap (n - 1)) = false›); have e : stepK n rows2 (l.getD j Ty.act12.dflt) = (ackA n rows2 0 1 (l.getD j Ty.act12.dflt).node).1 := if_neg hk; have ha := ack_k (s := 1) hS2.o h2 h64 (fun h => hk (h.trans hw.symm)); first | (rw [e]; exact ⟨by omega, hl, ha.1⟩) | (rw [e]; done) | exact ha.2.symm.trans (by assumption))
    | skip)
end Go.Proofs.Ytpjdicndjakeoaa

