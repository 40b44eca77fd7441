/- ArbiterPlays of layer 12: what it comes to. No condition. -/
import Derived.Test.YtpjdicndjakeoaaV16
import Derived.Test.YtpjdicndjakeoaaV5
namespace Go.Proofs.Ytpjdicndjakeoaa
open Go.RowKit
set_option linter.unusedVariables false
set_option linter.unusedSimpArgs false
def seqS (ms : List RRow12) (a : Act12) : Int := if a.kind = 5 ∧ (curM ms a.block).2 = true then (curM ms a.block).1.seq else a.seq
def sR (n : Int) (rows : List Row12) (ms : List RRow12) (a : Act12) : List Row12 :=
  if a.kind = 1 then (askA n rows a.block a.node).1 else if a.kind = 2 ∨ a.kind = 5 then (doneA rows a.block (seqS ms a)).1 else if a.kind = 3 then (ackA n rows a.block a.seq a.node).1 else rows
def sM (n : Int) (ms : List RRow12) (a : Act12) : List RRow12 :=
  if a.kind = 1 then (askM n ms a.block a.node).1 else if a.kind = 2 ∨ a.kind = 5 then (doneM ms a.block (seqS ms a)).1 else if a.kind = 3 then (ackM n ms a.block a.seq a.node).1 else ms
theorem RA.step {n : Int} {i : Nat} {rows : List Row12} {ms : List RRow12} (h : RA n i (65 * i) rows ms) (hi : i ≤ 1000) (a : Act12) : RA n (i + 1) (65 * (i + 1)) (sR n rows ms a) (sM n ms a) := by
  unfold sR sM
  split
  · exact (h.ask hi a.block a.node).2.mono (Nat.le_refl _) (by omega)
  · split
    · exact (h.done a.block _).2.mono (by omega) (by omega)
    · split
      · exact (h.ack hi a.block a.seq a.node).2.mono (by omega) (by omega)
      · exact h.mono (by omega) (by omega)
theorem RA.asked {n : Int} {ka kk : Nat} {rows : List Row12} {ms : List RRow12} (h : RA n ka kk rows ms) {b : Int} (hb : inR rows b = true) : (getR rows b).queue.length ≤ ka := by
  have hr := h.row b hb
  rw [hr.queue, List.length_drop]
  have := hr.la
  omega
theorem RA.pask {n : Int} {ka kk : Nat} {rows : List Row12} {ms : List RRow12} (h : RA n ka kk rows ms) (hk : ka ≤ 900) (b nd : Int) : PAsk n rows b nd := ⟨fun hx => ⟨Nat.le_trans (h.asked (inR_iff.2 (isR_iff.1 hx).1)) (by omega)⟩⟩
theorem RA.pam {n : Int} {ka kk : Nat} {rows : List Row12} {ms : List RRow12} (h : RA n ka kk rows ms) (hk : ka ≤ 900) (hkk : kk ≤ 99999) (b nd : Int) : PAM n ms b nd := ⟨fun hx => by
  rw [h.isM] at hx
  exact ((h.row b (inR_iff.2 (isR_iff.1 hx).1)).add (by omega) nd).rowM (by omega) (by omega)⟩
theorem RA.pm {n : Int} {ka kk : Nat} {rows : List Row12} {ms : List RRow12} (h : RA n ka kk rows ms) (hk : ka ≤ 900) (hkk : kk ≤ 99999) (b : Int) : PM ms b := ⟨fun hx => by
  rw [h.inM] at hx
  exact (h.row b hx).rowM (by omega) (by omega)⟩
theorem RA.pkm {n : Int} {ka kk : Nat} {rows : List Row12} {ms : List RRow12} (h : RA n ka kk rows ms) (hk : ka ≤ 900) (hkk : kk ≤ 99999) (b : Int) : PKM n ms b :=
  ⟨h.n64, (h.pm hk hkk b).r, fun hx => by rw [h.inM] at hx; exact Nat.le_trans (h.row b hx).lk hkk⟩
theorem RA.smw {n : Int} {ka kk : Nat} {rows : List Row12} {ms : List RRow12} (h : RA n ka kk rows ms) (hk : ka ≤ 900) (b : Int) : Sm (waitR rows b).length := by
  unfold waitR
  split
  · rename_i hb
    exact ⟨Nat.le_trans (h.asked hb) (by omega)⟩
  · exact ⟨by simp⟩
theorem RA.copy {n : Int} {ka kk : Nat} {rows : List Row12} {ms : List RRow12} (h : RA n ka kk rows ms) (hk : ka ≤ 900) : PCopy rows := by
  refine ⟨h.le64, fun i hi => ⟨?_⟩⟩
  have := h.asked (b := (i : Int)) (inR_iff.2 ⟨by omega, by omega⟩)
  unfold getR at this
  rw [Int.toNat_natCast] at this
  omega
theorem atv_ne {x y : Atv × Bool} (h : x = y) (h5 : (!(x.1.block == y.1.block && (x.1.node == y.1.node && (x.1.seq == y.1.seq && true)))) = true) : False := by subst h; simp at h5
theorem ok_ne {x y : Atv × Bool} (h : x = y) (h5 : (!(x.2 == y.2)) = true) : False := by subst h; simp at h5
theorem b_ne {x y : Bool} (h : x = y) (h5 : (!(x == y)) = true) : False := by subst h; simp at h5
theorem l_ne {x y : List Int} (h : x = y) (h5 : (!decide (x = y)) = true) : False := by subst h; simp at h5
theorem sR_1 {n : Int} {rows : List Row12} {ms : List RRow12} {a : Act12} (h : (a.kind == 1) = true) : sR n rows ms a = (askA n rows a.block a.node).1 ∧ sM n ms a = (askM n ms a.block a.node).1 := by
  have h : a.kind = 1 := by simpa using h
  unfold sR sM
  exact ⟨if_pos h, if_pos h⟩
theorem sR_25 {n : Int} {rows : List Row12} {ms : List RRow12} {a : Act12} {s : Int} (h : a.kind = 2 ∨ a.kind = 5) (hs : seqS ms a = s) : sR n rows ms a = (doneA rows a.block s).1 ∧ sM n ms a = (doneM ms a.block s).1 := by
  have h1 : ¬ a.kind = 1 := by omega
  unfold sR sM
  rw [hs, if_neg h1, if_neg h1, if_pos h, if_pos h]
  exact ⟨rfl, rfl⟩
theorem k25 {a : Act12} (h : (a.kind == 2) = true ∨ (a.kind == 5) = true) : a.kind = 2 ∨ a.kind = 5 := by simpa using h
theorem seqS_t {ms : List RRow12} {a : Act12} (h : (a.kind == 5) = true) (h2 : (curM ms a.block).2 = true) : seqS ms a = (curM ms a.block).1.seq := if_pos ⟨by simpa using h, h2⟩
theorem seqS_1 {ms : List RRow12} {a : Act12} (h : (a.kind == 5) = false) : seqS ms a = a.seq := if_neg fun h' => by simp [h'.1] at h
theorem seqS_2 {ms : List RRow12} {a : Act12} (h : (curM ms a.block).2 = false) : seqS ms a = a.seq := if_neg fun h' => by rw [h'.2] at h; cases h
theorem sR_3 {n : Int} {rows : List Row12} {ms : List RRow12} {a : Act12} (h : (a.kind == 3) = true) : sR n rows ms a = (ackA n rows a.block a.seq a.node).1 ∧ sM n ms a = (ackM n ms a.block a.seq a.node).1 := by
  have h : a.kind = 3 := by simpa using h
  unfold sR sM
  rw [if_neg (by omega), if_neg (by omega), if_pos h, if_neg (by omega), if_neg (by omega), if_pos h]
  exact ⟨rfl, rfl⟩
theorem sR_4 {n : Int} {rows : List Row12} {ms : List RRow12} {a : Act12} (h : (a.kind == 4) = true) : sR n rows ms a = rows ∧ sM n ms a = ms := by
  have h : a.kind = 4 := by simpa using h
  unfold sR sM
  rw [if_neg (by omega), if_neg (by omega), if_neg (by omega), if_neg (by omega), if_neg (by omega), if_neg (by omega)]
  exact ⟨rfl, rfl⟩
theorem sR_0 {n : Int} {rows : List Row12} {ms : List RRow12} {a : Act12} (h1 : (a.kind == 1) = false) (h2 : (a.kind == 2) = false) (h5 : (a.kind == 5) = false) (h3 : (a.kind == 3) = false) : sR n rows ms a = rows ∧ sM n ms a = ms := by
  simp at h1 h2 h3 h5
  unfold sR sM
  rw [if_neg h1, if_neg (by omega), if_neg h3, if_neg h1, if_neg (by omega), if_neg h3]
  exact ⟨rfl, rfl⟩
structure SP (n : Int) (m i : Nat) (rows : List Row12) (ms : List RRow12) : Prop where
  le : i ≤ m
  m100 : m ≤ 100
  ra : RA n i (65 * i) rows ms
structure S6 (n : Int) (i j : Nat) (rows : List Row12) (ms : List RRow12) : Prop where
  le : (j : Int) ≤ n
  ra : RA n i (65 * i + j) rows ms
structure SJ (n : Int) (i : Nat) (rows : List Row12) (ms : List RRow12) : Prop where
  ra : RA n (i + 1) (65 * (i + 1)) rows ms
def cAP : Con where
  X := I2 × List Act12 × Int
  args := fun ⟨s, l, q⟩ => [.agg [.arr 2 .int [s.a, s.b]], .vsl .act12 l, AI q]
  heap := fun _ => hp0
  pre := fun _ => True
  res := fun _ => AB true
  heap' := fun _ => hp0
  pure := true
  find := fun _ _ => none
set_option maxRecDepth 100000 in
set_option maxHeartbeats 64000000 in
theorem cAP_ok : cAP.Ok Try.prog 7 := by
  refine fun_ok (env_ok (Cons.cons cawake_ok (Cons.cons cNewA_ok (Cons.cons cNewM_ok (Cons.cons cAsk_ok (Cons.cons cAskM_ok (Cons.cons cDone_ok (Cons.cons cDoneM_ok (Cons.cons cAck_ok (Cons.cons cAckM_ok (Cons.cons cCur_ok (Cons.cons cCurM_ok (Cons.cons cWait_ok (Cons.cons cWaitM_ok (Cons.cons cInts_ok (Cons.cons cCopyA_ok Cons.nil)))))))))))))))) mixedP Try.func7 (by decide) rfl cAP [(3, 9), (20, 11), (1000043, 1), (2000003, 4), (3000003, 5), (3000003, 6), (3000003, 7), (3000003, 8), (2000020, 5), (3000020, 6), (3000020, 7), (3000020, 8), (3000020, 9), (3000020, 10)] (fun _ => rfl) (fun _ _ => ⟨rfl, fun id k h => by cases h⟩) (fun _ => Nat.le_of_ble_eq_true rfl) ?_
  rintro ⟨⟨sa, sb⟩, l, q⟩ hp ha hb
  clear hp ha hb
  all_goals (repeat' (first
    | with_reducible refine iTr ?_
    | with_reducible refine iB ?_
    | intro _
    | exact True.intro
    | (show _ ∧ _
       first
        | refine aTT ?_
        | refine aTB ?_
        | refine aT ?_
        | refine aB ?_
        | refine a11 ?_
        | refine a01 ?_
        | refine a00 ?_
        | refine a10 ?_
        | (with_reducible refine And.intro rfl ?_)
        | refine And.intro ?_ ?_)
    | with_reducible exact rfl
    | with_reducible exact HEq.rfl
    | (show (_ : Option Nat) = _; exact rfl)
    | (show (_ : Option Blk) = _; exact rfl)
    | (with_reducible show (nodupB _ && _ && _ && _ && _) = true; exact (Eq.refl true))
    | (with_reducible show (nodupB _ && _ && _ && _) = true; exact (Eq.refl true))
    | (with_reducible show (nodupB _ && _ && _) = true; exact (Eq.refl true))
    | (with_reducible show freeOk _ _ = true; exact (Eq.refl true))
    | (with_reducible show wrOk _ _ _ _ _ = true; exact (Eq.refl true))
    | (show (_ : AV) = _; exact rfl)
    | (with_reducible show (_ || !_) = true; exact (Eq.refl true))
    | (with_reducible show Nat.beq _ _ = true; exact (Eq.refl true))))
  all_goals (first | (show (_ : Int) = _) | (show (_ : Bool) = _) | (show HEq _ _) | (show ∃ _ : LInv, _) | skip)
  all_goals (try (with_reducible exact rfl))
  all_goals try (refine ⟨⟨{s : Nat × List Row12 × List RRow12 // SP (newN sa) l.length s.1 s.2.1 s.2.2}, fun s => [(53, AI s.1.1), (52, AI l.length), (51, .vsl .act12 l), (7, .ptr 0 ⟨0,0,0,none⟩), (8, .ptr 2 ⟨0,0,0,none⟩), (2, AI q)], fun s => ⟨4, [(3, some (.seq false 63 .rRow12 s.1.2.2)), (2, some (.obj false [.int .i64 (newN sa), .slc 3])), (1, some (.seq false 59 .row12 s.1.2.1)), (0, some (.obj false [.int .i64 (newN sa), .slc 1]))]⟩, fun s => l.length - s.1.1⟩, ⟨⟨(0, newR sb, newM sb), ?_⟩, [], ?_⟩, ?_⟩; rotate_right; rintro ⟨⟨i, rows, ms⟩, hS⟩)
  all_goals (repeat' (first
    | with_reducible refine iTr ?_
    | with_reducible refine iB ?_
    | intro _
    | exact True.intro
    | (show _ ∧ _
       first
        | refine aTT ?_
        | refine aTB ?_
        | refine aT ?_
        | refine aB ?_
        | refine a11 ?_
        | refine a01 ?_
        | refine a00 ?_
        | refine a10 ?_
        | (with_reducible refine And.intro rfl ?_)
        | refine And.intro ?_ ?_)
    | with_reducible exact rfl
    | with_reducible exact HEq.rfl
    | (show (_ : Option Nat) = _; exact rfl)
    | (show (_ : Option Blk) = _; exact rfl)
    | (with_reducible show (nodupB _ && _ && _ && _ && _) = true; exact (Eq.refl true))
    | (with_reducible show (nodupB _ && _ && _ && _) = true; exact (Eq.refl true))
    | (with_reducible show (nodupB _ && _ && _) = true; exact (Eq.refl true))
    | (with_reducible show freeOk _ _ = true; exact (Eq.refl true))
    | (with_reducible show wrOk _ _ _ _ _ = true; exact (Eq.refl true))
    | (show (_ : AV) = _; exact rfl)
    | (with_reducible show (_ || !_) = true; exact (Eq.refl true))
    | (with_reducible show Nat.beq _ _ = true; exact (Eq.refl true))))
  all_goals (first | (show (_ : Int) = _) | (show (_ : Bool) = _) | (show HEq _ _) | (show ∃ _ : LInv, _) | skip)
  all_goals (try (with_reducible exact rfl))
  all_goals try (refine ⟨⟨{s : List Row12 × List RRow12 // SJ (newN sa) i s.1 s.2}, fun s => [(53, AI i), (52, AI l.length), (51, .vsl .act12 l), (7, .ptr 0 ⟨0,0,0,none⟩), (8, .ptr 2 ⟨0,0,0,none⟩), (2, AI q)], fun s => ⟨4, [(3, some (.seq false 63 .rRow12 s.1.2)), (2, some (.obj false [.int .i64 (newN sa), .slc 3])), (1, some (.seq false 59 .row12 s.1.1)), (0, some (.obj false [.int .i64 (newN sa), .slc 1]))]⟩, fun _ => 0⟩, ?_, ?_⟩; rotate_right; rintro ⟨⟨rows1, ms1⟩, hJ⟩)
  all_goals (repeat' (first
    | with_reducible refine iTr ?_
    | with_reducible refine iB ?_
    | intro _
    | exact True.intro
    | (show _ ∧ _
       first
        | refine aTT ?_
        | refine aTB ?_
        | refine aT ?_
        | refine aB ?_
        | refine a11 ?_
        | refine a01 ?_
        | refine a00 ?_
        | refine a10 ?_
        | (with_reducible refine And.intro rfl ?_)
        | refine And.intro ?_ ?_)
    | with_reducible exact rfl
    | with_reducible exact HEq.rfl
    | (show (_ : Option Nat) = _; exact rfl)
    | (show (_ : Option Blk) = _; exact rfl)
    | (with_reducible show (nodupB _ && _ && _ && _ && _) = true; exact (Eq.refl true))
    | (with_reducible show (nodupB _ && _ && _ && _) = true; exact (Eq.refl true))
    | (with_reducible show (nodupB _ && _ && _) = true; exact (Eq.refl true))
    | (with_reducible show freeOk _ _ = true; exact (Eq.refl true))
    | (with_reducible show wrOk _ _ _ _ _ = true; exact (Eq.refl true))
    | (show (_ : AV) = _; exact rfl)
    | (with_reducible show (_ || !_) = true; exact (Eq.refl true))
    | (with_reducible show Nat.beq _ _ = true; exact (Eq.refl true))))
  all_goals (first | (show (_ : Int) = _) | (show (_ : Bool) = _) | (show HEq _ _) | (show ∃ _ : LInv, _) | skip)
  all_goals (try (with_reducible exact rfl))
  all_goals try (refine ⟨⟨{s : List RRow12 × Nat × List Row12 // S6 (newN sa) i s.2.1 s.2.2 s.1}, fun s => [(174, AI s.1.2.1), (173, AI (newN sa)), (10, .ptr 4 ⟨0,0,0,none⟩), (53, AI i), (52, AI l.length), (51, .vsl .act12 l), (7, .ptr 0 ⟨0,0,0,none⟩), (8, .ptr 2 ⟨0,0,0,none⟩), (2, AI q)], fun s => ⟨5, [(4, some (.obj false (enc .act12 (l.getD i Ty.act12.dflt)))), (3, some (.seq false 63 .rRow12 s.1.1)), (2, some (.obj false [.int .i64 (newN sa), .slc 3])), (1, some (.seq false 59 .row12 s.1.2.2)), (0, some (.obj false [.int .i64 (newN sa), .slc 1]))]⟩, fun s => (newN sa).toNat - s.1.2.1⟩, ⟨⟨(ms, 0, rows), ?_⟩, [], ?_⟩, ?_⟩; rotate_right; rintro ⟨⟨ms3, j, rows3⟩, h6⟩)
  all_goals (repeat' (first
    | with_reducible refine iTr ?_
    | with_reducible refine iB ?_
    | intro _
    | exact True.intro
    | (show _ ∧ _
       first
        | refine aTT ?_
        | refine aTB ?_
        | refine aT ?_
        | refine aB ?_
        | refine a11 ?_
        | refine a01 ?_
        | refine a00 ?_
        | refine a10 ?_
        | (with_reducible refine And.intro rfl ?_)
        | refine And.intro ?_ ?_)
    | with_reducible exact rfl
    | with_reducible exact HEq.rfl
    | (show (_ : Option Nat) = _; exact rfl)
    | (show (_ : Option Blk) = _; exact rfl)
    | (with_reducible show (nodupB _ && _ && _ && _ && _) = true; exact (Eq.refl true))
    | (with_reducible show (nodupB _ && _ && _ && _) = true; exact (Eq.refl true))
    | (with_reducible show (nodupB _ && _ && _) = true; exact (Eq.refl true))
    | (with_reducible show freeOk _ _ = true; exact (Eq.refl true))
    | (with_reducible show wrOk _ _ _ _ _ = true; exact (Eq.refl true))
    | (show (_ : AV) = _; exact rfl)
    | (with_reducible show (_ || !_) = true; exact (Eq.refl true))
    | (with_reducible show Nat.beq _ _ = true; exact (Eq.refl true))))
  all_goals (first | (show (_ : Int) = _) | (show (_ : Bool) = _) | (show HEq _ _) | (show ∃ _ : LInv, _) | skip)
  all_goals (try (with_reducible exact rfl))
  all_goals try (refine ⟨⟨((ackM (newN sa) ms3 (l.getD i Ty.act12.dflt).block (l.getD i Ty.act12.dflt).seq (j : Int)).1, j + 1, (ackA (newN sa) rows3 (l.getD i Ty.act12.dflt).block (l.getD i Ty.act12.dflt).seq (j : Int)).1), ?_⟩, ?_, ?_⟩)
  all_goals (repeat' (first
    | with_reducible refine iTr ?_
    | with_reducible refine iB ?_
    | intro _
    | exact True.intro
    | (show _ ∧ _
       first
        | refine aTT ?_
        | refine aTB ?_
        | refine aT ?_
        | refine aB ?_
        | refine a11 ?_
        | refine a01 ?_
        | refine a00 ?_
        | refine a10 ?_
        | (with_reducible refine And.intro rfl ?_)
        | refine And.intro ?_ ?_)
    | with_reducible exact rfl
    | with_reducible exact HEq.rfl
    | (show (_ : Option Nat) = _; exact rfl)
    | (show (_ : Option Blk) = _; exact rfl)
    | (with_reducible show (nodupB _ && _ && _ && _ && _) = true; exact (Eq.refl true))
    | (with_reducible show (nodupB _ && _ && _ && _) = true; exact (Eq.refl true))
    | (with_reducible show (nodupB _ && _ && _) = true; exact (Eq.refl true))
    | (with_reducible show freeOk _ _ = true; exact (Eq.refl true))
    | (with_reducible show wrOk _ _ _ _ _ = true; exact (Eq.refl true))
    | (show (_ : AV) = _; exact rfl)
    | (with_reducible show (_ || !_) = true; exact (Eq.refl true))
    | (with_reducible show Nat.beq _ _ = true; exact (Eq.refl true))))
  all_goals (first | (show (_ : Int) = _) | (show (_ : Bool) = _) | (show HEq _ _) | (show ∃ _ : LInv, _) | skip)
  all_goals (try (with_reducible exact rfl))
  all_goals try (first | (refine ⟨⟨(rows3, ms3), ?_⟩, [], ?_⟩) | (refine ⟨⟨(sR (newN sa) rows ms (l.getD i Ty.act12.dflt), sM (newN sa) ms (l.getD i Ty.act12.dflt)), ?_⟩, [], ?_⟩))
  all_goals (repeat' (first
    | with_reducible refine iTr ?_
    | with_reducible refine iB ?_
    | intro _
    | exact True.intro
    | (show _ ∧ _
       first
        | refine aTT ?_
        | refine aTB ?_
        | refine aT ?_
        | refine aB ?_
        | refine a11 ?_
        | refine a01 ?_
        | refine a00 ?_
        | refine a10 ?_
        | (with_reducible refine And.intro rfl ?_)
        | refine And.intro ?_ ?_)
    | with_reducible exact rfl
    | with_reducible exact HEq.rfl
    | (show (_ : Option Nat) = _; exact rfl)
    | (show (_ : Option Blk) = _; exact rfl)
    | (with_reducible show (nodupB _ && _ && _ && _ && _) = true; exact (Eq.refl true))
    | (with_reducible show (nodupB _ && _ && _ && _) = true; exact (Eq.refl true))
    | (with_reducible show (nodupB _ && _ && _) = true; exact (Eq.refl true))
    | (with_reducible show freeOk _ _ = true; exact (Eq.refl true))
    | (with_reducible show wrOk _ _ _ _ _ = true; exact (Eq.refl true))
    | (show (_ : AV) = _; exact rfl)
    | (with_reducible show (_ || !_) = true; exact (Eq.refl true))
    | (with_reducible show Nat.beq _ _ = true; exact (Eq.refl true))))
  all_goals (first | (show (_ : Int) = _) | (show (_ : Bool) = _) | (show HEq _ _) | (show ∃ _ : LInv, _) | skip)
  all_goals (try (with_reducible exact rfl))
  all_goals try (refine ⟨⟨(i + 1, rows1, ms1), ?_⟩, ?_, ?_⟩)
  all_goals (repeat' (first
    | with_reducible refine iTr ?_
    | with_reducible refine iB ?_
    | intro _
    | exact True.intro
    | (show _ ∧ _
       first
        | refine aTT ?_
        | refine aTB ?_
        | refine aT ?_
        | refine aB ?_
        | refine a11 ?_
        | refine a01 ?_
        | refine a00 ?_
        | refine a10 ?_
        | (with_reducible refine And.intro rfl ?_)
        | refine And.intro ?_ ?_)
    | with_reducible exact rfl
    | with_reducible exact HEq.rfl
    | (show (_ : Option Nat) = _; exact rfl)
    | (show (_ : Option Blk) = _; exact rfl)
    | (with_reducible show (nodupB _ && _ && _ && _ && _) = true; exact (Eq.refl true))
    | (with_reducible show (nodupB _ && _ && _ && _) = true; exact (Eq.refl true))
    | (with_reducible show (nodupB _ && _ && _) = true; exact (Eq.refl true))
    | (with_reducible show freeOk _ _ = true; exact (Eq.refl true))
    | (with_reducible show wrOk _ _ _ _ _ = true; exact (Eq.refl true))
    | (show (_ : AV) = _; exact rfl)
    | (with_reducible show (_ || !_) = true; exact (Eq.refl true))
    | (with_reducible show Nat.beq _ _ = true; exact (Eq.refl true))))
  all_goals (first | (show (_ : Int) = _) | (show (_ : Bool) = _) | (show HEq _ _) | (show ∃ _ : LInv, _) | skip)
  all_goals (try (with_reducible exact rfl))
  all_goals (try dsimp only at *)
  all_goals (try simp only [cond_true, cond_false, Bool.not_true, Bool.not_false, decide_eq_true_eq, decide_eq_false_iff_not, Int.toNat_natCast] at *)
  all_goals (first
    | (show (0 : Int) ≤ _; omega)
    | (show (_ : Int) < ((2 : Nat) : Int); omega)
    | (show Int.toNat _ < 2; decide)
    | (with_reducible rfl)
    | (show newN _ = newN sa; rfl)
    | (apply heq_of_eq; show newR _ = newR sb; rfl)
    | (apply heq_of_eq; show newM _ = newM sb; rfl)
    | (show SP _ _ 0 _ _; exact ⟨Nat.zero_le _, by omega, RA.new sa sb⟩)
    | omega
    | skip)
  all_goals (have h100 := hS.m100; have hRA := hS.ra; dsimp only at h100 hRA; have hi : i < l.length := (by omega))
  all_goals (have hn0 := hRA.n0; have hn64 := hRA.n64)
  all_goals (first
    | omega
    | exact wrap_succ (by omega)
    | exact hRA.pask (by omega) _ _
    | exact hRA.pam (by omega) (by omega) _ _
    | exact hRA.pm (by omega) (by omega) _
    | exact hRA.pkm (by omega) (by omega) _
    | exact ⟨hn64⟩
    | exact hRA.copy (by omega)
    | (show SJ _ _ (sR _ _ _ _) _; exact ⟨hRA.step (by omega) _⟩)
    | (show S6 _ _ 0 _ _; exact ⟨hn0, hRA⟩)
    | (have hr6 : RA (newN sa) i (65 * i + j) rows3 ms3 := h6.ra
       have hj6 : (j : Int) ≤ newN sa := h6.le
       first
       | exact wrap_succ (by omega)
       | exact hr6.pkm (by omega) (by omega) _
       | (show S6 _ _ (j + 1) _ _; exact ⟨by omega, (hr6.ack (by omega) _ _ _).2⟩)
       | (show SJ _ _ rows3 ms3; exact ⟨hr6.mono (by omega) (by omega)⟩)
       | (exfalso; exact atv_ne (hr6.ack (by omega) _ _ _).1 (by assumption))
       | (exfalso; exact ok_ne (hr6.ack (by omega) _ _ _).1 (by assumption)))
    | (have hrJ : RA (newN sa) (i + 1) (65 * (i + 1)) rows1 ms1 := hJ.ra
       first
       | (show SP _ _ (i + 1) _ _; exact ⟨by omega, h100, hrJ⟩)
       | exact hrJ.pm (by omega) (by omega) _
       | exact hrJ.smw (by omega) _
       | (exfalso; exact atv_ne (hrJ.cur _).1 (by assumption))
       | (exfalso; exact ok_ne (hrJ.cur _).1 (by assumption))
       | (exfalso; exact l_ne (hrJ.cur _).2 (by assumption)))
    | (exfalso; exact atv_ne (hRA.ask (by omega) _ _).1 (by assumption))
    | (exfalso; exact ok_ne (hRA.ask (by omega) _ _).1 (by assumption))
    | (exfalso; exact atv_ne (hRA.ack (by omega) _ _ _).1 (by assumption))
    | (exfalso; exact ok_ne (hRA.ack (by omega) _ _ _).1 (by assumption))
    | (exfalso; exact b_ne (hRA.done _ _).1 (by assumption))
    | (exfalso; have k1 : ((l.getD i Ty.act12.dflt).kind == 2) = true := (by assumption); have k2 : ((l.getD i Ty.act12.dflt).kind == 2) = false := (by assumption); rw [k1] at k2; cases k2)
    | exact heq_of_eq (sR_1 (n := newN sa) (rows := rows) (ms := ms) (by assumption)).1.symm
    | exact heq_of_eq (sR_1 (n := newN sa) (rows := rows) (ms := ms) (by assumption)).2.symm
    | exact heq_of_eq (sR_3 (n := newN sa) (rows := rows) (ms := ms) (by assumption)).1.symm
    | exact heq_of_eq (sR_3 (n := newN sa) (rows := rows) (ms := ms) (by assumption)).2.symm
    | exact heq_of_eq (sR_4 (n := newN sa) (rows := rows) (ms := ms) (by assumption)).1.symm
    | exact heq_of_eq (sR_4 (n := newN sa) (rows := rows) (ms := ms) (by assumption)).2.symm
    | exact heq_of_eq (sR_0 (n := newN sa) (rows := rows) (ms := ms) (by assumption) (by assumption) (by assumption) (by assumption)).1.symm
    | exact heq_of_eq (sR_0 (n := newN sa) (rows := rows) (ms := ms) (by assumption) (by assumption) (by assumption) (by assumption)).2.symm
    | (have hk : (l.getD i Ty.act12.dflt).kind = 2 ∨ (l.getD i Ty.act12.dflt).kind = 5 := k25 (by first | exact .inl (by assumption) | exact .inr (by assumption))
       first
       | exact heq_of_eq (sR_25 (n := newN sa) (rows := rows) (ms := ms) hk (seqS_t (by assumption) (by assumption))).1.symm
       | exact heq_of_eq (sR_25 (n := newN sa) (rows := rows) (ms := ms) hk (seqS_t (by assumption) (by assumption))).2.symm
       | exact heq_of_eq (sR_25 (n := newN sa) (rows := rows) (ms := ms) hk (seqS_1 (by assumption))).1.symm
       | exact heq_of_eq (sR_25 (n := newN sa) (rows := rows) (ms := ms) hk (seqS_1 (by assumption))).2.symm
       | exact heq_of_eq (sR_25 (n := newN sa) (rows := rows) (ms := ms) hk (seqS_2 (by assumption))).1.symm
       | exact heq_of_eq (sR_25 (n := newN sa) (rows := rows) (ms := ms) hk (seqS_2 (by assumption))).2.symm)
    | skip)
end Go.Proofs.Ytpjdicndjakeoaa

