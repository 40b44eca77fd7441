/- ArbiterBlocks of layer 12: the contract. No condition. -/
import Derived.Test.YtpjdicndjakeoaaV12
namespace Go.Proofs.Ytpjdicndjakeoaa
open Go.RowKit
set_option linter.unusedVariables false
set_option linter.unusedSimpArgs false
def stp (n : Int) (rows : List Row12) (x : Act12) : List Row12 :=
  if x.kind = 1 then (askA n rows x.block x.node).1 else if x.kind = 2 ∨ x.kind = 5 then (doneA rows x.block x.seq).1 else if x.kind = 3 ∨ x.kind = 6 then (ackA n rows x.block x.seq x.node).1 else rows
theorem stp_1 {n : Int} {rows : List Row12} {x : Act12} (h : x.kind = 1) : stp n rows x = (askA n rows x.block x.node).1 := if_pos h
theorem stp_2 {n : Int} {rows : List Row12} {x : Act12} (h1 : ¬ x.kind = 1) (h : x.kind = 2 ∨ x.kind = 5) : stp n rows x = (doneA rows x.block x.seq).1 := by
  unfold stp
  rw [if_neg h1, if_pos h]
theorem stp_3 {n : Int} {rows : List Row12} {x : Act12} (h1 : ¬ x.kind = 1) (h2 : ¬ (x.kind = 2 ∨ x.kind = 5)) (h : x.kind = 3 ∨ x.kind = 6) : stp n rows x = (ackA n rows x.block x.seq x.node).1 := by
  unfold stp
  rw [if_neg h1, if_neg h2, if_pos h]
theorem stp_4 {n : Int} {rows : List Row12} {x : Act12} (h1 : ¬ x.kind = 1) (h2 : ¬ (x.kind = 2 ∨ x.kind = 5)) (h : ¬ (x.kind = 3 ∨ x.kind = 6)) : stp n rows x = rows := by
  unfold stp
  rw [if_neg h1, if_neg h2, if_neg h]
/-- Of a block both know the same. -/
structure Eqv (b : Int) (r s : List Row12) : Prop where
  len : r.length = s.length
  row : inR r b = true → getR r b = getR s b
theorem inR_len {r s : List Row12} (h : r.length = s.length) (c : Int) : inR r c = inR s c := by unfold inR; rw [h]
theorem eqv_ask {n b nd : Int} {r s : List Row12} (h : Eqv b r s) : Eqv b (askA n r b nd).1 (askA n s b nd).1 := by
  have hr : isR n r b nd = isR n s b nd := by unfold isR; rw [inR_len h.len]
  cases e : isR n r b nd with
  | false => rw [ask_f e, ask_f (hr ▸ e)]; exact h
  | true =>
    have hi := inR_iff.2 (isR_iff.1 e).1
    have hs : inR s b = true := by rw [← inR_len h.len]; exact hi
    rw [ask_t e, ask_t (hr ▸ e)]
    refine ⟨by simp only [len_setR]; exact h.len, fun _ => ?_⟩
    rw [getR_ite hi hi, getR_ite hs hs, if_pos rfl, if_pos rfl, h.row hi]
theorem eqv_done {b q : Int} {r s : List Row12} (h : Eqv b r s) : Eqv b (doneA r b q).1 (doneA s b q).1 := by
  have hr : isOn r b q = isOn s b q := by
    unfold isOn
    rw [inR_len h.len]
    cases e : inR s b with
    | false => rfl
    | true => rw [h.row (by rw [inR_len h.len]; exact e)]
  cases e : isOn r b q with
  | false => rw [done_f e, done_f (hr ▸ e)]; exact h
  | true =>
    have hi : inR r b = true := by unfold isOn at e; simp only [Bool.and_eq_true] at e; exact e.1
    have hs : inR s b = true := by rw [← inR_len h.len]; exact hi
    rw [done_t e, done_t (hr ▸ e)]
    refine ⟨by simp only [len_setR]; exact h.len, fun _ => ?_⟩
    rw [getR_ite hi hi, getR_ite hs hs, if_pos rfl, if_pos rfl, h.row hi]
theorem eqv_ack {n b q nd : Int} {r s : List Row12} (h : Eqv b r s) : Eqv b (ackA n r b q nd).1 (ackA n s b q nd).1 := by
  have hr : isEnd n r b q nd = isEnd n s b q nd := by
    unfold isEnd isR
    rw [inR_len h.len]
    cases e : inR s b with
    | false => rfl
    | true => rw [h.row (by rw [inR_len h.len]; exact e)]
  cases e : isEnd n r b q nd with
  | false => rw [ack_f e, ack_f (hr ▸ e)]; exact h
  | true =>
    have hi : inR r b = true := by
      unfold isEnd at e
      simp only [Bool.and_eq_true] at e
      exact inR_iff.2 (isR_iff.1 e.1).1
    have hs : inR s b = true := by rw [← inR_len h.len]; exact hi
    have hrow := h.row hi
    by_cases hk : (getR r b).knows.set nd.toNat true = allN n
    · rw [ack_2 e hk, ack_2 (hr ▸ e) (hrow ▸ hk)]
      refine ⟨by simp only [len_setR]; exact h.len, fun _ => ?_⟩
      rw [getR_ite hi hi, getR_ite hs hs, if_pos rfl, if_pos rfl, hrow]
    · rw [ack_1 e hk, ack_1 (hr ▸ e) (hrow ▸ hk)]
      refine ⟨by simp only [len_setR]; exact h.len, fun _ => ?_⟩
      rw [getR_ite hi hi, getR_ite hs hs, if_pos rfl, if_pos rfl, hrow]
theorem eqv_set {b c : Int} {r s : List Row12} {v : Row12} (h : Eqv b r s) (hc : ¬ c = b) (hi : inR r c = true) : Eqv b (setR r c v) s := by
  refine ⟨by simp only [len_setR]; exact h.len, fun hb => ?_⟩
  rw [inR_setR] at hb
  rw [getR_ite hi hb, if_neg (fun e => hc e.symm)]
  exact h.row hb
theorem eqv_stp {n b : Int} {r s : List Row12} {x : Act12} (h : Eqv b r s) (hx : x.block = b) : Eqv b (stp n r x) (stp n s x) := by
  unfold stp
  rw [hx]
  split
  · exact eqv_ask h
  · split
    · exact eqv_done h
    · split
      · exact eqv_ack h
      · exact h
theorem eqv_oth {n b : Int} {r s : List Row12} {x : Act12} (h : Eqv b r s) (hx : ¬ x.block = b) : Eqv b (stp n r x) s := by
  unfold stp
  split
  · unfold askA
    split
    · rename_i e; exact eqv_set h hx (inR_iff.2 (isR_iff.1 e).1)
    · exact h
  · split
    · unfold doneA
      split
      · rename_i e
        exact eqv_set h hx (by unfold isOn at e; simp only [Bool.and_eq_true] at e; exact e.1)
      · exact h
    · split
      · unfold ackA
        split
        · rename_i e
          have hi : inR r x.block = true := by
            unfold isEnd at e
            simp only [Bool.and_eq_true] at e
            exact inR_iff.2 (isR_iff.1 e.1).1
          split
          · exact eqv_set h hx hi
          · exact eqv_set h hx hi
        · exact h
      · exact h
theorem bq_stp {k : Nat} {rows : List Row12} (h : BQ k rows) (n : Int) (x : Act12) : BQ (k + 1) (stp n rows x) ∧ (stp n rows x).length = rows.length := by
  unfold stp
  split
  · exact h.ask n x.block x.node
  · split
    · exact ⟨(h.done x.block x.seq).1.mono (Nat.le_succ k), (h.done x.block x.seq).2⟩
    · split
      · exact ⟨(h.ack n x.block x.seq x.node).1.mono (Nat.le_succ k), (h.ack n x.block x.seq x.node).2⟩
      · exact ⟨h.mono (Nat.le_succ k), rfl⟩
/-- What the second one is told: but what is of the block. -/
def stb (n b : Int) (rows : List Row12) (x : Act12) : List Row12 := if x.block = b then stp n rows x else rows
theorem stb_t {n b : Int} {rows : List Row12} {x : Act12} (h : x.block = b) : stb n b rows x = stp n rows x := if_pos h
theorem stb_f {n b : Int} {rows : List Row12} {x : Act12} (h : ¬ x.block = b) : stb n b rows x = rows := if_neg h
structure SBk (n : Int) (l : List Act12) (b : Int) (i : Nat) (r s : List Row12) : Prop where
  le : i ≤ l.length
  n64 : n ≤ 64
  l100 : l.length ≤ 100
  br : BQ i r
  bs : BQ i s
  ev : Eqv b r s
theorem sbk_t {n : Int} {l : List Act12} {b : Int} {i : Nat} {r s : List Row12} {x : Act12} (h : SBk n l b i r s) (hi : i < l.length) : SBk n l b (i + 1) (stp n r x) (stb n b s x) := by
  refine ⟨by omega, h.n64, h.l100, (bq_stp h.br n x).1, ?_, ?_⟩
  · unfold stb
    split
    · exact (bq_stp h.bs n x).1
    · exact h.bs.mono (by omega)
  · unfold stb
    by_cases hb : x.block = b
    · rw [if_pos hb]; exact eqv_stp h.ev hb
    · rw [if_neg hb]; exact eqv_oth h.ev hb
theorem eqv_cur {b : Int} {r s : List Row12} (h : Eqv b r s) : curR r b = curR s b := by
  unfold curR
  rw [inR_len h.len]
  cases e : inR s b with
  | false => rfl
  | true => rw [h.row (by rw [inR_len h.len]; exact e)]
theorem eqv_wait {b : Int} {r s : List Row12} (h : Eqv b r s) : waitR r b = waitR s b := by
  unfold waitR
  rw [inR_len h.len]
  cases e : inR s b with
  | false => rfl
  | true => rw [h.row (by rw [inR_len h.len]; exact e)]
theorem bq_wait {k : Nat} {r : List Row12} (h : BQ k r) (hk : k ≤ 1000) (b : Int) : Sm (waitR r b).length := by
  unfold waitR
  split
  · rename_i hb
    exact ⟨by have := h.q b hb; omega⟩
  · exact ⟨by simp⟩
theorem bq_ask {k : Nat} {r : List Row12} (h : BQ k r) (hk : k ≤ 1000) (n b nd : Int) : PAsk n r b nd := ⟨fun hx => ⟨by have := h.q b (inR_iff.2 (isR_iff.1 hx).1); omega⟩⟩
theorem no2 {a b : Prop} (h1 : ¬ a) (h2 : ¬ b) : ¬ (a ∨ b) := fun h => h.elim h1 h2
theorem eq_f {a b : Int} (h : (a != b) = false) : a = b := by simpa using h
structure BkD where
  i : Nat
  r : List Row12
  s : List Row12
abbrev pB : AV := .ptr 2 ⟨0, 0, 0, none⟩
def twL (n : Int) (r s : List Row12) : List (Nat × Option Blk) := [(3, some (.seq false 59 .row12 s)), (2, some (.obj false [AI n, .slc 3])), (1, some (.seq false 59 .row12 r)), (0, some (.obj false [AI n, .slc 1]))]
def twH (n : Int) (r s : List Row12) : Heap := ⟨4, twL n r s⟩
def xB (x : Act12) : Blk := .obj false [AI x.kind, AI x.block, AI x.seq, AI x.node]
inductive L3 where
  | a | b | c
def L3.n : L3 → Nat
  | .a => 2
  | .b => 1
  | .c => 0
def bkT (l : List Act12) (b : Int) (i : Nat) : L3 → Tmps
  | .a => [(53, AI 0), (52, AI (2 : Nat)), (51, .hdl (.osl 2) 5), (10, .ptr 4 ⟨0, 0, 0, none⟩), (45, AI i), (44, AI l.length), (43, .vsl .act12 l), (8, pB), (7, pA), (2, AI b)]
  | .b => [(53, AI 1), (52, AI (2 : Nat)), (51, .hdl (.osl 2) 5), (10, .ptr 4 ⟨0, 0, 0, none⟩), (45, AI i), (44, AI l.length), (43, .vsl .act12 l), (8, pB), (7, pA), (2, AI b)]
  | .c => [(53, AI 2), (52, AI (2 : Nat)), (51, .hdl (.osl 2) 5), (10, .ptr 4 ⟨0, 0, 0, none⟩), (45, AI i), (44, AI l.length), (43, .vsl .act12 l), (8, pB), (7, pA), (2, AI b)]
def bkH (n b : Int) (r s : List Row12) (x : Act12) : L3 → Heap
  | .a => ⟨6, (5, some (.obj false [pA, pB])) :: (4, some (xB x)) :: twL n r s⟩
  | .b => ⟨6, (5, some (.obj false [pA, pB])) :: (4, some (xB x)) :: twL n (stp n r x) s⟩
  | .c => ⟨6, (5, some (.obj false [pA, pB])) :: (4, some (xB x)) :: twL n (stp n r x) (stb n b s x)⟩
def cABk : Con where
  X := Int × List Act12 × Int
  args := fun ⟨n, l, b⟩ => [AI n, .vsl .act12 l, AI b]
  heap := fun _ => hp0
  pre := fun _ => True
  res := fun _ => AB true
  heap' := fun _ => hp0
  pure := true
  find := fun _ _ => none
set_option maxRecDepth 100000 in
set_option maxHeartbeats 16000000 in
theorem cABk_ok : cABk.Ok Try.prog 6 := by
  refine fun_ok (env_ok (Cons.cons cawake_ok (Cons.cons cNewA_ok (Cons.cons cAsk_ok (Cons.cons cDone_ok (Cons.cons cAck_ok (Cons.cons cCur_ok (Cons.cons cWait_ok (Cons.cons cInts_ok Cons.nil))))))))) mixedP Try.func6 (by decide) rfl cABk [] (fun _ => rfl) (fun _ _ => ⟨rfl, fun id k h => by cases h⟩) (fun _ => Nat.le_of_ble_eq_true rfl) ?_
  rintro ⟨n, l, b⟩ hp ha hb
  clear hp ha hb
  all_goals (repeat' (first
    | with_reducible refine iTr ?_
    | with_reducible refine iB ?_
    | intro _
    | exact True.intro
    | (show _ ∧ _
       first
        | refine aTT ?_
        | refine aTB ?_
        | refine aT ?_
        | refine aB ?_
        | refine a11 ?_
        | refine a01 ?_
        | refine a00 ?_
        | refine a10 ?_
        | (with_reducible refine And.intro rfl ?_)
        | refine And.intro ?_ ?_)
    | with_reducible exact rfl
    | with_reducible exact HEq.rfl
    | (show (_ : Option Nat) = _; exact rfl)
    | (show (_ : Option Blk) = _; exact rfl)
    | (with_reducible show (nodupB _ && _ && _ && _ && _) = true; exact (Eq.refl true))
    | (with_reducible show (nodupB _ && _ && _ && _) = true; exact (Eq.refl true))
    | (with_reducible show (nodupB _ && _ && _) = true; exact (Eq.refl true))
    | (with_reducible show freeOk _ _ = true; exact (Eq.refl true))
    | (with_reducible show wrOk _ _ _ _ _ = true; exact (Eq.refl true))
    | (show (_ : AV) = _; exact rfl)
    | (show (_ : Heap) = _; exact rfl)
    | (with_reducible show (_ || !_) = true; exact (Eq.refl true))
    | (with_reducible show Nat.beq _ _ = true; exact (Eq.refl true))))
  all_goals (first | (show (_ : Int) = _) | (show (_ : Bool) = _) | (show HEq _ _) | (show ∃ _ : LInv, _) | skip)
  all_goals (try (with_reducible exact rfl))
  all_goals try (refine ⟨⟨{d : BkD // SBk (newN n) l b d.i d.r d.s}, fun d => [(45, AI d.1.i), (44, AI l.length), (43, .vsl .act12 l), (8, pB), (7, pA), (2, AI b)], fun d => twH (newN n) d.1.r d.1.s, fun d => l.length - d.1.i⟩, ⟨⟨⟨0, newR 3, newR 3⟩, ?_⟩, [], ?_⟩, ?_⟩; rotate_right; rintro ⟨⟨i, r, s⟩, hS⟩)
  all_goals (repeat' (first
    | with_reducible refine iTr ?_
    | with_reducible refine iB ?_
    | intro _
    | exact True.intro
    | (show _ ∧ _
       first
        | refine aTT ?_
        | refine aTB ?_
        | refine aT ?_
        | refine aB ?_
        | refine a11 ?_
        | refine a01 ?_
        | refine a00 ?_
        | refine a10 ?_
        | (with_reducible refine And.intro rfl ?_)
        | refine And.intro ?_ ?_)
    | with_reducible exact rfl
    | with_reducible exact HEq.rfl
    | (show (_ : Option Nat) = _; exact rfl)
    | (show (_ : Option Blk) = _; exact rfl)
    | (with_reducible show (nodupB _ && _ && _ && _ && _) = true; exact (Eq.refl true))
    | (with_reducible show (nodupB _ && _ && _ && _) = true; exact (Eq.refl true))
    | (with_reducible show (nodupB _ && _ && _) = true; exact (Eq.refl true))
    | (with_reducible show freeOk _ _ = true; exact (Eq.refl true))
    | (with_reducible show wrOk _ _ _ _ _ = true; exact (Eq.refl true))
    | (show (_ : AV) = _; exact rfl)
    | (show (_ : Heap) = _; exact rfl)
    | (with_reducible show (_ || !_) = true; exact (Eq.refl true))
    | (with_reducible show Nat.beq _ _ = true; exact (Eq.refl true))))
  all_goals (first | (show (_ : Int) = _) | (show (_ : Bool) = _) | (show HEq _ _) | (show ∃ _ : LInv, _) | skip)
  all_goals (try (with_reducible exact rfl))
  all_goals try (refine ⟨⟨L3, fun d => bkT l b i d, fun d => bkH (newN n) b r s (l.getD i Ty.act12.dflt) d, fun d => d.n⟩, ⟨L3.a, [], ?_⟩, ?_⟩; rotate_right; rintro ⟨⟩)
  all_goals (repeat' (first
    | with_reducible refine iTr ?_
    | with_reducible refine iB ?_
    | intro _
    | exact True.intro
    | (show _ ∧ _
       first
        | refine aTT ?_
        | refine aTB ?_
        | refine aT ?_
        | refine aB ?_
        | refine a11 ?_
        | refine a01 ?_
        | refine a00 ?_
        | refine a10 ?_
        | (with_reducible refine And.intro rfl ?_)
        | refine And.intro ?_ ?_)
    | with_reducible exact rfl
    | with_reducible exact HEq.rfl
    | (show (_ : Option Nat) = _; exact rfl)
    | (show (_ : Option Blk) = _; exact rfl)
    | (with_reducible show (nodupB _ && _ && _ && _ && _) = true; exact (Eq.refl true))
    | (with_reducible show (nodupB _ && _ && _ && _) = true; exact (Eq.refl true))
    | (with_reducible show (nodupB _ && _ && _) = true; exact (Eq.refl true))
    | (with_reducible show freeOk _ _ = true; exact (Eq.refl true))
    | (with_reducible show wrOk _ _ _ _ _ = true; exact (Eq.refl true))
    | (show (_ : AV) = _; exact rfl)
    | (show (_ : Heap) = _; exact rfl)
    | (with_reducible show (_ || !_) = true; exact (Eq.refl true))
    | (with_reducible show Nat.beq _ _ = true; exact (Eq.refl true))))
  all_goals (first | (show (_ : Int) = _) | (show (_ : Bool) = _) | (show HEq _ _) | (show ∃ _ : LInv, _) | skip)
  all_goals (try (with_reducible exact rfl))
  all_goals try (first
    | refine ⟨L3.b, (show L3.n L3.b < L3.n L3.a from by decide), ?_⟩
    | refine ⟨L3.c, (show L3.n L3.c < L3.n L3.b from by decide), ?_⟩
    | refine ⟨⟨⟨(i + 1 : Nat), stp (newN n) r (l.getD i Ty.act12.dflt), stb (newN n) b s (l.getD i Ty.act12.dflt)⟩, ?_⟩, ?_, ?_⟩)
  all_goals (repeat' (first
    | with_reducible refine iTr ?_
    | with_reducible refine iB ?_
    | intro _
    | exact True.intro
    | (show _ ∧ _
       first
        | refine aTT ?_
        | refine aTB ?_
        | refine aT ?_
        | refine aB ?_
        | refine a11 ?_
        | refine a01 ?_
        | refine a00 ?_
        | refine a10 ?_
        | (with_reducible refine And.intro rfl ?_)
        | refine And.intro ?_ ?_)
    | with_reducible exact rfl
    | with_reducible exact HEq.rfl
    | (show (_ : Option Nat) = _; exact rfl)
    | (show (_ : Option Blk) = _; exact rfl)
    | (with_reducible show (nodupB _ && _ && _ && _ && _) = true; exact (Eq.refl true))
    | (with_reducible show (nodupB _ && _ && _ && _) = true; exact (Eq.refl true))
    | (with_reducible show (nodupB _ && _ && _) = true; exact (Eq.refl true))
    | (with_reducible show freeOk _ _ = true; exact (Eq.refl true))
    | (with_reducible show wrOk _ _ _ _ _ = true; exact (Eq.refl true))
    | (show (_ : AV) = _; exact rfl)
    | (show (_ : Heap) = _; exact rfl)
    | (with_reducible show (_ || !_) = true; exact (Eq.refl true))
    | (with_reducible show Nat.beq _ _ = true; exact (Eq.refl true))))
  all_goals (first | (show (_ : Int) = _) | (show (_ : Bool) = _) | (show HEq _ _) | (show ∃ _ : LInv, _) | skip)
  all_goals (try (with_reducible exact rfl))
  all_goals (try dsimp only at *)
  all_goals (try replace hS : SBk (newN n) l b i r s := hS)
  all_goals (try have hl1 := hS.le)
  all_goals (try have hl2 := hS.l100)
  all_goals (try simp only [Int.toNat_natCast, decide_eq_true_eq, decide_eq_false_iff_not, beq_iff_eq, beq_eq_false_iff_ne, bne_iff_ne, ne_eq, cond_true, cond_false, Bool.not_true, Bool.not_false, Bool.not_eq_true', Bool.not_eq_false'] at *)
  all_goals (first
    | omega
    | exact HEq.rfl
    | exact rfl
    | exact sbk_t hS (by omega)
    | exact wrap_succ (by omega)
    | skip)
  all_goals (have h64 : newN n ≤ 64 := (newN_le n).2)
  all_goals (first
    | exact ⟨Nat.zero_le _, h64, by omega, bq_new 3, bq_new 3, ⟨rfl, fun _ => rfl⟩⟩
    | exact bq_ask hS.br (by omega) _ _ _
    | exact bq_ask hS.bs (by omega) _ _ _
    | exact ⟨h64⟩
    | exact bq_wait (sbk_t (x := l.getD i Ty.act12.dflt) hS (by omega)).br (by omega) _
    | exact bq_wait (sbk_t (x := l.getD i Ty.act12.dflt) hS (by omega)).bs (by omega) _
    | exact heq_of_eq (stp_1 (by assumption)).symm
    | exact heq_of_eq (stp_2 (by assumption) (by first | exact Or.inl (by assumption) | exact Or.inr (by assumption))).symm
    | exact heq_of_eq (stp_3 (by assumption) (no2 (by assumption) (by assumption)) (by first | exact Or.inl (by assumption) | exact Or.inr (by assumption))).symm
    | exact heq_of_eq (stp_4 (by assumption) (no2 (by assumption) (by assumption)) (no2 (by assumption) (by assumption))).symm
    | exact heq_of_eq (stb_f (by assumption)).symm
    | (refine heq_of_eq (Eq.symm ((stb_t (eq_f (by assumption))).trans ?_)); first
        | exact stp_1 (by assumption)
        | exact stp_2 (by assumption) (by first | exact Or.inl (by assumption) | exact Or.inr (by assumption))
        | exact stp_3 (by assumption) (no2 (by assumption) (by assumption)) (by first | exact Or.inl (by assumption) | exact Or.inr (by assumption))
        | exact stp_4 (by assumption) (no2 (by assumption) (by assumption)) (no2 (by assumption) (by assumption)))
    | (exfalso; have hq := (sbk_t (x := l.getD i Ty.act12.dflt) hS (by omega)).ev; have h1 := eqv_cur hq; have h2 := eqv_wait hq; simp only [h1, h2, beq_self_eq_true, Bool.and_self, decide_true] at *; simp at *; done)
    | skip)
end Go.Proofs.Ytpjdicndjakeoaa

