/- The law's tell; ArbiterCopies of layer 12: what it comes to. No condition. -/
import Derived.Test.YtpjdicndjakeoaaV6
namespace Go.Proofs.Ytpjdicndjakeoaa
open Go.RowKit
set_option linter.unusedVariables false
set_option linter.unusedSimpArgs false
def tell1 (n : Int) (rows : List Row12) (a : Act12) : List Row12 :=
  if a.kind = 1 then (askA n rows a.block a.node).1 else if a.kind = 2 ∨ a.kind = 5 then (doneA rows a.block a.seq).1 else (ackA n rows a.block a.seq a.node).1
def tellA (n : Int) (rows : List Row12) (l : List Act12) : List Row12 := l.foldl (tell1 n) rows
structure BQ (k : Nat) (rows : List Row12) : Prop where
  q : ∀ b, inR rows b = true → (getR rows b).queue.length ≤ k
theorem inR_setR (rows : List Row12) (b c : Int) (v : Row12) : inR (setR rows b v) c = inR rows c := by unfold inR; rw [len_setR]
theorem getR_ite {rows : List Row12} {b c : Int} {v : Row12} (hb : inR rows b = true) (hc : inR rows c = true) : getR (setR rows b v) c = if c = b then v else getR rows c := by
  have hb := inR_iff.1 hb
  have hc := inR_iff.1 hc
  split
  · rename_i e
    subst e
    exact getR_setR (by omega)
  · rename_i e
    unfold getR setR
    rw [List.getD_eq_getElem?_getD, List.getElem?_set_ne (by omega), ← List.getD_eq_getElem?_getD]
theorem BQ.set {k : Nat} {rows : List Row12} (h : BQ k rows) {b : Int} {v : Row12} (hb : inR rows b = true) (hv : v.queue.length ≤ k) : BQ k (setR rows b v) := by
  refine ⟨fun c hc => ?_⟩
  rw [inR_setR] at hc
  rw [getR_ite hb hc]
  split
  · exact hv
  · exact h.q c hc
theorem BQ.mono {k m : Nat} {rows : List Row12} (h : BQ k rows) (hm : k ≤ m) : BQ m rows := ⟨fun b hb => Nat.le_trans (h.q b hb) hm⟩
theorem next_q_len (b : Int) (r : Row12) : (nextR b r).1.queue.length ≤ r.queue.length := by
  unfold nextR
  split
  · exact Nat.le_refl _
  · show (r.queue.drop 1).length ≤ _
    rw [List.length_drop]
    omega
theorem BQ.ask {k : Nat} {rows : List Row12} (h : BQ k rows) (n b nd : Int) : BQ (k + 1) (askA n rows b nd).1 ∧ (askA n rows b nd).1.length = rows.length := by
  unfold askA
  split
  · rename_i hx
    have hb := inR_iff.2 (isR_iff.1 hx).1
    refine ⟨(h.mono (Nat.le_succ k)).set hb (Nat.le_trans (next_q_len _ _) ?_), len_setR _ _ _⟩
    show ((getR rows b).queue ++ [nd]).length ≤ k + 1
    rw [List.length_append, List.length_singleton]
    have := h.q b hb
    omega
  · exact ⟨h.mono (Nat.le_succ k), rfl⟩
theorem BQ.done {k : Nat} {rows : List Row12} (h : BQ k rows) (b s : Int) : BQ k (doneA rows b s).1 ∧ (doneA rows b s).1.length = rows.length := by
  unfold doneA
  split
  · rename_i hx
    have hb : inR rows b = true := by unfold isOn at hx; simp only [Bool.and_eq_true] at hx; exact hx.1
    exact ⟨h.set hb (h.q b hb), len_setR _ _ _⟩
  · exact ⟨h, rfl⟩
theorem BQ.ack {k : Nat} {rows : List Row12} (h : BQ k rows) (n b s nd : Int) : BQ k (ackA n rows b s nd).1 ∧ (ackA n rows b s nd).1.length = rows.length := by
  unfold ackA
  split
  · rename_i hx
    have hb : inR rows b = true := by
      unfold isEnd at hx
      simp only [Bool.and_eq_true] at hx
      exact inR_iff.2 (isR_iff.1 hx.1).1
    split
    · exact ⟨h.set hb (Nat.le_trans (next_q_len _ _) (h.q b hb)), len_setR _ _ _⟩
    · exact ⟨h.set hb (h.q b hb), len_setR _ _ _⟩
  · exact ⟨h, rfl⟩
theorem BQ.tell1 {k : Nat} {rows : List Row12} (h : BQ k rows) (n : Int) (a : Act12) : BQ (k + 1) (tell1 n rows a) ∧ (tell1 n rows a).length = rows.length := by
  unfold Go.Proofs.Ytpjdicndjakeoaa.tell1
  split
  · exact h.ask n a.block a.node
  · split
    · exact ⟨(h.done a.block a.seq).1.mono (Nat.le_succ k), (h.done a.block a.seq).2⟩
    · exact ⟨(h.ack n a.block a.seq a.node).1.mono (Nat.le_succ k), (h.ack n a.block a.seq a.node).2⟩
theorem BQ.tell {n : Int} : ∀ {l : List Act12} {k : Nat} {rows : List Row12}, BQ k rows → BQ (k + l.length) (tellA n rows l) ∧ (tellA n rows l).length = rows.length
  | [], k, rows, h => ⟨h, rfl⟩
  | a :: l, k, rows, h => by
    have h1 := h.tell1 n a
    have h2 := BQ.tell (n := n) (l := l) h1.1
    refine ⟨h2.1.mono (by rw [List.length_cons]; omega), ?_⟩
    exact h2.2.trans h1.2
theorem tell_succ {n : Int} {rows : List Row12} {l : List Act12} {i : Nat} (h : i < l.length) : tellA n rows (l.take (i + 1)) = tell1 n (tellA n rows (l.take i)) (l.getD i Ty.act12.dflt) := by
  unfold tellA
  rw [List.take_add_one, List.getElem?_eq_getElem h, List.foldl_append, List.getD_eq_getElem?_getD, List.getElem?_eq_getElem h]
  rfl
structure PT (n : Int) (rows : List Row12) (l : List Act12) : Prop where
  n64 : n ≤ 64
  l100 : l.length ≤ 1000
  bq : BQ 1000 rows
def cTell : Con where
  X := Int × List Row12 × List Act12
  args := fun ⟨n, rows, l⟩ => [pA, .vsl .act12 l]
  heap := fun ⟨n, rows, l⟩ => aH false n rows
  pre := fun ⟨n, rows, l⟩ => PT n rows l
  res := fun ⟨n, rows, l⟩ => .tup []
  heap' := fun ⟨n, rows, l⟩ => aH false n (tellA n rows l)
  pure := false
  find := fun args H => match args with
    | [.ptr id _, .vsl .act12 l] => (findA id H).map fun (n, rows) => (n, rows, l)
    | _ => none
set_option maxRecDepth 100000 in
set_option maxHeartbeats 16000000 in
theorem cTell_ok : cTell.Ok Try.prog 24 := by
  refine fun_ok (env_ok (Cons.cons cAsk_ok (Cons.cons cDone_ok (Cons.cons cAck_ok Cons.nil)))) mixedP Try.func24 (by decide) rfl cTell [] (fun _ => rfl) (fun h => by cases h) (fun _ => Nat.le_of_ble_eq_true rfl) ?_
  rintro ⟨n, rows, l⟩ hp ha hb
  replace hp : PT n rows l := hp
  clear ha hb
  all_goals (repeat' (first
    | with_reducible refine iTr ?_
    | with_reducible refine iB ?_
    | intro _
    | exact True.intro
    | (show _ ∧ _
       first
        | refine aTT ?_
        | refine aTB ?_
        | refine aT ?_
        | refine aB ?_
        | refine a11 ?_
        | refine a01 ?_
        | refine a00 ?_
        | refine a10 ?_
        | (with_reducible refine And.intro rfl ?_)
        | refine And.intro ?_ ?_)
    | with_reducible exact rfl
    | with_reducible exact HEq.rfl
    | (show (_ : Option Nat) = _; exact rfl)
    | (show (_ : Option Blk) = _; exact rfl)
    | (with_reducible show (nodupB _ && _ && _ && _ && _) = true; exact (Eq.refl true))
    | (with_reducible show (nodupB _ && _ && _ && _) = true; exact (Eq.refl true))
    | (with_reducible show (nodupB _ && _ && _) = true; exact (Eq.refl true))
    | (with_reducible show freeOk _ _ = true; exact (Eq.refl true))
    | (with_reducible show wrOk _ _ _ _ _ = true; exact (Eq.refl true))
    | (show (_ : AV) = _; exact rfl)
    | (show (_ : Heap) = _; exact rfl)
    | (with_reducible show (_ || !_) = true; exact (Eq.refl true))
    | (with_reducible show Nat.beq _ _ = true; exact (Eq.refl true))))
  all_goals (first | (show (_ : Int) = _) | (show (_ : Bool) = _) | (show HEq _ _) | (show ∃ _ : LInv, _) | skip)
  all_goals (try (with_reducible exact rfl))
  all_goals try (refine ⟨⟨{i : Nat // i ≤ l.length}, fun i => [(8, AI i.1), (7, AI l.length), (6, .vsl .act12 l), (0, pA)], fun i => ⟨2, [(1, some (.seq false 59 .row12 (tellA n rows (l.take i.1)))), (0, some (.obj true [.int .i64 n, .slc 1]))]⟩, fun i => l.length - i.1⟩, ⟨⟨0, Nat.zero_le _⟩, [], ?_⟩, ?_⟩; rotate_right; rintro ⟨i, hi⟩)
  all_goals (repeat' (first
    | with_reducible refine iTr ?_
    | with_reducible refine iB ?_
    | intro _
    | exact True.intro
    | (show _ ∧ _
       first
        | refine aTT ?_
        | refine aTB ?_
        | refine aT ?_
        | refine aB ?_
        | refine a11 ?_
        | refine a01 ?_
        | refine a00 ?_
        | refine a10 ?_
        | (with_reducible refine And.intro rfl ?_)
        | refine And.intro ?_ ?_)
    | with_reducible exact rfl
    | with_reducible exact HEq.rfl
    | (show (_ : Option Nat) = _; exact rfl)
    | (show (_ : Option Blk) = _; exact rfl)
    | (with_reducible show (nodupB _ && _ && _ && _ && _) = true; exact (Eq.refl true))
    | (with_reducible show (nodupB _ && _ && _ && _) = true; exact (Eq.refl true))
    | (with_reducible show (nodupB _ && _ && _) = true; exact (Eq.refl true))
    | (with_reducible show freeOk _ _ = true; exact (Eq.refl true))
    | (with_reducible show wrOk _ _ _ _ _ = true; exact (Eq.refl true))
    | (show (_ : AV) = _; exact rfl)
    | (show (_ : Heap) = _; exact rfl)
    | (with_reducible show (_ || !_) = true; exact (Eq.refl true))
    | (with_reducible show Nat.beq _ _ = true; exact (Eq.refl true))))
  all_goals (first | (show (_ : Int) = _) | (show (_ : Bool) = _) | (show HEq _ _) | (show ∃ _ : LInv, _) | skip)
  all_goals (try (with_reducible exact rfl))
  all_goals try (refine ⟨⟨i + 1, ?_⟩, ?_, ?_⟩)
  all_goals (repeat' (first
    | with_reducible refine iTr ?_
    | with_reducible refine iB ?_
    | intro _
    | exact True.intro
    | (show _ ∧ _
       first
        | refine aTT ?_
        | refine aTB ?_
        | refine aT ?_
        | refine aB ?_
        | refine a11 ?_
        | refine a01 ?_
        | refine a00 ?_
        | refine a10 ?_
        | (with_reducible refine And.intro rfl ?_)
        | refine And.intro ?_ ?_)
    | with_reducible exact rfl
    | with_reducible exact HEq.rfl
    | (show (_ : Option Nat) = _; exact rfl)
    | (show (_ : Option Blk) = _; exact rfl)
    | (with_reducible show (nodupB _ && _ && _ && _ && _) = true; exact (Eq.refl true))
    | (with_reducible show (nodupB _ && _ && _ && _) = true; exact (Eq.refl true))
    | (with_reducible show (nodupB _ && _ && _) = true; exact (Eq.refl true))
    | (with_reducible show freeOk _ _ = true; exact (Eq.refl true))
    | (with_reducible show wrOk _ _ _ _ _ = true; exact (Eq.refl true))
    | (show (_ : AV) = _; exact rfl)
    | (show (_ : Heap) = _; exact rfl)
    | (with_reducible show (_ || !_) = true; exact (Eq.refl true))
    | (with_reducible show Nat.beq _ _ = true; exact (Eq.refl true))))
  all_goals (first | (show (_ : Int) = _) | (show (_ : Bool) = _) | (show HEq _ _) | (show ∃ _ : LInv, _) | skip)
  all_goals (try (with_reducible exact rfl))
  all_goals (try dsimp only at *)
  all_goals (try simp only [Int.toNat_natCast, decide_eq_true_eq, decide_eq_false_iff_not] at *)
  all_goals (have h1000 := hp.l100)
  all_goals (first
    | omega
    | rfl
    | exact wrap_succ (by omega)
    | exact ⟨hp.n64⟩
    | (apply heq_of_eq; rw [List.take_of_length_le (by omega)]; done)
    | skip)
  all_goals (have hi2 : i < l.length := (by omega))
  all_goals (first
    | exact ⟨fun hx => ⟨by have h1 := (hp.bq.tell (n := n) (l := l.take i)).1.q _ (inR_iff.2 (isR_iff.1 hx).1); rw [List.length_take] at h1; omega⟩⟩
    | (apply heq_of_eq; rw [tell_succ hi2]; unfold tell1; first
      | (rw [if_pos (by simpa using ‹((l.getD i Ty.act12.dflt).kind == 1) = true›)]; done)
      | (rw [if_neg (by simpa using ‹((l.getD i Ty.act12.dflt).kind == 1) = false›), if_pos (.inl (by simpa using ‹((l.getD i Ty.act12.dflt).kind == 2) = true›))]; done)
      | (rw [if_neg (by simpa using ‹((l.getD i Ty.act12.dflt).kind == 1) = false›), if_pos (.inr (by simpa using ‹((l.getD i Ty.act12.dflt).kind == 5) = true›))]; done)
      | (have k2 : ¬ (l.getD i Ty.act12.dflt).kind = 2 := (by simpa using ‹((l.getD i Ty.act12.dflt).kind == 2) = false›); have k5 : ¬ (l.getD i Ty.act12.dflt).kind = 5 := (by simpa using ‹((l.getD i Ty.act12.dflt).kind == 5) = false›); rw [if_neg (by simpa using ‹((l.getD i Ty.act12.dflt).kind == 1) = false›), if_neg (fun h => h.elim k2 k5)]; done))
    | (exfalso; have k1 : ((l.getD i Ty.act12.dflt).kind == 2) = true := (by assumption); have k2 : ((l.getD i Ty.act12.dflt).kind == 2) = false := (by assumption); rw [k1] at k2; cases k2)
    | skip)
end Go.Proofs.Ytpjdicndjakeoaa

