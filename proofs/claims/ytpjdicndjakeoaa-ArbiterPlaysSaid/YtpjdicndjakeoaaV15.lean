/- The contract of the reference's Ack. No condition. -/
import Derived.Test.YtpjdicndjakeoaaV14
namespace Go.Proofs.Ytpjdicndjakeoaa
open Go.RowKit
set_option linter.unusedVariables false
set_option linter.unusedSimpArgs false
def hearM (r : RRow12) (nd : Int) : RRow12 := ⟨r.asked, r.begun, r.phase, r.knows ++ [nd]⟩
def overM (r : RRow12) (nd : Int) : RRow12 := ⟨r.asked, r.begun, 0, r.knows ++ [nd]⟩
def allM (n : Int) (k : List Int) : Prop := ∀ i : Nat, (i : Int) < n → (i : Int) ∈ k
instance (n : Int) (k : List Int) : Decidable (allM n k) := decidable_of_iff (∀ i, i < n.toNat → (i : Int) ∈ k) ⟨fun h i hi => h i (by omega), fun h i hi => h i (by omega)⟩
def ackM (n : Int) (rows : List RRow12) (b s nd : Int) : List RRow12 × Atv × Bool :=
  if isM n rows b nd && onM rows b s 2 then (if allM n ((getM rows b).knows ++ [nd]) then (setM rows b (beginM b (overM (getM rows b) nd)).1, (beginM b (overM (getM rows b) nd)).2) else (setM rows b (hearM (getM rows b) nd), zA, false)) else (rows, zA, false)
theorem ackM_f {n : Int} {rows : List RRow12} {b s nd : Int} (h : (isM n rows b nd && onM rows b s 2) = false) : ackM n rows b s nd = (rows, zA, false) := if_neg (by rw [h]; decide)
theorem ackM_1 {n : Int} {rows : List RRow12} {b s nd : Int} (h : (isM n rows b nd && onM rows b s 2) = true) (hk : ¬ allM n ((getM rows b).knows ++ [nd])) : ackM n rows b s nd = (setM rows b (hearM (getM rows b) nd), zA, false) := by unfold ackM; rw [if_pos h, if_neg hk]
theorem ackM_2 {n : Int} {rows : List RRow12} {b s nd : Int} (h : (isM n rows b nd && onM rows b s 2) = true) (hk : allM n ((getM rows b).knows ++ [nd])) : ackM n rows b s nd = (setM rows b (beginM b (overM (getM rows b) nd)).1, (beginM b (overM (getM rows b) nd)).2) := by unfold ackM; rw [if_pos h, if_pos hk]
structure PKM (n : Int) (rows : List RRow12) (b : Int) : Prop where
  n64 : n ≤ 64
  r : inM rows b = true → RowM (getM rows b)
  k : inM rows b = true → (getM rows b).knows.length ≤ 99999
structure SA (n : Int) (k : List Int) (i : Nat) : Prop where
  le : (i : Int) ≤ n
  n64 : n ≤ 64
  all : ∀ j : Nat, j < i → (j : Int) ∈ k
structure SK (k : List Int) (i j : Nat) (is : Bool) : Prop where
  le : j ≤ k.length
  eq : is = decide ((i : Int) ∈ k.take j)
theorem sk_next {k : List Int} {i j : Nat} {is : Bool} (h : SK k i j is) (hj : j < k.length) : SK k i (j + 1) (decide ((i : Int) ∈ k.take (j + 1))) := ⟨hj, rfl⟩
theorem sk_t {k : List Int} {i j : Nat} (h : SK k i j true) (hj : j < k.length) : decide ((i : Int) ∈ k.take (j + 1)) = true := by
  have h1 := of_decide_eq_true h.eq.symm
  refine decide_eq_true ?_
  rw [List.take_add_one]
  exact List.mem_append_left _ h1
theorem sk_f {k : List Int} {i j : Nat} {z : Int} (h : SK k i j false) (hj : j < k.length) : decide ((i : Int) ∈ k.take (j + 1)) = (k.getD j z == (i : Int)) := by
  have h1 := of_decide_eq_false h.eq.symm
  rw [List.take_add_one, List.getElem?_eq_getElem hj, List.getD_eq_getElem?_getD, List.getElem?_eq_getElem hj]
  simp only [Option.toList_some, Option.getD_some, List.mem_append, List.mem_singleton, h1, false_or]
  by_cases e : k[j] = (i : Int)
  · simp [e]
  · rw [decide_eq_false (fun h => e h.symm)]
    exact (beq_eq_false_iff_ne.2 e).symm
theorem sa_next {n : Int} {k : List Int} {i j : Nat} (h : SA n k i) (hi : (i : Int) < n) (hs : SK k i j true) (hj : ¬ j < k.length) : SA n k (i + 1) := by
  refine ⟨by omega, h.n64, fun j' hj' => ?_⟩
  rcases Nat.lt_or_ge j' i with h1 | h1
  · exact h.all j' h1
  · have : j' = i := by omega
    subst this
    have h2 := of_decide_eq_true hs.eq.symm
    rwa [List.take_of_length_le (by omega)] at h2
theorem sa_not {n : Int} {k : List Int} {i j : Nat} (hi : (i : Int) < n) (hs : SK k i j false) (hj : ¬ j < k.length) : ¬ allM n k := fun h => by
  have h2 := of_decide_eq_false hs.eq.symm
  rw [List.take_of_length_le (by omega)] at h2
  exact h2 (h i hi)
theorem sa_end {n : Int} {k : List Int} {i : Nat} (h : SA n k i) (hi : ¬ (i : Int) < n) : allM n k := fun j hj => h.all j (by omega)
theorem ackM_f1 {n : Int} {rows : List RRow12} {b s nd : Int} (h : inM rows b = false) : ackM n rows b s nd = (rows, zA, false) := ackM_f (by simp [isM, h])
theorem ackM_f2 {n : Int} {rows : List RRow12} {b s nd : Int} (h : isM n rows b nd = false) : ackM n rows b s nd = (rows, zA, false) := ackM_f (by simp [h])
theorem ackM_f3 {n : Int} {rows : List RRow12} {b s nd : Int} (h : onM rows b s 2 = false) : ackM n rows b s nd = (rows, zA, false) := ackM_f (by simp [h])
theorem rowM_over {r : RRow12} (h : RowM r) (hk : r.knows.length ≤ 99999) (nd : Int) : RowM (overM r nd) :=
  ⟨h.b0, h.bl, .inl rfl, h.len, by show (r.knows ++ [nd]).length ≤ 100000; rw [List.length_append, List.length_singleton]; omega⟩
def cAckM : Con where
  X := Int × List RRow12 × Int × Int × Int
  args := fun ⟨n, rows, b, s, nd⟩ => [pA, AI b, AI s, AI nd]
  heap := fun ⟨n, rows, b, s, nd⟩ => rH false n rows
  pre := fun ⟨n, rows, b, s, nd⟩ => PKM n rows b
  res := fun ⟨n, rows, b, s, nd⟩ => .tup [AAtv (ackM n rows b s nd).2.1, AB (ackM n rows b s nd).2.2]
  heap' := fun ⟨n, rows, b, s, nd⟩ => rH false n (ackM n rows b s nd).1
  pure := false
  find := fun args H => match args with
    | [.ptr id _, .int _ b, .int _ s, .int _ nd] => (findR id H).map fun (n, rows) => (n, rows, b, s, nd)
    | _ => none
set_option maxRecDepth 100000 in
set_option maxHeartbeats 16000000 in
theorem cAckM_ok : cAckM.Ok Try.prog 21 := by
  refine fun_ok (env_ok (Cons.cons cBlock_ok (Cons.cons cbegin_ok Cons.nil))) mixedP Try.func21 (by decide) rfl cAckM [(3, 18), (2000003, 5), (2000003, 14), (2000003, 17), (4000003, 0), (5000003, 0), (6000003, 0), (4000003, 1), (5000003, 1), (6000003, 1), (4000003, 2), (5000003, 2), (6000003, 2), (4000003, 3), (5000003, 3), (6000003, 3), (4000003, 4), (5000003, 4), (6000003, 4), (3000003, 6), (5000003, 6), (6000003, 6), (3000003, 7), (3000003, 8), (3000003, 9), (3000003, 10), (3000003, 11), (3000003, 12), (3000003, 13), (3000003, 15), (4000003, 15), (3000003, 16), (4000003, 16)] (fun _ => rfl) (fun h => by cases h) (fun _ => Nat.le_of_ble_eq_true rfl) ?_
  rintro ⟨n, rows, b, s, nd⟩ hp ha hb
  replace hp : PKM n rows b := hp
  clear ha hb
  all_goals (repeat' (first
    | with_reducible refine iTr ?_
    | with_reducible refine iB ?_
    | intro _
    | exact True.intro
    | (show _ ∧ _
       first
        | refine aTT ?_
        | refine aTB ?_
        | refine aT ?_
        | refine aB ?_
        | refine a11 ?_
        | refine a01 ?_
        | refine a00 ?_
        | refine a10 ?_
        | (with_reducible refine And.intro rfl ?_)
        | refine And.intro ?_ ?_)
    | with_reducible exact rfl
    | with_reducible exact HEq.rfl
    | (show (_ : Option Nat) = _; exact rfl)
    | (show (_ : Option Blk) = _; exact rfl)
    | (with_reducible show (nodupB _ && _ && _ && _ && _) = true; exact (Eq.refl true))
    | (with_reducible show (nodupB _ && _ && _ && _) = true; exact (Eq.refl true))
    | (with_reducible show (nodupB _ && _ && _) = true; exact (Eq.refl true))
    | (with_reducible show freeOk _ _ = true; exact (Eq.refl true))
    | (with_reducible show wrOk _ _ _ _ _ = true; exact (Eq.refl true))
    | (show (_ : AV) = _; exact rfl)
    | (with_reducible show (_ || !_) = true; exact (Eq.refl true))
    | (with_reducible show Nat.beq _ _ = true; exact (Eq.refl true))))
  all_goals (first | (show (_ : Int) = _) | (show (_ : Bool) = _) | (show HEq _ _) | (show ∃ _ : LInv, _) | skip)
  all_goals (try (with_reducible exact rfl))
  all_goals try (refine ⟨⟨{i : Nat // SA n ((getM rows b).knows ++ [nd]) i}, fun i => [(10, AI i.1), (0, pA), (1, AI b), (8, .ptr 2 ⟨0,0,0,none⟩), (9, AB false)], fun i => ⟨3, [(2, some (.obj false [.int .i64 0, .int .i64 0, .int .i64 0])), (1, some (.seq false 63 .rRow12 (setM rows b (hearM (getM rows b) nd)))), (0, some (.obj true [.int .i64 n, .slc 1]))]⟩, fun i => n.toNat - i.1⟩, ⟨⟨0, ?_⟩, [], ?_⟩, ?_⟩; rotate_right; rintro ⟨i, hS⟩)
  all_goals (repeat' (first
    | with_reducible refine iTr ?_
    | with_reducible refine iB ?_
    | intro _
    | exact True.intro
    | (show _ ∧ _
       first
        | refine aTT ?_
        | refine aTB ?_
        | refine aT ?_
        | refine aB ?_
        | refine a11 ?_
        | refine a01 ?_
        | refine a00 ?_
        | refine a10 ?_
        | (with_reducible refine And.intro rfl ?_)
        | refine And.intro ?_ ?_)
    | with_reducible exact rfl
    | with_reducible exact HEq.rfl
    | (show (_ : Option Nat) = _; exact rfl)
    | (show (_ : Option Blk) = _; exact rfl)
    | (with_reducible show (nodupB _ && _ && _ && _ && _) = true; exact (Eq.refl true))
    | (with_reducible show (nodupB _ && _ && _ && _) = true; exact (Eq.refl true))
    | (with_reducible show (nodupB _ && _ && _) = true; exact (Eq.refl true))
    | (with_reducible show freeOk _ _ = true; exact (Eq.refl true))
    | (with_reducible show wrOk _ _ _ _ _ = true; exact (Eq.refl true))
    | (show (_ : AV) = _; exact rfl)
    | (with_reducible show (_ || !_) = true; exact (Eq.refl true))
    | (with_reducible show Nat.beq _ _ = true; exact (Eq.refl true))))
  all_goals (first | (show (_ : Int) = _) | (show (_ : Bool) = _) | (show HEq _ _) | (show ∃ _ : LInv, _) | skip)
  all_goals (try (with_reducible exact rfl))
  all_goals try (refine ⟨⟨{s : Nat × Bool // SK ((getM rows b).knows ++ [nd]) i s.1 s.2}, fun s => [(12, AI s.1.1), (11, AB s.1.2), (10, AI i), (0, pA), (1, AI b), (8, .ptr 2 ⟨0,0,0,none⟩), (9, AB false)], fun s => ⟨3, [(2, some (.obj false [.int .i64 0, .int .i64 0, .int .i64 0])), (1, some (.seq false 63 .rRow12 (setM rows b (hearM (getM rows b) nd)))), (0, some (.obj true [.int .i64 n, .slc 1]))]⟩, fun s => ((getM rows b).knows ++ [nd]).length - s.1.1⟩, ⟨⟨(0, false), ?_⟩, [], ?_⟩, ?_⟩; rotate_right; rintro ⟨⟨j, is⟩, hS2⟩)
  all_goals (repeat' (first
    | with_reducible refine iTr ?_
    | with_reducible refine iB ?_
    | intro _
    | exact True.intro
    | (show _ ∧ _
       first
        | refine aTT ?_
        | refine aTB ?_
        | refine aT ?_
        | refine aB ?_
        | refine a11 ?_
        | refine a01 ?_
        | refine a00 ?_
        | refine a10 ?_
        | (with_reducible refine And.intro rfl ?_)
        | refine And.intro ?_ ?_)
    | with_reducible exact rfl
    | with_reducible exact HEq.rfl
    | (show (_ : Option Nat) = _; exact rfl)
    | (show (_ : Option Blk) = _; exact rfl)
    | (with_reducible show (nodupB _ && _ && _ && _ && _) = true; exact (Eq.refl true))
    | (with_reducible show (nodupB _ && _ && _ && _) = true; exact (Eq.refl true))
    | (with_reducible show (nodupB _ && _ && _) = true; exact (Eq.refl true))
    | (with_reducible show freeOk _ _ = true; exact (Eq.refl true))
    | (with_reducible show wrOk _ _ _ _ _ = true; exact (Eq.refl true))
    | (show (_ : AV) = _; exact rfl)
    | (with_reducible show (_ || !_) = true; exact (Eq.refl true))
    | (with_reducible show Nat.beq _ _ = true; exact (Eq.refl true))))
  all_goals (first | (show (_ : Int) = _) | (show (_ : Bool) = _) | (show HEq _ _) | (show ∃ _ : LInv, _) | skip)
  all_goals (try (with_reducible exact rfl))
  all_goals try (refine ⟨⟨(j + 1, decide ((i : Int) ∈ ((getM rows b).knows ++ [nd]).take (j + 1))), ?_⟩, ?_, ?_⟩)
  all_goals (repeat' (first
    | with_reducible refine iTr ?_
    | with_reducible refine iB ?_
    | intro _
    | exact True.intro
    | (show _ ∧ _
       first
        | refine aTT ?_
        | refine aTB ?_
        | refine aT ?_
        | refine aB ?_
        | refine a11 ?_
        | refine a01 ?_
        | refine a00 ?_
        | refine a10 ?_
        | (with_reducible refine And.intro rfl ?_)
        | refine And.intro ?_ ?_)
    | with_reducible exact rfl
    | with_reducible exact HEq.rfl
    | (show (_ : Option Nat) = _; exact rfl)
    | (show (_ : Option Blk) = _; exact rfl)
    | (with_reducible show (nodupB _ && _ && _ && _ && _) = true; exact (Eq.refl true))
    | (with_reducible show (nodupB _ && _ && _ && _) = true; exact (Eq.refl true))
    | (with_reducible show (nodupB _ && _ && _) = true; exact (Eq.refl true))
    | (with_reducible show freeOk _ _ = true; exact (Eq.refl true))
    | (with_reducible show wrOk _ _ _ _ _ = true; exact (Eq.refl true))
    | (show (_ : AV) = _; exact rfl)
    | (with_reducible show (_ || !_) = true; exact (Eq.refl true))
    | (with_reducible show Nat.beq _ _ = true; exact (Eq.refl true))))
  all_goals (first | (show (_ : Int) = _) | (show (_ : Bool) = _) | (show HEq _ _) | (show ∃ _ : LInv, _) | skip)
  all_goals (try (with_reducible exact rfl))
  all_goals try (refine ⟨⟨i + 1, ?_⟩, ?_, ?_⟩)
  all_goals (repeat' (first
    | with_reducible refine iTr ?_
    | with_reducible refine iB ?_
    | intro _
    | exact True.intro
    | (show _ ∧ _
       first
        | refine aTT ?_
        | refine aTB ?_
        | refine aT ?_
        | refine aB ?_
        | refine a11 ?_
        | refine a01 ?_
        | refine a00 ?_
        | refine a10 ?_
        | (with_reducible refine And.intro rfl ?_)
        | refine And.intro ?_ ?_)
    | with_reducible exact rfl
    | with_reducible exact HEq.rfl
    | (show (_ : Option Nat) = _; exact rfl)
    | (show (_ : Option Blk) = _; exact rfl)
    | (with_reducible show (nodupB _ && _ && _ && _ && _) = true; exact (Eq.refl true))
    | (with_reducible show (nodupB _ && _ && _ && _) = true; exact (Eq.refl true))
    | (with_reducible show (nodupB _ && _ && _) = true; exact (Eq.refl true))
    | (with_reducible show freeOk _ _ = true; exact (Eq.refl true))
    | (with_reducible show wrOk _ _ _ _ _ = true; exact (Eq.refl true))
    | (show (_ : AV) = _; exact rfl)
    | (with_reducible show (_ || !_) = true; exact (Eq.refl true))
    | (with_reducible show Nat.beq _ _ = true; exact (Eq.refl true))))
  all_goals (first | (show (_ : Int) = _) | (show (_ : Bool) = _) | (show HEq _ _) | (show ∃ _ : LInv, _) | skip)
  all_goals (try (with_reducible exact rfl))
  all_goals (try dsimp only at *)
  all_goals (try simp only [Bool.not_true, Bool.not_false, Bool.not_eq_true', Bool.not_eq_false', cond_true, cond_false, bne_iff_ne, ne_eq, bne_eq_false_iff_eq, decide_eq_true_eq, decide_eq_false_iff_not, List.length_set, len_setM, Int.toNat_natCast] at *)
  all_goals (first
    | (rw [ackM_f1 (by assumption)]; done)
    | (rw [ackM_f2 (isM_f (by omega))]; done)
    | (rw [ackM_f3 (by first | exact onM_2 (by assumption) | exact onM_3 (by assumption))]; done)
    | skip)
  all_goals (have hi : inM rows b = true := (by assumption); have hb := inM_iff.1 hi; have hlt : b.toNat < rows.length := (by omega); have hr := hp.r hi; have hkl := hp.k hi)
  all_goals (have hX : (setM rows b (hearM (getM rows b) nd)).getD b.toNat Ty.rRow12.dflt = hearM (getM rows b) nd := getD_set_self hlt; have hK : (hearM (getM rows b) nd).knows = (getM rows b).knows ++ [nd] := rfl; have hl2 : b.toNat < (setM rows b (hearM (getM rows b) nd)).length := (by rw [len_setM]; exact hlt))
  all_goals (first
    | omega
    | (show (0 + (getM rows b).knows.length) * 8 ≤ _; omega)
    | (show (([] ++ (getM rows b).knows).length + 1) * 8 ≤ _; rw [List.nil_append]; omega)
    | (show SA n _ 0; exact ⟨by omega, hp.n64, fun j hj => absurd hj (Nat.not_lt_zero _)⟩)
    | (show SK _ i 0 false; exact ⟨Nat.zero_le _, by simp⟩)
    | skip)
  all_goals (try simp only [hX, hK] at *)
  all_goals (have hlk : ((getM rows b).knows ++ [nd]).length ≤ 100000 := (by rw [List.length_append, List.length_singleton]; omega))
  all_goals (first
    | omega
    | (apply heq_of_eq; with_reducible rfl)
    | (exact sk_next hS2 (by omega))
    | (have h9 : is = false := (by assumption); subst h9; exact (sk_f hS2 (by omega)).symm)
    | (have h9 : is = true := (by assumption); subst h9; exact (sk_t hS2 (by omega)).symm)
    | (have h9 : is = true := (by assumption); subst h9; exact sa_next hS (by omega) hS2 (by omega))
    | exact wrap_succ (by omega)
    | (have h64 := hp.n64; exact wrap_succ (by omega))
    | (have hyes : (isM n rows b nd && onM rows b s 2) = true := (by rw [isM_iff.2 ⟨hb, by omega, by omega⟩, onM_t hi (by assumption) (by assumption)]; rfl)
       have h9 : is = false := (by assumption)
       subst h9
       have hna := sa_not (n := n) (by omega) hS2 (by omega)
       rw [ackM_1 hyes hna]
       first | done | rfl | exact HEq.rfl)
    | (rw [inM_iff, List.length_set, len_setM]; exact hb)
    | (rw [getM_set hl2]; exact rowM_over hr hkl nd)
    | (have hyes : (isM n rows b nd && onM rows b s 2) = true := (by rw [isM_iff.2 ⟨hb, by omega, by omega⟩, onM_t hi (by assumption) (by assumption)]; rfl)
       have hall := sa_end hS (by omega)
       first
       | (rw [ackM_2 hyes hall, getM_set hl2]; done)
       | (rw [ackM_2 hyes hall, getM_set hl2]; rfl)
       | (apply heq_of_eq; rw [ackM_2 hyes hall, getM_set hl2]; unfold setM; rw [List.set_set, List.set_set]; rfl))
    | (apply heq_of_eq; rfl)
    | skip)
end Go.Proofs.Ytpjdicndjakeoaa

