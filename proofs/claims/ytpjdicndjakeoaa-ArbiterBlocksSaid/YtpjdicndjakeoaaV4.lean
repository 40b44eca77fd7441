/- Contracts of the arbiter's Ack and Copy. No condition. -/
import Derived.Test.YtpjdicndjakeoaaV3
namespace Go.Proofs.Ytpjdicndjakeoaa
open Go.RowKit
set_option linter.unusedVariables false
set_option linter.unusedSimpArgs false
structure PAck (n : Int) (rows : List Row12) (b : Int) : Prop where
  le : n ≤ 64
structure SL (n : Int) (i : Nat) : Prop where
  le : (i : Int) ≤ n
  le64 : n ≤ 64
def allI (i : Nat) : List Bool := List.replicate i true ++ List.replicate (64 - i) false
theorem allI_set {i : Nat} (h : i < 64) : (allI i).set i true = allI (i + 1) := by
  unfold allI
  rw [List.set_append_right _ _ (by simp), List.length_replicate, Nat.sub_self, show 64 - i = (64 - (i + 1)) + 1 from by omega, List.replicate_succ, List.set_cons_zero, List.replicate_succ']
  simp
theorem allI_n {n : Int} {i : Nat} (h1 : (i : Int) ≤ n) (h2 : ¬ (i : Int) < n) : allI i = allN n := by
  have : n.toNat = i := by omega
  unfold allI allN
  rw [this]
theorem ack_f {n : Int} {rows : List Row12} {b s nd : Int} (h : isEnd n rows b s nd = false) : ackA n rows b s nd = (rows, zA, false) := if_neg (by rw [h]; decide)
theorem ack_1 {n : Int} {rows : List Row12} {b s nd : Int} (h : isEnd n rows b s nd = true) (hk : ¬ (getR rows b).knows.set nd.toNat true = allN n) : ackA n rows b s nd = (setR rows b (knowR (getR rows b) nd), zA, false) := by unfold ackA; rw [if_pos h, if_neg hk]
theorem ack_2 {n : Int} {rows : List Row12} {b s nd : Int} (h : isEnd n rows b s nd = true) (hk : (getR rows b).knows.set nd.toNat true = allN n) : ackA n rows b s nd = (setR rows b (nextR b (endR (getR rows b) nd)).1, (nextR b (endR (getR rows b) nd)).2) := by unfold ackA; rw [if_pos h, if_pos hk]
theorem isEnd_0 {n : Int} {rows : List Row12} {b s nd : Int} (h : isR n rows b nd = false) : isEnd n rows b s nd = false := by simp [isEnd, h]
theorem isEnd_1 {n : Int} {rows : List Row12} {b s nd : Int} (h : (!(getR rows b).ending) = true) : isEnd n rows b s nd = false := by simp at h; simp [isEnd, h]
theorem isEnd_2 {n : Int} {rows : List Row12} {b s nd : Int} (h : (bif false then true else (getR rows b).act.seq != s) = true) : isEnd n rows b s nd = false := by simp at h; simp [isEnd, h]
theorem isEnd_t {n : Int} {rows : List Row12} {b s nd : Int} (h0 : isR n rows b nd = true) (h1 : (!(getR rows b).ending) = false) (h2 : (bif false then true else (getR rows b).act.seq != s) = false) : isEnd n rows b s nd = true := by simp at h1 h2; simp [isEnd, h0, h1, h2]
theorem len_setR (rows : List Row12) (b : Int) (v : Row12) : (setR rows b v).length = rows.length := by simp [setR]
theorem getR_setR {rows : List Row12} {b : Int} {v : Row12} (h : b.toNat < rows.length) : getR (setR rows b v) b = v := getD_set_self h
theorem kn_f {xs ys k l : List Bool} (h1 : xs = k) (h2 : ys = l) (h : (!(decide (xs = ys) && true)) = true) : ¬ k = l := by subst h1 h2; simpa using h
theorem kn_t {xs ys k l : List Bool} (h1 : xs = k) (h2 : ys = l) (h : (!(decide (xs = ys) && true)) = false) : k = l := by subst h1 h2; simpa using h
def cAck : Con where
  X := Int × List Row12 × Int × Int × Int
  args := fun ⟨n, rows, b, s, nd⟩ => [pA, AI b, AI s, AI nd]
  heap := fun ⟨n, rows, b, s, nd⟩ => aH false n rows
  pre := fun ⟨n, rows, b, s, nd⟩ => PAck n rows b
  res := fun ⟨n, rows, b, s, nd⟩ => .tup [AAtv (ackA n rows b s nd).2.1, AB (ackA n rows b s nd).2.2]
  heap' := fun ⟨n, rows, b, s, nd⟩ => aH false n (ackA n rows b s nd).1
  pure := false
  find := fun args H => match args with
    | [.ptr id _, .int _ b, .int _ s, .int _ nd] => (findA id H).map fun (n, rows) => (n, rows, b, s, nd)
    | _ => none
set_option maxRecDepth 100000 in
set_option maxHeartbeats 8000000 in
theorem cAck_ok : cAck.Ok Try.prog 14 := by
  refine fun_ok (env_ok (Cons.cons cis_ok (Cons.cons cnext_ok Cons.nil))) mixedP Try.func14 (by decide) rfl cAck [(13, 6)] (fun _ => rfl) (fun h => by cases h) (fun _ => Nat.le_of_ble_eq_true rfl) ?_
  rintro ⟨n, rows, b, s, nd⟩ hp ha hb
  replace hp : PAck n rows b := hp
  clear ha hb
  all_goals (repeat' (first
    | with_reducible refine iTr ?_
    | with_reducible refine iB ?_
    | intro _
    | exact True.intro
    | (show _ ∧ _
       first
        | refine aTT ?_
        | refine aTB ?_
        | refine aT ?_
        | refine aB ?_
        | refine a11 ?_
        | refine a01 ?_
        | refine a00 ?_
        | refine a10 ?_
        | (with_reducible refine And.intro rfl ?_)
        | refine And.intro ?_ ?_)
    | with_reducible exact rfl
    | with_reducible exact HEq.rfl
    | (show (_ : Option Nat) = _; exact rfl)
    | (show (_ : Option Blk) = _; exact rfl)
    | (with_reducible show (nodupB _ && _ && _ && _ && _) = true; exact (Eq.refl true))
    | (with_reducible show (nodupB _ && _ && _ && _) = true; exact (Eq.refl true))
    | (with_reducible show (nodupB _ && _ && _) = true; exact (Eq.refl true))
    | (with_reducible show freeOk _ _ = true; exact (Eq.refl true))
    | (with_reducible show wrOk _ _ _ _ _ = true; exact (Eq.refl true))
    | (show (_ : AV) = _; exact rfl)
    | (show (_ : Heap) = _; exact rfl)
    | (with_reducible show (_ || !_) = true; exact (Eq.refl true))
    | (with_reducible show Nat.beq _ _ = true; exact (Eq.refl true))))
  all_goals (first | (show (_ : Int) = _) | (show (_ : Bool) = _) | (show HEq _ _) | (show ∃ _ : LInv, _) | skip)
  all_goals (try (with_reducible exact rfl))
  all_goals try (refine ⟨⟨{i : Nat // SL n i}, fun i => [(49, AI i.1), (48, AI n), (11, .ptr 3 ⟨0,0,0,none⟩), (10, .ptr 1 ⟨b.toNat, 71, 0, none⟩), (8, .ptr 2 ⟨0,0,0,none⟩), (9, AB false), (0, pA), (1, AI b), (2, AI s), (3, AI nd)], fun i => ⟨4, [(3, some (.obj false [.arr 64 .bool (allI i.1)])), (2, some (.obj false [.int .i64 0, .int .i64 0, .int .i64 0])), (1, some (.seq false 59 .row12 (setR rows b (knowR (getR rows b) nd)))), (0, some (.obj true [.int .i64 n, .slc 1]))]⟩, fun i => n.toNat - i.1⟩, ⟨⟨0, ?_⟩, [], ?_⟩, ?_⟩; rotate_right; rintro ⟨i, hS⟩)
  all_goals (repeat' (first
    | with_reducible refine iTr ?_
    | with_reducible refine iB ?_
    | intro _
    | exact True.intro
    | (show _ ∧ _
       first
        | refine aTT ?_
        | refine aTB ?_
        | refine aT ?_
        | refine aB ?_
        | refine a11 ?_
        | refine a01 ?_
        | refine a00 ?_
        | refine a10 ?_
        | (with_reducible refine And.intro rfl ?_)
        | refine And.intro ?_ ?_)
    | with_reducible exact rfl
    | with_reducible exact HEq.rfl
    | (show (_ : Option Nat) = _; exact rfl)
    | (show (_ : Option Blk) = _; exact rfl)
    | (with_reducible show (nodupB _ && _ && _ && _ && _) = true; exact (Eq.refl true))
    | (with_reducible show (nodupB _ && _ && _ && _) = true; exact (Eq.refl true))
    | (with_reducible show (nodupB _ && _ && _) = true; exact (Eq.refl true))
    | (with_reducible show freeOk _ _ = true; exact (Eq.refl true))
    | (with_reducible show wrOk _ _ _ _ _ = true; exact (Eq.refl true))
    | (show (_ : AV) = _; exact rfl)
    | (show (_ : Heap) = _; exact rfl)
    | (with_reducible show (_ || !_) = true; exact (Eq.refl true))
    | (with_reducible show Nat.beq _ _ = true; exact (Eq.refl true))))
  all_goals (first | (show (_ : Int) = _) | (show (_ : Bool) = _) | (show HEq _ _) | (show ∃ _ : LInv, _) | skip)
  all_goals (try (with_reducible exact rfl))
  all_goals try (refine ⟨⟨i + 1, ?_⟩, ?_, ?_⟩)
  all_goals (repeat' (first
    | with_reducible refine iTr ?_
    | with_reducible refine iB ?_
    | intro _
    | exact True.intro
    | (show _ ∧ _
       first
        | refine aTT ?_
        | refine aTB ?_
        | refine aT ?_
        | refine aB ?_
        | refine a11 ?_
        | refine a01 ?_
        | refine a00 ?_
        | refine a10 ?_
        | (with_reducible refine And.intro rfl ?_)
        | refine And.intro ?_ ?_)
    | with_reducible exact rfl
    | with_reducible exact HEq.rfl
    | (show (_ : Option Nat) = _; exact rfl)
    | (show (_ : Option Blk) = _; exact rfl)
    | (with_reducible show (nodupB _ && _ && _ && _ && _) = true; exact (Eq.refl true))
    | (with_reducible show (nodupB _ && _ && _ && _) = true; exact (Eq.refl true))
    | (with_reducible show (nodupB _ && _ && _) = true; exact (Eq.refl true))
    | (with_reducible show freeOk _ _ = true; exact (Eq.refl true))
    | (with_reducible show wrOk _ _ _ _ _ = true; exact (Eq.refl true))
    | (show (_ : AV) = _; exact rfl)
    | (show (_ : Heap) = _; exact rfl)
    | (with_reducible show (_ || !_) = true; exact (Eq.refl true))
    | (with_reducible show Nat.beq _ _ = true; exact (Eq.refl true))))
  all_goals (first | (show (_ : Int) = _) | (show (_ : Bool) = _) | (show HEq _ _) | (show ∃ _ : LInv, _) | skip)
  all_goals (try (with_reducible exact rfl))
  all_goals (try dsimp only at *)
  all_goals (first
    | (rw [ack_f (isEnd_0 (by simpa using ‹(!isR n rows b nd) = true›))]; done)
    | (rw [ack_f (isEnd_0 (by simpa using ‹(!isR n rows b nd) = true›))]; rfl)
    | skip)
  all_goals (have hx : isR n rows b nd = true := (by simpa using ‹(!isR n rows b nd) = false›))
  all_goals (have hbn := isR_iff.1 hx; have hlt : b.toNat < rows.length := (by omega); have hn := hp.le)
  all_goals (first
    | omega
    | rfl
    | (rw [ack_f (by first | exact isEnd_1 (by assumption) | exact isEnd_2 (by assumption))]; done)
    | (rw [ack_f (by first | exact isEnd_1 (by assumption) | exact isEnd_2 (by assumption))]; rfl)
    | (show SL n 0; exact ⟨by omega, hn⟩)
    | (rw [len_setR]; exact hlt)
    | skip)
  all_goals (first
    | (have hlt' : (i : Int) < n := of_decide_eq_true ‹decide ((i : Int) < n) = true›; have h64 := hS.le64; first | omega | (show SL n (i + 1); exact ⟨by omega, h64⟩) | exact wrap_succ (by omega) | (apply heq_of_eq; rw [Int.toNat_natCast]; exact allI_set (by omega)))
    | skip)
  all_goals (have hi : allI i = allN n := allI_n hS.le (of_decide_eq_false ‹decide ((i : Int) < n) = false›); have he := isEnd_t (s := s) hx (by assumption) (by assumption))
  all_goals (have hX : (setR rows b (knowR (getR rows b) nd)).getD b.toNat Ty.row12.dflt = knowR (getR rows b) nd := getD_set_self hlt)
  all_goals (have hk : ((setR rows b (knowR (getR rows b) nd)).getD b.toNat Ty.row12.dflt).knows = (getR rows b).knows.set nd.toNat true := (by rw [hX]; rfl))
  all_goals (have hl2 : b.toNat < (setR rows b (knowR (getR rows b) nd)).length := (by rw [len_setR]; exact hlt))
  all_goals (first
    | (rw [inR_iff, List.length_set, len_setR]; exact hbn.1)
    | (rw [ack_1 he (kn_f hk hi (by assumption))]; done)
    | (rw [ack_1 he (kn_f hk hi (by assumption))]; first | rfl | exact HEq.rfl)
    | (rw [ack_2 he (kn_t hk hi (by assumption)), getR_set hl2, hX]; done)
    | (rw [ack_2 he (kn_t hk hi (by assumption)), getR_set hl2, hX]; rfl)
    | (apply heq_of_eq; rw [ack_2 he (kn_t hk hi (by assumption)), getR_set hl2, hX]; unfold setR; rw [List.set_set, List.set_set]; rfl)
    | skip)
end Go.Proofs.Ytpjdicndjakeoaa

