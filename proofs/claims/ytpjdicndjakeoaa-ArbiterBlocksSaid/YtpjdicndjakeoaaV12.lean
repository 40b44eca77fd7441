/- ArbiterCopies of layer 12: the contract. No condition. -/
import Derived.Test.YtpjdicndjakeoaaV11
namespace Go.Proofs.Ytpjdicndjakeoaa
open Go.RowKit
set_option linter.unusedVariables false
set_option linter.unusedSimpArgs false
theorem wid12 {n : Int} (h1 : 0 ≤ n) (h2 : n ≤ 64) : newN n = n := by
  unfold newN
  repeat' split
  all_goals omega
theorem bq_new (m : Int) : BQ 0 (newR m) := by
  refine ⟨fun b hb => ?_⟩
  have h := inR_iff.1 hb
  unfold newR at h ⊢
  unfold getR
  rw [List.length_replicate] at h
  rw [List.getD_eq_getElem?_getD, List.getElem?_replicate, if_pos (by omega)]
  decide
theorem pt_new {n : Int} {l : List Act12} (h1 : n ≤ 64) (h2 : l.length ≤ 100) : PT n (newR 3) l := ⟨h1, by omega, (bq_new 3).mono (Nat.zero_le _)⟩
structure KC (n : Int) (l : List Act12) : Prop where
  n64 : n ≤ 64
  l100 : l.length ≤ 100
theorem KC.bq {n : Int} {l : List Act12} (h : KC n l) : BQ 100 (tellA n (newR 3) l) := ((bq_new 3).tell (n := n) (l := l)).1.mono (by have := h.l100; omega)
theorem KC.len {n : Int} {l : List Act12} (h : KC n l) : (tellA n (newR 3) l).length = 3 := ((bq_new 3).tell (n := n) (l := l)).2.trans (by decide)
theorem KC.pt {n : Int} {l more : List Act12} (h : KC n l) (h2 : more.length ≤ 100) : PT n (tellA n (newR 3) l) more := ⟨h.n64, by omega, h.bq.mono (by omega)⟩
theorem KC.copy {n : Int} {l : List Act12} (h : KC n l) : PCopy (tellA n (newR 3) l) := by
  refine ⟨by rw [h.len]; decide, fun i hi => ⟨?_⟩⟩
  have := h.bq.q (i : Int) (inR_iff.2 ⟨by omega, by omega⟩)
  unfold getR at this
  rw [Int.toNat_natCast] at this
  omega
theorem KC.wait {n : Int} {l more : List Act12} (h : KC n l) (h2 : more.length ≤ 100) (b : Int) : Sm (waitR (tellA n (tellA n (newR 3) l) more) b).length := by
  have h3 := (h.bq.tell (n := n) (l := more)).1
  unfold waitR
  split
  · rename_i hb
    exact ⟨by have := h3.q b hb; omega⟩
  · exact ⟨by simp⟩
def cAC : Con where
  X := Int × List Act12 × List Act12
  args := fun ⟨n, l, more⟩ => [AI n, .vsl .act12 l, .vsl .act12 more]
  heap := fun _ => hp0
  pre := fun _ => True
  res := fun _ => AB true
  heap' := fun _ => hp0
  pure := true
  find := fun _ _ => none
set_option maxRecDepth 100000 in
set_option maxHeartbeats 16000000 in
theorem cAC_ok : cAC.Ok Try.prog 8 := by
  refine fun_ok (env_ok (Cons.cons cawake_ok (Cons.cons cNewA_ok (Cons.cons cTell_ok (Cons.cons cCopyA_ok (Cons.cons cCur_ok (Cons.cons cWait_ok (Cons.cons cInts_ok Cons.nil)))))))) mixedP Try.func8 (by decide) rfl cAC [] (fun _ => rfl) (fun _ _ => ⟨rfl, fun id k h => by cases h⟩) (fun _ => Nat.le_of_ble_eq_true rfl) ?_
  rintro ⟨n, l, more⟩ hp ha hb
  clear hp ha hb
  all_goals (repeat' (first
    | with_reducible refine iTr ?_
    | with_reducible refine iB ?_
    | intro _
    | exact True.intro
    | (show _ ∧ _
       first
        | refine aTT ?_
        | refine aTB ?_
        | refine aT ?_
        | refine aB ?_
        | refine a11 ?_
        | refine a01 ?_
        | refine a00 ?_
        | refine a10 ?_
        | (with_reducible refine And.intro rfl ?_)
        | refine And.intro ?_ ?_)
    | with_reducible exact rfl
    | with_reducible exact HEq.rfl
    | (show (_ : Option Nat) = _; exact rfl)
    | (show (_ : Option Blk) = _; exact rfl)
    | (with_reducible show (nodupB _ && _ && _ && _ && _) = true; exact (Eq.refl true))
    | (with_reducible show (nodupB _ && _ && _ && _) = true; exact (Eq.refl true))
    | (with_reducible show (nodupB _ && _ && _) = true; exact (Eq.refl true))
    | (with_reducible show freeOk _ _ = true; exact (Eq.refl true))
    | (with_reducible show wrOk _ _ _ _ _ = true; exact (Eq.refl true))
    | (show (_ : AV) = _; exact rfl)
    | (show (_ : Heap) = _; exact rfl)
    | (with_reducible show (_ || !_) = true; exact (Eq.refl true))
    | (with_reducible show Nat.beq _ _ = true; exact (Eq.refl true))))
  all_goals (first | (show (_ : Int) = _) | (show (_ : Bool) = _) | (show HEq _ _) | (show ∃ _ : LInv, _) | skip)
  all_goals (try (with_reducible exact rfl))
  all_goals try (refine ⟨⟨{i : Nat // i ≤ 3}, fun i => [(63, AI i.1), (7, .ptr 0 ⟨0,0,0,none⟩), (8, .ptr 2 ⟨0,0,0,none⟩), (9, .ptr 4 ⟨0,0,0,none⟩), (2, .vsl .act12 more)], fun i => ⟨6, [(5, some (.seq false 59 .row12 (tellA (newN n) (newR 3) l))), (4, some (.obj false [.int .i64 (newN n), .slc 5])), (3, some (.seq false 59 .row12 (tellA (newN n) (tellA (newN n) (newR 3) l) more))), (2, some (.obj false [.int .i64 (newN n), .slc 3])), (1, some (.seq false 59 .row12 (tellA (newN n) (tellA (newN n) (newR 3) l) more))), (0, some (.obj false [.int .i64 (newN n), .slc 1]))]⟩, fun i => 3 - i.1⟩, ⟨⟨0, Nat.zero_le _⟩, [], ?_⟩, ?_⟩; rotate_right; rintro ⟨i, hi⟩)
  all_goals (repeat' (first
    | with_reducible refine iTr ?_
    | with_reducible refine iB ?_
    | intro _
    | exact True.intro
    | (show _ ∧ _
       first
        | refine aTT ?_
        | refine aTB ?_
        | refine aT ?_
        | refine aB ?_
        | refine a11 ?_
        | refine a01 ?_
        | refine a00 ?_
        | refine a10 ?_
        | (with_reducible refine And.intro rfl ?_)
        | refine And.intro ?_ ?_)
    | with_reducible exact rfl
    | with_reducible exact HEq.rfl
    | (show (_ : Option Nat) = _; exact rfl)
    | (show (_ : Option Blk) = _; exact rfl)
    | (with_reducible show (nodupB _ && _ && _ && _ && _) = true; exact (Eq.refl true))
    | (with_reducible show (nodupB _ && _ && _ && _) = true; exact (Eq.refl true))
    | (with_reducible show (nodupB _ && _ && _) = true; exact (Eq.refl true))
    | (with_reducible show freeOk _ _ = true; exact (Eq.refl true))
    | (with_reducible show wrOk _ _ _ _ _ = true; exact (Eq.refl true))
    | (show (_ : AV) = _; exact rfl)
    | (show (_ : Heap) = _; exact rfl)
    | (with_reducible show (_ || !_) = true; exact (Eq.refl true))
    | (with_reducible show Nat.beq _ _ = true; exact (Eq.refl true))))
  all_goals (first | (show (_ : Int) = _) | (show (_ : Bool) = _) | (show HEq _ _) | (show ∃ _ : LInv, _) | skip)
  all_goals (try (with_reducible exact rfl))
  all_goals try (refine ⟨⟨i + 1, ?_⟩, ?_, ?_⟩)
  all_goals (repeat' (first
    | with_reducible refine iTr ?_
    | with_reducible refine iB ?_
    | intro _
    | exact True.intro
    | (show _ ∧ _
       first
        | refine aTT ?_
        | refine aTB ?_
        | refine aT ?_
        | refine aB ?_
        | refine a11 ?_
        | refine a01 ?_
        | refine a00 ?_
        | refine a10 ?_
        | (with_reducible refine And.intro rfl ?_)
        | refine And.intro ?_ ?_)
    | with_reducible exact rfl
    | with_reducible exact HEq.rfl
    | (show (_ : Option Nat) = _; exact rfl)
    | (show (_ : Option Blk) = _; exact rfl)
    | (with_reducible show (nodupB _ && _ && _ && _ && _) = true; exact (Eq.refl true))
    | (with_reducible show (nodupB _ && _ && _ && _) = true; exact (Eq.refl true))
    | (with_reducible show (nodupB _ && _ && _) = true; exact (Eq.refl true))
    | (with_reducible show freeOk _ _ = true; exact (Eq.refl true))
    | (with_reducible show wrOk _ _ _ _ _ = true; exact (Eq.refl true))
    | (show (_ : AV) = _; exact rfl)
    | (show (_ : Heap) = _; exact rfl)
    | (with_reducible show (_ || !_) = true; exact (Eq.refl true))
    | (with_reducible show Nat.beq _ _ = true; exact (Eq.refl true))))
  all_goals (first | (show (_ : Int) = _) | (show (_ : Bool) = _) | (show HEq _ _) | (show ∃ _ : LInv, _) | skip)
  all_goals (try (with_reducible exact rfl))
  all_goals (try dsimp only at *)
  all_goals (try simp only [cond_true, cond_false, Bool.not_true, Bool.not_false, decide_eq_true_eq, decide_eq_false_iff_not, Int.toNat_natCast] at *)
  all_goals (first | omega | (exfalso; simp at *; done) | skip)
  all_goals (have h1 : 1 ≤ n := (by omega); have h64 : n ≤ 64 := (by omega); have e0 : newN n = n := wid12 (by omega) h64; have hl : l.length ≤ 100 := (by omega); have hm : more.length ≤ 100 := (by omega); have hK : KC n l := ⟨h64, hl⟩)
  all_goals (try simp only [e0] at *)
  all_goals (first
    | exact wrap_succ (by omega)
    | exact pt_new h64 hl
    | exact hK.copy
    | exact hK.pt hm
    | exact hK.wait hm _
    | (simp; done)
    | skip)
end Go.Proofs.Ytpjdicndjakeoaa

