/- Contracts. No condition. -/
import Derived.Test.YtopbgpmajkcboaaY3
namespace Go.Proofs.Ytopbgpmajkcboaa
open Go.RowKit
set_option linter.unusedVariables false
set_option linter.unusedSimpArgs false
theorem bneB (a b : Bun) : (!(a.c == b.c && (a.o == b.o && (a.h == b.h && (a.d == b.d && true))))) = !decide (a = b) := by
  obtain ⟨c, o, h, d⟩ := a
  obtain ⟨c', o', h', d'⟩ := b
  simp only [Bun.mk.injEq, Bool.decide_and, Bool.and_true]
  rfl
theorem take_succ_eq {xs ys : List Bun} {i : Nat} {z : Bun} (hl : xs.length = ys.length) (hi : i < xs.length) (ht : xs.take i = ys.take i) (he : xs.getD i z = ys.getD i z) : xs.take (i + 1) = ys.take (i + 1) := by
  rw [List.take_add_one, List.take_add_one, ht, List.getElem?_eq_getElem hi, List.getElem?_eq_getElem (by omega)]
  rw [List.getD_eq_getElem?_getD, List.getD_eq_getElem?_getD, List.getElem?_eq_getElem hi, List.getElem?_eq_getElem (by omega)] at he
  simp at he
  simp [he]
def cSame : Con where
  X := List Bun × List Bun
  args := fun ⟨xs, ys⟩ => [.vsl .bun xs, .vsl .bun ys]
  heap := fun ⟨xs, ys⟩ => hp0
  pre := fun ⟨xs, ys⟩ => True
  res := fun ⟨xs, ys⟩ => AB (decide (xs = ys))
  heap' := fun ⟨xs, ys⟩ => hp0
  pure := true
  find := fun args H => match args with
    | [a, b] => (slB H a).bind fun xs => (slB H b).map fun ys => (xs, ys)
    | _ => none
set_option maxHeartbeats 4000000 in
theorem cSame_ok : cSame.Ok Try.prog 16 := by
  refine fun_ok (env_ok Cons.nil) mixedP Try.func16 (by decide) rfl cSame [(6, 8)] (fun _ => rfl) (fun _ _ => ⟨rfl, fun id k h => by cases h⟩) (fun _ => Nat.le_of_ble_eq_true rfl) ?_
  rintro ⟨xs, ys⟩ hp ha hb
  all_goals (repeat' (first
    | with_reducible refine iTr ?_
    | with_reducible refine iB ?_
    | intro _
    | exact True.intro
    | (show _ ∧ _
       first
        | refine aTT ?_
        | refine aTB ?_
        | refine aT ?_
        | refine aB ?_
        | refine a11 ?_
        | refine a01 ?_
        | refine a00 ?_
        | refine a10 ?_
        | (with_reducible refine And.intro rfl ?_)
        | refine And.intro ?_ ?_)
    | with_reducible exact rfl
    | with_reducible exact HEq.rfl
    | (show (_ : Option Nat) = _; exact rfl)
    | (show (_ : Option Blk) = _; exact rfl)
    | (show (_ : Nat) = _; exact rfl)
    | (show (_ : Bool) = true; exact (Eq.refl true))))
  all_goals (first | (show (_ : Int) = _) | (show (_ : Bool) = _) | (show HEq _ _) | (show ∃ _ : LInv, _) | skip)
  all_goals (try (with_reducible exact rfl))
  all_goals try (refine ⟨⟨{i : Nat // i ≤ xs.length ∧ xs.length = ys.length ∧ xs.take i = ys.take i}, fun i => [(5, AI i.1), (0, .vsl .bun xs), (1, .vsl .bun ys)], fun i => ⟨0, []⟩, fun i => xs.length - i.1⟩, ⟨⟨0, Nat.zero_le _, by simp_all; omega, rfl⟩, [], ?_⟩, ?_⟩; rotate_right; rintro ⟨i, hi, hl, ht⟩)
  all_goals (repeat' (first
    | with_reducible refine iTr ?_
    | with_reducible refine iB ?_
    | intro _
    | exact True.intro
    | (show _ ∧ _
       first
        | refine aTT ?_
        | refine aTB ?_
        | refine aT ?_
        | refine aB ?_
        | refine a11 ?_
        | refine a01 ?_
        | refine a00 ?_
        | refine a10 ?_
        | (with_reducible refine And.intro rfl ?_)
        | refine And.intro ?_ ?_)
    | with_reducible exact rfl
    | with_reducible exact HEq.rfl
    | (show (_ : Option Nat) = _; exact rfl)
    | (show (_ : Option Blk) = _; exact rfl)
    | (show (_ : Nat) = _; exact rfl)
    | (show (_ : Bool) = true; exact (Eq.refl true))))
  all_goals (first | (show (_ : Int) = _) | (show (_ : Bool) = _) | (show HEq _ _) | (show ∃ _ : LInv, _) | skip)
  all_goals (try (with_reducible exact rfl))
  all_goals try (refine ⟨⟨i + 1, ?_⟩, ?_, ?_⟩)
  all_goals (repeat' (first
    | with_reducible refine iTr ?_
    | with_reducible refine iB ?_
    | intro _
    | exact True.intro
    | (show _ ∧ _
       first
        | refine aTT ?_
        | refine aTB ?_
        | refine aT ?_
        | refine aB ?_
        | refine a11 ?_
        | refine a01 ?_
        | refine a00 ?_
        | refine a10 ?_
        | (with_reducible refine And.intro rfl ?_)
        | refine And.intro ?_ ?_)
    | with_reducible exact rfl
    | with_reducible exact HEq.rfl
    | (show (_ : Option Nat) = _; exact rfl)
    | (show (_ : Option Blk) = _; exact rfl)
    | (show (_ : Nat) = _; exact rfl)
    | (show (_ : Bool) = true; exact (Eq.refl true))))
  all_goals (first | (show (_ : Int) = _) | (show (_ : Bool) = _) | (show HEq _ _) | (show ∃ _ : LInv, _) | skip)
  all_goals (try (with_reducible exact rfl))
  all_goals (try simp only [bneB] at *)
  all_goals (try dsimp only at *)
  all_goals (try simp only [Int.toNat_natCast, decide_eq_true_eq, decide_eq_false_iff_not, bne_iff_ne, ne_eq, bne_eq_false_iff_eq, Int.natCast_inj, Bool.not_eq_true', Bool.not_eq_false'] at *)
  all_goals (first | omega | (refine (decide_eq_false (fun e => ?_)).symm; subst e; simp_all; done) | exact take_succ_eq (by omega) (by omega) (by assumption) (by assumption) | exact wrap_succ (by omega) | (refine (decide_eq_true ?_).symm; rw [List.take_of_length_le (by omega), List.take_of_length_le (by omega)] at ht; exact ht))
def crSet : Con where
  X := List Bun × Int × Bun
  args := fun ⟨xs, i, b⟩ => [.vsl .bun xs, AI i, ABun b]
  heap := fun ⟨xs, i, b⟩ => hp0
  pre := fun ⟨xs, i, b⟩ => inB xs i = true ∧ xs.length ≤ 64
  res := fun ⟨xs, i, b⟩ => .vsl .bun (xs.set i.toNat b)
  heap' := fun ⟨xs, i, b⟩ => hp0
  pure := true
  find := fun args H => match args with
    | [a, .int _ i, .agg [.int _ c, .bool o, .bool h, .int _ d]] => (slB H a).map fun xs => (xs, i, ⟨c, o, h, d⟩)
    | _ => none
set_option maxHeartbeats 4000000 in
theorem crSet_ok : crSet.Ok Try.prog 25 := by
  refine fun_ok (env_ok Cons.nil) mixedP Try.func25 (by decide) rfl crSet [] (fun _ => rfl) (fun _ _ => ⟨rfl, fun id k h => by cases h⟩) (fun _ => Nat.le_of_ble_eq_true rfl) ?_
  rintro ⟨xs, i, b⟩ hp ha hb
  all_goals (repeat' (first
    | with_reducible refine iTr ?_
    | with_reducible refine iB ?_
    | intro _
    | exact True.intro
    | (show _ ∧ _
       first
        | refine aTT ?_
        | refine aTB ?_
        | refine aT ?_
        | refine aB ?_
        | refine a11 ?_
        | refine a01 ?_
        | refine a00 ?_
        | refine a10 ?_
        | (with_reducible refine And.intro rfl ?_)
        | refine And.intro ?_ ?_)
    | with_reducible exact rfl
    | with_reducible exact HEq.rfl
    | (show (_ : Option Nat) = _; exact rfl)
    | (show (_ : Option Blk) = _; exact rfl)
    | (show (_ : Nat) = _; exact rfl)
    | (show (_ : Bool) = true; exact (Eq.refl true))))
  all_goals (first | (show (_ : Int) = _) | (show (_ : Bool) = _) | (show HEq _ _) | (show ∃ _ : LInv, _) | skip)
  all_goals (try (with_reducible exact rfl))
  all_goals (try apply heq_of_eq)
  all_goals (have hp2 : inB xs i = true ∧ xs.length ≤ 64 := hp)
  all_goals (clear hp ha hb)
  all_goals (first | (simp [inB] at hp2 ⊢; done) | (simp [inB] at hp2 ⊢; omega))
def crNew : Con where
  X := Int × Int
  args := fun ⟨b, t⟩ => [AI b, AI t]
  heap := fun ⟨b, t⟩ => hp0
  pre := fun ⟨b, t⟩ => True
  res := fun ⟨b, t⟩ => .vsl .bun (newB b t)
  heap' := fun ⟨b, t⟩ => hp0
  pure := true
  find := fun args H => match args with
    | [.int _ b, .int _ t] => some (b, t)
    | _ => none
set_option maxHeartbeats 4000000 in
theorem crNew_ok : crNew.Ok Try.prog 11 := by
  refine fun_ok (env_ok (Cons.cons crClamp_ok Cons.nil)) mixedP Try.func11 (by decide) rfl crNew [] (fun _ => rfl) (fun _ _ => ⟨rfl, fun id k h => by cases h⟩) (fun _ => Nat.le_of_ble_eq_true rfl) ?_
  rintro ⟨b, t⟩ hp ha hb
  obtain ⟨n, hn⟩ : ∃ n, n = (clamp b 0 64).toNat := ⟨_, rfl⟩
  have hc : 0 ≤ clamp b 0 64 ∧ clamp b 0 64 ≤ 64 := by unfold clamp; omega
  all_goals (repeat' (first
    | with_reducible refine iTr ?_
    | with_reducible refine iB ?_
    | intro _
    | exact True.intro
    | (show _ ∧ _
       first
        | refine aTT ?_
        | refine aTB ?_
        | refine aT ?_
        | refine aB ?_
        | refine a11 ?_
        | refine a01 ?_
        | refine a00 ?_
        | refine a10 ?_
        | (with_reducible refine And.intro rfl ?_)
        | refine And.intro ?_ ?_)
    | with_reducible exact rfl
    | with_reducible exact HEq.rfl
    | (show (_ : Option Nat) = _; exact rfl)
    | (show (_ : Option Blk) = _; exact rfl)
    | (show (_ : Nat) = _; exact rfl)
    | (show (_ : Bool) = true; exact (Eq.refl true))))
  all_goals (first | (show (_ : Int) = _) | (show (_ : Bool) = _) | (show HEq _ _) | (show ∃ _ : LInv, _) | skip)
  all_goals (try (with_reducible exact rfl))
  all_goals try (refine ⟨⟨{i : Nat // i ≤ n}, fun i => [(6, AI i.1), (0, AI b), (5, .slc 0), (1, AI t)], fun i => ⟨1, [(0, some (.seq false 31 .bun (List.replicate i.1 (full t 0))))]⟩, fun i => n - i.1⟩, ⟨⟨0, Nat.zero_le _⟩, [], ?_⟩, ?_⟩; rotate_right; rintro ⟨i, hi⟩)
  all_goals (repeat' (first
    | with_reducible refine iTr ?_
    | with_reducible refine iB ?_
    | intro _
    | exact True.intro
    | (show _ ∧ _
       first
        | refine aTT ?_
        | refine aTB ?_
        | refine aT ?_
        | refine aB ?_
        | refine a11 ?_
        | refine a01 ?_
        | refine a00 ?_
        | refine a10 ?_
        | (with_reducible refine And.intro rfl ?_)
        | refine And.intro ?_ ?_)
    | with_reducible exact rfl
    | with_reducible exact HEq.rfl
    | (show (_ : Option Nat) = _; exact rfl)
    | (show (_ : Option Blk) = _; exact rfl)
    | (show (_ : Nat) = _; exact rfl)
    | (show (_ : Bool) = true; exact (Eq.refl true))))
  all_goals (first | (show (_ : Int) = _) | (show (_ : Bool) = _) | (show HEq _ _) | (show ∃ _ : LInv, _) | skip)
  all_goals (try (with_reducible exact rfl))
  all_goals try (refine ⟨⟨i + 1, ?_⟩, ?_, ?_⟩)
  all_goals (repeat' (first
    | with_reducible refine iTr ?_
    | with_reducible refine iB ?_
    | intro _
    | exact True.intro
    | (show _ ∧ _
       first
        | refine aTT ?_
        | refine aTB ?_
        | refine aT ?_
        | refine aB ?_
        | refine a11 ?_
        | refine a01 ?_
        | refine a00 ?_
        | refine a10 ?_
        | (with_reducible refine And.intro rfl ?_)
        | refine And.intro ?_ ?_)
    | with_reducible exact rfl
    | with_reducible exact HEq.rfl
    | (show (_ : Option Nat) = _; exact rfl)
    | (show (_ : Option Blk) = _; exact rfl)
    | (show (_ : Nat) = _; exact rfl)
    | (show (_ : Bool) = true; exact (Eq.refl true))))
  all_goals (first | (show (_ : Int) = _) | (show (_ : Bool) = _) | (show HEq _ _) | (show ∃ _ : LInv, _) | skip)
  all_goals (try (with_reducible exact rfl))
  all_goals (try apply heq_of_eq)
  all_goals (try dsimp only at *)
  all_goals (try simp only [decide_eq_true_eq, decide_eq_false_iff_not] at *)
  all_goals (first | omega | exact hc.1 | exact wrap_succ (by omega) | (simp; omega) | (simp; done) | (rw [List.replicate_succ']; simp_all [full, bun0]; done) | (have h2 : i = n := (by omega); subst h2; unfold newB; rw [← hn]))
end Go.Proofs.Ytopbgpmajkcboaa
