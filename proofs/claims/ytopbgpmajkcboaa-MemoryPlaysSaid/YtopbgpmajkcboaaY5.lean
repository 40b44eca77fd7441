/- Contracts. No condition. -/
import Derived.Test.YtopbgpmajkcboaaY3
namespace Go.Proofs.Ytopbgpmajkcboaa
open Go.RowKit
set_option linter.unusedVariables false
set_option linter.unusedSimpArgs false
theorem rep_set {α : Type} {a z : α} {i n : Nat} (h : i < n) : (List.replicate i a ++ List.replicate (n - i) z).set i a = List.replicate (i + 1) a ++ List.replicate (n - (i + 1)) z := by
  rw [List.set_append_right _ _ (by simp), List.length_replicate, Nat.sub_self, show n - i = (n - (i + 1)) + 1 from by omega, List.replicate_succ, List.set_cons_zero, List.replicate_succ']
  simp
def cAll : Con where
  X := List Bun
  args := fun xs => [pM]
  heap := fun xs => mH true xs
  pre := fun xs => xs.length ≤ 64
  res := fun xs => .slc 2
  heap' := fun xs => ⟨3, [(2, some (.seq false 31 .bun xs)), (1, some (.seq true 31 .bun xs)), (0, some (.obj true [.slc 1]))]⟩
  pure := false
  find := fun args H => match args with
    | [.ptr id _] => findM id H
    | _ => none
set_option maxHeartbeats 4000000 in
theorem cAll_ok : cAll.Ok Try.prog 17 := by
  refine fun_ok (env_ok Cons.nil) mixedP Try.func17 (by decide) rfl cAll [] (fun _ => rfl) (fun h => by cases h) (fun _ => Nat.le_of_ble_eq_true rfl) ?_
  rintro (xs : List Bun) hp ha hb
  replace hp : xs.length ≤ 64 := hp
  all_goals (repeat' (first
    | with_reducible refine iTr ?_
    | with_reducible refine iB ?_
    | intro _
    | exact True.intro
    | (show _ ∧ _
       first
        | refine aTT ?_
        | refine aTB ?_
        | refine aT ?_
        | refine aB ?_
        | refine a11 ?_
        | refine a01 ?_
        | refine a00 ?_
        | refine a10 ?_
        | (with_reducible refine And.intro rfl ?_)
        | refine And.intro ?_ ?_)
    | with_reducible exact rfl
    | with_reducible exact HEq.rfl
    | (show (_ : Option Nat) = _; exact rfl)
    | (show (_ : Option Blk) = _; exact rfl)
    | (show (_ : Nat) = _; exact rfl)
    | (show (_ : Bool) = true; exact (Eq.refl true))))
  all_goals (first | (show (_ : Int) = _) | (show (_ : Bool) = _) | (show HEq _ _) | (show ∃ _ : LInv, _) | skip)
  all_goals (try (with_reducible exact rfl))
  all_goals (try exact HEq.refl xs)
  all_goals (try apply heq_of_eq)
  all_goals (first | exact hp | (simp; done) | (simp; omega) | omega)
def cCopy : Con where
  X := List Bun
  args := fun xs => [pM]
  heap := fun xs => mH true xs
  pre := fun xs => xs.length ≤ 64
  res := fun xs => .ptr 2 ⟨0, 0, 0, none⟩
  heap' := fun xs => ⟨4, [(3, some (.seq false 31 .bun xs)), (2, some (.obj false [.slc 3])), (1, some (.seq true 31 .bun xs)), (0, some (.obj true [.slc 1]))]⟩
  pure := false
  find := fun args H => match args with
    | [.ptr id _] => findM id H
    | _ => none
set_option maxHeartbeats 4000000 in
theorem cCopy_ok : cCopy.Ok Try.prog 20 := by
  refine fun_ok (env_ok (Cons.cons cAll_ok Cons.nil)) mixedP Try.func20 (by decide) rfl cCopy [] (fun _ => rfl) (fun h => by cases h) (fun _ => Nat.le_of_ble_eq_true rfl) ?_
  rintro (xs : List Bun) hp ha hb
  replace hp : xs.length ≤ 64 := hp
  all_goals (repeat' (first
    | with_reducible refine iTr ?_
    | with_reducible refine iB ?_
    | intro _
    | exact True.intro
    | (show _ ∧ _
       first
        | refine aTT ?_
        | refine aTB ?_
        | refine aT ?_
        | refine aB ?_
        | refine a11 ?_
        | refine a01 ?_
        | refine a00 ?_
        | refine a10 ?_
        | (with_reducible refine And.intro rfl ?_)
        | refine And.intro ?_ ?_)
    | with_reducible exact rfl
    | with_reducible exact HEq.rfl
    | (show (_ : Option Nat) = _; exact rfl)
    | (show (_ : Option Blk) = _; exact rfl)
    | (show (_ : Nat) = _; exact rfl)
    | (show (_ : Bool) = true; exact (Eq.refl true))))
  all_goals (first | (show (_ : Int) = _) | (show (_ : Bool) = _) | (show HEq _ _) | (show ∃ _ : LInv, _) | skip)
  all_goals (try (with_reducible exact rfl))
  all_goals (try exact HEq.refl xs)
  all_goals (try apply heq_of_eq)
  all_goals (first | exact hp | (simp; done) | (simp; omega) | omega)
def cNew : Con where
  X := Int × Int
  args := fun ⟨b, t⟩ => [AI b, AI t]
  heap := fun ⟨b, t⟩ => hp0
  pre := fun ⟨b, t⟩ => True
  res := fun ⟨b, t⟩ => pM
  heap' := fun ⟨b, t⟩ => ⟨2, [(1, some (.seq false 31 .bun (newB b t))), (0, some (.obj false [.slc 1]))]⟩
  pure := false
  find := fun args H => match args with
    | [.int _ b, .int _ t] => some (b, t)
    | _ => none
set_option maxHeartbeats 4000000 in
theorem cNew_ok : cNew.Ok Try.prog 10 := by
  refine fun_ok (env_ok (Cons.cons cClamp_ok (Cons.cons cFull_ok Cons.nil))) mixedP Try.func10 (by decide) rfl cNew [(5, 7)] (fun _ => rfl) (fun h => by cases h) (fun _ => Nat.le_of_ble_eq_true rfl) ?_
  rintro ⟨b, t⟩ hp ha hb
  obtain ⟨n, hn⟩ : ∃ n, n = (clamp b 0 64).toNat := ⟨_, rfl⟩
  have hc : 0 ≤ clamp b 0 64 ∧ clamp b 0 64 ≤ 64 := by unfold clamp; omega
  all_goals (repeat' (first
    | with_reducible refine iTr ?_
    | with_reducible refine iB ?_
    | intro _
    | exact True.intro
    | (show _ ∧ _
       first
        | refine aTT ?_
        | refine aTB ?_
        | refine aT ?_
        | refine aB ?_
        | refine a11 ?_
        | refine a01 ?_
        | refine a00 ?_
        | refine a10 ?_
        | (with_reducible refine And.intro rfl ?_)
        | refine And.intro ?_ ?_)
    | with_reducible exact rfl
    | with_reducible exact HEq.rfl
    | (show (_ : Option Nat) = _; exact rfl)
    | (show (_ : Option Blk) = _; exact rfl)
    | (show (_ : Nat) = _; exact rfl)
    | (show (_ : Bool) = true; exact (Eq.refl true))))
  all_goals (first | (show (_ : Int) = _) | (show (_ : Bool) = _) | (show HEq _ _) | (show ∃ _ : LInv, _) | skip)
  all_goals (try (with_reducible exact rfl))
  all_goals try (refine ⟨⟨{i : Nat // i ≤ n}, fun i => [(17, AI i.1), (16, AI n), (5, .ptr 1 ⟨0,0,0,none⟩), (1, AI t)], fun i => ⟨2, [(1, some (.obj false [.slc 0])), (0, some (.seq false 31 .bun (List.replicate i.1 (full t 0) ++ List.replicate (n - i.1) bun0)))]⟩, fun i => n - i.1⟩, ⟨⟨0, Nat.zero_le _⟩, [], ?_⟩, ?_⟩; rotate_right; rintro ⟨i, hi⟩)
  all_goals (repeat' (first
    | with_reducible refine iTr ?_
    | with_reducible refine iB ?_
    | intro _
    | exact True.intro
    | (show _ ∧ _
       first
        | refine aTT ?_
        | refine aTB ?_
        | refine aT ?_
        | refine aB ?_
        | refine a11 ?_
        | refine a01 ?_
        | refine a00 ?_
        | refine a10 ?_
        | (with_reducible refine And.intro rfl ?_)
        | refine And.intro ?_ ?_)
    | with_reducible exact rfl
    | with_reducible exact HEq.rfl
    | (show (_ : Option Nat) = _; exact rfl)
    | (show (_ : Option Blk) = _; exact rfl)
    | (show (_ : Nat) = _; exact rfl)
    | (show (_ : Bool) = true; exact (Eq.refl true))))
  all_goals (first | (show (_ : Int) = _) | (show (_ : Bool) = _) | (show HEq _ _) | (show ∃ _ : LInv, _) | skip)
  all_goals (try (with_reducible exact rfl))
  all_goals try (refine ⟨⟨i + 1, ?_⟩, ?_, ?_⟩)
  all_goals (repeat' (first
    | with_reducible refine iTr ?_
    | with_reducible refine iB ?_
    | intro _
    | exact True.intro
    | (show _ ∧ _
       first
        | refine aTT ?_
        | refine aTB ?_
        | refine aT ?_
        | refine aB ?_
        | refine a11 ?_
        | refine a01 ?_
        | refine a00 ?_
        | refine a10 ?_
        | (with_reducible refine And.intro rfl ?_)
        | refine And.intro ?_ ?_)
    | with_reducible exact rfl
    | with_reducible exact HEq.rfl
    | (show (_ : Option Nat) = _; exact rfl)
    | (show (_ : Option Blk) = _; exact rfl)
    | (show (_ : Nat) = _; exact rfl)
    | (show (_ : Bool) = true; exact (Eq.refl true))))
  all_goals (first | (show (_ : Int) = _) | (show (_ : Bool) = _) | (show HEq _ _) | (show ∃ _ : LInv, _) | skip)
  all_goals (try (with_reducible exact rfl))
  all_goals (try apply heq_of_eq)
  all_goals (try simp only [List.length_append, List.length_replicate, decide_eq_true_eq, decide_eq_false_iff_not] at *)
  all_goals (first | omega | exact hc.1 | (subst hn; rfl) | (subst hn; simp; done) | (subst hn; simp; omega) | (simp_all; omega) | (have h2 : i < n := (by first | omega | (simp_all; omega) | (simp_all; done)); rw [Int.toNat_natCast]; exact rep_set h2) | (have h2 : i < n := (by first | omega | (simp_all; omega) | (simp_all; done)); exact wrap_succ (by omega)) | (have h2 : i = n := (by omega); subst h2; unfold newB; rw [← hn, Nat.sub_self]; simp))
end Go.Proofs.Ytopbgpmajkcboaa
