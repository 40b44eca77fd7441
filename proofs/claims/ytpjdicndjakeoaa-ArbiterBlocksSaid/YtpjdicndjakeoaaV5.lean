/- Contracts of the arbiter's Copy. No condition. -/
import Derived.Test.YtpjdicndjakeoaaV4
namespace Go.Proofs.Ytpjdicndjakeoaa
open Go.RowKit
set_option linter.unusedVariables false
set_option linter.unusedSimpArgs false
structure PCopy (rows : List Row12) : Prop where
  le : rows.length ≤ 64
  sm : ∀ i, i < rows.length → Sm (rows.getD i dRow).queue.length
def cCopyA : Con where
  X := Int × List Row12
  args := fun ⟨n, rows⟩ => [pA]
  heap := fun ⟨n, rows⟩ => aH true n rows
  pre := fun ⟨n, rows⟩ => PCopy rows
  res := fun ⟨n, rows⟩ => .ptr 2 ⟨0, 0, 0, none⟩
  heap' := fun ⟨n, rows⟩ => ⟨4, [(3, some (.seq false 59 .row12 rows)), (2, some (.obj false [.int .i64 n, .slc 3])), (1, some (.seq true 59 .row12 rows)), (0, some (.obj true [.int .i64 n, .slc 1]))]⟩
  pure := false
  find := fun args H => match args with
    | [.ptr id _] => findA id H
    | _ => none
set_option maxRecDepth 100000 in
set_option maxHeartbeats 8000000 in
theorem cCopyA_ok : cCopyA.Ok Try.prog 22 := by
  refine fun_ok (env_ok (Cons.cons cCloneR_ok (Cons.cons cCloneI_ok Cons.nil))) mixedP Try.func22 (by decide) rfl cCopyA [(1, 11), (5, 14), (2000001, 8), (2000001, 10), (4000001, 0), (4000001, 1), (4000001, 2), (4000001, 3)] (fun _ => rfl) (fun h => by cases h) (fun _ => Nat.le_of_ble_eq_true rfl) ?_
  rintro ⟨n, rows⟩ hp ha hb
  replace hp : PCopy rows := hp
  clear ha hb
  all_goals (repeat' (first
    | with_reducible refine iTr ?_
    | with_reducible refine iB ?_
    | intro _
    | exact True.intro
    | (show _ ∧ _
       first
        | refine aTT ?_
        | refine aTB ?_
        | refine aT ?_
        | refine aB ?_
        | refine a11 ?_
        | refine a01 ?_
        | refine a00 ?_
        | refine a10 ?_
        | (with_reducible refine And.intro rfl ?_)
        | refine And.intro ?_ ?_)
    | with_reducible exact rfl
    | with_reducible exact HEq.rfl
    | (show (_ : Option Nat) = _; exact rfl)
    | (show (_ : Option Blk) = _; exact rfl)
    | (with_reducible show (nodupB _ && _ && _ && _ && _) = true; exact (Eq.refl true))
    | (with_reducible show (nodupB _ && _ && _ && _) = true; exact (Eq.refl true))
    | (with_reducible show (nodupB _ && _ && _) = true; exact (Eq.refl true))
    | (with_reducible show freeOk _ _ = true; exact (Eq.refl true))
    | (with_reducible show wrOk _ _ _ _ _ = true; exact (Eq.refl true))
    | (show (_ : AV) = _; exact rfl)
    | (show (_ : Heap) = _; exact rfl)
    | (with_reducible show (_ || !_) = true; exact (Eq.refl true))
    | (with_reducible show Nat.beq _ _ = true; exact (Eq.refl true))))
  all_goals (first | (show (_ : Int) = _) | (show (_ : Bool) = _) | (show HEq _ _) | (show ∃ _ : LInv, _) | skip)
  all_goals (try (with_reducible exact rfl))
  all_goals try (refine ⟨⟨{i : Nat // i ≤ rows.length}, fun i => [(21, AI i.1), (20, AI rows.length), (3, .ptr 2 ⟨0,0,0,none⟩)], fun i => ⟨4, [(3, some (.seq false 59 .row12 rows)), (2, some (.obj false [.int .i64 n, .slc 3])), (1, some (.seq true 59 .row12 rows)), (0, some (.obj true [.int .i64 n, .slc 1]))]⟩, fun i => rows.length - i.1⟩, ⟨⟨0, ?_⟩, [], ?_⟩, ?_⟩; rotate_right; rintro ⟨i, hi⟩)
  all_goals (repeat' (first
    | with_reducible refine iTr ?_
    | with_reducible refine iB ?_
    | intro _
    | exact True.intro
    | (show _ ∧ _
       first
        | refine aTT ?_
        | refine aTB ?_
        | refine aT ?_
        | refine aB ?_
        | refine a11 ?_
        | refine a01 ?_
        | refine a00 ?_
        | refine a10 ?_
        | (with_reducible refine And.intro rfl ?_)
        | refine And.intro ?_ ?_)
    | with_reducible exact rfl
    | with_reducible exact HEq.rfl
    | (show (_ : Option Nat) = _; exact rfl)
    | (show (_ : Option Blk) = _; exact rfl)
    | (with_reducible show (nodupB _ && _ && _ && _ && _) = true; exact (Eq.refl true))
    | (with_reducible show (nodupB _ && _ && _ && _) = true; exact (Eq.refl true))
    | (with_reducible show (nodupB _ && _ && _) = true; exact (Eq.refl true))
    | (with_reducible show freeOk _ _ = true; exact (Eq.refl true))
    | (with_reducible show wrOk _ _ _ _ _ = true; exact (Eq.refl true))
    | (show (_ : AV) = _; exact rfl)
    | (show (_ : Heap) = _; exact rfl)
    | (with_reducible show (_ || !_) = true; exact (Eq.refl true))
    | (with_reducible show Nat.beq _ _ = true; exact (Eq.refl true))))
  all_goals (first | (show (_ : Int) = _) | (show (_ : Bool) = _) | (show HEq _ _) | (show ∃ _ : LInv, _) | skip)
  all_goals (try (with_reducible exact rfl))
  all_goals try (refine ⟨⟨i + 1, ?_⟩, ?_, ?_⟩)
  all_goals (repeat' (first
    | with_reducible refine iTr ?_
    | with_reducible refine iB ?_
    | intro _
    | exact True.intro
    | (show _ ∧ _
       first
        | refine aTT ?_
        | refine aTB ?_
        | refine aT ?_
        | refine aB ?_
        | refine a11 ?_
        | refine a01 ?_
        | refine a00 ?_
        | refine a10 ?_
        | (with_reducible refine And.intro rfl ?_)
        | refine And.intro ?_ ?_)
    | with_reducible exact rfl
    | with_reducible exact HEq.rfl
    | (show (_ : Option Nat) = _; exact rfl)
    | (show (_ : Option Blk) = _; exact rfl)
    | (with_reducible show (nodupB _ && _ && _ && _ && _) = true; exact (Eq.refl true))
    | (with_reducible show (nodupB _ && _ && _ && _) = true; exact (Eq.refl true))
    | (with_reducible show (nodupB _ && _ && _) = true; exact (Eq.refl true))
    | (with_reducible show freeOk _ _ = true; exact (Eq.refl true))
    | (with_reducible show wrOk _ _ _ _ _ = true; exact (Eq.refl true))
    | (show (_ : AV) = _; exact rfl)
    | (show (_ : Heap) = _; exact rfl)
    | (with_reducible show (_ || !_) = true; exact (Eq.refl true))
    | (with_reducible show Nat.beq _ _ = true; exact (Eq.refl true))))
  all_goals (first | (show (_ : Int) = _) | (show (_ : Bool) = _) | (show HEq _ _) | (show ∃ _ : LInv, _) | skip)
  all_goals (try (with_reducible exact rfl))
  all_goals (try dsimp only at *)
  all_goals (first
    | exact hp.le
    | exact Nat.zero_le _
    | rfl
    | skip)
  all_goals (have hlt : i < rows.length := (by have := of_decide_eq_true ‹decide ((i : Int) < (rows.length : Int)) = true›; omega); have h64 := hp.le)
  all_goals (first
    | omega
    | exact hp.sm i hlt
    | exact wrap_succ (by omega)
    | (apply heq_of_eq; exact set_getD_self hlt)
    | skip)
end Go.Proofs.Ytpjdicndjakeoaa

