/- Contracts of home's New, All, Current, Waiting, Copy. No condition. -/
import Derived.Test.YtipibgamajhgbaaGWa
import Derived.Test.YtipibgamajhgbaaGY
import Derived.Test.YtipibgamajhgbaaGQa
namespace Go.Proofs.Ytipibgamajhgbaa
open Go.RowKit
set_option linter.unusedVariables false
set_option linter.unusedSimpArgs false
abbrev cfgCells (c : Cfg) : List AV := [.int .i64 c.nodes, .int .i64 c.blocks, .int .i64 c.tokens, .int .i64 c.sets, .int .i64 c.ways, .int .i64 c.cap, .int .i64 c.wait, .int .i64 c.tries, .int .i64 c.policy]
theorem hH_ro (c : Cfg) (n : Int) (xs : List Bun) (rows : List Row12) : ∀ id k, (hH true c n xs rows).get id = some k → k.ro = true
  | 0, k, h => by cases h; rfl
  | 1, k, h => by cases h; rfl
  | 2, k, h => by cases h; rfl
  | 3, k, h => by cases h; rfl
  | 4, k, h => by cases h; rfl
  | _ + 5, k, h => by cases h
structure PNewH (c : Cfg) (b : Bool) : Prop where
  ok : decide (cfgE c = 0) = b
theorem newF {c : Cfg} (hp : PNewH c false) (h : (cfgE c != 0) = false) : False := by
  have := hp.ok
  rw [bne_eq_false_iff_eq.1 h] at this
  cases this
theorem newT {c : Cfg} (hp : PNewH c true) (h : (cfgE c != 0) = true) : False := by
  rw [of_decide_eq_true hp.ok] at h
  cases h
def hNew (c : Cfg) (n : Int) (xs : List Bun) (rows : List Row12) : Heap :=
  ⟨5, [(4, some (.seq false 124 .row12 rows)), (3, some (.obj false [.int .i64 n, .slc 4])), (2, some (.seq false 32 .bun xs)), (1, some (.obj false [.slc 2])), (0, some (.obj false (cfgCells c ++ [.ptr 1 p0, .ptr 3 p0])))]⟩
def cNewH : Con where
  X := Cfg × Bool
  args := fun ⟨c, b⟩ => [ACfg c]
  heap := fun _ => hp0
  pre := fun ⟨c, b⟩ => PNewH c b
  res := fun ⟨c, b⟩ => match b with
    | true => .tup [pH, AI 0]
    | false => .tup [.nilp, AI 1]
  heap' := fun ⟨c, b⟩ => match b with
    | true => hNew c (newN c.nodes) (newB c.blocks c.tokens) (newR c.blocks)
    | false => hp0
  pure := false
  find := fun args H => match args with
    | [.agg [.int _ a, .int _ b, .int _ c, .int _ d, .int _ e, .int _ f, .int _ g, .int _ h, .int _ i]] => some (⟨a, b, c, d, e, f, g, h, i⟩, true)
    | _ => none
set_option maxRecDepth 100000 in
set_option maxHeartbeats 4000000 in
theorem cNewH_ok : cNewH.Ok Try.prog 26 := by
  refine fun_ok (env_ok (Cons.cons cConfig_ok (Cons.cons cNew_ok (Cons.cons cNewA_ok Cons.nil)))) mixedP Try.func26 (by decide) rfl cNewH [(3, 13), (2000003, 5), (2000003, 10), (2000003, 12), (4000003, 0), (5000003, 0), (3000003, 6), (3000003, 7), (3000003, 8), (3000003, 9)] (fun _ => rfl) (fun h => by cases h) (fun _ => Nat.le_of_ble_eq_true rfl) ?_
  rintro ⟨c, b⟩ hp ha hb
  have hp : PNewH c b := hp
  clear ha hb
  cases b
  all_goals (
  all_goals (repeat' (first
    | with_reducible refine iTr ?_
    | with_reducible refine iB ?_
    | intro _
    | exact True.intro
    | (show _ ∧ _
       first
        | refine aTT ?_
        | refine aTB ?_
        | refine aT ?_
        | refine aB ?_
        | refine a11 ?_
        | refine a01 ?_
        | refine a00 ?_
        | refine a10 ?_
        | (with_reducible refine And.intro rfl ?_)
        | refine And.intro ?_ ?_)
    | with_reducible exact rfl
    | with_reducible exact HEq.rfl
    | (show (_ : Option Nat) = _; exact rfl)
    | (show (_ : Option Blk) = _; exact rfl)
    | (with_reducible show (nodupB _ && _ && _ && _ && _) = true; exact (Eq.refl true))
    | (with_reducible show (nodupB _ && _ && _ && _) = true; exact (Eq.refl true))
    | (with_reducible show (nodupB _ && _ && _) = true; exact (Eq.refl true))
    | (with_reducible show freeOk _ _ = true; exact (Eq.refl true))
    | (with_reducible show wrOk _ _ _ _ _ = true; exact (Eq.refl true))
    | (show (_ : AV) = _; exact rfl)
    | (show (_ : Heap) = _; exact rfl)
    | (with_reducible show (_ || !_) = true; exact (Eq.refl true))
    | (with_reducible show Nat.beq _ _ = true; exact (Eq.refl true))))
  all_goals (first | (show (_ : Int) = _) | (show (_ : Bool) = _) | (show HEq _ _) | (show ∃ _ : LInv, _) | skip)
  all_goals (try (with_reducible exact rfl)))
  all_goals (try dsimp only at *)
  all_goals (first
    | (exact (newF hp (by assumption)).elim)
    | (exact (newT hp (by assumption)).elim)
    | exact HEq.rfl)
def hHB (c : Cfg) (n : Int) (xs : List Bun) (rows : List Row12) : Heap :=
  ⟨6, [(5, some (.seq false 32 .bun xs)), (4, some (.seq true 124 .row12 rows)), (3, some (.obj true [.int .i64 n, .slc 4])), (2, some (.seq true 32 .bun xs)), (1, some (.obj true [.slc 2])), (0, some (.obj true (cfgCells c ++ [.ptr 1 p0, .ptr 3 p0])))]⟩
def cAllH : Con where
  X := HS
  args := fun h => [pH]
  heap := fun h => hH true h.c h.n h.xs h.rows
  pre := fun h => h.xs.length ≤ 64
  res := fun h => .slc 5
  heap' := fun h => hHB h.c h.n h.xs h.rows
  pure := false
  find := fun args H => match args with
    | [.ptr id _] => findH id H
    | _ => none
set_option maxRecDepth 100000 in
set_option maxHeartbeats 4000000 in
theorem cAllH_ok : cAllH.Ok Try.prog 13 := by
  refine fun_ok (env_ok (Cons.cons cAll_ok Cons.nil)) mixedP Try.func13 (by decide) rfl cAllH [] (fun _ => rfl) (fun h => by cases h) (fun _ => Nat.le_of_ble_eq_true rfl) ?_
  rintro ⟨c, n, xs, rows⟩ hp ha hb
  replace hp : xs.length ≤ 64 := hp
  clear ha hb
  all_goals (repeat' (first
    | with_reducible refine iTr ?_
    | with_reducible refine iB ?_
    | intro _
    | exact True.intro
    | (show _ ∧ _
       first
        | refine aTT ?_
        | refine aTB ?_
        | refine aT ?_
        | refine aB ?_
        | refine a11 ?_
        | refine a01 ?_
        | refine a00 ?_
        | refine a10 ?_
        | (with_reducible refine And.intro rfl ?_)
        | refine And.intro ?_ ?_)
    | with_reducible exact rfl
    | with_reducible exact HEq.rfl
    | (show (_ : Option Nat) = _; exact rfl)
    | (show (_ : Option Blk) = _; exact rfl)
    | (with_reducible show (nodupB _ && _ && _ && _ && _) = true; exact (Eq.refl true))
    | (with_reducible show (nodupB _ && _ && _ && _) = true; exact (Eq.refl true))
    | (with_reducible show (nodupB _ && _ && _) = true; exact (Eq.refl true))
    | (with_reducible show freeOk _ _ = true; exact (Eq.refl true))
    | (with_reducible show wrOk _ _ _ _ _ = true; exact (Eq.refl true))
    | (show (_ : AV) = _; exact rfl)
    | (show (_ : Heap) = _; exact rfl)
    | (with_reducible show (_ || !_) = true; exact (Eq.refl true))
    | (with_reducible show Nat.beq _ _ = true; exact (Eq.refl true))))
  all_goals (first | (show (_ : Int) = _) | (show (_ : Bool) = _) | (show HEq _ _) | (show ∃ _ : LInv, _) | skip)
  all_goals (try (with_reducible exact rfl))
  all_goals (try dsimp only at *)
  all_goals (first | exact hp | exact HEq.rfl)
def cCurH : Con where
  X := HS × Int
  args := fun ⟨h, b⟩ => [pH, AI b]
  heap := fun ⟨h, b⟩ => hH true h.c h.n h.xs h.rows
  pre := fun _ => True
  res := fun ⟨h, b⟩ => .tup [AAtv (curR h.rows b).1, AB (curR h.rows b).2]
  heap' := fun ⟨h, b⟩ => hH true h.c h.n h.xs h.rows
  pure := true
  find := fun args H => match args with
    | [.ptr id _, .int _ b] => (findH id H).map fun h => (h, b)
    | _ => none
set_option maxRecDepth 100000 in
set_option maxHeartbeats 4000000 in
theorem cCurH_ok : cCurH.Ok Try.prog 17 := by
  refine fun_ok (env_ok (Cons.cons cCur_ok Cons.nil)) mixedP Try.func17 (by decide) rfl cCurH [] (fun _ => rfl) (fun _ x => ⟨rfl, hH_ro x.1.c x.1.n x.1.xs x.1.rows⟩) (fun _ => Nat.le_of_ble_eq_true rfl) ?_
  rintro ⟨⟨c, n, xs, rows⟩, b⟩ hp ha hb
  clear hp ha hb
  all_goals (repeat' (first
    | with_reducible refine iTr ?_
    | with_reducible refine iB ?_
    | intro _
    | exact True.intro
    | (show _ ∧ _
       first
        | refine aTT ?_
        | refine aTB ?_
        | refine aT ?_
        | refine aB ?_
        | refine a11 ?_
        | refine a01 ?_
        | refine a00 ?_
        | refine a10 ?_
        | (with_reducible refine And.intro rfl ?_)
        | refine And.intro ?_ ?_)
    | with_reducible exact rfl
    | with_reducible exact HEq.rfl
    | (show (_ : Option Nat) = _; exact rfl)
    | (show (_ : Option Blk) = _; exact rfl)
    | (with_reducible show (nodupB _ && _ && _ && _ && _) = true; exact (Eq.refl true))
    | (with_reducible show (nodupB _ && _ && _ && _) = true; exact (Eq.refl true))
    | (with_reducible show (nodupB _ && _ && _) = true; exact (Eq.refl true))
    | (with_reducible show freeOk _ _ = true; exact (Eq.refl true))
    | (with_reducible show wrOk _ _ _ _ _ = true; exact (Eq.refl true))
    | (show (_ : AV) = _; exact rfl)
    | (show (_ : Heap) = _; exact rfl)
    | (with_reducible show (_ || !_) = true; exact (Eq.refl true))
    | (with_reducible show Nat.beq _ _ = true; exact (Eq.refl true))))
  all_goals (first | (show (_ : Int) = _) | (show (_ : Bool) = _) | (show HEq _ _) | (show ∃ _ : LInv, _) | skip)
  all_goals (try (with_reducible exact rfl))
  all_goals (try dsimp only at *)
def cWaitH : Con where
  X := HS × Int
  args := fun ⟨h, b⟩ => [pH, AI b]
  heap := fun ⟨h, b⟩ => hH true h.c h.n h.xs h.rows
  pre := fun ⟨h, b⟩ => Sm (waitR h.rows b).length
  res := fun ⟨h, b⟩ => .vsl .int (waitR h.rows b)
  heap' := fun ⟨h, b⟩ => hH true h.c h.n h.xs h.rows
  pure := true
  find := fun args H => match args with
    | [.ptr id _, .int _ b] => (findH id H).map fun h => (h, b)
    | _ => none
set_option maxRecDepth 100000 in
set_option maxHeartbeats 4000000 in
theorem cWaitH_ok : cWaitH.Ok Try.prog 23 := by
  refine fun_ok (env_ok (Cons.cons cWait_ok Cons.nil)) mixedP Try.func23 (by decide) rfl cWaitH [] (fun _ => rfl) (fun _ x => ⟨rfl, hH_ro x.1.c x.1.n x.1.xs x.1.rows⟩) (fun _ => Nat.le_of_ble_eq_true rfl) ?_
  rintro ⟨⟨c, n, xs, rows⟩, b⟩ hp ha hb
  replace hp : Sm (waitR rows b).length := hp
  clear ha hb
  all_goals (repeat' (first
    | with_reducible refine iTr ?_
    | with_reducible refine iB ?_
    | intro _
    | exact True.intro
    | (show _ ∧ _
       first
        | refine aTT ?_
        | refine aTB ?_
        | refine aT ?_
        | refine aB ?_
        | refine a11 ?_
        | refine a01 ?_
        | refine a00 ?_
        | refine a10 ?_
        | (with_reducible refine And.intro rfl ?_)
        | refine And.intro ?_ ?_)
    | with_reducible exact rfl
    | with_reducible exact HEq.rfl
    | (show (_ : Option Nat) = _; exact rfl)
    | (show (_ : Option Blk) = _; exact rfl)
    | (with_reducible show (nodupB _ && _ && _ && _ && _) = true; exact (Eq.refl true))
    | (with_reducible show (nodupB _ && _ && _ && _) = true; exact (Eq.refl true))
    | (with_reducible show (nodupB _ && _ && _) = true; exact (Eq.refl true))
    | (with_reducible show freeOk _ _ = true; exact (Eq.refl true))
    | (with_reducible show wrOk _ _ _ _ _ = true; exact (Eq.refl true))
    | (show (_ : AV) = _; exact rfl)
    | (show (_ : Heap) = _; exact rfl)
    | (with_reducible show (_ || !_) = true; exact (Eq.refl true))
    | (with_reducible show Nat.beq _ _ = true; exact (Eq.refl true))))
  all_goals (first | (show (_ : Int) = _) | (show (_ : Bool) = _) | (show HEq _ _) | (show ∃ _ : LInv, _) | skip)
  all_goals (try (with_reducible exact rfl))
  all_goals (try dsimp only at *)
  all_goals (first | exact hp | exact HEq.rfl)
structure PCopyH (h : HS) : Prop where
  le : h.xs.length ≤ 64
  ar : PCopy h.rows
def cCopyH : Con where
  X := HS
  args := fun h => [pH]
  heap := fun h => hH true h.c h.n h.xs h.rows
  pre := fun h => PCopyH h
  res := fun h => .ptr 5 p0
  heap' := fun ⟨c, n, xs, rows⟩ => ⟨10, [(9, some (.seq false 124 .row12 rows)), (8, some (.obj false [.int .i64 n, .slc 9])), (7, some (.seq false 32 .bun xs)), (6, some (.obj false [.slc 7])), (5, some (.obj false (cfgCells c ++ [.ptr 6 p0, .ptr 8 p0]))), (4, some (.seq true 124 .row12 rows)), (3, some (.obj true [.int .i64 n, .slc 4])), (2, some (.seq true 32 .bun xs)), (1, some (.obj true [.slc 2])), (0, some (.obj true (cfgCells c ++ [.ptr 1 p0, .ptr 3 p0])))]⟩
  pure := false
  find := fun args H => match args with
    | [.ptr id _] => findH id H
    | _ => none
set_option maxRecDepth 100000 in
set_option maxHeartbeats 4000000 in
theorem cCopyH_ok : cCopyH.Ok Try.prog 25 := by
  refine fun_ok (env_ok (Cons.cons cCopy_ok (Cons.cons cCopyA_ok Cons.nil))) mixedP Try.func25 (by decide) rfl cCopyH [(1, 16), (2000001, 8), (2000001, 13), (2000001, 15), (4000001, 0), (5000001, 0), (4000001, 1), (5000001, 1), (4000001, 2), (5000001, 2), (4000001, 3), (5000001, 3), (3000001, 9), (3000001, 10), (3000001, 11), (3000001, 12)] (fun _ => rfl) (fun h => by cases h) (fun _ => Nat.le_of_ble_eq_true rfl) ?_
  rintro ⟨c, n, xs, rows⟩ hp ha hb
  replace hp : PCopyH ⟨c, n, xs, rows⟩ := hp
  clear ha hb
  all_goals (repeat' (first
    | with_reducible refine iTr ?_
    | with_reducible refine iB ?_
    | intro _
    | exact True.intro
    | (show _ ∧ _
       first
        | refine aTT ?_
        | refine aTB ?_
        | refine aT ?_
        | refine aB ?_
        | refine a11 ?_
        | refine a01 ?_
        | refine a00 ?_
        | refine a10 ?_
        | (with_reducible refine And.intro rfl ?_)
        | refine And.intro ?_ ?_)
    | with_reducible exact rfl
    | with_reducible exact HEq.rfl
    | (show (_ : Option Nat) = _; exact rfl)
    | (show (_ : Option Blk) = _; exact rfl)
    | (with_reducible show (nodupB _ && _ && _ && _ && _) = true; exact (Eq.refl true))
    | (with_reducible show (nodupB _ && _ && _ && _) = true; exact (Eq.refl true))
    | (with_reducible show (nodupB _ && _ && _) = true; exact (Eq.refl true))
    | (with_reducible show freeOk _ _ = true; exact (Eq.refl true))
    | (with_reducible show wrOk _ _ _ _ _ = true; exact (Eq.refl true))
    | (show (_ : AV) = _; exact rfl)
    | (show (_ : Heap) = _; exact rfl)
    | (with_reducible show (_ || !_) = true; exact (Eq.refl true))
    | (with_reducible show Nat.beq _ _ = true; exact (Eq.refl true))))
  all_goals (first | (show (_ : Int) = _) | (show (_ : Bool) = _) | (show HEq _ _) | (show ∃ _ : LInv, _) | skip)
  all_goals (try (with_reducible exact rfl))
  all_goals (try dsimp only at *)
  all_goals (first | exact hp.le | exact hp.ar | exact HEq.rfl)
end Go.Proofs.Ytipibgamajhgbaa
