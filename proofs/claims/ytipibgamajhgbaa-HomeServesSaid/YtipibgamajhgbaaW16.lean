/- HomeServes of layer 16: the contract. No condition. -/
import Derived.Test.YtipibgamajhgbaaW15
namespace Go.Proofs.Ytipibgamajhgbaa
open Go.RowKit
set_option linter.unusedVariables false
set_option linter.unusedSimpArgs false
def sH (c : Cfg) (want : List Int) (xs : List Bun) (rows : List Row12) (got : List Int) : Heap :=
  ⟨8, [(7, some (.seq false 3 .int got)), (6, some (.seq false 3 .int want)), (5, some (.seq false 124 .row12 rows)), (4, some (.obj false [.int .i64 (newN c.nodes), .slc 5])), (3, some (.seq false 32 .bun xs)), (2, some (.obj false [.slc 3])), (1, some (.obj false [.int .i64 c.nodes, .int .i64 c.blocks, .int .i64 c.tokens, .int .i64 c.sets, .int .i64 c.ways, .int .i64 c.cap, .int .i64 c.wait, .int .i64 c.tries, .int .i64 c.policy, .ptr 2 p0, .ptr 4 p0])), (0, some (.obj false (cfgCells c)))]⟩
def cServT : Con where
  X := Cfg × List Int
  args := fun ⟨c, l⟩ => [ACfg c, .vsl .int l]
  heap := fun _ => hp0
  pre := fun ⟨c, l⟩ => MadeOk c []
  res := fun _ => AB true
  heap' := fun _ => hp0
  pure := true
  find := fun _ _ => none
set_option maxRecDepth 100000 in
set_option maxHeartbeats 16000000 in
theorem cServT_ok : cServT.Ok Try.prog 5 := by
  refine fun_ok (env_ok (Cons.cons cawake_ok (Cons.cons cMadeT_ok (Cons.cons cRNode_ok (Cons.cons cTakeH_ok (Cons.cons cBegun_ok (Cons.cons cCurH_ok (Cons.cons cInts_ok Cons.nil)))))))) mixedP Try.func5 (by decide) rfl cServT [(15, 11), (2000015, 6), (3000015, 8), (3000015, 9)] (fun _ => rfl) (fun _ _ => ⟨rfl, fun id k h => by cases h⟩) (fun _ => Nat.le_of_ble_eq_true rfl) ?_
  rintro ⟨c, l⟩ hp ha hb
  replace hp : MadeOk c [] := hp
  clear ha hb
  all_goals (repeat' (first
    | with_reducible refine iTr ?_
    | with_reducible refine iB ?_
    | intro _
    | exact True.intro
    | (show _ ∧ _
       first
        | refine aTT ?_
        | refine aTB ?_
        | refine aT ?_
        | refine aB ?_
        | refine a11 ?_
        | refine a01 ?_
        | refine a00 ?_
        | refine a10 ?_
        | (with_reducible refine And.intro rfl ?_)
        | refine And.intro ?_ ?_)
    | with_reducible exact rfl
    | with_reducible exact HEq.rfl
    | (show (_ : Option Nat) = _; exact rfl)
    | (show (_ : Option Blk) = _; exact rfl)
    | (with_reducible show (nodupB _ && _ && _ && _ && _) = true; exact (Eq.refl true))
    | (with_reducible show (nodupB _ && _ && _ && _) = true; exact (Eq.refl true))
    | (with_reducible show (nodupB _ && _ && _) = true; exact (Eq.refl true))
    | (with_reducible show freeOk _ _ = true; exact (Eq.refl true))
    | (with_reducible show wrOk _ _ _ _ _ = true; exact (Eq.refl true))
    | (show (_ : AV) = _; exact rfl)
    | (with_reducible show (_ || !_) = true; exact (Eq.refl true))
    | (with_reducible show Nat.beq _ _ = true; exact (Eq.refl true))))
  all_goals (first | (show (_ : Int) = _) | (show (_ : Bool) = _) | (show HEq _ _) | (show ∃ _ : LInv, _) | skip)
  all_goals (try (with_reducible exact rfl))
  all_goals try (refine ⟨⟨{s : Nat × List Int × List Bun × List Row12 × List Int // T1 c l.length s.1 s.2.1 s.2.2.1 s.2.2.2.1 s.2.2.2.2}, fun s => [(36, AI s.1.1), (35, AI l.length), (34, .vsl .int l), (5, .ptr 1 p0), (8, .slc 6), (9, .slc 7), (2, .ptr 0 p0)], fun s => sH c s.1.2.1 s.1.2.2.1 s.1.2.2.2.1 s.1.2.2.2.2, fun s => l.length - s.1.1⟩, ⟨⟨(0, [], newB c.blocks c.tokens, newR c.blocks, []), ?_⟩, [(8, 3, .int), (9, 3, .int)], ?_⟩, ?_⟩; rotate_right; rintro ⟨⟨i, want, xs, rows, got⟩, hS⟩)
  all_goals (repeat' (first
    | with_reducible refine iTr ?_
    | with_reducible refine iB ?_
    | intro _
    | exact True.intro
    | (show _ ∧ _
       first
        | refine aTT ?_
        | refine aTB ?_
        | refine aT ?_
        | refine aB ?_
        | refine a11 ?_
        | refine a01 ?_
        | refine a00 ?_
        | refine a10 ?_
        | (with_reducible refine And.intro rfl ?_)
        | refine And.intro ?_ ?_)
    | with_reducible exact rfl
    | with_reducible exact HEq.rfl
    | (show (_ : Option Nat) = _; exact rfl)
    | (show (_ : Option Blk) = _; exact rfl)
    | (with_reducible show (nodupB _ && _ && _ && _ && _) = true; exact (Eq.refl true))
    | (with_reducible show (nodupB _ && _ && _ && _) = true; exact (Eq.refl true))
    | (with_reducible show (nodupB _ && _ && _) = true; exact (Eq.refl true))
    | (with_reducible show freeOk _ _ = true; exact (Eq.refl true))
    | (with_reducible show wrOk _ _ _ _ _ = true; exact (Eq.refl true))
    | (show (_ : AV) = _; exact rfl)
    | (with_reducible show (_ || !_) = true; exact (Eq.refl true))
    | (with_reducible show Nat.beq _ _ = true; exact (Eq.refl true))))
  all_goals (first | (show (_ : Int) = _) | (show (_ : Bool) = _) | (show HEq _ _) | (show ∃ _ : LInv, _) | skip)
  all_goals (try (with_reducible exact rfl))
  all_goals try (refine ⟨⟨(i + 1, (askP c want xs rows got (l.getD i Ty.int.dflt)).1, (askP c want xs rows got (l.getD i Ty.int.dflt)).2.1, (askP c want xs rows got (l.getD i Ty.int.dflt)).2.2.1, (askP c want xs rows got (l.getD i Ty.int.dflt)).2.2.2), ?_⟩, ?_, ?_⟩)
  all_goals (repeat' (first
    | with_reducible refine iTr ?_
    | with_reducible refine iB ?_
    | intro _
    | exact True.intro
    | (show _ ∧ _
       first
        | refine aTT ?_
        | refine aTB ?_
        | refine aT ?_
        | refine aB ?_
        | refine a11 ?_
        | refine a01 ?_
        | refine a00 ?_
        | refine a10 ?_
        | (with_reducible refine And.intro rfl ?_)
        | refine And.intro ?_ ?_)
    | with_reducible exact rfl
    | with_reducible exact HEq.rfl
    | (show (_ : Option Nat) = _; exact rfl)
    | (show (_ : Option Blk) = _; exact rfl)
    | (with_reducible show (nodupB _ && _ && _ && _ && _) = true; exact (Eq.refl true))
    | (with_reducible show (nodupB _ && _ && _ && _) = true; exact (Eq.refl true))
    | (with_reducible show (nodupB _ && _ && _) = true; exact (Eq.refl true))
    | (with_reducible show freeOk _ _ = true; exact (Eq.refl true))
    | (with_reducible show wrOk _ _ _ _ _ = true; exact (Eq.refl true))
    | (show (_ : AV) = _; exact rfl)
    | (with_reducible show (_ || !_) = true; exact (Eq.refl true))
    | (with_reducible show Nat.beq _ _ = true; exact (Eq.refl true))))
  all_goals (first | (show (_ : Int) = _) | (show (_ : Bool) = _) | (show HEq _ _) | (show ∃ _ : LInv, _) | skip)
  all_goals (try (with_reducible exact rfl))
  all_goals try (refine ⟨⟨{s : List Bun × List Row12 × List Int × Nat // T2 c want s.2.2.2 s.1 s.2.1 s.2.2.1}, fun s => [(12, AI ((s.1.2.2.2 + 1 : Nat) : Int)), (5, .ptr 1 p0), (8, .slc 6), (9, .slc 7), (2, .ptr 0 p0)], fun s => sH c want s.1.1 s.1.2.1 s.1.2.2.1, fun s => want.length - s.1.2.2.2⟩, ⟨⟨(xs, rows, got, 0), ?_⟩, [], ?_⟩, ?_⟩; rotate_right; rintro ⟨⟨xs2, rows2, got2, q⟩, hS2⟩)
  all_goals (repeat' (first
    | with_reducible refine iTr ?_
    | with_reducible refine iB ?_
    | intro _
    | exact True.intro
    | (show _ ∧ _
       first
        | refine aTT ?_
        | refine aTB ?_
        | refine aT ?_
        | refine aB ?_
        | refine a11 ?_
        | refine a01 ?_
        | refine a00 ?_
        | refine a10 ?_
        | (with_reducible refine And.intro rfl ?_)
        | refine And.intro ?_ ?_)
    | with_reducible exact rfl
    | with_reducible exact HEq.rfl
    | (show (_ : Option Nat) = _; exact rfl)
    | (show (_ : Option Blk) = _; exact rfl)
    | (with_reducible show (nodupB _ && _ && _ && _ && _) = true; exact (Eq.refl true))
    | (with_reducible show (nodupB _ && _ && _ && _) = true; exact (Eq.refl true))
    | (with_reducible show (nodupB _ && _ && _) = true; exact (Eq.refl true))
    | (with_reducible show freeOk _ _ = true; exact (Eq.refl true))
    | (with_reducible show wrOk _ _ _ _ _ = true; exact (Eq.refl true))
    | (show (_ : AV) = _; exact rfl)
    | (with_reducible show (_ || !_) = true; exact (Eq.refl true))
    | (with_reducible show Nat.beq _ _ = true; exact (Eq.refl true))))
  all_goals (first | (show (_ : Int) = _) | (show (_ : Bool) = _) | (show HEq _ _) | (show ∃ _ : LInv, _) | skip)
  all_goals (try (with_reducible exact rfl))
  all_goals try (refine ⟨⟨{s : Nat × List Bun × List Row12 × List Int // T3 c want q s.1 s.2.1 s.2.2.1 s.2.2.2}, fun s => [(77, AI s.1.1), (76, AI c.nodes), (12, AI ((q + 1 : Nat) : Int)), (5, .ptr 1 p0), (8, .slc 6), (9, .slc 7), (2, .ptr 0 p0)], fun s => sH c want s.1.2.1 s.1.2.2.1 s.1.2.2.2, fun s => c.nodes.toNat - s.1.1⟩, ⟨⟨(0, (takeO (hsC c xs2 rows2) (lDone c ((q + 1 : Nat) : Int)) d0).xs, (takeO (hsC c xs2 rows2) (lDone c ((q + 1 : Nat) : Int)) d0).rows, got2), ?_⟩, [], ?_⟩, ?_⟩; rotate_right; rintro ⟨⟨m, xs3, rows3, got3⟩, hS3⟩)
  all_goals (repeat' (first
    | with_reducible refine iTr ?_
    | with_reducible refine iB ?_
    | intro _
    | exact True.intro
    | (show _ ∧ _
       first
        | refine aTT ?_
        | refine aTB ?_
        | refine aT ?_
        | refine aB ?_
        | refine a11 ?_
        | refine a01 ?_
        | refine a00 ?_
        | refine a10 ?_
        | (with_reducible refine And.intro rfl ?_)
        | refine And.intro ?_ ?_)
    | with_reducible exact rfl
    | with_reducible exact HEq.rfl
    | (show (_ : Option Nat) = _; exact rfl)
    | (show (_ : Option Blk) = _; exact rfl)
    | (with_reducible show (nodupB _ && _ && _ && _ && _) = true; exact (Eq.refl true))
    | (with_reducible show (nodupB _ && _ && _ && _) = true; exact (Eq.refl true))
    | (with_reducible show (nodupB _ && _ && _) = true; exact (Eq.refl true))
    | (with_reducible show freeOk _ _ = true; exact (Eq.refl true))
    | (with_reducible show wrOk _ _ _ _ _ = true; exact (Eq.refl true))
    | (show (_ : AV) = _; exact rfl)
    | (with_reducible show (_ || !_) = true; exact (Eq.refl true))
    | (with_reducible show Nat.beq _ _ = true; exact (Eq.refl true))))
  all_goals (first | (show (_ : Int) = _) | (show (_ : Bool) = _) | (show HEq _ _) | (show ∃ _ : LInv, _) | skip)
  all_goals (try (with_reducible exact rfl))
  all_goals try (refine ⟨⟨(m + 1, (takeO (hsC c xs3 rows3) (lAck c (m : Int) ((q + 1 : Nat) : Int)) d0).xs, (takeO (hsC c xs3 rows3) (lAck c (m : Int) ((q + 1 : Nat) : Int)) d0).rows, got3 ++ begunL (takeO (hsC c xs3 rows3) (lAck c (m : Int) ((q + 1 : Nat) : Int)) d0).out), ?_⟩, ?_, ?_⟩)
  all_goals (repeat' (first
    | with_reducible refine iTr ?_
    | with_reducible refine iB ?_
    | intro _
    | exact True.intro
    | (show _ ∧ _
       first
        | refine aTT ?_
        | refine aTB ?_
        | refine aT ?_
        | refine aB ?_
        | refine a11 ?_
        | refine a01 ?_
        | refine a00 ?_
        | refine a10 ?_
        | (with_reducible refine And.intro rfl ?_)
        | refine And.intro ?_ ?_)
    | with_reducible exact rfl
    | with_reducible exact HEq.rfl
    | (show (_ : Option Nat) = _; exact rfl)
    | (show (_ : Option Blk) = _; exact rfl)
    | (with_reducible show (nodupB _ && _ && _ && _ && _) = true; exact (Eq.refl true))
    | (with_reducible show (nodupB _ && _ && _ && _) = true; exact (Eq.refl true))
    | (with_reducible show (nodupB _ && _ && _) = true; exact (Eq.refl true))
    | (with_reducible show freeOk _ _ = true; exact (Eq.refl true))
    | (with_reducible show wrOk _ _ _ _ _ = true; exact (Eq.refl true))
    | (show (_ : AV) = _; exact rfl)
    | (with_reducible show (_ || !_) = true; exact (Eq.refl true))
    | (with_reducible show Nat.beq _ _ = true; exact (Eq.refl true))))
  all_goals (first | (show (_ : Int) = _) | (show (_ : Bool) = _) | (show HEq _ _) | (show ∃ _ : LInv, _) | skip)
  all_goals (try (with_reducible exact rfl))
  all_goals try (refine ⟨⟨(xs3, rows3, got3, q + 1), ?_⟩, ?_, ?_⟩)
  all_goals (repeat' (first
    | with_reducible refine iTr ?_
    | with_reducible refine iB ?_
    | intro _
    | exact True.intro
    | (show _ ∧ _
       first
        | refine aTT ?_
        | refine aTB ?_
        | refine aT ?_
        | refine aB ?_
        | refine a11 ?_
        | refine a01 ?_
        | refine a00 ?_
        | refine a10 ?_
        | (with_reducible refine And.intro rfl ?_)
        | refine And.intro ?_ ?_)
    | with_reducible exact rfl
    | with_reducible exact HEq.rfl
    | (show (_ : Option Nat) = _; exact rfl)
    | (show (_ : Option Blk) = _; exact rfl)
    | (with_reducible show (nodupB _ && _ && _ && _ && _) = true; exact (Eq.refl true))
    | (with_reducible show (nodupB _ && _ && _ && _) = true; exact (Eq.refl true))
    | (with_reducible show (nodupB _ && _ && _) = true; exact (Eq.refl true))
    | (with_reducible show freeOk _ _ = true; exact (Eq.refl true))
    | (with_reducible show wrOk _ _ _ _ _ = true; exact (Eq.refl true))
    | (show (_ : AV) = _; exact rfl)
    | (with_reducible show (_ || !_) = true; exact (Eq.refl true))
    | (with_reducible show Nat.beq _ _ = true; exact (Eq.refl true))))
  all_goals (first | (show (_ : Int) = _) | (show (_ : Bool) = _) | (show HEq _ _) | (show ∃ _ : LInv, _) | skip)
  all_goals (try (with_reducible exact rfl))
  all_goals (try dsimp only at *)
  all_goals (try (with_reducible exact HEq.rfl))
  all_goals (try (replace hS : T1 c l.length i want xs rows got := hS))
  all_goals (try (replace hS2 : T2 c want q xs2 rows2 got2 := hS2))
  all_goals (try (replace hS3 : T3 c want q m xs3 rows3 got3 := hS3))
  all_goals (first
    | exact (rfl : ([] : List Act16) = [])
    | exact hp
    | exact HEq.rfl
    | exact t1_next hS (Int.ofNat_lt.1 (of_decide_eq_true (by assumption))) _
    | (show PTH _ _; exact t1_pre hS _)
    | (show Sm _; exact ⟨Nat.le_trans (out_len _ _ _) (by decide)⟩)
    | exact app_le (t1_len hS).1
    | exact app_le (t3_len hS3)
    | exact t1_end hS
    | (show PTH _ _; exact t2_pre hS2 _)
    | (show PTH _ _; exact t3_pre hS3 _ _)
    | skip)
  all_goals (try simp only [decide_eq_true_eq, decide_eq_false_iff_not, Int.toNat_natCast, cond_true, cond_false] at *)
  all_goals (first
    | omega
    | exact wrap_succ (by omega)
    | exact wrap_succ (by have := hS2.wl; omega)
    | exact wrap_succ (by have := hS3.sv.le; have := cfg_facts hS3.cfg; omega)
    | (have := (t1_len hS).2; rw [List.length_singleton]; omega)
    | exact t1_start hp.cfg (by omega)
    | (apply heq_of_eq; unfold askP; rw [if_pos (by assumption)]; first | done | rfl)
    | (apply heq_of_eq; unfold askP; rw [if_neg (fun h => Bool.false_ne_true (Eq.trans (Eq.symm (by assumption)) h))]; first | done | rfl)
    | exact (t2_done hS2 (by omega)).2
    | exact (t2_bad hS2 (by omega) (by assumption)).elim
    | exact t2_end hS2 (by omega)
    | exact (t2_end2 hS2 (by omega) (by assumption)).elim
    | exact t3_next hS3 (by omega)
    | exact t3_end hS3 (by omega)
    | skip)
end Go.Proofs.Ytipibgamajhgbaa
