/- HomePlays of layer 16: the contract. No condition. -/
import Derived.Test.YtipibgamajhgbaaW23
namespace Go.Proofs.Ytipibgamajhgbaa
open Go.RowKit
set_option linter.unusedVariables false
set_option linter.unusedSimpArgs false
def plH (c : Cfg) (xs : List Bun) (rows : List Row12) (ms : List RRow12) : Heap :=
  ⟨9, [(8, some (.seq false 92 .rRow12 ms)), (7, some (.obj false [.int .i64 (newN c.nodes), .slc 8])), (6, some (.obj false [.int .i64 c.nodes, .int .i64 c.blocks, .int .i64 c.tokens, .int .i64 c.sets, .int .i64 c.ways, .int .i64 c.cap, .int .i64 c.wait, .int .i64 c.tries, .int .i64 c.policy, .vsl .bun xs, .ptr 7 p0])),
    (5, some (.seq false 124 .row12 rows)), (4, some (.obj false [.int .i64 (newN c.nodes), .slc 5])), (3, some (.seq false 32 .bun xs)), (2, some (.obj false [.slc 3])), (1, some (.obj false [.int .i64 c.nodes, .int .i64 c.blocks, .int .i64 c.tokens, .int .i64 c.sets, .int .i64 c.ways, .int .i64 c.cap, .int .i64 c.wait, .int .i64 c.tries, .int .i64 c.policy, .ptr 2 p0, .ptr 4 p0])), (0, some (.obj false (cfgCells c)))]⟩
structure HpI (c : Cfg) (m i : Nat) (xs : List Bun) (rows : List Row12) (ms : List RRow12) : Prop where
  le : i ≤ m
  m200 : m ≤ 200
  hp : HP c i xs rows ms
def cPlT : Con where
  X := Cfg × List Act16 × Int
  args := fun ⟨c, l, n⟩ => [ACfg c, .vsl .act16 l, AI n]
  heap := fun _ => hp0
  pre := fun ⟨c, l, n⟩ => MadeOk c l
  res := fun _ => AB true
  heap' := fun _ => hp0
  pure := true
  find := fun _ _ => none
set_option maxRecDepth 100000 in
set_option maxHeartbeats 16000000 in
theorem cPlT_ok : cPlT.Ok Try.prog 7 := by
  refine fun_ok (env_ok (Cons.cons cawake_ok (Cons.cons cMadeT_ok (Cons.cons cRConfig_ok (Cons.cons cTakeH_ok (Cons.cons cRTake_ok (Cons.cons cSameL_ok (Cons.cons cCurH_ok (Cons.cons cCurM_ok (Cons.cons cAllH_ok (Cons.cons cSame_ok (Cons.cons cWaitH_ok (Cons.cons cWaitM_ok (Cons.cons cInts_ok (Cons.cons cCopyH_ok Cons.nil))))))))))))))) mixedP Try.func7 (by decide) rfl cPlT [(7, 14), (11, 31), (2000007, 5), (2000007, 11), (3000007, 6), (3000007, 7), (3000007, 8), (3000007, 9), (3000007, 10), (2000011, 10), (3000011, 11), (3000011, 12), (3000011, 13), (3000011, 14)] (fun _ => rfl) (fun _ _ => ⟨rfl, fun id k h => by cases h⟩) (fun _ => Nat.le_of_ble_eq_true rfl) ?_
  rintro ⟨c, l, n⟩ hp ha hb
  replace hp : MadeOk c l := hp
  clear ha hb
  all_goals (repeat' (first
    | with_reducible refine iTr ?_
    | with_reducible refine iB ?_
    | intro _
    | exact True.intro
    | (show _ ∧ _
       first
        | refine aTT ?_
        | refine aTB ?_
        | refine aT ?_
        | refine aB ?_
        | refine a11 ?_
        | refine a01 ?_
        | refine a00 ?_
        | refine a10 ?_
        | (with_reducible refine And.intro rfl ?_)
        | refine And.intro ?_ ?_)
    | with_reducible exact rfl
    | with_reducible exact HEq.rfl
    | (show (_ : Option Nat) = _; exact rfl)
    | (show (_ : Option Blk) = _; exact rfl)
    | (with_reducible show (nodupB _ && _ && _ && _ && _) = true; exact (Eq.refl true))
    | (with_reducible show (nodupB _ && _ && _ && _) = true; exact (Eq.refl true))
    | (with_reducible show (nodupB _ && _ && _) = true; exact (Eq.refl true))
    | (with_reducible show freeOk _ _ = true; exact (Eq.refl true))
    | (with_reducible show wrOk _ _ _ _ _ = true; exact (Eq.refl true))
    | (show (_ : AV) = _; exact rfl)
    | (show (_ : Heap) = _; exact rfl)
    | (with_reducible show (_ || !_) = true; exact (Eq.refl true))
    | (with_reducible show Nat.beq _ _ = true; exact (Eq.refl true))))
  all_goals (first | (show (_ : Int) = _) | (show (_ : Bool) = _) | (show HEq _ _) | (show ∃ _ : LInv, _) | skip)
  all_goals (try (with_reducible exact rfl))
  all_goals try (refine ⟨⟨{s : Nat × List Bun × List Row12 × List RRow12 // HpI c l.length s.1 s.2.1 s.2.2.1 s.2.2.2}, fun s => [(43, AI s.1.1), (42, AI l.length), (41, .vsl .act16 l), (7, .ptr 1 p0), (8, .ptr 6 p0), (2, AI n), (3, .ptr 0 p0)], fun s => plH c s.1.2.1 s.1.2.2.1 s.1.2.2.2, fun s => l.length - s.1.1⟩, ⟨⟨(0, newB c.blocks c.tokens, newR c.blocks, newM c.blocks), ?_⟩, [], ?_⟩, ?_⟩; rotate_right; rintro ⟨⟨i, xs, rows, ms⟩, hS⟩)
  all_goals (repeat' (first
    | with_reducible refine iTr ?_
    | with_reducible refine iB ?_
    | intro _
    | exact True.intro
    | (show _ ∧ _
       first
        | refine aTT ?_
        | refine aTB ?_
        | refine aT ?_
        | refine aB ?_
        | refine a11 ?_
        | refine a01 ?_
        | refine a00 ?_
        | refine a10 ?_
        | (with_reducible refine And.intro rfl ?_)
        | refine And.intro ?_ ?_)
    | with_reducible exact rfl
    | with_reducible exact HEq.rfl
    | (show (_ : Option Nat) = _; exact rfl)
    | (show (_ : Option Blk) = _; exact rfl)
    | (with_reducible show (nodupB _ && _ && _ && _ && _) = true; exact (Eq.refl true))
    | (with_reducible show (nodupB _ && _ && _ && _) = true; exact (Eq.refl true))
    | (with_reducible show (nodupB _ && _ && _) = true; exact (Eq.refl true))
    | (with_reducible show freeOk _ _ = true; exact (Eq.refl true))
    | (with_reducible show wrOk _ _ _ _ _ = true; exact (Eq.refl true))
    | (show (_ : AV) = _; exact rfl)
    | (show (_ : Heap) = _; exact rfl)
    | (with_reducible show (_ || !_) = true; exact (Eq.refl true))
    | (with_reducible show Nat.beq _ _ = true; exact (Eq.refl true))))
  all_goals (first | (show (_ : Int) = _) | (show (_ : Bool) = _) | (show HEq _ _) | (show ∃ _ : LInv, _) | skip)
  all_goals (try (with_reducible exact rfl))
  all_goals try (refine ⟨⟨(i + 1, (takeO (hsC c xs rows) (l.getD (i : Int).toNat Ty.act16.dflt).l (l.getD (i : Int).toNat Ty.act16.dflt).d).xs, (takeO (hsC c xs rows) (l.getD (i : Int).toNat Ty.act16.dflt).l (l.getD (i : Int).toNat Ty.act16.dflt).d).rows, (rtakeO (msC c xs ms) (l.getD (i : Int).toNat Ty.act16.dflt).l (l.getD (i : Int).toNat Ty.act16.dflt).d).rows), ?_⟩, ?_, ?_⟩)
  all_goals (repeat' (first
    | with_reducible refine iTr ?_
    | with_reducible refine iB ?_
    | intro _
    | exact True.intro
    | (show _ ∧ _
       first
        | refine aTT ?_
        | refine aTB ?_
        | refine aT ?_
        | refine aB ?_
        | refine a11 ?_
        | refine a01 ?_
        | refine a00 ?_
        | refine a10 ?_
        | (with_reducible refine And.intro rfl ?_)
        | refine And.intro ?_ ?_)
    | with_reducible exact rfl
    | with_reducible exact HEq.rfl
    | (show (_ : Option Nat) = _; exact rfl)
    | (show (_ : Option Blk) = _; exact rfl)
    | (with_reducible show (nodupB _ && _ && _ && _ && _) = true; exact (Eq.refl true))
    | (with_reducible show (nodupB _ && _ && _ && _) = true; exact (Eq.refl true))
    | (with_reducible show (nodupB _ && _ && _) = true; exact (Eq.refl true))
    | (with_reducible show freeOk _ _ = true; exact (Eq.refl true))
    | (with_reducible show wrOk _ _ _ _ _ = true; exact (Eq.refl true))
    | (show (_ : AV) = _; exact rfl)
    | (show (_ : Heap) = _; exact rfl)
    | (with_reducible show (_ || !_) = true; exact (Eq.refl true))
    | (with_reducible show Nat.beq _ _ = true; exact (Eq.refl true))))
  all_goals (first | (show (_ : Int) = _) | (show (_ : Bool) = _) | (show HEq _ _) | (show ∃ _ : LInv, _) | skip)
  all_goals (try (with_reducible exact rfl))
  all_goals (try dsimp only at *)
  all_goals (try (with_reducible exact HEq.rfl))
  all_goals (first
    | exact hp
    | exact (rfl : (0 : Int) = ((0 : Nat) : Int))
    | exact ⟨Nat.zero_le _, hp.len, hp_new hp.cfg⟩
    | skip)
  all_goals (replace hS : HpI c l.length i xs rows ms := hS; have hlt := Int.ofNat_lt.1 (of_decide_eq_true ‹decide ((i : Int) < (l.length : Int)) = true›); have h200 := hS.m200; have hT := hp_take hS.hp (by omega) (l.getD (i : Int).toNat Ty.act16.dflt).l (l.getD (i : Int).toNat Ty.act16.dflt).d)
  all_goals (first
    | omega
    | exact wrap_succ (by omega)
    | (show PTH _ _; exact (hp_pre hS.hp _).1)
    | (show PTR _ _; exact (hp_pre hS.hp _).2)
    | exact ⟨hlt, h200, hT.2.2⟩
    | exact heq_of_eq hT.2.1
    | exact hp_pm hT.2.2 _
    | exact hT.2.2.pl.len
    | exact hp_wait hT.2.2 _
    | exact hp_copy hT.2.2
    | (exfalso; first | exact plA hT.1 (by assumption) | exact plA hT.2.1.symm (by assumption) | exact plC (hT.2.2.ra.cur n).1 (by assumption) | exact plD (hT.2.2.ra.cur n).1 (by assumption) | exact plA (hT.2.2.ra.cur n).2 (by assumption))
    | exact HEq.rfl
    | (show PTH _ _; exact (hp_pre hT.2.2 _).1)
    | (show PTH _ _; exact (hp_pre (hp_take hT.2.2 (by omega) _ _).2.2 _).1)
    | skip)
end Go.Proofs.Ytipibgamajhgbaa
