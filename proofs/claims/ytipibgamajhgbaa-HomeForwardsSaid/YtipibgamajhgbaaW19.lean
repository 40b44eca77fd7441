/- HomeForwards of layer 16: the contract. No condition. -/
import Derived.Test.YtipibgamajhgbaaW18
namespace Go.Proofs.Ytipibgamajhgbaa
open Go.RowKit
set_option linter.unusedVariables false
set_option linter.unusedSimpArgs false
def fH (c : Cfg) (xs : List Bun) (rows : List Row12) : Heap :=
  ⟨6, [(5, some (.seq false 124 .row12 rows)), (4, some (.obj false [.int .i64 (newN c.nodes), .slc 5])), (3, some (.seq false 32 .bun xs)), (2, some (.obj false [.slc 3])), (1, some (.obj false [.int .i64 c.nodes, .int .i64 c.blocks, .int .i64 c.tokens, .int .i64 c.sets, .int .i64 c.ways, .int .i64 c.cap, .int .i64 c.wait, .int .i64 c.tries, .int .i64 c.policy, .ptr 2 p0, .ptr 4 p0])), (0, some (.obj false (cfgCells c)))]⟩
structure FwI (c : Cfg) (node : Int) (m i : Nat) (xs : List Bun) (rows : List Row12) : Prop where
  le : i ≤ m
  m200 : m ≤ 200
  fw : Fw c node xs rows
def cFwT : Con where
  X := Cfg × Int × List Act16
  args := fun ⟨c, n, l⟩ => [ACfg c, AI n, .vsl .act16 l]
  heap := fun _ => hp0
  pre := fun ⟨c, n, l⟩ => MadeOk c l
  res := fun _ => AB true
  heap' := fun _ => hp0
  pure := true
  find := fun _ _ => none
set_option maxRecDepth 100000 in
set_option maxHeartbeats 16000000 in
theorem cFwT_ok : cFwT.Ok Try.prog 4 := by
  refine fun_ok (env_ok (Cons.cons cawake_ok (Cons.cons cMadeT_ok (Cons.cons cRNode_ok (Cons.cons cTakeH_ok (Cons.cons cRCheck_ok (Cons.cons cSameL_ok (Cons.cons cAllH_ok Cons.nil)))))))) mixedP Try.func4 (by decide) rfl cFwT [] (fun _ => rfl) (fun _ _ => ⟨rfl, fun id k h => by cases h⟩) (fun _ => Nat.le_of_ble_eq_true rfl) ?_
  rintro ⟨c, n, l⟩ hp ha hb
  replace hp : MadeOk c l := hp
  clear ha hb
  all_goals (repeat' (first
    | with_reducible refine iTr ?_
    | with_reducible refine iB ?_
    | intro _
    | exact True.intro
    | (show _ ∧ _
       first
        | refine aTT ?_
        | refine aTB ?_
        | refine aT ?_
        | refine aB ?_
        | refine a11 ?_
        | refine a01 ?_
        | refine a00 ?_
        | refine a10 ?_
        | (with_reducible refine And.intro rfl ?_)
        | refine And.intro ?_ ?_)
    | with_reducible exact rfl
    | with_reducible exact HEq.rfl
    | (show (_ : Option Nat) = _; exact rfl)
    | (show (_ : Option Blk) = _; exact rfl)
    | (with_reducible show (nodupB _ && _ && _ && _ && _) = true; exact (Eq.refl true))
    | (with_reducible show (nodupB _ && _ && _ && _) = true; exact (Eq.refl true))
    | (with_reducible show (nodupB _ && _ && _) = true; exact (Eq.refl true))
    | (with_reducible show freeOk _ _ = true; exact (Eq.refl true))
    | (with_reducible show wrOk _ _ _ _ _ = true; exact (Eq.refl true))
    | (show (_ : AV) = _; exact rfl)
    | (with_reducible show (_ || !_) = true; exact (Eq.refl true))
    | (with_reducible show Nat.beq _ _ = true; exact (Eq.refl true))))
  all_goals (first | (show (_ : Int) = _) | (show (_ : Bool) = _) | (show HEq _ _) | (show ∃ _ : LInv, _) | skip)
  all_goals (try (with_reducible exact rfl))
  all_goals try (refine ⟨⟨{s : Nat // FwI c n l.length s (takeO (hsC c (newB c.blocks c.tokens) (newR c.blocks)) (lPers c n) d0).xs (takeO (hsC c (newB c.blocks c.tokens) (newR c.blocks)) (lPers c n) d0).rows}, fun s => [(43, AI s.1), (42, AI l.length), (41, .vsl .act16 l), (7, .ptr 1 p0), (1, AI n), (3, .ptr 0 p0)], fun s => fH c (takeO (hsC c (newB c.blocks c.tokens) (newR c.blocks)) (lPers c n) d0).xs (takeO (hsC c (newB c.blocks c.tokens) (newR c.blocks)) (lPers c n) d0).rows, fun s => l.length - s.1⟩, ⟨⟨0, ?_⟩, [], ?_⟩, ?_⟩; rotate_right; (obtain ⟨xs, hxs⟩ : ∃ x, (takeO (hsC c (newB c.blocks c.tokens) (newR c.blocks)) (lPers c n) d0).xs = x := ⟨_, rfl⟩); (obtain ⟨rows, hrows⟩ : ∃ x, (takeO (hsC c (newB c.blocks c.tokens) (newR c.blocks)) (lPers c n) d0).rows = x := ⟨_, rfl⟩); rw [hxs, hrows]; rintro ⟨i, hS⟩)
  all_goals (repeat' (first
    | with_reducible refine iTr ?_
    | with_reducible refine iB ?_
    | intro _
    | exact True.intro
    | (show _ ∧ _
       first
        | refine aTT ?_
        | refine aTB ?_
        | refine aT ?_
        | refine aB ?_
        | refine a11 ?_
        | refine a01 ?_
        | refine a00 ?_
        | refine a10 ?_
        | (with_reducible refine And.intro rfl ?_)
        | refine And.intro ?_ ?_)
    | with_reducible exact rfl
    | with_reducible exact HEq.rfl
    | (show (_ : Option Nat) = _; exact rfl)
    | (show (_ : Option Blk) = _; exact rfl)
    | (with_reducible show (nodupB _ && _ && _ && _ && _) = true; exact (Eq.refl true))
    | (with_reducible show (nodupB _ && _ && _ && _) = true; exact (Eq.refl true))
    | (with_reducible show (nodupB _ && _ && _) = true; exact (Eq.refl true))
    | (with_reducible show freeOk _ _ = true; exact (Eq.refl true))
    | (with_reducible show wrOk _ _ _ _ _ = true; exact (Eq.refl true))
    | (show (_ : AV) = _; exact rfl)
    | (with_reducible show (_ || !_) = true; exact (Eq.refl true))
    | (with_reducible show Nat.beq _ _ = true; exact (Eq.refl true))))
  all_goals (first | (show (_ : Int) = _) | (show (_ : Bool) = _) | (show HEq _ _) | (show ∃ _ : LInv, _) | skip)
  all_goals (try (with_reducible exact rfl))
  all_goals try (refine ⟨⟨i + 1, ?_⟩, ?_, ?_⟩)
  all_goals (repeat' (first
    | with_reducible refine iTr ?_
    | with_reducible refine iB ?_
    | intro _
    | exact True.intro
    | (show _ ∧ _
       first
        | refine aTT ?_
        | refine aTB ?_
        | refine aT ?_
        | refine aB ?_
        | refine a11 ?_
        | refine a01 ?_
        | refine a00 ?_
        | refine a10 ?_
        | (with_reducible refine And.intro rfl ?_)
        | refine And.intro ?_ ?_)
    | with_reducible exact rfl
    | with_reducible exact HEq.rfl
    | (show (_ : Option Nat) = _; exact rfl)
    | (show (_ : Option Blk) = _; exact rfl)
    | (with_reducible show (nodupB _ && _ && _ && _ && _) = true; exact (Eq.refl true))
    | (with_reducible show (nodupB _ && _ && _ && _) = true; exact (Eq.refl true))
    | (with_reducible show (nodupB _ && _ && _) = true; exact (Eq.refl true))
    | (with_reducible show freeOk _ _ = true; exact (Eq.refl true))
    | (with_reducible show wrOk _ _ _ _ _ = true; exact (Eq.refl true))
    | (show (_ : AV) = _; exact rfl)
    | (with_reducible show (_ || !_) = true; exact (Eq.refl true))
    | (with_reducible show Nat.beq _ _ = true; exact (Eq.refl true))))
  all_goals (first | (show (_ : Int) = _) | (show (_ : Bool) = _) | (show HEq _ _) | (show ∃ _ : LInv, _) | skip)
  all_goals (try (with_reducible exact rfl))
  all_goals (try dsimp only at *)
  all_goals (try (with_reducible exact HEq.rfl))
  all_goals (first
    | exact hp
    | exact (rfl : (0 : Int) = ((0 : Nat) : Int))
    | (show PTH _ _; exact ih_pre (ih_new hp.cfg) _)
    | (show PTH _ _; exact ih_pre hS.fw.ih _)
    | exact ⟨Nat.zero_le _, hp.len, fw_start hp.cfg (nd_of (by assumption))⟩
    | exact ⟨Int.ofNat_lt.1 (of_decide_eq_true (by assumption)), hS.m200, hS.fw⟩
    | exact heq_of_eq (fw_xs hS.fw (fwl_1 (by assumption) (by assumption) (by assumption) (by assumption))).1
    | exact heq_of_eq (fw_xs hS.fw (fwl_1 (by assumption) (by assumption) (by assumption) (by assumption))).2
    | exact heq_of_eq (fw_xs hS.fw (fwl_2 (by assumption) (by assumption) (by assumption) (by assumption) (by assumption))).1
    | exact heq_of_eq (fw_xs hS.fw (fwl_2 (by assumption) (by assumption) (by assumption) (by assumption) (by assumption))).2
    | exact (fw_bad1 hS.fw (l := (l.getD (i : Int).toNat Ty.act16.dflt).l) (fwl_1 (by assumption) (by assumption) (by assumption) (by assumption)) (by assumption) (by assumption)).elim
    | exact (fw_bad1 hS.fw (l := (l.getD (i : Int).toNat Ty.act16.dflt).l) (fwl_2 (by assumption) (by assumption) (by assumption) (by assumption) (by assumption)) (by assumption) (by assumption)).elim
    | exact (fw_bad2 hS.fw (l := (l.getD (i : Int).toNat Ty.act16.dflt).l) (fwl_1 (by assumption) (by assumption) (by assumption) (by assumption)) (by assumption) (by assumption)).elim
    | exact (fw_bad2 hS.fw (l := (l.getD (i : Int).toNat Ty.act16.dflt).l) (fwl_2 (by assumption) (by assumption) (by assumption) (by assumption) (by assumption)) (by assumption) (by assumption)).elim
    | exact (ih_len hS.fw.ih).2.1
    | exact fw_end hS.fw
    | exact fw_pos hS.fw
    | (have := fw_pos hS.fw; omega)
    | exact HEq.rfl
    | (have := hS.m200; have := hS.le; have h1 := Int.ofNat_lt.1 (of_decide_eq_true ‹decide ((i : Int) < (l.length : Int)) = true›); first | omega | exact wrap_succ (by omega))
    | skip)
end Go.Proofs.Ytipibgamajhgbaa
