/- HomeSums of layer 16: the contract. No condition. -/
import Derived.Test.YtipibgamajhgbaaW28
namespace Go.Proofs.Ytipibgamajhgbaa
open Go.RowKit
set_option linter.unusedVariables false
set_option linter.unusedSimpArgs false
def smL (c : Cfg) (there : List Int) (xs : List Bun) (rows : List Row12) : List (Nat × Option Blk) :=
  [(6, some (.seq false 3 .int there)), (5, some (.seq false 124 .row12 rows)), (4, some (.obj false [.int .i64 (newN c.nodes), .slc 5])), (3, some (.seq false 32 .bun xs)), (2, some (.obj false [.slc 3])), (1, some (.obj false [.int .i64 c.nodes, .int .i64 c.blocks, .int .i64 c.tokens, .int .i64 c.sets, .int .i64 c.ways, .int .i64 c.cap, .int .i64 c.wait, .int .i64 c.tries, .int .i64 c.policy, .ptr 2 p0, .ptr 4 p0])), (0, some (.obj false (cfgCells c)))]
def smH (c : Cfg) (there : List Int) (xs : List Bun) (rows : List Row12) : Heap := ⟨7, smL c there xs rows⟩
def smX (c : Cfg) (there : List Int) (xs : List Bun) (rows : List Row12) (x : Act16) : Heap := ⟨9, (8, some (.obj false (enc .ltr x.l))) :: (7, some (.obj false (enc .act16 x))) :: smL c there xs rows⟩
def smO (c : Cfg) (there : List Int) (xs : List Bun) (rows : List Row12) (out : List Ltr) : Heap := ⟨8, (7, some (.seq false 34 .ltr out)) :: smL c there xs rows⟩
def smA (c : Cfg) (there : List Int) (xs : List Bun) (rows : List Row12) (all : List Bun) : Heap := ⟨8, (7, some (.seq false 32 .bun all)) :: smL c there xs rows⟩
def cSmT : Con where
  X := Cfg × List Act16
  args := fun ⟨c, l⟩ => [ACfg c, .vsl .act16 l]
  heap := fun _ => hp0
  pre := fun ⟨c, l⟩ => MadeOk c l
  res := fun _ => AB true
  heap' := fun _ => hp0
  pure := true
  find := fun _ _ => none
set_option maxRecDepth 100000 in
set_option maxHeartbeats 16000000 in
theorem cSmT_ok : cSmT.Ok Try.prog 3 := by
  refine fun_ok (env_ok (Cons.cons cawake_ok (Cons.cons cMadeT_ok (Cons.cons cTakeH_ok (Cons.cons cRCheck_ok (Cons.cons cAllH_ok Cons.nil)))))) mixedP Try.func3 (by decide) rfl cSmT [(14, 22), (15, 9), (21, 9), (29, 6), (1000016, 1)] (fun _ => rfl) (fun _ _ => ⟨rfl, fun id k h => by cases h⟩) (fun _ => Nat.le_of_ble_eq_true rfl) ?_
  rintro ⟨c, l⟩ hp ha hb
  replace hp : MadeOk c l := hp
  clear ha hb
  all_goals (repeat' (first
    | with_reducible refine iTr ?_
    | with_reducible refine iB ?_
    | intro _
    | exact True.intro
    | (show _ ∧ _
       first
        | refine aTT ?_
        | refine aTB ?_
        | refine aT ?_
        | refine aB ?_
        | refine a11 ?_
        | refine a01 ?_
        | refine a00 ?_
        | refine a10 ?_
        | (with_reducible refine And.intro rfl ?_)
        | refine And.intro ?_ ?_)
    | with_reducible exact rfl
    | with_reducible exact HEq.rfl
    | (show (_ : Option Nat) = _; exact rfl)
    | (show (_ : Option Blk) = _; exact rfl)
    | (with_reducible show (nodupB _ && _ && _ && _ && _) = true; exact (Eq.refl true))
    | (with_reducible show (nodupB _ && _ && _ && _) = true; exact (Eq.refl true))
    | (with_reducible show (nodupB _ && _ && _) = true; exact (Eq.refl true))
    | (with_reducible show freeOk _ _ = true; exact (Eq.refl true))
    | (with_reducible show wrOk _ _ _ _ _ = true; exact (Eq.refl true))
    | (show (_ : AV) = _; exact rfl)
    | (show (_ : Heap) = _; exact rfl)
    | (with_reducible show (_ || !_) = true; exact (Eq.refl true))
    | (with_reducible show Nat.beq _ _ = true; exact (Eq.refl true))))
  all_goals (first | (show (_ : Int) = _) | (show (_ : Bool) = _) | (show HEq _ _) | (show ∃ _ : LInv, _) | skip)
  all_goals (try (with_reducible exact rfl))
  all_goals try (refine ⟨⟨{a : Nat // SAl c a}, fun a => [(34, AI a.1), (33, AI (minB c)), (1, .vsl .act16 l), (5, .ptr 1 p0), (8, .slc 6), (2, .ptr 0 p0)], fun a => smH c (List.replicate a.1 c.tokens) (newB c.blocks c.tokens) (newR c.blocks), fun a => c.blocks.toNat - a.1⟩, ⟨⟨0, ?_⟩, [(8, 3, .int)], ?_⟩, ?_⟩; rotate_right; rintro ⟨a, hA⟩)
  all_goals (repeat' (first
    | with_reducible refine iTr ?_
    | with_reducible refine iB ?_
    | intro _
    | exact True.intro
    | (show _ ∧ _
       first
        | refine aTT ?_
        | refine aTB ?_
        | refine aT ?_
        | refine aB ?_
        | refine a11 ?_
        | refine a01 ?_
        | refine a00 ?_
        | refine a10 ?_
        | (with_reducible refine And.intro rfl ?_)
        | refine And.intro ?_ ?_)
    | with_reducible exact rfl
    | with_reducible exact HEq.rfl
    | (show (_ : Option Nat) = _; exact rfl)
    | (show (_ : Option Blk) = _; exact rfl)
    | (with_reducible show (nodupB _ && _ && _ && _ && _) = true; exact (Eq.refl true))
    | (with_reducible show (nodupB _ && _ && _ && _) = true; exact (Eq.refl true))
    | (with_reducible show (nodupB _ && _ && _) = true; exact (Eq.refl true))
    | (with_reducible show freeOk _ _ = true; exact (Eq.refl true))
    | (with_reducible show wrOk _ _ _ _ _ = true; exact (Eq.refl true))
    | (show (_ : AV) = _; exact rfl)
    | (show (_ : Heap) = _; exact rfl)
    | (with_reducible show (_ || !_) = true; exact (Eq.refl true))
    | (with_reducible show Nat.beq _ _ = true; exact (Eq.refl true))))
  all_goals (first | (show (_ : Int) = _) | (show (_ : Bool) = _) | (show HEq _ _) | (show ∃ _ : LInv, _) | skip)
  all_goals (try (with_reducible exact rfl))
  all_goals try (refine ⟨⟨(a + 1 : Nat), ?_⟩, ?_, ?_⟩)
  all_goals (repeat' (first
    | with_reducible refine iTr ?_
    | with_reducible refine iB ?_
    | intro _
    | exact True.intro
    | (show _ ∧ _
       first
        | refine aTT ?_
        | refine aTB ?_
        | refine aT ?_
        | refine aB ?_
        | refine a11 ?_
        | refine a01 ?_
        | refine a00 ?_
        | refine a10 ?_
        | (with_reducible refine And.intro rfl ?_)
        | refine And.intro ?_ ?_)
    | with_reducible exact rfl
    | with_reducible exact HEq.rfl
    | (show (_ : Option Nat) = _; exact rfl)
    | (show (_ : Option Blk) = _; exact rfl)
    | (with_reducible show (nodupB _ && _ && _ && _ && _) = true; exact (Eq.refl true))
    | (with_reducible show (nodupB _ && _ && _ && _) = true; exact (Eq.refl true))
    | (with_reducible show (nodupB _ && _ && _) = true; exact (Eq.refl true))
    | (with_reducible show freeOk _ _ = true; exact (Eq.refl true))
    | (with_reducible show wrOk _ _ _ _ _ = true; exact (Eq.refl true))
    | (show (_ : AV) = _; exact rfl)
    | (show (_ : Heap) = _; exact rfl)
    | (with_reducible show (_ || !_) = true; exact (Eq.refl true))
    | (with_reducible show Nat.beq _ _ = true; exact (Eq.refl true))))
  all_goals (first | (show (_ : Int) = _) | (show (_ : Bool) = _) | (show HEq _ _) | (show ∃ _ : LInv, _) | skip)
  all_goals (try (with_reducible exact rfl))
  all_goals try (refine ⟨⟨{s : Nat × List Bun × List Row12 // SBl c l.length s.1 s.2.1 s.2.2}, fun s => [(44, AI s.1.1), (43, AI l.length), (42, .vsl .act16 l), (5, .ptr 1 p0), (8, .slc 6), (2, .ptr 0 p0)], fun s => smH c (cnts s.1.2.1) s.1.2.1 s.1.2.2, fun s => l.length - s.1.1⟩, ⟨⟨(0, newB c.blocks c.tokens, newR c.blocks), ?_⟩, [], ?_⟩, ?_⟩; rotate_right; rintro ⟨⟨i, xs, rows⟩, hB⟩)
  all_goals (repeat' (first
    | with_reducible refine iTr ?_
    | with_reducible refine iB ?_
    | intro _
    | exact True.intro
    | (show _ ∧ _
       first
        | refine aTT ?_
        | refine aTB ?_
        | refine aT ?_
        | refine aB ?_
        | refine a11 ?_
        | refine a01 ?_
        | refine a00 ?_
        | refine a10 ?_
        | (with_reducible refine And.intro rfl ?_)
        | refine And.intro ?_ ?_)
    | with_reducible exact rfl
    | with_reducible exact HEq.rfl
    | (show (_ : Option Nat) = _; exact rfl)
    | (show (_ : Option Blk) = _; exact rfl)
    | (with_reducible show (nodupB _ && _ && _ && _ && _) = true; exact (Eq.refl true))
    | (with_reducible show (nodupB _ && _ && _ && _) = true; exact (Eq.refl true))
    | (with_reducible show (nodupB _ && _ && _) = true; exact (Eq.refl true))
    | (with_reducible show freeOk _ _ = true; exact (Eq.refl true))
    | (with_reducible show wrOk _ _ _ _ _ = true; exact (Eq.refl true))
    | (show (_ : AV) = _; exact rfl)
    | (show (_ : Heap) = _; exact rfl)
    | (with_reducible show (_ || !_) = true; exact (Eq.refl true))
    | (with_reducible show Nat.beq _ _ = true; exact (Eq.refl true))))
  all_goals (first | (show (_ : Int) = _) | (show (_ : Bool) = _) | (show HEq _ _) | (show ∃ _ : LInv, _) | skip)
  all_goals (try (with_reducible exact rfl))
  all_goals try (refine ⟨⟨{u : Unit // Cd c xs (l.getD (i : Int).toNat Ty.act16.dflt).l}, fun u => [(10, .ptr 7 p0), (11, .ptr 8 p0), (44, AI i), (43, AI l.length), (42, .vsl .act16 l), (5, .ptr 1 p0), (8, .slc 6), (2, .ptr 0 p0)], fun u => smX c (there0 c xs (l.getD (i : Int).toNat Ty.act16.dflt).l) xs rows (l.getD (i : Int).toNat Ty.act16.dflt), fun _ => 0⟩, ?_, ?_⟩; rotate_right; rintro ⟨-, hC⟩)
  all_goals (repeat' (first
    | with_reducible refine iTr ?_
    | with_reducible refine iB ?_
    | intro _
    | exact True.intro
    | (show _ ∧ _
       first
        | refine aTT ?_
        | refine aTB ?_
        | refine aT ?_
        | refine aB ?_
        | refine a11 ?_
        | refine a01 ?_
        | refine a00 ?_
        | refine a10 ?_
        | (with_reducible refine And.intro rfl ?_)
        | refine And.intro ?_ ?_)
    | with_reducible exact rfl
    | with_reducible exact HEq.rfl
    | (show (_ : Option Nat) = _; exact rfl)
    | (show (_ : Option Blk) = _; exact rfl)
    | (with_reducible show (nodupB _ && _ && _ && _ && _) = true; exact (Eq.refl true))
    | (with_reducible show (nodupB _ && _ && _ && _) = true; exact (Eq.refl true))
    | (with_reducible show (nodupB _ && _ && _) = true; exact (Eq.refl true))
    | (with_reducible show freeOk _ _ = true; exact (Eq.refl true))
    | (with_reducible show wrOk _ _ _ _ _ = true; exact (Eq.refl true))
    | (show (_ : AV) = _; exact rfl)
    | (show (_ : Heap) = _; exact rfl)
    | (with_reducible show (_ || !_) = true; exact (Eq.refl true))
    | (with_reducible show Nat.beq _ _ = true; exact (Eq.refl true))))
  all_goals (first | (show (_ : Int) = _) | (show (_ : Bool) = _) | (show HEq _ _) | (show ∃ _ : LInv, _) | skip)
  all_goals (try (with_reducible exact rfl))
  all_goals try (refine ⟨⟨(), ?_⟩, [], ?_⟩)
  all_goals (repeat' (first
    | with_reducible refine iTr ?_
    | with_reducible refine iB ?_
    | intro _
    | exact True.intro
    | (show _ ∧ _
       first
        | refine aTT ?_
        | refine aTB ?_
        | refine aT ?_
        | refine aB ?_
        | refine a11 ?_
        | refine a01 ?_
        | refine a00 ?_
        | refine a10 ?_
        | (with_reducible refine And.intro rfl ?_)
        | refine And.intro ?_ ?_)
    | with_reducible exact rfl
    | with_reducible exact HEq.rfl
    | (show (_ : Option Nat) = _; exact rfl)
    | (show (_ : Option Blk) = _; exact rfl)
    | (with_reducible show (nodupB _ && _ && _ && _ && _) = true; exact (Eq.refl true))
    | (with_reducible show (nodupB _ && _ && _ && _) = true; exact (Eq.refl true))
    | (with_reducible show (nodupB _ && _ && _) = true; exact (Eq.refl true))
    | (with_reducible show freeOk _ _ = true; exact (Eq.refl true))
    | (with_reducible show wrOk _ _ _ _ _ = true; exact (Eq.refl true))
    | (show (_ : AV) = _; exact rfl)
    | (show (_ : Heap) = _; exact rfl)
    | (with_reducible show (_ || !_) = true; exact (Eq.refl true))
    | (with_reducible show Nat.beq _ _ = true; exact (Eq.refl true))))
  all_goals (first | (show (_ : Int) = _) | (show (_ : Bool) = _) | (show HEq _ _) | (show ∃ _ : LInv, _) | skip)
  all_goals (try (with_reducible exact rfl))
  all_goals try (refine ⟨⟨{m : Nat // SMl (takeO (hsC c xs rows) (l.getD (i : Int).toNat Ty.act16.dflt).l (l.getD (i : Int).toNat Ty.act16.dflt).d).out.length m}, fun m => [(99, AI m.1), (98, AI (takeO (hsC c xs rows) (l.getD (i : Int).toNat Ty.act16.dflt).l (l.getD (i : Int).toNat Ty.act16.dflt).d).out.length), (97, .slc 7), (44, AI i), (43, AI l.length), (42, .vsl .act16 l), (5, .ptr 1 p0), (8, .slc 6), (2, .ptr 0 p0)], fun m => smO c (thereM (there0 c xs (l.getD (i : Int).toNat Ty.act16.dflt).l) (takeO (hsC c xs rows) (l.getD (i : Int).toNat Ty.act16.dflt).l (l.getD (i : Int).toNat Ty.act16.dflt).d).out m.1) (takeO (hsC c xs rows) (l.getD (i : Int).toNat Ty.act16.dflt).l (l.getD (i : Int).toNat Ty.act16.dflt).d).xs (takeO (hsC c xs rows) (l.getD (i : Int).toNat Ty.act16.dflt).l (l.getD (i : Int).toNat Ty.act16.dflt).d).rows (takeO (hsC c xs rows) (l.getD (i : Int).toNat Ty.act16.dflt).l (l.getD (i : Int).toNat Ty.act16.dflt).d).out, fun m => (takeO (hsC c xs rows) (l.getD (i : Int).toNat Ty.act16.dflt).l (l.getD (i : Int).toNat Ty.act16.dflt).d).out.length - m.1⟩, ⟨⟨0, ?_⟩, [], ?_⟩, ?_⟩; rotate_right; rintro ⟨m, hM⟩)
  all_goals (repeat' (first
    | with_reducible refine iTr ?_
    | with_reducible refine iB ?_
    | intro _
    | exact True.intro
    | (show _ ∧ _
       first
        | refine aTT ?_
        | refine aTB ?_
        | refine aT ?_
        | refine aB ?_
        | refine a11 ?_
        | refine a01 ?_
        | refine a00 ?_
        | refine a10 ?_
        | (with_reducible refine And.intro rfl ?_)
        | refine And.intro ?_ ?_)
    | with_reducible exact rfl
    | with_reducible exact HEq.rfl
    | (show (_ : Option Nat) = _; exact rfl)
    | (show (_ : Option Blk) = _; exact rfl)
    | (with_reducible show (nodupB _ && _ && _ && _ && _) = true; exact (Eq.refl true))
    | (with_reducible show (nodupB _ && _ && _ && _) = true; exact (Eq.refl true))
    | (with_reducible show (nodupB _ && _ && _) = true; exact (Eq.refl true))
    | (with_reducible show freeOk _ _ = true; exact (Eq.refl true))
    | (with_reducible show wrOk _ _ _ _ _ = true; exact (Eq.refl true))
    | (show (_ : AV) = _; exact rfl)
    | (show (_ : Heap) = _; exact rfl)
    | (with_reducible show (_ || !_) = true; exact (Eq.refl true))
    | (with_reducible show Nat.beq _ _ = true; exact (Eq.refl true))))
  all_goals (first | (show (_ : Int) = _) | (show (_ : Bool) = _) | (show HEq _ _) | (show ∃ _ : LInv, _) | skip)
  all_goals (try (with_reducible exact rfl))
  all_goals try (refine ⟨⟨(m + 1 : Nat), ?_⟩, ?_, ?_⟩)
  all_goals (repeat' (first
    | with_reducible refine iTr ?_
    | with_reducible refine iB ?_
    | intro _
    | exact True.intro
    | (show _ ∧ _
       first
        | refine aTT ?_
        | refine aTB ?_
        | refine aT ?_
        | refine aB ?_
        | refine a11 ?_
        | refine a01 ?_
        | refine a00 ?_
        | refine a10 ?_
        | (with_reducible refine And.intro rfl ?_)
        | refine And.intro ?_ ?_)
    | with_reducible exact rfl
    | with_reducible exact HEq.rfl
    | (show (_ : Option Nat) = _; exact rfl)
    | (show (_ : Option Blk) = _; exact rfl)
    | (with_reducible show (nodupB _ && _ && _ && _ && _) = true; exact (Eq.refl true))
    | (with_reducible show (nodupB _ && _ && _ && _) = true; exact (Eq.refl true))
    | (with_reducible show (nodupB _ && _ && _) = true; exact (Eq.refl true))
    | (with_reducible show freeOk _ _ = true; exact (Eq.refl true))
    | (with_reducible show wrOk _ _ _ _ _ = true; exact (Eq.refl true))
    | (show (_ : AV) = _; exact rfl)
    | (show (_ : Heap) = _; exact rfl)
    | (with_reducible show (_ || !_) = true; exact (Eq.refl true))
    | (with_reducible show Nat.beq _ _ = true; exact (Eq.refl true))))
  all_goals (first | (show (_ : Int) = _) | (show (_ : Bool) = _) | (show HEq _ _) | (show ∃ _ : LInv, _) | skip)
  all_goals (try (with_reducible exact rfl))
  all_goals try (refine ⟨⟨{j : Nat // SDl (takeO (hsC c xs rows) (l.getD (i : Int).toNat Ty.act16.dflt).l (l.getD (i : Int).toNat Ty.act16.dflt).d).xs.length j}, fun j => [(134, AI j.1), (133, AI (takeO (hsC c xs rows) (l.getD (i : Int).toNat Ty.act16.dflt).l (l.getD (i : Int).toNat Ty.act16.dflt).d).xs.length), (132, .slc 7), (44, AI i), (43, AI l.length), (42, .vsl .act16 l), (5, .ptr 1 p0), (8, .slc 6), (2, .ptr 0 p0)], fun j => smA c (cnts (takeO (hsC c xs rows) (l.getD (i : Int).toNat Ty.act16.dflt).l (l.getD (i : Int).toNat Ty.act16.dflt).d).xs) (takeO (hsC c xs rows) (l.getD (i : Int).toNat Ty.act16.dflt).l (l.getD (i : Int).toNat Ty.act16.dflt).d).xs (takeO (hsC c xs rows) (l.getD (i : Int).toNat Ty.act16.dflt).l (l.getD (i : Int).toNat Ty.act16.dflt).d).rows (takeO (hsC c xs rows) (l.getD (i : Int).toNat Ty.act16.dflt).l (l.getD (i : Int).toNat Ty.act16.dflt).d).xs, fun j => (takeO (hsC c xs rows) (l.getD (i : Int).toNat Ty.act16.dflt).l (l.getD (i : Int).toNat Ty.act16.dflt).d).xs.length - j.1⟩, ⟨⟨0, ?_⟩, [], ?_⟩, ?_⟩; rotate_right; rintro ⟨j, hD⟩)
  all_goals (repeat' (first
    | with_reducible refine iTr ?_
    | with_reducible refine iB ?_
    | intro _
    | exact True.intro
    | (show _ ∧ _
       first
        | refine aTT ?_
        | refine aTB ?_
        | refine aT ?_
        | refine aB ?_
        | refine a11 ?_
        | refine a01 ?_
        | refine a00 ?_
        | refine a10 ?_
        | (with_reducible refine And.intro rfl ?_)
        | refine And.intro ?_ ?_)
    | with_reducible exact rfl
    | with_reducible exact HEq.rfl
    | (show (_ : Option Nat) = _; exact rfl)
    | (show (_ : Option Blk) = _; exact rfl)
    | (with_reducible show (nodupB _ && _ && _ && _ && _) = true; exact (Eq.refl true))
    | (with_reducible show (nodupB _ && _ && _ && _) = true; exact (Eq.refl true))
    | (with_reducible show (nodupB _ && _ && _) = true; exact (Eq.refl true))
    | (with_reducible show freeOk _ _ = true; exact (Eq.refl true))
    | (with_reducible show wrOk _ _ _ _ _ = true; exact (Eq.refl true))
    | (show (_ : AV) = _; exact rfl)
    | (show (_ : Heap) = _; exact rfl)
    | (with_reducible show (_ || !_) = true; exact (Eq.refl true))
    | (with_reducible show Nat.beq _ _ = true; exact (Eq.refl true))))
  all_goals (first | (show (_ : Int) = _) | (show (_ : Bool) = _) | (show HEq _ _) | (show ∃ _ : LInv, _) | skip)
  all_goals (try (with_reducible exact rfl))
  all_goals try (refine ⟨⟨(j + 1 : Nat), ?_⟩, ?_, ?_⟩)
  all_goals (repeat' (first
    | with_reducible refine iTr ?_
    | with_reducible refine iB ?_
    | intro _
    | exact True.intro
    | (show _ ∧ _
       first
        | refine aTT ?_
        | refine aTB ?_
        | refine aT ?_
        | refine aB ?_
        | refine a11 ?_
        | refine a01 ?_
        | refine a00 ?_
        | refine a10 ?_
        | (with_reducible refine And.intro rfl ?_)
        | refine And.intro ?_ ?_)
    | with_reducible exact rfl
    | with_reducible exact HEq.rfl
    | (show (_ : Option Nat) = _; exact rfl)
    | (show (_ : Option Blk) = _; exact rfl)
    | (with_reducible show (nodupB _ && _ && _ && _ && _) = true; exact (Eq.refl true))
    | (with_reducible show (nodupB _ && _ && _ && _) = true; exact (Eq.refl true))
    | (with_reducible show (nodupB _ && _ && _) = true; exact (Eq.refl true))
    | (with_reducible show freeOk _ _ = true; exact (Eq.refl true))
    | (with_reducible show wrOk _ _ _ _ _ = true; exact (Eq.refl true))
    | (show (_ : AV) = _; exact rfl)
    | (show (_ : Heap) = _; exact rfl)
    | (with_reducible show (_ || !_) = true; exact (Eq.refl true))
    | (with_reducible show Nat.beq _ _ = true; exact (Eq.refl true))))
  all_goals (first | (show (_ : Int) = _) | (show (_ : Bool) = _) | (show HEq _ _) | (show ∃ _ : LInv, _) | skip)
  all_goals (try (with_reducible exact rfl))
  all_goals try (refine ⟨⟨(i + 1, ?_, ?_), ?_⟩, ?_, ?_⟩)
  all_goals (repeat' (first
    | with_reducible refine iTr ?_
    | with_reducible refine iB ?_
    | intro _
    | exact True.intro
    | (show _ ∧ _
       first
        | refine aTT ?_
        | refine aTB ?_
        | refine aT ?_
        | refine aB ?_
        | refine a11 ?_
        | refine a01 ?_
        | refine a00 ?_
        | refine a10 ?_
        | (with_reducible refine And.intro rfl ?_)
        | refine And.intro ?_ ?_)
    | with_reducible exact rfl
    | with_reducible exact HEq.rfl
    | (show (_ : Option Nat) = _; exact rfl)
    | (show (_ : Option Blk) = _; exact rfl)
    | (with_reducible show (nodupB _ && _ && _ && _ && _) = true; exact (Eq.refl true))
    | (with_reducible show (nodupB _ && _ && _ && _) = true; exact (Eq.refl true))
    | (with_reducible show (nodupB _ && _ && _) = true; exact (Eq.refl true))
    | (with_reducible show freeOk _ _ = true; exact (Eq.refl true))
    | (with_reducible show wrOk _ _ _ _ _ = true; exact (Eq.refl true))
    | (show (_ : AV) = _; exact rfl)
    | (show (_ : Heap) = _; exact rfl)
    | (with_reducible show (_ || !_) = true; exact (Eq.refl true))
    | (with_reducible show Nat.beq _ _ = true; exact (Eq.refl true))))
  all_goals (first | (show (_ : Int) = _) | (show (_ : Bool) = _) | (show HEq _ _) | (show ∃ _ : LInv, _) | skip)
  all_goals (try (with_reducible exact rfl))
  all_goals (try dsimp only at *)
  all_goals (try (with_reducible exact HEq.rfl))
  all_goals (first
    | exact hp
    | exact (rfl : (0 : Int) = ((0 : Nat) : Int))
    | exact (rfl : (if (64 : Int) < c.blocks then 64 else c.blocks) = minB c)
    | exact ⟨hp.cfg, by have := cfg_facts hp.cfg; omega⟩
    | exact ⟨Nat.zero_le _, hp.len, hi_new hp.cfg⟩
    | skip)
  all_goals (try (replace hB : SBl c l.length i xs rows := hB))
  all_goals (have hf := cfg_facts hp.cfg; have hmb := minB_eq hp.cfg)
  all_goals (first
    | (have hT := hi_step hB.hi (by have := hB.m200; have := hB.le; omega) (l.getD (i : Int).toNat Ty.act16.dflt).d hC
       have hlt := Int.ofNat_lt.1 (of_decide_eq_true ‹decide ((i : Int) < (l.length : Int)) = true›)
       have h200 := hB.m200
       have hx64 := ih_len hT.1.ih
       have hx0 := ih_len hB.hi.ih
       first
       | exact ⟨Nat.zero_le _⟩
       | exact ⟨Nat.zero_le _, hx64.2.1⟩
       | exact hx64.2.1
       | (exfalso; exact sm_b3 hT.1 (by assumption))
       | exact ⟨hlt, h200, hT.1⟩
       | (show PTH _ _; exact ih_pre hB.hi.ih _)
       | exact rfl
       | exact HEq.rfl
       | (have hj : j < (takeO (hsC c xs rows) (l.getD (i : Int).toNat Ty.act16.dflt).l (l.getD (i : Int).toNat Ty.act16.dflt).d).xs.length := Int.ofNat_lt.1 (of_decide_eq_true (by assumption))
          first
          | exact ⟨hj, hx64.2.1⟩
          | (exfalso; exact sm_b4 hj (by assumption))
          | (rw [cnts_len]; omega)
          | exact wrap_succ (by omega)
          | omega)
       | (have hm : m < (takeO (hsC c xs rows) (l.getD (i : Int).toNat Ty.act16.dflt).l (l.getD (i : Int).toNat Ty.act16.dflt).d).out.length := Int.ofNat_lt.1 (of_decide_eq_true (by assumption))
          have hz := out_ok hT.2.1 hm Ty.ltr.dflt
          have hq := sm_z hB.hi (thereM_len c xs (l.getD (i : Int).toNat Ty.act16.dflt).l (takeO (hsC c xs rows) (l.getD (i : Int).toNat Ty.act16.dflt).l (l.getD (i : Int).toNat Ty.act16.dflt).d).out m) hz
          have hol := out_len (hsC c xs rows) (l.getD (i : Int).toNat Ty.act16.dflt).l (l.getD (i : Int).toNat Ty.act16.dflt).d
          first
          | exact ⟨hm⟩
          | (exfalso; exact sm_b1 hz (by assumption))
          | (exfalso; exact sm_b2 hz (by assumption))
          | exact hq.1
          | exact hq.2.1
          | exact hq.2.2
          | exact heq_of_eq (thereM_succ hm).symm
          | exact wrap_succ (by omega)
          | omega)
       | (have hm : ¬ m < (takeO (hsC c xs rows) (l.getD (i : Int).toNat Ty.act16.dflt).l (l.getD (i : Int).toNat Ty.act16.dflt).d).out.length := fun h => (of_decide_eq_false ‹decide ((m : Int) < ((takeO (hsC c xs rows) (l.getD (i : Int).toNat Ty.act16.dflt).l (l.getD (i : Int).toNat Ty.act16.dflt).d).out.length : Int)) = false›) (Int.ofNat_lt.2 h)
          exact heq_of_eq ((thereM_all hm).trans hT.2.2))
       | exact wrap_succ (by omega)
       | omega)
    | (have hlt := Int.ofNat_lt.1 (of_decide_eq_true ‹decide ((i : Int) < (l.length : Int)) = true›)
       have h200 := hB.m200
       first
       | omega
       | exact wrap_succ (by omega)
       | exact ⟨hlt, h200, hB.hi.mono (by omega)⟩
       | exact (sm_idx hB.hi (sk_yes (l := (l.getD (i : Int).toNat Ty.act16.dflt).l) (by assumption) (by assumption))).1
       | exact (sm_idx hB.hi (sk_yes (l := (l.getD (i : Int).toNat Ty.act16.dflt).l) (by assumption) (by assumption))).2.1
       | exact (sm_idx hB.hi (sk_yes (l := (l.getD (i : Int).toNat Ty.act16.dflt).l) (by assumption) (by assumption))).2.2
       | exact cd_ok hB.hi (sk_yes (by assumption) (by assumption)) (by assumption) (by assumption)
       | exact cd_k (by assumption)
       | exact (cd_no1 (by assumption)).1
       | exact (cd_no2 (by assumption)).1
       | exact heq_of_eq (cd_no1 (by assumption)).2.symm
       | exact heq_of_eq (cd_no2 (by assumption)).2.symm
       | exact heq_of_eq (there_sk (sk_yes (by assumption) (by assumption))).symm)
    | (have hle := hA.le
       first
       | (have hlt := of_decide_eq_true ‹decide ((a : Int) < minB c) = true›
          first
          | omega
          | exact ⟨hp.cfg, by omega⟩
          | exact wrap_succ (by omega)
          | (rw [List.length_replicate, List.length_singleton]; omega)
          | (apply heq_of_eq; rw [List.replicate_succ']))
       | (have hge := of_decide_eq_false ‹decide ((a : Int) < minB c) = false›
          apply heq_of_eq
          rw [cnts_new hp.cfg, show c.blocks.toNat = a from by omega]))
    | exact HEq.rfl
    | skip)
end Go.Proofs.Ytipibgamajhgbaa
