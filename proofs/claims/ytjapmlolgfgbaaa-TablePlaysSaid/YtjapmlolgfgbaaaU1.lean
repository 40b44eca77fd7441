/- Contracts of the reference's table: over, Active, Activate, Deactivate, Same. No condition. -/
import Derived.Test.YtjapmlolgfgbaaaY1
namespace Go.Proofs.Ytjapmlolgfgbaaa
open Go.RowKit
set_option linter.unusedVariables false
set_option linter.unusedSimpArgs false
abbrev AI (n : Int) : AV := .int .i64 n
abbrev AB (b : Bool) : AV := .bool b
abbrev AAtv (a : Atv) : AV := .agg [.int .i64 a.block, .int .i64 a.node, .int .i64 a.seq]
abbrev p0 : Path := ⟨0, 0, 0, none⟩
theorem wrap_i64 (n : Int) : IntKind.i64.wrap n = wrap64 n := by
  simp only [IntKind.wrap, IntKind.bits, IntKind.signed, wrap64]
  simp
  omega
theorem wrap_id {n : Int} (h1 : -9223372036854775808 ≤ n) (h2 : n < 9223372036854775808) : IntKind.i64.wrap n = n := by
  rw [wrap_i64]
  unfold wrap64
  omega
theorem wrap_succ {i : Nat} (h : i < 9223372036854775807) : IntKind.i64.wrap (↑i + 1) = ↑(i + 1) := by
  rw [wrap_i64]
  unfold wrap64
  omega
abbrev zA : Atv := ⟨0, 0, 0⟩
def tH (ro : Bool) (on off : List Atv) : Heap := ⟨1, [(0, some (.obj ro [.vsl .atv on, .vsl .atv off]))]⟩
theorem tH_ro (on off : List Atv) : ∀ id k, (tH true on off).get id = some k → k.ro = true
  | 0, k, h => by cases h; rfl
  | _ + 1, k, h => by cases h
abbrev pT : AV := .ptr 0 p0
def slAt (H : Heap) : AV → Option (List Atv)
  | .vsl .atv xs => some xs
  | .nils => some []
  | .slc id => match H.get id with
    | some (.seq _ _ .atv xs) => some xs
    | _ => none
  | _ => none
def findT (id : Nat) (H : Heap) : Option (List Atv × List Atv) := match H.get id with
  | some (.obj _ [a, b]) => (slAt H a).bind fun on => (slAt H b).map fun off => (on, off)
  | _ => none
/-- Up to which number a block's requests are over. -/
def ovS (b n : Int) (a : Atv) : Int := if a.block = b ∧ n < a.seq then a.seq else n
def ovT (off : List Atv) (b : Int) : Int := off.foldl (ovS b) 0
theorem ovT_succ {off : List Atv} {b : Int} {i : Nat} {z : Atv} (h : i < off.length) : ovT (off.take (i + 1)) b = ovS b (ovT (off.take i) b) (off.getD i z) := by
  unfold ovT
  rw [List.take_add_one, List.getElem?_eq_getElem h, List.foldl_append, List.getD_eq_getElem?_getD, List.getElem?_eq_getElem h]
  rfl
theorem ovS_t {b n : Int} {a : Atv} (h1 : a.block = b) (h2 : n < a.seq) : ovS b n a = a.seq := if_pos ⟨h1, h2⟩
theorem ovS_f {b n : Int} {a : Atv} (h : ¬ (a.block = b ∧ n < a.seq)) : ovS b n a = n := if_neg h
structure SOv (off : List Atv) (i : Nat) : Prop where
  le : i ≤ off.length
def cOver : Con where
  X := List Atv × List Atv × Int
  args := fun ⟨on, off, b⟩ => [pT, AI b]
  heap := fun ⟨on, off, b⟩ => tH true on off
  pre := fun _ => True
  res := fun ⟨on, off, b⟩ => AI (ovT off b)
  heap' := fun ⟨on, off, b⟩ => tH true on off
  pure := true
  find := fun args H => match args with
    | [.ptr id _, .int _ b] => (findT id H).map fun (on, off) => (on, off, b)
    | _ => none
set_option maxRecDepth 100000 in
set_option maxHeartbeats 4000000 in
theorem cOver_ok : cOver.Ok Try.prog 23 := by
  refine fun_ok (env_ok Cons.nil) mixedP Try.func23 (by decide) rfl cOver [] (fun _ => rfl) (fun _ x => ⟨rfl, tH_ro x.1 x.2.1⟩) (fun _ => Nat.le_of_ble_eq_true rfl) ?_
  rintro ⟨on, off, b⟩ hp ha hb
  clear hp ha hb
  all_goals (repeat' (first
    | with_reducible refine iTr ?_
    | with_reducible refine iB ?_
    | intro _
    | exact True.intro
    | (show _ ∧ _
       first
        | refine aTT ?_
        | refine aTB ?_
        | refine aT ?_
        | refine aB ?_
        | refine a11 ?_
        | refine a01 ?_
        | refine a00 ?_
        | refine a10 ?_
        | (with_reducible refine And.intro rfl ?_)
        | refine And.intro ?_ ?_)
    | with_reducible exact rfl
    | with_reducible exact HEq.rfl
    | (show (_ : Option Nat) = _; exact rfl)
    | (show (_ : Option Blk) = _; exact rfl)
    | (with_reducible show (nodupB _ && _ && _ && _ && _) = true; exact (Eq.refl true))
    | (with_reducible show (nodupB _ && _ && _ && _) = true; exact (Eq.refl true))
    | (with_reducible show (nodupB _ && _ && _) = true; exact (Eq.refl true))
    | (with_reducible show freeOk _ _ = true; exact (Eq.refl true))
    | (with_reducible show wrOk _ _ _ _ _ = true; exact (Eq.refl true))
    | (show (_ : AV) = _; exact rfl)
    | (show (_ : Heap) = _; exact rfl)
    | (with_reducible show (_ || !_) = true; exact (Eq.refl true))
    | (with_reducible show Nat.beq _ _ = true; exact (Eq.refl true))))
  all_goals (first | (show (_ : Int) = _) | (show (_ : Bool) = _) | (show HEq _ _) | (show ∃ _ : LInv, _) | skip)
  all_goals (try (with_reducible exact rfl))
  all_goals try (refine ⟨⟨{i : Nat // SOv off i}, fun i => [(6, AI i.1), (5, AI (ovT (off.take i.1) b)), (0, .ptr 0 p0), (1, AI b)], fun i => tH true on off, fun i => off.length - i.1⟩, ⟨⟨0, ?_⟩, [], ?_⟩, ?_⟩; rotate_right; rintro ⟨i, hS⟩)
  all_goals (repeat' (first
    | with_reducible refine iTr ?_
    | with_reducible refine iB ?_
    | intro _
    | exact True.intro
    | (show _ ∧ _
       first
        | refine aTT ?_
        | refine aTB ?_
        | refine aT ?_
        | refine aB ?_
        | refine a11 ?_
        | refine a01 ?_
        | refine a00 ?_
        | refine a10 ?_
        | (with_reducible refine And.intro rfl ?_)
        | refine And.intro ?_ ?_)
    | with_reducible exact rfl
    | with_reducible exact HEq.rfl
    | (show (_ : Option Nat) = _; exact rfl)
    | (show (_ : Option Blk) = _; exact rfl)
    | (with_reducible show (nodupB _ && _ && _ && _ && _) = true; exact (Eq.refl true))
    | (with_reducible show (nodupB _ && _ && _ && _) = true; exact (Eq.refl true))
    | (with_reducible show (nodupB _ && _ && _) = true; exact (Eq.refl true))
    | (with_reducible show freeOk _ _ = true; exact (Eq.refl true))
    | (with_reducible show wrOk _ _ _ _ _ = true; exact (Eq.refl true))
    | (show (_ : AV) = _; exact rfl)
    | (show (_ : Heap) = _; exact rfl)
    | (with_reducible show (_ || !_) = true; exact (Eq.refl true))
    | (with_reducible show Nat.beq _ _ = true; exact (Eq.refl true))))
  all_goals (first | (show (_ : Int) = _) | (show (_ : Bool) = _) | (show HEq _ _) | (show ∃ _ : LInv, _) | skip)
  all_goals (try (with_reducible exact rfl))
  all_goals try (refine ⟨⟨(i + 1 : Nat), ?_⟩, ?_, ?_⟩)
  all_goals (repeat' (first
    | with_reducible refine iTr ?_
    | with_reducible refine iB ?_
    | intro _
    | exact True.intro
    | (show _ ∧ _
       first
        | refine aTT ?_
        | refine aTB ?_
        | refine aT ?_
        | refine aB ?_
        | refine a11 ?_
        | refine a01 ?_
        | refine a00 ?_
        | refine a10 ?_
        | (with_reducible refine And.intro rfl ?_)
        | refine And.intro ?_ ?_)
    | with_reducible exact rfl
    | with_reducible exact HEq.rfl
    | (show (_ : Option Nat) = _; exact rfl)
    | (show (_ : Option Blk) = _; exact rfl)
    | (with_reducible show (nodupB _ && _ && _ && _ && _) = true; exact (Eq.refl true))
    | (with_reducible show (nodupB _ && _ && _ && _) = true; exact (Eq.refl true))
    | (with_reducible show (nodupB _ && _ && _) = true; exact (Eq.refl true))
    | (with_reducible show freeOk _ _ = true; exact (Eq.refl true))
    | (with_reducible show wrOk _ _ _ _ _ = true; exact (Eq.refl true))
    | (show (_ : AV) = _; exact rfl)
    | (show (_ : Heap) = _; exact rfl)
    | (with_reducible show (_ || !_) = true; exact (Eq.refl true))
    | (with_reducible show Nat.beq _ _ = true; exact (Eq.refl true))))
  all_goals (first | (show (_ : Int) = _) | (show (_ : Bool) = _) | (show HEq _ _) | (show ∃ _ : LInv, _) | skip)
  all_goals (try (with_reducible exact rfl))
  all_goals (try dsimp only at *)
  all_goals (try (with_reducible exact HEq.rfl))
  all_goals (try simp only [Int.toNat_natCast, decide_eq_true_eq, decide_eq_false_iff_not, beq_iff_eq, cond_true, cond_false, beq_eq_false_iff_ne, ne_eq, Bool.not_true] at *)
  all_goals (first
    | omega
    | exact ⟨Nat.zero_le _⟩
    | exact ⟨by omega⟩
    | exact wrap_succ (by omega)
    | (rw [ovT_succ (z := Ty.atv.dflt) (by omega), ovS_t (by assumption) (by assumption)]; done)
    | (rw [ovT_succ (z := Ty.atv.dflt) (by omega), ovS_f (fun h => by simp_all <;> omega)]; done)
    | (rw [List.take_of_length_le (by omega)]; done)
    | rfl
    | skip)
/-- The greatest request of a block that isn't over. -/
def bsS (off : List Atv) (b : Int) (x a : Atv) : Atv := if a.block = b ∧ x.seq < a.seq ∧ ovT off b < a.seq then a else x
def bsT (on off : List Atv) (b : Int) : Atv := on.foldl (bsS off b) zA
theorem bsT_succ {on off : List Atv} {b : Int} {i : Nat} {z : Atv} (h : i < on.length) : bsT (on.take (i + 1)) off b = bsS off b (bsT (on.take i) off b) (on.getD i z) := by
  unfold bsT
  rw [List.take_add_one, List.getElem?_eq_getElem h, List.foldl_append, List.getD_eq_getElem?_getD, List.getElem?_eq_getElem h]
  rfl
theorem bsS_t {off : List Atv} {b : Int} {x a : Atv} (h1 : a.block = b) (h2 : x.seq < a.seq) (h3 : ovT off b < a.seq) : bsS off b x a = a := if_pos ⟨h1, h2, h3⟩
theorem bsS_f {off : List Atv} {b : Int} {x a : Atv} (h : ¬ (a.block = b ∧ x.seq < a.seq ∧ ovT off b < a.seq)) : bsS off b x a = x := if_neg h
def cTAct : Con where
  X := List Atv × List Atv × Int
  args := fun ⟨on, off, b⟩ => [pT, AI b]
  heap := fun ⟨on, off, b⟩ => tH true on off
  pre := fun _ => True
  res := fun ⟨on, off, b⟩ => .tup [AAtv (bsT on off b), AB (decide (0 < (bsT on off b).seq))]
  heap' := fun ⟨on, off, b⟩ => tH true on off
  pure := true
  find := fun args H => match args with
    | [.ptr id _, .int _ b] => (findT id H).map fun (on, off) => (on, off, b)
    | _ => none
set_option maxRecDepth 100000 in
set_option maxHeartbeats 4000000 in
theorem cTAct_ok : cTAct.Ok Try.prog 17 := by
  refine fun_ok (env_ok (Cons.cons cOver_ok Cons.nil)) mixedP Try.func17 (by decide) rfl cTAct [(6, 19), (8, 5), (2000008, 4), (4000008, 1), (4000008, 2), (4000008, 3)] (fun _ => rfl) (fun _ x => ⟨rfl, tH_ro x.1 x.2.1⟩) (fun _ => Nat.le_of_ble_eq_true rfl) ?_
  rintro ⟨on, off, b⟩ hp ha hb
  clear hp ha hb
  all_goals (repeat' (first
    | with_reducible refine iTr ?_
    | with_reducible refine iB ?_
    | intro _
    | exact True.intro
    | (show _ ∧ _
       first
        | refine aTT ?_
        | refine aTB ?_
        | refine aT ?_
        | refine aB ?_
        | refine a11 ?_
        | refine a01 ?_
        | refine a00 ?_
        | refine a10 ?_
        | (with_reducible refine And.intro rfl ?_)
        | refine And.intro ?_ ?_)
    | with_reducible exact rfl
    | with_reducible exact HEq.rfl
    | (show (_ : Option Nat) = _; exact rfl)
    | (show (_ : Option Blk) = _; exact rfl)
    | (with_reducible show (nodupB _ && _ && _ && _ && _) = true; exact (Eq.refl true))
    | (with_reducible show (nodupB _ && _ && _ && _) = true; exact (Eq.refl true))
    | (with_reducible show (nodupB _ && _ && _) = true; exact (Eq.refl true))
    | (with_reducible show freeOk _ _ = true; exact (Eq.refl true))
    | (with_reducible show wrOk _ _ _ _ _ = true; exact (Eq.refl true))
    | (show (_ : AV) = _; exact rfl)
    | (show (_ : Heap) = _; exact rfl)
    | (with_reducible show (_ || !_) = true; exact (Eq.refl true))
    | (with_reducible show Nat.beq _ _ = true; exact (Eq.refl true))))
  all_goals (first | (show (_ : Int) = _) | (show (_ : Bool) = _) | (show HEq _ _) | (show ∃ _ : LInv, _) | skip)
  all_goals (try (with_reducible exact rfl))
  all_goals try (refine ⟨⟨{i : Nat // SOv on i}, fun i => [(4, .ptr 1 p0), (7, AI i.1), (6, .ptr 2 p0), (0, .ptr 0 p0), (1, AI b)], fun i => ⟨3, [(2, some (.obj false [.int .i64 (bsT (on.take i.1) off b).block, .int .i64 (bsT (on.take i.1) off b).node, .int .i64 (bsT (on.take i.1) off b).seq])), (1, some (.obj false [.int .i64 0, .int .i64 0, .int .i64 0])), (0, some (.obj true [.vsl .atv on, .vsl .atv off]))]⟩, fun i => on.length - i.1⟩, ⟨⟨0, ?_⟩, [], ?_⟩, ?_⟩; rotate_right; rintro ⟨i, hS⟩)
  all_goals (repeat' (first
    | with_reducible refine iTr ?_
    | with_reducible refine iB ?_
    | intro _
    | exact True.intro
    | (show _ ∧ _
       first
        | refine aTT ?_
        | refine aTB ?_
        | refine aT ?_
        | refine aB ?_
        | refine a11 ?_
        | refine a01 ?_
        | refine a00 ?_
        | refine a10 ?_
        | (with_reducible refine And.intro rfl ?_)
        | refine And.intro ?_ ?_)
    | with_reducible exact rfl
    | with_reducible exact HEq.rfl
    | (show (_ : Option Nat) = _; exact rfl)
    | (show (_ : Option Blk) = _; exact rfl)
    | (with_reducible show (nodupB _ && _ && _ && _ && _) = true; exact (Eq.refl true))
    | (with_reducible show (nodupB _ && _ && _ && _) = true; exact (Eq.refl true))
    | (with_reducible show (nodupB _ && _ && _) = true; exact (Eq.refl true))
    | (with_reducible show freeOk _ _ = true; exact (Eq.refl true))
    | (with_reducible show wrOk _ _ _ _ _ = true; exact (Eq.refl true))
    | (show (_ : AV) = _; exact rfl)
    | (show (_ : Heap) = _; exact rfl)
    | (with_reducible show (_ || !_) = true; exact (Eq.refl true))
    | (with_reducible show Nat.beq _ _ = true; exact (Eq.refl true))))
  all_goals (first | (show (_ : Int) = _) | (show (_ : Bool) = _) | (show HEq _ _) | (show ∃ _ : LInv, _) | skip)
  all_goals (try (with_reducible exact rfl))
  all_goals try (refine ⟨⟨(i + 1 : Nat), ?_⟩, ?_, ?_⟩)
  all_goals (repeat' (first
    | with_reducible refine iTr ?_
    | with_reducible refine iB ?_
    | intro _
    | exact True.intro
    | (show _ ∧ _
       first
        | refine aTT ?_
        | refine aTB ?_
        | refine aT ?_
        | refine aB ?_
        | refine a11 ?_
        | refine a01 ?_
        | refine a00 ?_
        | refine a10 ?_
        | (with_reducible refine And.intro rfl ?_)
        | refine And.intro ?_ ?_)
    | with_reducible exact rfl
    | with_reducible exact HEq.rfl
    | (show (_ : Option Nat) = _; exact rfl)
    | (show (_ : Option Blk) = _; exact rfl)
    | (with_reducible show (nodupB _ && _ && _ && _ && _) = true; exact (Eq.refl true))
    | (with_reducible show (nodupB _ && _ && _ && _) = true; exact (Eq.refl true))
    | (with_reducible show (nodupB _ && _ && _) = true; exact (Eq.refl true))
    | (with_reducible show freeOk _ _ = true; exact (Eq.refl true))
    | (with_reducible show wrOk _ _ _ _ _ = true; exact (Eq.refl true))
    | (show (_ : AV) = _; exact rfl)
    | (show (_ : Heap) = _; exact rfl)
    | (with_reducible show (_ || !_) = true; exact (Eq.refl true))
    | (with_reducible show Nat.beq _ _ = true; exact (Eq.refl true))))
  all_goals (first | (show (_ : Int) = _) | (show (_ : Bool) = _) | (show HEq _ _) | (show ∃ _ : LInv, _) | skip)
  all_goals (try (with_reducible exact rfl))
  all_goals (try dsimp only at *)
  all_goals (try (with_reducible exact HEq.rfl))
  all_goals (try simp only [Int.toNat_natCast, decide_eq_true_eq, decide_eq_false_iff_not, beq_iff_eq, cond_true, cond_false, beq_eq_false_iff_ne, ne_eq, Bool.not_true] at *)
  all_goals (first
    | omega
    | exact ⟨Nat.zero_le _⟩
    | exact ⟨by omega⟩
    | exact wrap_succ (by omega)
    | rfl
    | (rw [bsT_succ (z := Ty.atv.dflt) (by omega), bsS_t (by assumption) (by assumption) (by assumption)]; done)
    | (rw [bsT_succ (z := Ty.atv.dflt) (by omega), bsS_f (fun h => by first | (have h1 := h.1; have h2 := h.2.1; have h3 := h.2.2; contradiction) | (have h1 := h.1; have h2 := h.2.1; have h3 := h.2.2; omega) | (simp_all; done))]; done)
    | (rw [List.take_of_length_le (by omega)]; done)
    | (have e : on.take i = on := List.take_of_length_le (by omega); simp only [e]; done)
    | skip)
def actT (on off : List Atv) (a : Atv) : List Atv × Bool := if a.seq < 1 ∨ a.seq ≤ ovT off a.block ∨ a.seq ≤ (bsT on off a.block).seq then (on, false) else (on ++ [a], true)
def cTActv : Con where
  X := List Atv × List Atv × Atv
  args := fun ⟨on, off, a⟩ => [pT, AAtv a]
  heap := fun ⟨on, off, a⟩ => tH false on off
  pre := fun ⟨on, off, a⟩ => on.length ≤ 1000
  res := fun ⟨on, off, a⟩ => AB (actT on off a).2
  heap' := fun ⟨on, off, a⟩ => tH false (actT on off a).1 off
  pure := false
  find := fun args H => match args with
    | [.ptr id _, .agg [.int _ b, .int _ n, .int _ s]] => (findT id H).map fun (on, off) => (on, off, ⟨b, n, s⟩)
    | _ => none
theorem actT_t {on off : List Atv} {a : Atv} (h : ¬ (a.seq < 1 ∨ a.seq ≤ ovT off a.block ∨ a.seq ≤ (bsT on off a.block).seq)) : actT on off a = (on ++ [a], true) := if_neg h
theorem actT_f {on off : List Atv} {a : Atv} (h : a.seq < 1 ∨ a.seq ≤ ovT off a.block ∨ a.seq ≤ (bsT on off a.block).seq) : actT on off a = (on, false) := if_pos h
set_option maxRecDepth 100000 in
set_option maxHeartbeats 4000000 in
theorem cTActv_ok : cTActv.Ok Try.prog 14 := by
  refine fun_ok (env_ok (Cons.cons cTAct_ok (Cons.cons cOver_ok Cons.nil))) mixedP Try.func14 (by decide) rfl cTActv [(2, 19), (4, 10), (2000004, 1), (2000004, 6), (2000004, 9), (4000004, 0), (5000004, 0), (6000004, 0), (3000004, 2), (3000004, 3), (3000004, 4), (3000004, 5), (3000004, 7), (4000004, 7), (3000004, 8), (4000004, 8)] (fun _ => rfl) (fun h => by cases h) (fun _ => Nat.le_of_ble_eq_true rfl) ?_
  rintro ⟨on, off, ⟨b, n, s⟩⟩ hp ha hb
  replace hp : on.length ≤ 1000 := hp
  clear ha hb
  all_goals (repeat' (first
    | with_reducible refine iTr ?_
    | with_reducible refine iB ?_
    | intro _
    | exact True.intro
    | (show _ ∧ _
       first
        | refine aTT ?_
        | refine aTB ?_
        | refine aT ?_
        | refine aB ?_
        | refine a11 ?_
        | refine a01 ?_
        | refine a00 ?_
        | refine a10 ?_
        | (with_reducible refine And.intro rfl ?_)
        | refine And.intro ?_ ?_)
    | with_reducible exact rfl
    | with_reducible exact HEq.rfl
    | (show (_ : Option Nat) = _; exact rfl)
    | (show (_ : Option Blk) = _; exact rfl)
    | (with_reducible show (nodupB _ && _ && _ && _ && _) = true; exact (Eq.refl true))
    | (with_reducible show (nodupB _ && _ && _ && _) = true; exact (Eq.refl true))
    | (with_reducible show (nodupB _ && _ && _) = true; exact (Eq.refl true))
    | (with_reducible show freeOk _ _ = true; exact (Eq.refl true))
    | (with_reducible show wrOk _ _ _ _ _ = true; exact (Eq.refl true))
    | (show (_ : AV) = _; exact rfl)
    | (show (_ : Heap) = _; exact rfl)
    | (with_reducible show (_ || !_) = true; exact (Eq.refl true))
    | (with_reducible show Nat.beq _ _ = true; exact (Eq.refl true))))
  all_goals (first | (show (_ : Int) = _) | (show (_ : Bool) = _) | (show HEq _ _) | (show ∃ _ : LInv, _) | skip)
  all_goals (try (with_reducible exact rfl))
  all_goals (try dsimp only at *)
  all_goals (try simp only [Bool.not_false, Bool.not_true, decide_eq_true_eq, decide_eq_false_iff_not, cond_true, cond_false] at *)
  all_goals (first
    | (rw [actT_f (by dsimp only; omega)]; first | done | rfl | exact HEq.rfl)
    | (rw [actT_t (by dsimp only; omega)]; first | done | rfl | exact HEq.rfl)
    | (simp; omega)
    | skip)
def cTDea : Con where
  X := List Atv × List Atv × Int × Int
  args := fun ⟨on, off, b, s⟩ => [pT, AI b, AI s]
  heap := fun ⟨on, off, b, s⟩ => tH false on off
  pre := fun ⟨on, off, b, s⟩ => off.length ≤ 1000
  res := fun _ => .tup []
  heap' := fun ⟨on, off, b, s⟩ => tH false on (off ++ [⟨b, 0, s⟩])
  pure := false
  find := fun args H => match args with
    | [.ptr id _, .int _ b, .int _ s] => (findT id H).map fun (on, off) => (on, off, b, s)
    | _ => none
set_option maxRecDepth 100000 in
set_option maxHeartbeats 4000000 in
theorem cTDea_ok : cTDea.Ok Try.prog 15 := by
  refine fun_ok (env_ok Cons.nil) mixedP Try.func15 (by decide) rfl cTDea [] (fun _ => rfl) (fun h => by cases h) (fun _ => Nat.le_of_ble_eq_true rfl) ?_
  rintro ⟨on, off, b, s⟩ hp ha hb
  replace hp : off.length ≤ 1000 := hp
  clear ha hb
  all_goals (repeat' (first
    | with_reducible refine iTr ?_
    | with_reducible refine iB ?_
    | intro _
    | exact True.intro
    | (show _ ∧ _
       first
        | refine aTT ?_
        | refine aTB ?_
        | refine aT ?_
        | refine aB ?_
        | refine a11 ?_
        | refine a01 ?_
        | refine a00 ?_
        | refine a10 ?_
        | (with_reducible refine And.intro rfl ?_)
        | refine And.intro ?_ ?_)
    | with_reducible exact rfl
    | with_reducible exact HEq.rfl
    | (show (_ : Option Nat) = _; exact rfl)
    | (show (_ : Option Blk) = _; exact rfl)
    | (with_reducible show (nodupB _ && _ && _ && _ && _) = true; exact (Eq.refl true))
    | (with_reducible show (nodupB _ && _ && _ && _) = true; exact (Eq.refl true))
    | (with_reducible show (nodupB _ && _ && _) = true; exact (Eq.refl true))
    | (with_reducible show freeOk _ _ = true; exact (Eq.refl true))
    | (with_reducible show wrOk _ _ _ _ _ = true; exact (Eq.refl true))
    | (show (_ : AV) = _; exact rfl)
    | (show (_ : Heap) = _; exact rfl)
    | (with_reducible show (_ || !_) = true; exact (Eq.refl true))
    | (with_reducible show Nat.beq _ _ = true; exact (Eq.refl true))))
  all_goals (first | (show (_ : Int) = _) | (show (_ : Bool) = _) | (show HEq _ _) | (show ∃ _ : LInv, _) | skip)
  all_goals (try (with_reducible exact rfl))
  all_goals (try dsimp only at *)
  all_goals (first
    | (with_reducible exact HEq.rfl)
    | (simp; omega)
    | exact HEq.rfl
    | skip)
end Go.Proofs.Ytjapmlolgfgbaaa

