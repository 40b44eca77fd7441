/- Contracts of what the arbiter reaches in the library, and of the comparison of lists. No condition. -/
import Derived.Test.YtipibgamajhgbaaGY
namespace Go.Proofs.Ytipibgamajhgbaa
open Go.RowKit
set_option linter.unusedVariables false
set_option linter.unusedSimpArgs false
abbrev AAtv (a : Atv) : AV := .agg [.int .i64 a.block, .int .i64 a.node, .int .i64 a.seq]
theorem wrap_id {n : Int} (h1 : -9223372036854775808 ≤ n) (h2 : n < 9223372036854775808) : IntKind.i64.wrap n = n := by
  rw [wrap_i64]
  unfold wrap64
  omega
/-- A length that is far from any bound. -/
structure Sm (n : Nat) : Prop where
  le : n ≤ 1000000
/-- A list that is given as whatever slice. -/
def slI (H : Heap) : AV → Option (List Int)
  | .vsl .int xs => some xs
  | .nils => some []
  | .slc id => match H.get id with
    | some (.seq _ _ .int xs) => some xs
    | _ => none
  | _ => none
def cCloneI : Con where
  X := List Int
  args := fun xs => [.vsl .int xs]
  heap := fun xs => hp0
  pre := fun xs => Sm xs.length
  res := fun xs => .slc 0
  heap' := fun xs => ⟨1, [(0, some (.seq false 3 .int xs))]⟩
  pure := false
  find := fun args H => match args with
    | [a] => slI H a
    | _ => none
set_option maxHeartbeats 4000000 in
theorem cCloneI_ok : cCloneI.Ok Try.prog 77 := by
  refine fun_ok (env_ok Cons.nil) mixedP Try.func77 (by decide) rfl cCloneI [] (fun _ => rfl) (fun h => by cases h) (fun _ => Nat.le_of_ble_eq_true rfl) ?_
  rintro (xs : List Int) hp ha hb
  replace hp : xs.length ≤ 1000000 := hp.le
  all_goals (repeat' (first
    | with_reducible refine iTr ?_
    | with_reducible refine iB ?_
    | intro _
    | exact True.intro
    | (show _ ∧ _
       first
        | refine aTT ?_
        | refine aTB ?_
        | refine aT ?_
        | refine aB ?_
        | refine a11 ?_
        | refine a01 ?_
        | refine a00 ?_
        | refine a10 ?_
        | (with_reducible refine And.intro rfl ?_)
        | refine And.intro ?_ ?_)
    | with_reducible exact rfl
    | with_reducible exact HEq.rfl
    | (show (_ : Option Nat) = _; exact rfl)
    | (show (_ : Option Blk) = _; exact rfl)
    | (with_reducible show (nodupB _ && _ && _ && _ && _) = true; exact (Eq.refl true))
    | (with_reducible show (nodupB _ && _ && _ && _) = true; exact (Eq.refl true))
    | (with_reducible show (nodupB _ && _ && _) = true; exact (Eq.refl true))
    | (with_reducible show freeOk _ _ = true; exact (Eq.refl true))
    | (with_reducible show wrOk _ _ _ _ _ = true; exact (Eq.refl true))
    | (show (_ : AV) = _; exact rfl)
    | (show (_ : Heap) = _; exact rfl)
    | (with_reducible show (_ || !_) = true; exact (Eq.refl true))
    | (with_reducible show Nat.beq _ _ = true; exact (Eq.refl true))))
  all_goals (first | (show (_ : Int) = _) | (show (_ : Bool) = _) | (show HEq _ _) | (show ∃ _ : LInv, _) | skip)
  all_goals (try (with_reducible exact rfl))
  all_goals (try apply heq_of_eq)
  all_goals (first | (show (0 + xs.length) * 8 ≤ _; omega) | skip)
  all_goals (first | omega | (exact List.eq_nil_of_length_eq_zero ‹_›) | (exact (List.eq_nil_of_length_eq_zero ‹_›).symm) | (simp; done) | skip)
def cCloneR : Con where
  X := List Row12
  args := fun xs => [.slc 0]
  heap := fun xs => ⟨1, [(0, some (.seq true 124 .row12 xs))]⟩
  pre := fun xs => xs.length ≤ 64
  res := fun xs => .slc 1
  heap' := fun xs => ⟨2, [(1, some (.seq false 124 .row12 xs)), (0, some (.seq true 124 .row12 xs))]⟩
  pure := false
  find := fun args H => match args with
    | [.slc id] => match H.get id with
      | some (.seq _ _ .row12 xs) => some xs
      | _ => none
    | _ => none
set_option maxHeartbeats 4000000 in
theorem cCloneR_ok : cCloneR.Ok Try.prog 78 := by
  refine fun_ok (env_ok Cons.nil) mixedP Try.func78 (by decide) rfl cCloneR [] (fun _ => rfl) (fun h => by cases h) (fun _ => Nat.le_of_ble_eq_true rfl) ?_
  rintro (xs : List Row12) hp ha hb
  replace hp : xs.length ≤ 64 := hp
  all_goals (repeat' (first
    | with_reducible refine iTr ?_
    | with_reducible refine iB ?_
    | intro _
    | exact True.intro
    | (show _ ∧ _
       first
        | refine aTT ?_
        | refine aTB ?_
        | refine aT ?_
        | refine aB ?_
        | refine a11 ?_
        | refine a01 ?_
        | refine a00 ?_
        | refine a10 ?_
        | (with_reducible refine And.intro rfl ?_)
        | refine And.intro ?_ ?_)
    | with_reducible exact rfl
    | with_reducible exact HEq.rfl
    | (show (_ : Option Nat) = _; exact rfl)
    | (show (_ : Option Blk) = _; exact rfl)
    | (with_reducible show (nodupB _ && _ && _ && _ && _) = true; exact (Eq.refl true))
    | (with_reducible show (nodupB _ && _ && _ && _) = true; exact (Eq.refl true))
    | (with_reducible show (nodupB _ && _ && _) = true; exact (Eq.refl true))
    | (with_reducible show freeOk _ _ = true; exact (Eq.refl true))
    | (with_reducible show wrOk _ _ _ _ _ = true; exact (Eq.refl true))
    | (show (_ : AV) = _; exact rfl)
    | (show (_ : Heap) = _; exact rfl)
    | (with_reducible show (_ || !_) = true; exact (Eq.refl true))
    | (with_reducible show Nat.beq _ _ = true; exact (Eq.refl true))))
  all_goals (first | (show (_ : Int) = _) | (show (_ : Bool) = _) | (show HEq _ _) | (show ∃ _ : LInv, _) | skip)
  all_goals (try (with_reducible exact rfl))
  all_goals (try apply heq_of_eq)
  all_goals (first | (show (0 + xs.length) * 128 ≤ _; omega) | skip)
  all_goals (first | omega | (exact List.eq_nil_of_length_eq_zero ‹_›) | (exact (List.eq_nil_of_length_eq_zero ‹_›).symm) | (simp; done) | skip)
def cInts : Con where
  X := List Int × List Int
  args := fun ⟨xs, ys⟩ => [.vsl .int xs, .vsl .int ys]
  heap := fun _ => hp0
  pre := fun _ => True
  res := fun ⟨xs, ys⟩ => AB (decide (xs = ys))
  heap' := fun _ => hp0
  pure := true
  find := fun args H => match args with
    | [a, b] => (slI H a).bind fun xs => (slI H b).map fun ys => (xs, ys)
    | _ => none
theorem take_succ_int {xs ys : List Int} {i : Nat} {z : Int} (hl : xs.length = ys.length) (hi : i < xs.length) (ht : xs.take i = ys.take i) (he : xs.getD i z = ys.getD i z) : xs.take (i + 1) = ys.take (i + 1) := by
  rw [List.take_add_one, List.take_add_one, ht, List.getElem?_eq_getElem hi, List.getElem?_eq_getElem (by omega)]
  rw [List.getD_eq_getElem?_getD, List.getD_eq_getElem?_getD, List.getElem?_eq_getElem hi, List.getElem?_eq_getElem (by omega)] at he
  simp at he
  simp [he]
structure SN (xs ys : List Int) (i : Nat) : Prop where
  le : i ≤ xs.length
  len : xs.length = ys.length
  eq : xs.take i = ys.take i
set_option maxHeartbeats 4000000 in
theorem cInts_ok : cInts.Ok Try.prog 18 := by
  refine fun_ok (env_ok Cons.nil) mixedP Try.func18 (by decide) rfl cInts [(6, 8)] (fun _ => rfl) (fun _ _ => ⟨rfl, fun id k h => by cases h⟩) (fun _ => Nat.le_of_ble_eq_true rfl) ?_
  rintro ⟨xs, ys⟩ hp ha hb
  all_goals (repeat' (first
    | with_reducible refine iTr ?_
    | with_reducible refine iB ?_
    | intro _
    | exact True.intro
    | (show _ ∧ _
       first
        | refine aTT ?_
        | refine aTB ?_
        | refine aT ?_
        | refine aB ?_
        | refine a11 ?_
        | refine a01 ?_
        | refine a00 ?_
        | refine a10 ?_
        | (with_reducible refine And.intro rfl ?_)
        | refine And.intro ?_ ?_)
    | with_reducible exact rfl
    | with_reducible exact HEq.rfl
    | (show (_ : Option Nat) = _; exact rfl)
    | (show (_ : Option Blk) = _; exact rfl)
    | (with_reducible show (nodupB _ && _ && _ && _ && _) = true; exact (Eq.refl true))
    | (with_reducible show (nodupB _ && _ && _ && _) = true; exact (Eq.refl true))
    | (with_reducible show (nodupB _ && _ && _) = true; exact (Eq.refl true))
    | (with_reducible show freeOk _ _ = true; exact (Eq.refl true))
    | (with_reducible show wrOk _ _ _ _ _ = true; exact (Eq.refl true))
    | (show (_ : AV) = _; exact rfl)
    | (show (_ : Heap) = _; exact rfl)
    | (with_reducible show (_ || !_) = true; exact (Eq.refl true))
    | (with_reducible show Nat.beq _ _ = true; exact (Eq.refl true))))
  all_goals (first | (show (_ : Int) = _) | (show (_ : Bool) = _) | (show HEq _ _) | (show ∃ _ : LInv, _) | skip)
  all_goals (try (with_reducible exact rfl))
  all_goals try (refine ⟨⟨{i : Nat // SN xs ys i}, fun i => [(5, AI i.1), (0, .vsl .int xs), (1, .vsl .int ys)], fun i => ⟨0, []⟩, fun i => xs.length - i.1⟩, ⟨⟨0, ?_⟩, [], ?_⟩, ?_⟩; rotate_right; rintro ⟨i, hS⟩)
  all_goals (repeat' (first
    | with_reducible refine iTr ?_
    | with_reducible refine iB ?_
    | intro _
    | exact True.intro
    | (show _ ∧ _
       first
        | refine aTT ?_
        | refine aTB ?_
        | refine aT ?_
        | refine aB ?_
        | refine a11 ?_
        | refine a01 ?_
        | refine a00 ?_
        | refine a10 ?_
        | (with_reducible refine And.intro rfl ?_)
        | refine And.intro ?_ ?_)
    | with_reducible exact rfl
    | with_reducible exact HEq.rfl
    | (show (_ : Option Nat) = _; exact rfl)
    | (show (_ : Option Blk) = _; exact rfl)
    | (with_reducible show (nodupB _ && _ && _ && _ && _) = true; exact (Eq.refl true))
    | (with_reducible show (nodupB _ && _ && _ && _) = true; exact (Eq.refl true))
    | (with_reducible show (nodupB _ && _ && _) = true; exact (Eq.refl true))
    | (with_reducible show freeOk _ _ = true; exact (Eq.refl true))
    | (with_reducible show wrOk _ _ _ _ _ = true; exact (Eq.refl true))
    | (show (_ : AV) = _; exact rfl)
    | (show (_ : Heap) = _; exact rfl)
    | (with_reducible show (_ || !_) = true; exact (Eq.refl true))
    | (with_reducible show Nat.beq _ _ = true; exact (Eq.refl true))))
  all_goals (first | (show (_ : Int) = _) | (show (_ : Bool) = _) | (show HEq _ _) | (show ∃ _ : LInv, _) | skip)
  all_goals (try (with_reducible exact rfl))
  all_goals try (refine ⟨⟨i + 1, ?_⟩, ?_, ?_⟩)
  all_goals (repeat' (first
    | with_reducible refine iTr ?_
    | with_reducible refine iB ?_
    | intro _
    | exact True.intro
    | (show _ ∧ _
       first
        | refine aTT ?_
        | refine aTB ?_
        | refine aT ?_
        | refine aB ?_
        | refine a11 ?_
        | refine a01 ?_
        | refine a00 ?_
        | refine a10 ?_
        | (with_reducible refine And.intro rfl ?_)
        | refine And.intro ?_ ?_)
    | with_reducible exact rfl
    | with_reducible exact HEq.rfl
    | (show (_ : Option Nat) = _; exact rfl)
    | (show (_ : Option Blk) = _; exact rfl)
    | (with_reducible show (nodupB _ && _ && _ && _ && _) = true; exact (Eq.refl true))
    | (with_reducible show (nodupB _ && _ && _ && _) = true; exact (Eq.refl true))
    | (with_reducible show (nodupB _ && _ && _) = true; exact (Eq.refl true))
    | (with_reducible show freeOk _ _ = true; exact (Eq.refl true))
    | (with_reducible show wrOk _ _ _ _ _ = true; exact (Eq.refl true))
    | (show (_ : AV) = _; exact rfl)
    | (show (_ : Heap) = _; exact rfl)
    | (with_reducible show (_ || !_) = true; exact (Eq.refl true))
    | (with_reducible show Nat.beq _ _ = true; exact (Eq.refl true))))
  all_goals (first | (show (_ : Int) = _) | (show (_ : Bool) = _) | (show HEq _ _) | (show ∃ _ : LInv, _) | skip)
  all_goals (try (with_reducible exact rfl))
  all_goals (try dsimp only at *)
  all_goals (try simp only [Int.toNat_natCast, decide_eq_true_eq, decide_eq_false_iff_not, bne_iff_ne, ne_eq, bne_eq_false_iff_eq, Int.natCast_inj, Bool.not_eq_true', Bool.not_eq_false'] at *)
  all_goals (first
    | omega
    | (symm; refine decide_eq_false fun e => ?_; subst e; first | exact absurd rfl ‹_› | simp_all)
    | exact ⟨Nat.zero_le _, by omega, rfl⟩
    | exact ⟨by omega, hS.len, take_succ_int hS.len (by omega) hS.eq (by assumption)⟩
    | exact wrap_succ (by omega)
    | (symm; refine decide_eq_true ?_; have h1 := hS.eq; have h2 := hS.len; rw [List.take_of_length_le (by omega), List.take_of_length_le (by omega)] at h1; exact h1)
    | skip)
end Go.Proofs.Ytipibgamajhgbaa

namespace Go.Proofs.Ytipibgamajhgbaa
open Go.RowKit
set_option linter.unusedVariables false
set_option linter.unusedSimpArgs false
abbrev zA : Atv := ⟨0, 0, 0⟩
abbrev dRow : Row12 := Ty.row12.dflt
def zRow : Row12 := ⟨0, zA, false, false, List.replicate 64 false, []⟩
def aH (ro : Bool) (n : Int) (rows : List Row12) : Heap := ⟨2, [(1, some (.seq ro 124 .row12 rows)), (0, some (.obj true [.int .i64 n, .slc 1]))]⟩
theorem aH_ro (n : Int) (rows : List Row12) : ∀ id k, (aH true n rows).get id = some k → k.ro = true
  | 0, k, h => by cases h; rfl
  | 1, k, h => by cases h; rfl
  | _ + 2, k, h => by cases h
abbrev pA : AV := .ptr 0 ⟨0, 0, 0, none⟩
def findA (id : Nat) (H : Heap) : Option (Int × List Row12) := match H.get id with
  | some (.obj _ [.int _ n, .slc s]) => match H.get s with
    | some (.seq _ _ .row12 rows) => some (n, rows)
    | _ => none
  | _ => none
def inR (rows : List Row12) (b : Int) : Bool := decide (0 ≤ b) && decide (b < rows.length)
def isR (n : Int) (rows : List Row12) (b nd : Int) : Bool := inR rows b && (decide (0 ≤ nd) && decide (nd < n))
def getR (rows : List Row12) (b : Int) : Row12 := rows.getD b.toNat dRow
def setR (rows : List Row12) (b : Int) (r : Row12) : List Row12 := rows.set b.toNat r
def newN (n : Int) : Int := if (64 : Int) < (if n < 0 then 0 else n) then 64 else if n < 0 then 0 else n
def newR (b : Int) : List Row12 := List.replicate (newN b).toNat zRow
def quiet (r : Row12) : Bool := r.on || r.ending || decide (r.queue.length = 0)
def nextA (b : Int) (r : Row12) : Atv := ⟨b, r.queue.getD 0 0, IntKind.i64.wrap (r.seq + 1)⟩
def nextR (b : Int) (r : Row12) : Row12 × Atv × Bool :=
  if quiet r then (r, zA, false) else (⟨IntKind.i64.wrap (r.seq + 1), nextA b r, true, r.ending, r.knows, r.queue.drop 1⟩, nextA b r, true)
def curR (rows : List Row12) (b : Int) : Atv × Bool := if inR rows b && (getR rows b).on then ((getR rows b).act, true) else (zA, false)
def waitR (rows : List Row12) (b : Int) : List Int := if inR rows b then (getR rows b).queue else []
theorem inR_iff {rows : List Row12} {b : Int} : inR rows b = true ↔ 0 ≤ b ∧ b < rows.length := by simp [inR]
theorem inR_false {rows : List Row12} {b : Int} (h : ¬ (0 ≤ b ∧ b < rows.length)) : inR rows b = false := by
  cases e : inR rows b with
  | false => rfl
  | true => exact absurd (inR_iff.1 e) h
theorem getD_set_self {α : Type} {xs : List α} {i : Nat} {v d : α} (h : i < xs.length) : (xs.set i v).getD i d = v := by
  rw [List.getD_eq_getElem?_getD, List.getElem?_set_self h]; rfl
theorem set_getD_self {α : Type} {xs : List α} {i : Nat} {d : α} (h : i < xs.length) : xs.set i (xs.getD i d) = xs := by
  rw [List.getD_eq_getElem?_getD, List.getElem?_eq_getElem h]
  simp
theorem newN_le (n : Int) : 0 ≤ newN n ∧ newN n ≤ 64 := by unfold newN; split <;> (try split) <;> omega
theorem next_q {b : Int} {r : Row12} (h : quiet r = true) : nextR b r = (r, zA, false) := by unfold nextR; rw [if_pos h]
theorem next_n {b : Int} {r : Row12} (h : quiet r = false) : nextR b r = (⟨IntKind.i64.wrap (r.seq + 1), nextA b r, true, r.ending, r.knows, r.queue.drop 1⟩, nextA b r, true) := by unfold nextR; rw [if_neg (by rw [h]; decide)]
theorem quiet_t {r : Row12} (h : (bif false then true else ((r.queue.length : Int) == 0)) = true) : quiet r = true := by
  simp at h
  simp [quiet, h]
theorem quiet_f {r : Row12} (h1 : r.on = false) (h2 : (bif false then true else r.ending) = false) (h : (bif false then true else ((r.queue.length : Int) == 0)) = false) : quiet r = false ∧ ¬ r.queue.length = 0 := by
  simp at h h2
  simp [quiet, h, h1, h2]
theorem quiet_on {r : Row12} (h : r.on = true) : quiet r = true := by simp [quiet, h]
theorem quiet_e {r : Row12} (h : (bif false then true else r.ending) = true) : quiet r = true := by
  simp at h
  simp [quiet, h]
def cNewA : Con where
  X := Int × Int
  args := fun ⟨n, b⟩ => [AI n, AI b]
  heap := fun _ => hp0
  pre := fun _ => True
  res := fun _ => pA
  heap' := fun ⟨n, b⟩ => ⟨2, [(1, some (.seq false 124 .row12 (newR b))), (0, some (.obj false [.int .i64 (newN n), .slc 1]))]⟩
  pure := false
  find := fun args H => match args with
    | [.int _ n, .int _ b] => some (n, b)
    | _ => none
set_option maxHeartbeats 4000000 in
theorem cNewA_ok : cNewA.Ok Try.prog 54 := by
  refine fun_ok (env_ok Cons.nil) mixedP Try.func54 (by decide) rfl cNewA [] (fun _ => rfl) (fun h => by cases h) (fun _ => Nat.le_of_ble_eq_true rfl) ?_
  rintro ⟨n, b⟩ hp ha hb
  all_goals (repeat' (first
    | with_reducible refine iTr ?_
    | with_reducible refine iB ?_
    | intro _
    | exact True.intro
    | (show _ ∧ _
       first
        | refine aTT ?_
        | refine aTB ?_
        | refine aT ?_
        | refine aB ?_
        | refine a11 ?_
        | refine a01 ?_
        | refine a00 ?_
        | refine a10 ?_
        | (with_reducible refine And.intro rfl ?_)
        | refine And.intro ?_ ?_)
    | with_reducible exact rfl
    | with_reducible exact HEq.rfl
    | (show (_ : Option Nat) = _; exact rfl)
    | (show (_ : Option Blk) = _; exact rfl)
    | (with_reducible show (nodupB _ && _ && _ && _ && _) = true; exact (Eq.refl true))
    | (with_reducible show (nodupB _ && _ && _ && _) = true; exact (Eq.refl true))
    | (with_reducible show (nodupB _ && _ && _) = true; exact (Eq.refl true))
    | (with_reducible show freeOk _ _ = true; exact (Eq.refl true))
    | (with_reducible show wrOk _ _ _ _ _ = true; exact (Eq.refl true))
    | (show (_ : AV) = _; exact rfl)
    | (show (_ : Heap) = _; exact rfl)
    | (with_reducible show (_ || !_) = true; exact (Eq.refl true))
    | (with_reducible show Nat.beq _ _ = true; exact (Eq.refl true))))
  all_goals (first | (show (_ : Int) = _) | (show (_ : Bool) = _) | (show HEq _ _) | (show ∃ _ : LInv, _) | skip)
  all_goals (try (with_reducible exact rfl))
  all_goals (try apply heq_of_eq)
  all_goals (first
    | exact (newN_le b).1
    | (have := newN_le b; show newN b * 128 ≤ _; omega)
    | (have := newN_le b; show newN b ≤ _; omega)
    | rfl
    | skip)
def caIs : Con where
  X := Int × List Row12 × Int × Int
  args := fun ⟨n, rows, b, nd⟩ => [pA, AI b, AI nd]
  heap := fun ⟨n, rows, b, nd⟩ => aH true n rows
  pre := fun _ => True
  res := fun ⟨n, rows, b, nd⟩ => AB (isR n rows b nd)
  heap' := fun ⟨n, rows, b, nd⟩ => aH true n rows
  pure := true
  find := fun args H => match args with
    | [.ptr id _, .int _ b, .int _ nd] => (findA id H).map fun (n, rows) => (n, rows, b, nd)
    | _ => none
set_option maxHeartbeats 4000000 in
theorem caIs_ok : caIs.Ok Try.prog 88 := by
  refine fun_ok (env_ok Cons.nil) mixedP Try.func88 (by decide) rfl caIs [] (fun _ => rfl) (fun _ x => ⟨rfl, aH_ro x.1 x.2.1⟩) (fun _ => Nat.le_of_ble_eq_true rfl) ?_
  rintro ⟨n, rows, b, nd⟩ hp ha hb
  all_goals (repeat' (first
    | with_reducible refine iTr ?_
    | with_reducible refine iB ?_
    | intro _
    | exact True.intro
    | (show _ ∧ _
       first
        | refine aTT ?_
        | refine aTB ?_
        | refine aT ?_
        | refine aB ?_
        | refine a11 ?_
        | refine a01 ?_
        | refine a00 ?_
        | refine a10 ?_
        | (with_reducible refine And.intro rfl ?_)
        | refine And.intro ?_ ?_)
    | with_reducible exact rfl
    | with_reducible exact HEq.rfl
    | (show (_ : Option Nat) = _; exact rfl)
    | (show (_ : Option Blk) = _; exact rfl)
    | (with_reducible show (nodupB _ && _ && _ && _ && _) = true; exact (Eq.refl true))
    | (with_reducible show (nodupB _ && _ && _ && _) = true; exact (Eq.refl true))
    | (with_reducible show (nodupB _ && _ && _) = true; exact (Eq.refl true))
    | (with_reducible show freeOk _ _ = true; exact (Eq.refl true))
    | (with_reducible show wrOk _ _ _ _ _ = true; exact (Eq.refl true))
    | (show (_ : AV) = _; exact rfl)
    | (show (_ : Heap) = _; exact rfl)
    | (with_reducible show (_ || !_) = true; exact (Eq.refl true))
    | (with_reducible show Nat.beq _ _ = true; exact (Eq.refl true))))
  all_goals (first | (show (_ : Int) = _) | (show (_ : Bool) = _) | (show HEq _ _) | (show ∃ _ : LInv, _) | skip)
  all_goals (try (with_reducible exact rfl))
  all_goals (first | (simp_all [isR, inR]; done) | (simp_all [isR, inR]; omega) | skip)
def cCur : Con where
  X := Int × List Row12 × Int
  args := fun ⟨n, rows, b⟩ => [pA, AI b]
  heap := fun ⟨n, rows, b⟩ => aH true n rows
  pre := fun _ => True
  res := fun ⟨n, rows, b⟩ => .tup [AAtv (curR rows b).1, AB (curR rows b).2]
  heap' := fun ⟨n, rows, b⟩ => aH true n rows
  pure := true
  find := fun args H => match args with
    | [.ptr id _, .int _ b] => (findA id H).map fun (n, rows) => (n, rows, b)
    | _ => none
set_option maxHeartbeats 4000000 in
theorem cCur_ok : cCur.Ok Try.prog 37 := by
  refine fun_ok (env_ok Cons.nil) mixedP Try.func37 (by decide) rfl cCur [] (fun _ => rfl) (fun _ x => ⟨rfl, aH_ro x.1 x.2.1⟩) (fun _ => Nat.le_of_ble_eq_true rfl) ?_
  rintro ⟨n, rows, b⟩ hp ha hb
  clear hp ha hb
  all_goals (repeat' (first
    | with_reducible refine iTr ?_
    | with_reducible refine iB ?_
    | intro _
    | exact True.intro
    | (show _ ∧ _
       first
        | refine aTT ?_
        | refine aTB ?_
        | refine aT ?_
        | refine aB ?_
        | refine a11 ?_
        | refine a01 ?_
        | refine a00 ?_
        | refine a10 ?_
        | (with_reducible refine And.intro rfl ?_)
        | refine And.intro ?_ ?_)
    | with_reducible exact rfl
    | with_reducible exact HEq.rfl
    | (show (_ : Option Nat) = _; exact rfl)
    | (show (_ : Option Blk) = _; exact rfl)
    | (with_reducible show (nodupB _ && _ && _ && _ && _) = true; exact (Eq.refl true))
    | (with_reducible show (nodupB _ && _ && _ && _) = true; exact (Eq.refl true))
    | (with_reducible show (nodupB _ && _ && _) = true; exact (Eq.refl true))
    | (with_reducible show freeOk _ _ = true; exact (Eq.refl true))
    | (with_reducible show wrOk _ _ _ _ _ = true; exact (Eq.refl true))
    | (show (_ : AV) = _; exact rfl)
    | (show (_ : Heap) = _; exact rfl)
    | (with_reducible show (_ || !_) = true; exact (Eq.refl true))
    | (with_reducible show Nat.beq _ _ = true; exact (Eq.refl true))))
  all_goals (first | (show (_ : Int) = _) | (show (_ : Bool) = _) | (show HEq _ _) | (show ∃ _ : LInv, _) | skip)
  all_goals (try (with_reducible exact rfl))
  all_goals (try dsimp only at *)
  all_goals (try simp only [Bool.not_false, Bool.not_true, decide_eq_true_eq, decide_eq_false_iff_not, Bool.cond_true, Bool.cond_false, cond_true, cond_false, Bool.not_eq_true', Bool.not_eq_false'] at *)
  all_goals (first
    | omega
    | (have hx : inR rows b = false := inR_false (by omega); simp [curR, hx]; done)
    | (have hx : inR rows b = true := inR_iff.2 ⟨by omega, by omega⟩; simp_all [curR, getR, dRow]; done)
    | skip)
def cWait : Con where
  X := Int × List Row12 × Int
  args := fun ⟨n, rows, b⟩ => [pA, AI b]
  heap := fun ⟨n, rows, b⟩ => aH true n rows
  pre := fun ⟨n, rows, b⟩ => Sm (waitR rows b).length
  res := fun ⟨n, rows, b⟩ => .vsl .int (waitR rows b)
  heap' := fun ⟨n, rows, b⟩ => aH true n rows
  pure := true
  find := fun args H => match args with
    | [.ptr id _, .int _ b] => (findA id H).map fun (n, rows) => (n, rows, b)
    | _ => none
set_option maxRecDepth 100000 in
set_option maxHeartbeats 4000000 in
theorem cWait_ok : cWait.Ok Try.prog 49 := by
  refine fun_ok (env_ok (Cons.cons cCloneI_ok Cons.nil)) mixedP Try.func49 (by decide) rfl cWait [] (fun _ => rfl) (fun _ x => ⟨rfl, aH_ro x.1 x.2.1⟩) (fun _ => Nat.le_of_ble_eq_true rfl) ?_
  rintro ⟨n, rows, b⟩ hp ha hb
  replace hp : Sm (waitR rows b).length := hp
  clear ha hb
  all_goals (repeat' (first
    | with_reducible refine iTr ?_
    | with_reducible refine iB ?_
    | intro _
    | exact True.intro
    | (show _ ∧ _
       first
        | refine aTT ?_
        | refine aTB ?_
        | refine aT ?_
        | refine aB ?_
        | refine a11 ?_
        | refine a01 ?_
        | refine a00 ?_
        | refine a10 ?_
        | (with_reducible refine And.intro rfl ?_)
        | refine And.intro ?_ ?_)
    | with_reducible exact rfl
    | with_reducible exact HEq.rfl
    | (show (_ : Option Nat) = _; exact rfl)
    | (show (_ : Option Blk) = _; exact rfl)
    | (with_reducible show (nodupB _ && _ && _ && _ && _) = true; exact (Eq.refl true))
    | (with_reducible show (nodupB _ && _ && _ && _) = true; exact (Eq.refl true))
    | (with_reducible show (nodupB _ && _ && _) = true; exact (Eq.refl true))
    | (with_reducible show freeOk _ _ = true; exact (Eq.refl true))
    | (with_reducible show wrOk _ _ _ _ _ = true; exact (Eq.refl true))
    | (show (_ : AV) = _; exact rfl)
    | (show (_ : Heap) = _; exact rfl)
    | (with_reducible show (_ || !_) = true; exact (Eq.refl true))
    | (with_reducible show Nat.beq _ _ = true; exact (Eq.refl true))))
  all_goals (first | (show (_ : Int) = _) | (show (_ : Bool) = _) | (show HEq _ _) | (show ∃ _ : LInv, _) | skip)
  all_goals (try (with_reducible exact rfl))
  all_goals (try dsimp only at *)
  all_goals (try simp only [Bool.not_false, Bool.not_true, decide_eq_true_eq, decide_eq_false_iff_not, Bool.cond_true, Bool.cond_false, cond_true, cond_false, Bool.not_eq_true', Bool.not_eq_false'] at *)
  all_goals (first
    | omega
    | (show waitR rows b = []; have hx : inR rows b = false := inR_false (by omega); simp [waitR, hx]; done)
    | (have hx : inR rows b = true := inR_iff.2 ⟨by omega, by omega⟩; have e : waitR rows b = (getR rows b).queue := (by simp [waitR, hx]); first | (rw [e] at hp; exact hp) | (apply heq_of_eq; rw [e]; rfl))
    | skip)
def cnext : Con where
  X := Int × List Row12 × Int
  args := fun ⟨n, rows, b⟩ => [pA, AI b]
  heap := fun ⟨n, rows, b⟩ => aH false n rows
  pre := fun ⟨n, rows, b⟩ => inR rows b = true
  res := fun ⟨n, rows, b⟩ => .tup [AAtv (nextR b (getR rows b)).2.1, AB (nextR b (getR rows b)).2.2]
  heap' := fun ⟨n, rows, b⟩ => aH false n (setR rows b (nextR b (getR rows b)).1)
  pure := false
  find := fun args H => match args with
    | [.ptr id _, .int _ b] => (findA id H).map fun (n, rows) => (n, rows, b)
    | _ => none
set_option maxRecDepth 100000 in
set_option maxHeartbeats 8000000 in
theorem cnext_ok : cnext.Ok Try.prog 89 := by
  refine fun_ok (env_ok Cons.nil) mixedP Try.func89 (by decide) rfl cnext [(5, 17), (2000005, 16), (4000005, 1)] (fun _ => rfl) (fun h => by cases h) (fun _ => Nat.le_of_ble_eq_true rfl) ?_
  rintro ⟨n, rows, b⟩ hp ha hb
  replace hp : inR rows b = true := hp
  clear ha hb
  all_goals (repeat' (first
    | with_reducible refine iTr ?_
    | with_reducible refine iB ?_
    | intro _
    | exact True.intro
    | (show _ ∧ _
       first
        | refine aTT ?_
        | refine aTB ?_
        | refine aT ?_
        | refine aB ?_
        | refine a11 ?_
        | refine a01 ?_
        | refine a00 ?_
        | refine a10 ?_
        | (with_reducible refine And.intro rfl ?_)
        | refine And.intro ?_ ?_)
    | with_reducible exact rfl
    | with_reducible exact HEq.rfl
    | (show (_ : Option Nat) = _; exact rfl)
    | (show (_ : Option Blk) = _; exact rfl)
    | (with_reducible show (nodupB _ && _ && _ && _ && _) = true; exact (Eq.refl true))
    | (with_reducible show (nodupB _ && _ && _ && _) = true; exact (Eq.refl true))
    | (with_reducible show (nodupB _ && _ && _) = true; exact (Eq.refl true))
    | (with_reducible show freeOk _ _ = true; exact (Eq.refl true))
    | (with_reducible show wrOk _ _ _ _ _ = true; exact (Eq.refl true))
    | (show (_ : AV) = _; exact rfl)
    | (show (_ : Heap) = _; exact rfl)
    | (with_reducible show (_ || !_) = true; exact (Eq.refl true))
    | (with_reducible show Nat.beq _ _ = true; exact (Eq.refl true))))
  all_goals (first | (show (_ : Int) = _) | (show (_ : Bool) = _) | (show HEq _ _) | (show ∃ _ : LInv, _) | skip)
  all_goals (try (with_reducible exact rfl))
  all_goals (try dsimp only at *)
  all_goals (have hp2 := inR_iff.1 hp; have hlt : b.toNat < rows.length := (by omega); obtain ⟨r, hr⟩ : ∃ r, r = rows.getD b.toNat dRow := ⟨_, rfl⟩; have hg : getR rows b = r := hr.symm)
  all_goals (have hlt2 : b.toNat < rows.length ∧ True := ⟨hlt, trivial⟩)
  all_goals (try simp only [List.length_set, getD_set_self, List.set_set, hlt, ← hr] at *)
  all_goals (replace hlt2 : b.toNat < rows.length := (by omega))
  all_goals (try rw [hg])
  all_goals (first
    | omega
    | (rw [next_q (by first | exact quiet_on (by assumption) | exact quiet_e (by assumption) | exact quiet_t (by assumption))]; first | done | rfl | (apply heq_of_eq; rw [← hg]; exact (set_getD_self hlt2).symm))
    | (have hq := quiet_f (by assumption) (by assumption) (by assumption); first | omega | (rw [next_n hq.1]; first | done | rfl | (apply heq_of_eq; rfl)))
    | skip)
end Go.Proofs.Ytipibgamajhgbaa

namespace Go.Proofs.Ytipibgamajhgbaa
open Go.RowKit
set_option linter.unusedVariables false
set_option linter.unusedSimpArgs false
def addQ (r : Row12) (nd : Int) : Row12 := ⟨r.seq, r.act, r.on, r.ending, r.knows, r.queue ++ [nd]⟩
def askA (n : Int) (rows : List Row12) (b nd : Int) : List Row12 × Atv × Bool :=
  if isR n rows b nd then (setR rows b (nextR b (addQ (getR rows b) nd)).1, (nextR b (addQ (getR rows b) nd)).2) else (rows, zA, false)
structure PAsk (n : Int) (rows : List Row12) (b nd : Int) : Prop where
  sm : isR n rows b nd = true → Sm (getR rows b).queue.length
def overR (r : Row12) : Row12 := ⟨r.seq, r.act, false, true, List.replicate 64 false, r.queue⟩
def isOn (rows : List Row12) (b s : Int) : Bool := inR rows b && ((getR rows b).on && decide ((getR rows b).act.seq = s))
def doneA (rows : List Row12) (b s : Int) : List Row12 × Bool :=
  if isOn rows b s then (setR rows b (overR (getR rows b)), true) else (rows, false)
def allN (n : Int) : List Bool := List.replicate n.toNat true ++ List.replicate (64 - n.toNat) false
def knowR (r : Row12) (nd : Int) : Row12 := ⟨r.seq, r.act, r.on, r.ending, r.knows.set nd.toNat true, r.queue⟩
def endR (r : Row12) (nd : Int) : Row12 := ⟨r.seq, r.act, r.on, false, r.knows.set nd.toNat true, r.queue⟩
def isEnd (n : Int) (rows : List Row12) (b s nd : Int) : Bool := isR n rows b nd && ((getR rows b).ending && decide ((getR rows b).act.seq = s))
def ackA (n : Int) (rows : List Row12) (b s nd : Int) : List Row12 × Atv × Bool :=
  if isEnd n rows b s nd then (if (getR rows b).knows.set nd.toNat true = allN n then (setR rows b (nextR b (endR (getR rows b) nd)).1, (nextR b (endR (getR rows b) nd)).2) else (setR rows b (knowR (getR rows b) nd), zA, false)) else (rows, zA, false)
theorem isR_iff {n : Int} {rows : List Row12} {b nd : Int} : isR n rows b nd = true ↔ (0 ≤ b ∧ b < rows.length) ∧ 0 ≤ nd ∧ nd < n := by simp [isR, inR]
theorem getR_set {rows : List Row12} {b : Int} {v : Row12} (h : b.toNat < rows.length) : getR (rows.set b.toNat v) b = v := getD_set_self h
theorem ask_t {n : Int} {rows : List Row12} {b nd : Int} (h : isR n rows b nd = true) : askA n rows b nd = (setR rows b (nextR b (addQ (getR rows b) nd)).1, (nextR b (addQ (getR rows b) nd)).2) := if_pos h
theorem ask_f {n : Int} {rows : List Row12} {b nd : Int} (h : isR n rows b nd = false) : askA n rows b nd = (rows, zA, false) := if_neg (by rw [h]; decide)
theorem done_t {rows : List Row12} {b s : Int} (h : isOn rows b s = true) : doneA rows b s = (setR rows b (overR (getR rows b)), true) := if_pos h
theorem done_f {rows : List Row12} {b s : Int} (h : isOn rows b s = false) : doneA rows b s = (rows, false) := if_neg (by rw [h]; decide)
def cAsk : Con where
  X := Int × List Row12 × Int × Int
  args := fun ⟨n, rows, b, nd⟩ => [pA, AI b, AI nd]
  heap := fun ⟨n, rows, b, nd⟩ => aH false n rows
  pre := fun ⟨n, rows, b, nd⟩ => PAsk n rows b nd
  res := fun ⟨n, rows, b, nd⟩ => .tup [AAtv (askA n rows b nd).2.1, AB (askA n rows b nd).2.2]
  heap' := fun ⟨n, rows, b, nd⟩ => aH false n (askA n rows b nd).1
  pure := false
  find := fun args H => match args with
    | [.ptr id _, .int _ b, .int _ nd] => (findA id H).map fun (n, rows) => (n, rows, b, nd)
    | _ => none
set_option maxRecDepth 100000 in
set_option maxHeartbeats 8000000 in
theorem cAsk_ok : cAsk.Ok Try.prog 68 := by
  refine fun_ok (env_ok (Cons.cons caIs_ok (Cons.cons cnext_ok (Cons.cons cCloneI_ok Cons.nil)))) mixedP Try.func68 (by decide) rfl cAsk [] (fun _ => rfl) (fun h => by cases h) (fun _ => Nat.le_of_ble_eq_true rfl) ?_
  rintro ⟨n, rows, b, nd⟩ hp ha hb
  replace hp : PAsk n rows b nd := hp
  clear ha hb
  all_goals (repeat' (first
    | with_reducible refine iTr ?_
    | with_reducible refine iB ?_
    | intro _
    | exact True.intro
    | (show _ ∧ _
       first
        | refine aTT ?_
        | refine aTB ?_
        | refine aT ?_
        | refine aB ?_
        | refine a11 ?_
        | refine a01 ?_
        | refine a00 ?_
        | refine a10 ?_
        | (with_reducible refine And.intro rfl ?_)
        | refine And.intro ?_ ?_)
    | with_reducible exact rfl
    | with_reducible exact HEq.rfl
    | (show (_ : Option Nat) = _; exact rfl)
    | (show (_ : Option Blk) = _; exact rfl)
    | (with_reducible show (nodupB _ && _ && _ && _ && _) = true; exact (Eq.refl true))
    | (with_reducible show (nodupB _ && _ && _ && _) = true; exact (Eq.refl true))
    | (with_reducible show (nodupB _ && _ && _) = true; exact (Eq.refl true))
    | (with_reducible show freeOk _ _ = true; exact (Eq.refl true))
    | (with_reducible show wrOk _ _ _ _ _ = true; exact (Eq.refl true))
    | (show (_ : AV) = _; exact rfl)
    | (show (_ : Heap) = _; exact rfl)
    | (with_reducible show (_ || !_) = true; exact (Eq.refl true))
    | (with_reducible show Nat.beq _ _ = true; exact (Eq.refl true))))
  all_goals (first | (show (_ : Int) = _) | (show (_ : Bool) = _) | (show HEq _ _) | (show ∃ _ : LInv, _) | skip)
  all_goals (try (with_reducible exact rfl))
  all_goals (try dsimp only at *)
  all_goals (first
    | (rw [ask_f (by simpa using ‹(!isR n rows b nd) = true›)]; done)
    | (rw [ask_f (by simpa using ‹(!isR n rows b nd) = true›)]; rfl)
    | skip)
  all_goals (have hx : isR n rows b nd = true := (by simpa using ‹(!isR n rows b nd) = false›))
  all_goals (have hbn := isR_iff.1 hx; have hlt : b.toNat < rows.length := (by omega))
  all_goals (first
    | omega
    | exact hp.sm hx
    | (have hs : (rows.getD b.toNat Ty.row12.dflt).queue.length ≤ 1000000 := (hp.sm hx).le; show ((rows.getD b.toNat Ty.row12.dflt).queue.length + 1) * 8 ≤ _; omega)
    | (rw [inR_iff, List.length_set]; exact hbn.1)
    | (rw [ask_t hx, getR_set hlt]; done)
    | (rw [ask_t hx, getR_set hlt]; rfl)
    | (apply heq_of_eq; rw [ask_t hx, getR_set hlt]; unfold setR; rw [List.set_set]; rfl)
    | skip)
def cDone : Con where
  X := Int × List Row12 × Int × Int
  args := fun ⟨n, rows, b, s⟩ => [pA, AI b, AI s]
  heap := fun ⟨n, rows, b, s⟩ => aH false n rows
  pre := fun ⟨n, rows, b, s⟩ => True
  res := fun ⟨n, rows, b, s⟩ => AB (doneA rows b s).2
  heap' := fun ⟨n, rows, b, s⟩ => aH false n (doneA rows b s).1
  pure := false
  find := fun args H => match args with
    | [.ptr id _, .int _ b, .int _ s] => (findA id H).map fun (n, rows) => (n, rows, b, s)
    | _ => none
set_option maxRecDepth 100000 in
set_option maxHeartbeats 8000000 in
theorem cDone_ok : cDone.Ok Try.prog 69 := by
  refine fun_ok (env_ok Cons.nil) mixedP Try.func69 (by decide) rfl cDone [] (fun _ => rfl) (fun h => by cases h) (fun _ => Nat.le_of_ble_eq_true rfl) ?_
  rintro ⟨n, rows, b, s⟩ hp ha hb
  clear hp ha hb
  all_goals (repeat' (first
    | with_reducible refine iTr ?_
    | with_reducible refine iB ?_
    | intro _
    | exact True.intro
    | (show _ ∧ _
       first
        | refine aTT ?_
        | refine aTB ?_
        | refine aT ?_
        | refine aB ?_
        | refine a11 ?_
        | refine a01 ?_
        | refine a00 ?_
        | refine a10 ?_
        | (with_reducible refine And.intro rfl ?_)
        | refine And.intro ?_ ?_)
    | with_reducible exact rfl
    | with_reducible exact HEq.rfl
    | (show (_ : Option Nat) = _; exact rfl)
    | (show (_ : Option Blk) = _; exact rfl)
    | (with_reducible show (nodupB _ && _ && _ && _ && _) = true; exact (Eq.refl true))
    | (with_reducible show (nodupB _ && _ && _ && _) = true; exact (Eq.refl true))
    | (with_reducible show (nodupB _ && _ && _) = true; exact (Eq.refl true))
    | (with_reducible show freeOk _ _ = true; exact (Eq.refl true))
    | (with_reducible show wrOk _ _ _ _ _ = true; exact (Eq.refl true))
    | (show (_ : AV) = _; exact rfl)
    | (show (_ : Heap) = _; exact rfl)
    | (with_reducible show (_ || !_) = true; exact (Eq.refl true))
    | (with_reducible show Nat.beq _ _ = true; exact (Eq.refl true))))
  all_goals (first | (show (_ : Int) = _) | (show (_ : Bool) = _) | (show HEq _ _) | (show ∃ _ : LInv, _) | skip)
  all_goals (try (with_reducible exact rfl))
  all_goals (try dsimp only at *)
  all_goals (try simp only [Bool.not_false, Bool.not_true, decide_eq_true_eq, decide_eq_false_iff_not, Bool.not_eq_true', Bool.not_eq_false', cond_false, cond_true, bne_iff_ne, bne_eq_false_iff_eq, List.length_set] at *)
  all_goals (first
    | omega
    | (have hx : isOn rows b s = false := (by first | (have hi : inR rows b = false := inR_false (by omega); simp [isOn, hi]; done) | (have hi : (getR rows b).on = false := (by assumption); simp [isOn, hi]; done) | (have hi : (getR rows b).act.seq ≠ s := (by assumption); simp [isOn, hi]; done)); rw [done_f hx]; done)
    | (have hx : isOn rows b s = true := (by have hi : inR rows b = true := inR_iff.2 ⟨by omega, by omega⟩; have h1 : (getR rows b).on = true := (by assumption); have h2 : (getR rows b).act.seq = s := (by assumption); simp [isOn, hi, h1, h2]; done); have hlt : b.toNat < rows.length := (by omega); rw [done_t hx]; first | done | (apply heq_of_eq; unfold setR; simp only [getD_set_self, List.set_set, List.length_set, hlt]; rfl))
    | skip)
end Go.Proofs.Ytipibgamajhgbaa

namespace Go.Proofs.Ytipibgamajhgbaa
open Go.RowKit
set_option linter.unusedVariables false
set_option linter.unusedSimpArgs false
structure PAck (n : Int) (rows : List Row12) (b : Int) : Prop where
  le : n ≤ 64
structure SL (n : Int) (i : Nat) : Prop where
  le : (i : Int) ≤ n
  le64 : n ≤ 64
def allI (i : Nat) : List Bool := List.replicate i true ++ List.replicate (64 - i) false
theorem allI_set {i : Nat} (h : i < 64) : (allI i).set i true = allI (i + 1) := by
  unfold allI
  rw [List.set_append_right _ _ (by simp), List.length_replicate, Nat.sub_self, show 64 - i = (64 - (i + 1)) + 1 from by omega, List.replicate_succ, List.set_cons_zero, List.replicate_succ']
  simp
theorem allI_n {n : Int} {i : Nat} (h1 : (i : Int) ≤ n) (h2 : ¬ (i : Int) < n) : allI i = allN n := by
  have : n.toNat = i := by omega
  unfold allI allN
  rw [this]
theorem ack_f {n : Int} {rows : List Row12} {b s nd : Int} (h : isEnd n rows b s nd = false) : ackA n rows b s nd = (rows, zA, false) := if_neg (by rw [h]; decide)
theorem ack_1 {n : Int} {rows : List Row12} {b s nd : Int} (h : isEnd n rows b s nd = true) (hk : ¬ (getR rows b).knows.set nd.toNat true = allN n) : ackA n rows b s nd = (setR rows b (knowR (getR rows b) nd), zA, false) := by unfold ackA; rw [if_pos h, if_neg hk]
theorem ack_2 {n : Int} {rows : List Row12} {b s nd : Int} (h : isEnd n rows b s nd = true) (hk : (getR rows b).knows.set nd.toNat true = allN n) : ackA n rows b s nd = (setR rows b (nextR b (endR (getR rows b) nd)).1, (nextR b (endR (getR rows b) nd)).2) := by unfold ackA; rw [if_pos h, if_pos hk]
theorem isEnd_0 {n : Int} {rows : List Row12} {b s nd : Int} (h : isR n rows b nd = false) : isEnd n rows b s nd = false := by simp [isEnd, h]
theorem isEnd_1 {n : Int} {rows : List Row12} {b s nd : Int} (h : (!(getR rows b).ending) = true) : isEnd n rows b s nd = false := by simp at h; simp [isEnd, h]
theorem isEnd_2 {n : Int} {rows : List Row12} {b s nd : Int} (h : (bif false then true else (getR rows b).act.seq != s) = true) : isEnd n rows b s nd = false := by simp at h; simp [isEnd, h]
theorem isEnd_t {n : Int} {rows : List Row12} {b s nd : Int} (h0 : isR n rows b nd = true) (h1 : (!(getR rows b).ending) = false) (h2 : (bif false then true else (getR rows b).act.seq != s) = false) : isEnd n rows b s nd = true := by simp at h1 h2; simp [isEnd, h0, h1, h2]
theorem len_setR (rows : List Row12) (b : Int) (v : Row12) : (setR rows b v).length = rows.length := by simp [setR]
theorem getR_setR {rows : List Row12} {b : Int} {v : Row12} (h : b.toNat < rows.length) : getR (setR rows b v) b = v := getD_set_self h
theorem kn_f {xs ys k l : List Bool} (h1 : xs = k) (h2 : ys = l) (h : (!(decide (xs = ys) && true)) = true) : ¬ k = l := by subst h1 h2; simpa using h
theorem kn_t {xs ys k l : List Bool} (h1 : xs = k) (h2 : ys = l) (h : (!(decide (xs = ys) && true)) = false) : k = l := by subst h1 h2; simpa using h
def cAck : Con where
  X := Int × List Row12 × Int × Int × Int
  args := fun ⟨n, rows, b, s, nd⟩ => [pA, AI b, AI s, AI nd]
  heap := fun ⟨n, rows, b, s, nd⟩ => aH false n rows
  pre := fun ⟨n, rows, b, s, nd⟩ => PAck n rows b
  res := fun ⟨n, rows, b, s, nd⟩ => .tup [AAtv (ackA n rows b s nd).2.1, AB (ackA n rows b s nd).2.2]
  heap' := fun ⟨n, rows, b, s, nd⟩ => aH false n (ackA n rows b s nd).1
  pure := false
  find := fun args H => match args with
    | [.ptr id _, .int _ b, .int _ s, .int _ nd] => (findA id H).map fun (n, rows) => (n, rows, b, s, nd)
    | _ => none
set_option maxRecDepth 100000 in
set_option maxHeartbeats 8000000 in
theorem cAck_ok : cAck.Ok Try.prog 71 := by
  refine fun_ok (env_ok (Cons.cons caIs_ok (Cons.cons cnext_ok Cons.nil))) mixedP Try.func71 (by decide) rfl cAck [(13, 6)] (fun _ => rfl) (fun h => by cases h) (fun _ => Nat.le_of_ble_eq_true rfl) ?_
  rintro ⟨n, rows, b, s, nd⟩ hp ha hb
  replace hp : PAck n rows b := hp
  clear ha hb
  all_goals (repeat' (first
    | with_reducible refine iTr ?_
    | with_reducible refine iB ?_
    | intro _
    | exact True.intro
    | (show _ ∧ _
       first
        | refine aTT ?_
        | refine aTB ?_
        | refine aT ?_
        | refine aB ?_
        | refine a11 ?_
        | refine a01 ?_
        | refine a00 ?_
        | refine a10 ?_
        | (with_reducible refine And.intro rfl ?_)
        | refine And.intro ?_ ?_)
    | with_reducible exact rfl
    | with_reducible exact HEq.rfl
    | (show (_ : Option Nat) = _; exact rfl)
    | (show (_ : Option Blk) = _; exact rfl)
    | (with_reducible show (nodupB _ && _ && _ && _ && _) = true; exact (Eq.refl true))
    | (with_reducible show (nodupB _ && _ && _ && _) = true; exact (Eq.refl true))
    | (with_reducible show (nodupB _ && _ && _) = true; exact (Eq.refl true))
    | (with_reducible show freeOk _ _ = true; exact (Eq.refl true))
    | (with_reducible show wrOk _ _ _ _ _ = true; exact (Eq.refl true))
    | (show (_ : AV) = _; exact rfl)
    | (show (_ : Heap) = _; exact rfl)
    | (with_reducible show (_ || !_) = true; exact (Eq.refl true))
    | (with_reducible show Nat.beq _ _ = true; exact (Eq.refl true))))
  all_goals (first | (show (_ : Int) = _) | (show (_ : Bool) = _) | (show HEq _ _) | (show ∃ _ : LInv, _) | skip)
  all_goals (try (with_reducible exact rfl))
  all_goals try (refine ⟨⟨{i : Nat // SL n i}, fun i => [(49, AI i.1), (48, AI n), (11, .ptr 3 ⟨0,0,0,none⟩), (10, .ptr 1 ⟨b.toNat, 71, 0, none⟩), (8, .ptr 2 ⟨0,0,0,none⟩), (9, AB false), (0, pA), (1, AI b), (2, AI s), (3, AI nd)], fun i => ⟨4, [(3, some (.obj false [.arr 64 .bool (allI i.1)])), (2, some (.obj false [.int .i64 0, .int .i64 0, .int .i64 0])), (1, some (.seq false 124 .row12 (setR rows b (knowR (getR rows b) nd)))), (0, some (.obj true [.int .i64 n, .slc 1]))]⟩, fun i => n.toNat - i.1⟩, ⟨⟨0, ?_⟩, [], ?_⟩, ?_⟩; rotate_right; rintro ⟨i, hS⟩)
  all_goals (repeat' (first
    | with_reducible refine iTr ?_
    | with_reducible refine iB ?_
    | intro _
    | exact True.intro
    | (show _ ∧ _
       first
        | refine aTT ?_
        | refine aTB ?_
        | refine aT ?_
        | refine aB ?_
        | refine a11 ?_
        | refine a01 ?_
        | refine a00 ?_
        | refine a10 ?_
        | (with_reducible refine And.intro rfl ?_)
        | refine And.intro ?_ ?_)
    | with_reducible exact rfl
    | with_reducible exact HEq.rfl
    | (show (_ : Option Nat) = _; exact rfl)
    | (show (_ : Option Blk) = _; exact rfl)
    | (with_reducible show (nodupB _ && _ && _ && _ && _) = true; exact (Eq.refl true))
    | (with_reducible show (nodupB _ && _ && _ && _) = true; exact (Eq.refl true))
    | (with_reducible show (nodupB _ && _ && _) = true; exact (Eq.refl true))
    | (with_reducible show freeOk _ _ = true; exact (Eq.refl true))
    | (with_reducible show wrOk _ _ _ _ _ = true; exact (Eq.refl true))
    | (show (_ : AV) = _; exact rfl)
    | (show (_ : Heap) = _; exact rfl)
    | (with_reducible show (_ || !_) = true; exact (Eq.refl true))
    | (with_reducible show Nat.beq _ _ = true; exact (Eq.refl true))))
  all_goals (first | (show (_ : Int) = _) | (show (_ : Bool) = _) | (show HEq _ _) | (show ∃ _ : LInv, _) | skip)
  all_goals (try (with_reducible exact rfl))
  all_goals try (refine ⟨⟨i + 1, ?_⟩, ?_, ?_⟩)
  all_goals (repeat' (first
    | with_reducible refine iTr ?_
    | with_reducible refine iB ?_
    | intro _
    | exact True.intro
    | (show _ ∧ _
       first
        | refine aTT ?_
        | refine aTB ?_
        | refine aT ?_
        | refine aB ?_
        | refine a11 ?_
        | refine a01 ?_
        | refine a00 ?_
        | refine a10 ?_
        | (with_reducible refine And.intro rfl ?_)
        | refine And.intro ?_ ?_)
    | with_reducible exact rfl
    | with_reducible exact HEq.rfl
    | (show (_ : Option Nat) = _; exact rfl)
    | (show (_ : Option Blk) = _; exact rfl)
    | (with_reducible show (nodupB _ && _ && _ && _ && _) = true; exact (Eq.refl true))
    | (with_reducible show (nodupB _ && _ && _ && _) = true; exact (Eq.refl true))
    | (with_reducible show (nodupB _ && _ && _) = true; exact (Eq.refl true))
    | (with_reducible show freeOk _ _ = true; exact (Eq.refl true))
    | (with_reducible show wrOk _ _ _ _ _ = true; exact (Eq.refl true))
    | (show (_ : AV) = _; exact rfl)
    | (show (_ : Heap) = _; exact rfl)
    | (with_reducible show (_ || !_) = true; exact (Eq.refl true))
    | (with_reducible show Nat.beq _ _ = true; exact (Eq.refl true))))
  all_goals (first | (show (_ : Int) = _) | (show (_ : Bool) = _) | (show HEq _ _) | (show ∃ _ : LInv, _) | skip)
  all_goals (try (with_reducible exact rfl))
  all_goals (try dsimp only at *)
  all_goals (first
    | (rw [ack_f (isEnd_0 (by simpa using ‹(!isR n rows b nd) = true›))]; done)
    | (rw [ack_f (isEnd_0 (by simpa using ‹(!isR n rows b nd) = true›))]; rfl)
    | skip)
  all_goals (have hx : isR n rows b nd = true := (by simpa using ‹(!isR n rows b nd) = false›))
  all_goals (have hbn := isR_iff.1 hx; have hlt : b.toNat < rows.length := (by omega); have hn := hp.le)
  all_goals (first
    | omega
    | rfl
    | (rw [ack_f (by first | exact isEnd_1 (by assumption) | exact isEnd_2 (by assumption))]; done)
    | (rw [ack_f (by first | exact isEnd_1 (by assumption) | exact isEnd_2 (by assumption))]; rfl)
    | (show SL n 0; exact ⟨by omega, hn⟩)
    | (rw [len_setR]; exact hlt)
    | skip)
  all_goals (first
    | (have hlt' : (i : Int) < n := of_decide_eq_true ‹decide ((i : Int) < n) = true›; have h64 := hS.le64; first | omega | (show SL n (i + 1); exact ⟨by omega, h64⟩) | exact wrap_succ (by omega) | (apply heq_of_eq; rw [Int.toNat_natCast]; exact allI_set (by omega)))
    | skip)
  all_goals (have hi : allI i = allN n := allI_n hS.le (of_decide_eq_false ‹decide ((i : Int) < n) = false›); have he := isEnd_t (s := s) hx (by assumption) (by assumption))
  all_goals (have hX : (setR rows b (knowR (getR rows b) nd)).getD b.toNat Ty.row12.dflt = knowR (getR rows b) nd := getD_set_self hlt)
  all_goals (have hk : ((setR rows b (knowR (getR rows b) nd)).getD b.toNat Ty.row12.dflt).knows = (getR rows b).knows.set nd.toNat true := (by rw [hX]; rfl))
  all_goals (have hl2 : b.toNat < (setR rows b (knowR (getR rows b) nd)).length := (by rw [len_setR]; exact hlt))
  all_goals (first
    | (rw [inR_iff, List.length_set, len_setR]; exact hbn.1)
    | (rw [ack_1 he (kn_f hk hi (by assumption))]; done)
    | (rw [ack_1 he (kn_f hk hi (by assumption))]; first | rfl | exact HEq.rfl)
    | (rw [ack_2 he (kn_t hk hi (by assumption)), getR_set hl2, hX]; done)
    | (rw [ack_2 he (kn_t hk hi (by assumption)), getR_set hl2, hX]; rfl)
    | (apply heq_of_eq; rw [ack_2 he (kn_t hk hi (by assumption)), getR_set hl2, hX]; unfold setR; rw [List.set_set, List.set_set]; rfl)
    | skip)
end Go.Proofs.Ytipibgamajhgbaa

namespace Go.Proofs.Ytipibgamajhgbaa
open Go.RowKit
set_option linter.unusedVariables false
set_option linter.unusedSimpArgs false
structure PCopy (rows : List Row12) : Prop where
  le : rows.length ≤ 64
  sm : ∀ i, i < rows.length → Sm (rows.getD i dRow).queue.length
def cCopyA : Con where
  X := Int × List Row12
  args := fun ⟨n, rows⟩ => [pA]
  heap := fun ⟨n, rows⟩ => aH true n rows
  pre := fun ⟨n, rows⟩ => PCopy rows
  res := fun ⟨n, rows⟩ => .ptr 2 ⟨0, 0, 0, none⟩
  heap' := fun ⟨n, rows⟩ => ⟨4, [(3, some (.seq false 124 .row12 rows)), (2, some (.obj false [.int .i64 n, .slc 3])), (1, some (.seq true 124 .row12 rows)), (0, some (.obj true [.int .i64 n, .slc 1]))]⟩
  pure := false
  find := fun args H => match args with
    | [.ptr id _] => findA id H
    | _ => none
set_option maxRecDepth 100000 in
set_option maxHeartbeats 8000000 in
theorem cCopyA_ok : cCopyA.Ok Try.prog 51 := by
  refine fun_ok (env_ok (Cons.cons cCloneR_ok (Cons.cons cCloneI_ok Cons.nil))) mixedP Try.func51 (by decide) rfl cCopyA [(1, 11), (5, 14), (2000001, 8), (2000001, 10), (4000001, 0), (4000001, 1), (4000001, 2), (4000001, 3)] (fun _ => rfl) (fun h => by cases h) (fun _ => Nat.le_of_ble_eq_true rfl) ?_
  rintro ⟨n, rows⟩ hp ha hb
  replace hp : PCopy rows := hp
  clear ha hb
  all_goals (repeat' (first
    | with_reducible refine iTr ?_
    | with_reducible refine iB ?_
    | intro _
    | exact True.intro
    | (show _ ∧ _
       first
        | refine aTT ?_
        | refine aTB ?_
        | refine aT ?_
        | refine aB ?_
        | refine a11 ?_
        | refine a01 ?_
        | refine a00 ?_
        | refine a10 ?_
        | (with_reducible refine And.intro rfl ?_)
        | refine And.intro ?_ ?_)
    | with_reducible exact rfl
    | with_reducible exact HEq.rfl
    | (show (_ : Option Nat) = _; exact rfl)
    | (show (_ : Option Blk) = _; exact rfl)
    | (with_reducible show (nodupB _ && _ && _ && _ && _) = true; exact (Eq.refl true))
    | (with_reducible show (nodupB _ && _ && _ && _) = true; exact (Eq.refl true))
    | (with_reducible show (nodupB _ && _ && _) = true; exact (Eq.refl true))
    | (with_reducible show freeOk _ _ = true; exact (Eq.refl true))
    | (with_reducible show wrOk _ _ _ _ _ = true; exact (Eq.refl true))
    | (show (_ : AV) = _; exact rfl)
    | (show (_ : Heap) = _; exact rfl)
    | (with_reducible show (_ || !_) = true; exact (Eq.refl true))
    | (with_reducible show Nat.beq _ _ = true; exact (Eq.refl true))))
  all_goals (first | (show (_ : Int) = _) | (show (_ : Bool) = _) | (show HEq _ _) | (show ∃ _ : LInv, _) | skip)
  all_goals (try (with_reducible exact rfl))
  all_goals try (refine ⟨⟨{i : Nat // i ≤ rows.length}, fun i => [(21, AI i.1), (20, AI rows.length), (3, .ptr 2 ⟨0,0,0,none⟩)], fun i => ⟨4, [(3, some (.seq false 124 .row12 rows)), (2, some (.obj false [.int .i64 n, .slc 3])), (1, some (.seq true 124 .row12 rows)), (0, some (.obj true [.int .i64 n, .slc 1]))]⟩, fun i => rows.length - i.1⟩, ⟨⟨0, ?_⟩, [], ?_⟩, ?_⟩; rotate_right; rintro ⟨i, hi⟩)
  all_goals (repeat' (first
    | with_reducible refine iTr ?_
    | with_reducible refine iB ?_
    | intro _
    | exact True.intro
    | (show _ ∧ _
       first
        | refine aTT ?_
        | refine aTB ?_
        | refine aT ?_
        | refine aB ?_
        | refine a11 ?_
        | refine a01 ?_
        | refine a00 ?_
        | refine a10 ?_
        | (with_reducible refine And.intro rfl ?_)
        | refine And.intro ?_ ?_)
    | with_reducible exact rfl
    | with_reducible exact HEq.rfl
    | (show (_ : Option Nat) = _; exact rfl)
    | (show (_ : Option Blk) = _; exact rfl)
    | (with_reducible show (nodupB _ && _ && _ && _ && _) = true; exact (Eq.refl true))
    | (with_reducible show (nodupB _ && _ && _ && _) = true; exact (Eq.refl true))
    | (with_reducible show (nodupB _ && _ && _) = true; exact (Eq.refl true))
    | (with_reducible show freeOk _ _ = true; exact (Eq.refl true))
    | (with_reducible show wrOk _ _ _ _ _ = true; exact (Eq.refl true))
    | (show (_ : AV) = _; exact rfl)
    | (show (_ : Heap) = _; exact rfl)
    | (with_reducible show (_ || !_) = true; exact (Eq.refl true))
    | (with_reducible show Nat.beq _ _ = true; exact (Eq.refl true))))
  all_goals (first | (show (_ : Int) = _) | (show (_ : Bool) = _) | (show HEq _ _) | (show ∃ _ : LInv, _) | skip)
  all_goals (try (with_reducible exact rfl))
  all_goals try (refine ⟨⟨i + 1, ?_⟩, ?_, ?_⟩)
  all_goals (repeat' (first
    | with_reducible refine iTr ?_
    | with_reducible refine iB ?_
    | intro _
    | exact True.intro
    | (show _ ∧ _
       first
        | refine aTT ?_
        | refine aTB ?_
        | refine aT ?_
        | refine aB ?_
        | refine a11 ?_
        | refine a01 ?_
        | refine a00 ?_
        | refine a10 ?_
        | (with_reducible refine And.intro rfl ?_)
        | refine And.intro ?_ ?_)
    | with_reducible exact rfl
    | with_reducible exact HEq.rfl
    | (show (_ : Option Nat) = _; exact rfl)
    | (show (_ : Option Blk) = _; exact rfl)
    | (with_reducible show (nodupB _ && _ && _ && _ && _) = true; exact (Eq.refl true))
    | (with_reducible show (nodupB _ && _ && _ && _) = true; exact (Eq.refl true))
    | (with_reducible show (nodupB _ && _ && _) = true; exact (Eq.refl true))
    | (with_reducible show freeOk _ _ = true; exact (Eq.refl true))
    | (with_reducible show wrOk _ _ _ _ _ = true; exact (Eq.refl true))
    | (show (_ : AV) = _; exact rfl)
    | (show (_ : Heap) = _; exact rfl)
    | (with_reducible show (_ || !_) = true; exact (Eq.refl true))
    | (with_reducible show Nat.beq _ _ = true; exact (Eq.refl true))))
  all_goals (first | (show (_ : Int) = _) | (show (_ : Bool) = _) | (show HEq _ _) | (show ∃ _ : LInv, _) | skip)
  all_goals (try (with_reducible exact rfl))
  all_goals (try dsimp only at *)
  all_goals (first
    | exact hp.le
    | exact Nat.zero_le _
    | rfl
    | skip)
  all_goals (have hlt : i < rows.length := (by have := of_decide_eq_true ‹decide ((i : Int) < (rows.length : Int)) = true›; omega); have h64 := hp.le)
  all_goals (first
    | omega
    | exact hp.sm i hlt
    | exact wrap_succ (by omega)
    | (apply heq_of_eq; exact set_getD_self hlt)
    | skip)
end Go.Proofs.Ytipibgamajhgbaa
