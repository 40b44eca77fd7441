/- The arbiter's plain functions; contracts of New, is, next, Current, Waiting. No condition. -/
import Derived.Test.YtpjdicndjakeoaaV1
namespace Go.Proofs.Ytpjdicndjakeoaa
open Go.RowKit
set_option linter.unusedVariables false
set_option linter.unusedSimpArgs false
abbrev zA : Atv := ⟨0, 0, 0⟩
abbrev dRow : Row12 := Ty.row12.dflt
def zRow : Row12 := ⟨0, zA, false, false, List.replicate 64 false, []⟩
def aH (ro : Bool) (n : Int) (rows : List Row12) : Heap := ⟨2, [(1, some (.seq ro 59 .row12 rows)), (0, some (.obj true [.int .i64 n, .slc 1]))]⟩
theorem aH_ro (n : Int) (rows : List Row12) : ∀ id k, (aH true n rows).get id = some k → k.ro = true
  | 0, k, h => by cases h; rfl
  | 1, k, h => by cases h; rfl
  | _ + 2, k, h => by cases h
abbrev pA : AV := .ptr 0 ⟨0, 0, 0, none⟩
def findA (id : Nat) (H : Heap) : Option (Int × List Row12) := match H.get id with
  | some (.obj _ [.int _ n, .slc s]) => match H.get s with
    | some (.seq _ _ .row12 rows) => some (n, rows)
    | _ => none
  | _ => none
def inR (rows : List Row12) (b : Int) : Bool := decide (0 ≤ b) && decide (b < rows.length)
def isR (n : Int) (rows : List Row12) (b nd : Int) : Bool := inR rows b && (decide (0 ≤ nd) && decide (nd < n))
def getR (rows : List Row12) (b : Int) : Row12 := rows.getD b.toNat dRow
def setR (rows : List Row12) (b : Int) (r : Row12) : List Row12 := rows.set b.toNat r
def newN (n : Int) : Int := if (64 : Int) < (if n < 0 then 0 else n) then 64 else if n < 0 then 0 else n
def newR (b : Int) : List Row12 := List.replicate (newN b).toNat zRow
def quiet (r : Row12) : Bool := r.on || r.ending || decide (r.queue.length = 0)
def nextA (b : Int) (r : Row12) : Atv := ⟨b, r.queue.getD 0 0, IntKind.i64.wrap (r.seq + 1)⟩
def nextR (b : Int) (r : Row12) : Row12 × Atv × Bool :=
  if quiet r then (r, zA, false) else (⟨IntKind.i64.wrap (r.seq + 1), nextA b r, true, r.ending, r.knows, r.queue.drop 1⟩, nextA b r, true)
def curR (rows : List Row12) (b : Int) : Atv × Bool := if inR rows b && (getR rows b).on then ((getR rows b).act, true) else (zA, false)
def waitR (rows : List Row12) (b : Int) : List Int := if inR rows b then (getR rows b).queue else []
theorem inR_iff {rows : List Row12} {b : Int} : inR rows b = true ↔ 0 ≤ b ∧ b < rows.length := by simp [inR]
theorem inR_false {rows : List Row12} {b : Int} (h : ¬ (0 ≤ b ∧ b < rows.length)) : inR rows b = false := by
  cases e : inR rows b with
  | false => rfl
  | true => exact absurd (inR_iff.1 e) h
theorem getD_set_self {α : Type} {xs : List α} {i : Nat} {v d : α} (h : i < xs.length) : (xs.set i v).getD i d = v := by
  rw [List.getD_eq_getElem?_getD, List.getElem?_set_self h]; rfl
theorem set_getD_self {α : Type} {xs : List α} {i : Nat} {d : α} (h : i < xs.length) : xs.set i (xs.getD i d) = xs := by
  rw [List.getD_eq_getElem?_getD, List.getElem?_eq_getElem h]
  simp
theorem newN_le (n : Int) : 0 ≤ newN n ∧ newN n ≤ 64 := by unfold newN; split <;> (try split) <;> omega
theorem next_q {b : Int} {r : Row12} (h : quiet r = true) : nextR b r = (r, zA, false) := by unfold nextR; rw [if_pos h]
theorem next_n {b : Int} {r : Row12} (h : quiet r = false) : nextR b r = (⟨IntKind.i64.wrap (r.seq + 1), nextA b r, true, r.ending, r.knows, r.queue.drop 1⟩, nextA b r, true) := by unfold nextR; rw [if_neg (by rw [h]; decide)]
theorem quiet_t {r : Row12} (h : (bif false then true else ((r.queue.length : Int) == 0)) = true) : quiet r = true := by
  simp at h
  simp [quiet, h]
theorem quiet_f {r : Row12} (h1 : r.on = false) (h2 : (bif false then true else r.ending) = false) (h : (bif false then true else ((r.queue.length : Int) == 0)) = false) : quiet r = false ∧ ¬ r.queue.length = 0 := by
  simp at h h2
  simp [quiet, h, h1, h2]
theorem quiet_on {r : Row12} (h : r.on = true) : quiet r = true := by simp [quiet, h]
theorem quiet_e {r : Row12} (h : (bif false then true else r.ending) = true) : quiet r = true := by
  simp at h
  simp [quiet, h]
def cNewA : Con where
  X := Int × Int
  args := fun ⟨n, b⟩ => [AI n, AI b]
  heap := fun _ => hp0
  pre := fun _ => True
  res := fun _ => pA
  heap' := fun ⟨n, b⟩ => ⟨2, [(1, some (.seq false 59 .row12 (newR b))), (0, some (.obj false [.int .i64 (newN n), .slc 1]))]⟩
  pure := false
  find := fun args H => match args with
    | [.int _ n, .int _ b] => some (n, b)
    | _ => none
set_option maxHeartbeats 4000000 in
theorem cNewA_ok : cNewA.Ok Try.prog 10 := by
  refine fun_ok (env_ok Cons.nil) mixedP Try.func10 (by decide) rfl cNewA [] (fun _ => rfl) (fun h => by cases h) (fun _ => Nat.le_of_ble_eq_true rfl) ?_
  rintro ⟨n, b⟩ hp ha hb
  all_goals (repeat' (first
    | with_reducible refine iTr ?_
    | with_reducible refine iB ?_
    | intro _
    | exact True.intro
    | (show _ ∧ _
       first
        | refine aTT ?_
        | refine aTB ?_
        | refine aT ?_
        | refine aB ?_
        | refine a11 ?_
        | refine a01 ?_
        | refine a00 ?_
        | refine a10 ?_
        | (with_reducible refine And.intro rfl ?_)
        | refine And.intro ?_ ?_)
    | with_reducible exact rfl
    | with_reducible exact HEq.rfl
    | (show (_ : Option Nat) = _; exact rfl)
    | (show (_ : Option Blk) = _; exact rfl)
    | (with_reducible show (nodupB _ && _ && _ && _ && _) = true; exact (Eq.refl true))
    | (with_reducible show (nodupB _ && _ && _ && _) = true; exact (Eq.refl true))
    | (with_reducible show (nodupB _ && _ && _) = true; exact (Eq.refl true))
    | (with_reducible show freeOk _ _ = true; exact (Eq.refl true))
    | (with_reducible show wrOk _ _ _ _ _ = true; exact (Eq.refl true))
    | (show (_ : AV) = _; exact rfl)
    | (show (_ : Heap) = _; exact rfl)
    | (with_reducible show (_ || !_) = true; exact (Eq.refl true))
    | (with_reducible show Nat.beq _ _ = true; exact (Eq.refl true))))
  all_goals (first | (show (_ : Int) = _) | (show (_ : Bool) = _) | (show HEq _ _) | (show ∃ _ : LInv, _) | skip)
  all_goals (try (with_reducible exact rfl))
  all_goals (try apply heq_of_eq)
  all_goals (first
    | exact (newN_le b).1
    | (have := newN_le b; show newN b * 128 ≤ _; omega)
    | (have := newN_le b; show newN b ≤ _; omega)
    | rfl
    | skip)
def cis : Con where
  X := Int × List Row12 × Int × Int
  args := fun ⟨n, rows, b, nd⟩ => [pA, AI b, AI nd]
  heap := fun ⟨n, rows, b, nd⟩ => aH true n rows
  pre := fun _ => True
  res := fun ⟨n, rows, b, nd⟩ => AB (isR n rows b nd)
  heap' := fun ⟨n, rows, b, nd⟩ => aH true n rows
  pure := true
  find := fun args H => match args with
    | [.ptr id _, .int _ b, .int _ nd] => (findA id H).map fun (n, rows) => (n, rows, b, nd)
    | _ => none
set_option maxHeartbeats 4000000 in
theorem cis_ok : cis.Ok Try.prog 25 := by
  refine fun_ok (env_ok Cons.nil) mixedP Try.func25 (by decide) rfl cis [] (fun _ => rfl) (fun _ x => ⟨rfl, aH_ro x.1 x.2.1⟩) (fun _ => Nat.le_of_ble_eq_true rfl) ?_
  rintro ⟨n, rows, b, nd⟩ hp ha hb
  all_goals (repeat' (first
    | with_reducible refine iTr ?_
    | with_reducible refine iB ?_
    | intro _
    | exact True.intro
    | (show _ ∧ _
       first
        | refine aTT ?_
        | refine aTB ?_
        | refine aT ?_
        | refine aB ?_
        | refine a11 ?_
        | refine a01 ?_
        | refine a00 ?_
        | refine a10 ?_
        | (with_reducible refine And.intro rfl ?_)
        | refine And.intro ?_ ?_)
    | with_reducible exact rfl
    | with_reducible exact HEq.rfl
    | (show (_ : Option Nat) = _; exact rfl)
    | (show (_ : Option Blk) = _; exact rfl)
    | (with_reducible show (nodupB _ && _ && _ && _ && _) = true; exact (Eq.refl true))
    | (with_reducible show (nodupB _ && _ && _ && _) = true; exact (Eq.refl true))
    | (with_reducible show (nodupB _ && _ && _) = true; exact (Eq.refl true))
    | (with_reducible show freeOk _ _ = true; exact (Eq.refl true))
    | (with_reducible show wrOk _ _ _ _ _ = true; exact (Eq.refl true))
    | (show (_ : AV) = _; exact rfl)
    | (show (_ : Heap) = _; exact rfl)
    | (with_reducible show (_ || !_) = true; exact (Eq.refl true))
    | (with_reducible show Nat.beq _ _ = true; exact (Eq.refl true))))
  all_goals (first | (show (_ : Int) = _) | (show (_ : Bool) = _) | (show HEq _ _) | (show ∃ _ : LInv, _) | skip)
  all_goals (try (with_reducible exact rfl))
  all_goals (first | (simp_all [isR, inR]; done) | (simp_all [isR, inR]; omega) | skip)
def cCur : Con where
  X := Int × List Row12 × Int
  args := fun ⟨n, rows, b⟩ => [pA, AI b]
  heap := fun ⟨n, rows, b⟩ => aH true n rows
  pre := fun _ => True
  res := fun ⟨n, rows, b⟩ => .tup [AAtv (curR rows b).1, AB (curR rows b).2]
  heap' := fun ⟨n, rows, b⟩ => aH true n rows
  pure := true
  find := fun args H => match args with
    | [.ptr id _, .int _ b] => (findA id H).map fun (n, rows) => (n, rows, b)
    | _ => none
set_option maxHeartbeats 4000000 in
theorem cCur_ok : cCur.Ok Try.prog 12 := by
  refine fun_ok (env_ok Cons.nil) mixedP Try.func12 (by decide) rfl cCur [] (fun _ => rfl) (fun _ x => ⟨rfl, aH_ro x.1 x.2.1⟩) (fun _ => Nat.le_of_ble_eq_true rfl) ?_
  rintro ⟨n, rows, b⟩ hp ha hb
  clear hp ha hb
  all_goals (repeat' (first
    | with_reducible refine iTr ?_
    | with_reducible refine iB ?_
    | intro _
    | exact True.intro
    | (show _ ∧ _
       first
        | refine aTT ?_
        | refine aTB ?_
        | refine aT ?_
        | refine aB ?_
        | refine a11 ?_
        | refine a01 ?_
        | refine a00 ?_
        | refine a10 ?_
        | (with_reducible refine And.intro rfl ?_)
        | refine And.intro ?_ ?_)
    | with_reducible exact rfl
    | with_reducible exact HEq.rfl
    | (show (_ : Option Nat) = _; exact rfl)
    | (show (_ : Option Blk) = _; exact rfl)
    | (with_reducible show (nodupB _ && _ && _ && _ && _) = true; exact (Eq.refl true))
    | (with_reducible show (nodupB _ && _ && _ && _) = true; exact (Eq.refl true))
    | (with_reducible show (nodupB _ && _ && _) = true; exact (Eq.refl true))
    | (with_reducible show freeOk _ _ = true; exact (Eq.refl true))
    | (with_reducible show wrOk _ _ _ _ _ = true; exact (Eq.refl true))
    | (show (_ : AV) = _; exact rfl)
    | (show (_ : Heap) = _; exact rfl)
    | (with_reducible show (_ || !_) = true; exact (Eq.refl true))
    | (with_reducible show Nat.beq _ _ = true; exact (Eq.refl true))))
  all_goals (first | (show (_ : Int) = _) | (show (_ : Bool) = _) | (show HEq _ _) | (show ∃ _ : LInv, _) | skip)
  all_goals (try (with_reducible exact rfl))
  all_goals (try dsimp only at *)
  all_goals (try simp only [Bool.not_false, Bool.not_true, decide_eq_true_eq, decide_eq_false_iff_not, Bool.cond_true, Bool.cond_false, cond_true, cond_false, Bool.not_eq_true', Bool.not_eq_false'] at *)
  all_goals (first
    | omega
    | (have hx : inR rows b = false := inR_false (by omega); simp [curR, hx]; done)
    | (have hx : inR rows b = true := inR_iff.2 ⟨by omega, by omega⟩; simp_all [curR, getR, dRow]; done)
    | skip)
def cWait : Con where
  X := Int × List Row12 × Int
  args := fun ⟨n, rows, b⟩ => [pA, AI b]
  heap := fun ⟨n, rows, b⟩ => aH true n rows
  pre := fun ⟨n, rows, b⟩ => Sm (waitR rows b).length
  res := fun ⟨n, rows, b⟩ => .vsl .int (waitR rows b)
  heap' := fun ⟨n, rows, b⟩ => aH true n rows
  pure := true
  find := fun args H => match args with
    | [.ptr id _, .int _ b] => (findA id H).map fun (n, rows) => (n, rows, b)
    | _ => none
set_option maxRecDepth 100000 in
set_option maxHeartbeats 4000000 in
theorem cWait_ok : cWait.Ok Try.prog 16 := by
  refine fun_ok (env_ok (Cons.cons cCloneI_ok Cons.nil)) mixedP Try.func16 (by decide) rfl cWait [] (fun _ => rfl) (fun _ x => ⟨rfl, aH_ro x.1 x.2.1⟩) (fun _ => Nat.le_of_ble_eq_true rfl) ?_
  rintro ⟨n, rows, b⟩ hp ha hb
  replace hp : Sm (waitR rows b).length := hp
  clear ha hb
  all_goals (repeat' (first
    | with_reducible refine iTr ?_
    | with_reducible refine iB ?_
    | intro _
    | exact True.intro
    | (show _ ∧ _
       first
        | refine aTT ?_
        | refine aTB ?_
        | refine aT ?_
        | refine aB ?_
        | refine a11 ?_
        | refine a01 ?_
        | refine a00 ?_
        | refine a10 ?_
        | (with_reducible refine And.intro rfl ?_)
        | refine And.intro ?_ ?_)
    | with_reducible exact rfl
    | with_reducible exact HEq.rfl
    | (show (_ : Option Nat) = _; exact rfl)
    | (show (_ : Option Blk) = _; exact rfl)
    | (with_reducible show (nodupB _ && _ && _ && _ && _) = true; exact (Eq.refl true))
    | (with_reducible show (nodupB _ && _ && _ && _) = true; exact (Eq.refl true))
    | (with_reducible show (nodupB _ && _ && _) = true; exact (Eq.refl true))
    | (with_reducible show freeOk _ _ = true; exact (Eq.refl true))
    | (with_reducible show wrOk _ _ _ _ _ = true; exact (Eq.refl true))
    | (show (_ : AV) = _; exact rfl)
    | (show (_ : Heap) = _; exact rfl)
    | (with_reducible show (_ || !_) = true; exact (Eq.refl true))
    | (with_reducible show Nat.beq _ _ = true; exact (Eq.refl true))))
  all_goals (first | (show (_ : Int) = _) | (show (_ : Bool) = _) | (show HEq _ _) | (show ∃ _ : LInv, _) | skip)
  all_goals (try (with_reducible exact rfl))
  all_goals (try dsimp only at *)
  all_goals (try simp only [Bool.not_false, Bool.not_true, decide_eq_true_eq, decide_eq_false_iff_not, Bool.cond_true, Bool.cond_false, cond_true, cond_false, Bool.not_eq_true', Bool.not_eq_false'] at *)
  all_goals (first
    | omega
    | (show waitR rows b = []; have hx : inR rows b = false := inR_false (by omega); simp [waitR, hx]; done)
    | (have hx : inR rows b = true := inR_iff.2 ⟨by omega, by omega⟩; have e : waitR rows b = (getR rows b).queue := (by simp [waitR, hx]); first | (rw [e] at hp; exact hp) | (apply heq_of_eq; rw [e]; rfl))
    | skip)
def cnext : Con where
  X := Int × List Row12 × Int
  args := fun ⟨n, rows, b⟩ => [pA, AI b]
  heap := fun ⟨n, rows, b⟩ => aH false n rows
  pre := fun ⟨n, rows, b⟩ => inR rows b = true
  res := fun ⟨n, rows, b⟩ => .tup [AAtv (nextR b (getR rows b)).2.1, AB (nextR b (getR rows b)).2.2]
  heap' := fun ⟨n, rows, b⟩ => aH false n (setR rows b (nextR b (getR rows b)).1)
  pure := false
  find := fun args H => match args with
    | [.ptr id _, .int _ b] => (findA id H).map fun (n, rows) => (n, rows, b)
    | _ => none
set_option maxRecDepth 100000 in
set_option maxHeartbeats 8000000 in
theorem cnext_ok : cnext.Ok Try.prog 27 := by
  refine fun_ok (env_ok Cons.nil) mixedP Try.func27 (by decide) rfl cnext [(5, 17), (2000005, 16), (4000005, 1)] (fun _ => rfl) (fun h => by cases h) (fun _ => Nat.le_of_ble_eq_true rfl) ?_
  rintro ⟨n, rows, b⟩ hp ha hb
  replace hp : inR rows b = true := hp
  clear ha hb
  all_goals (repeat' (first
    | with_reducible refine iTr ?_
    | with_reducible refine iB ?_
    | intro _
    | exact True.intro
    | (show _ ∧ _
       first
        | refine aTT ?_
        | refine aTB ?_
        | refine aT ?_
        | refine aB ?_
        | refine a11 ?_
        | refine a01 ?_
        | refine a00 ?_
        | refine a10 ?_
        | (with_reducible refine And.intro rfl ?_)
        | refine And.intro ?_ ?_)
    | with_reducible exact rfl
    | with_reducible exact HEq.rfl
    | (show (_ : Option Nat) = _; exact rfl)
    | (show (_ : Option Blk) = _; exact rfl)
    | (with_reducible show (nodupB _ && _ && _ && _ && _) = true; exact (Eq.refl true))
    | (with_reducible show (nodupB _ && _ && _ && _) = true; exact (Eq.refl true))
    | (with_reducible show (nodupB _ && _ && _) = true; exact (Eq.refl true))
    | (with_reducible show freeOk _ _ = true; exact (Eq.refl true))
    | (with_reducible show wrOk _ _ _ _ _ = true; exact (Eq.refl true))
    | (show (_ : AV) = _; exact rfl)
    | (show (_ : Heap) = _; exact rfl)
    | (with_reducible show (_ || !_) = true; exact (Eq.refl true))
    | (with_reducible show Nat.beq _ _ = true; exact (Eq.refl true))))
  all_goals (first | (show (_ : Int) = _) | (show (_ : Bool) = _) | (show HEq _ _) | (show ∃ _ : LInv, _) | skip)
  all_goals (try (with_reducible exact rfl))
  all_goals (try dsimp only at *)
  all_goals (have hp2 := inR_iff.1 hp; have hlt : b.toNat < rows.length := (by omega); obtain ⟨r, hr⟩ : ∃ r, r = rows.getD b.toNat dRow := ⟨_, rfl⟩; have hg : getR rows b = r := hr.symm)
  all_goals (have hlt2 : b.toNat < rows.length ∧ True := ⟨hlt, trivial⟩)
  all_goals (try simp only [List.length_set, getD_set_self, List.set_set, hlt, ← hr] at *)
  all_goals (replace hlt2 : b.toNat < rows.length := (by omega))
  all_goals (try rw [hg])
  all_goals (first
    | omega
    | (rw [next_q (by first | exact quiet_on (by assumption) | exact quiet_e (by assumption) | exact quiet_t (by assumption))]; first | done | rfl | (apply heq_of_eq; rw [← hg]; exact (set_getD_self hlt2).symm))
    | (have hq := quiet_f (by assumption) (by assumption) (by assumption); first | omega | (rw [next_n hq.1]; first | done | rfl | (apply heq_of_eq; rfl)))
    | skip)
end Go.Proofs.Ytpjdicndjakeoaa

