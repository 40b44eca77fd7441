/- The reference's arbiter: plain functions; contracts of New, Block, last, begin, Current, Waiting, Ask, Done. No condition. -/
import Derived.Test.YtipibgamajhgbaaGQa
namespace Go.Proofs.Ytipibgamajhgbaa
open Go.RowKit
set_option linter.unusedVariables false
set_option linter.unusedSimpArgs false
abbrev dM : RRow12 := Ty.rRow12.dflt
def zM : RRow12 := ⟨[], 0, 0, []⟩
def rH (ro : Bool) (n : Int) (rows : List RRow12) : Heap := ⟨2, [(1, some (.seq ro 92 .rRow12 rows)), (0, some (.obj true [.int .i64 n, .slc 1]))]⟩
theorem rH_ro (n : Int) (rows : List RRow12) : ∀ id k, (rH true n rows).get id = some k → k.ro = true
  | 0, k, h => by cases h; rfl
  | 1, k, h => by cases h; rfl
  | _ + 2, k, h => by cases h
def findR (id : Nat) (H : Heap) : Option (Int × List RRow12) := match H.get id with
  | some (.obj _ [.int _ n, .slc s]) => match H.get s with
    | some (.seq _ _ .rRow12 rows) => some (n, rows)
    | _ => none
  | _ => none
def inM (rows : List RRow12) (b : Int) : Bool := decide (0 ≤ b) && decide (b < rows.length)
def getM (rows : List RRow12) (b : Int) : RRow12 := rows.getD b.toNat dM
def setM (rows : List RRow12) (b : Int) (r : RRow12) : List RRow12 := rows.set b.toNat r
def newM (b : Int) : List RRow12 := List.replicate (newN b).toNat zM
theorem inM_iff {rows : List RRow12} {b : Int} : inM rows b = true ↔ 0 ≤ b ∧ b < rows.length := by simp [inM]
theorem inM_false {rows : List RRow12} {b : Int} (h : ¬ (0 ≤ b ∧ b < rows.length)) : inM rows b = false := by
  cases e : inM rows b with
  | false => rfl
  | true => exact absurd (inM_iff.1 e) h
theorem len_setM (rows : List RRow12) (b : Int) (v : RRow12) : (setM rows b v).length = rows.length := by simp [setM]
theorem getM_set {rows : List RRow12} {b : Int} {v : RRow12} (h : b.toNat < rows.length) : getM (rows.set b.toNat v) b = v := getD_set_self h
theorem getM_setM {rows : List RRow12} {b : Int} {v : RRow12} (h : b.toNat < rows.length) : getM (setM rows b v) b = v := getD_set_self h
def lastM (b : Int) (r : RRow12) : Atv := ⟨b, r.asked.getD (IntKind.i64.wrap (r.begun - 1)).toNat 0, r.begun⟩
/-- A row that may be. -/
structure RowM (r : RRow12) : Prop where
  b0 : 0 ≤ r.begun
  bl : r.begun ≤ r.asked.length
  p : r.phase = 0 ∨ 1 ≤ r.begun
  len : r.asked.length ≤ 1000
  klen : r.knows.length ≤ 100000
def restM (r : RRow12) : Bool := !(decide (r.phase = 0)) || decide ((r.asked.length : Int) ≤ r.begun)
def begunM (r : RRow12) : RRow12 := ⟨r.asked, IntKind.i64.wrap (r.begun + 1), 1, r.knows⟩
def beginM (b : Int) (r : RRow12) : RRow12 × Atv × Bool := if restM r then (r, zA, false) else (begunM r, lastM b (begunM r), true)
def curM (rows : List RRow12) (b : Int) : Atv × Bool := if inM rows b && decide ((getM rows b).phase = 1) then (lastM b (getM rows b), true) else (zA, false)
def waitM (rows : List RRow12) (b : Int) : List Int := if inM rows b then (getM rows b).asked.drop (getM rows b).begun.toNat else []
def addM (r : RRow12) (nd : Int) : RRow12 := ⟨r.asked ++ [nd], r.begun, r.phase, r.knows⟩
def isM (n : Int) (rows : List RRow12) (b nd : Int) : Bool := inM rows b && (decide (0 ≤ nd) && decide (nd < n))
def askM (n : Int) (rows : List RRow12) (b nd : Int) : List RRow12 × Atv × Bool :=
  if isM n rows b nd then (setM rows b (beginM b (addM (getM rows b) nd)).1, (beginM b (addM (getM rows b) nd)).2) else (rows, zA, false)
def onM (rows : List RRow12) (b s ph : Int) : Bool := inM rows b && (decide ((getM rows b).phase = ph) && decide ((getM rows b).begun = s))
def doneM (rows : List RRow12) (b s : Int) : List RRow12 × Bool :=
  if onM rows b s 1 then (setM rows b ⟨(getM rows b).asked, (getM rows b).begun, 2, []⟩, true) else (rows, false)
theorem isM_iff {n : Int} {rows : List RRow12} {b nd : Int} : isM n rows b nd = true ↔ (0 ≤ b ∧ b < rows.length) ∧ 0 ≤ nd ∧ nd < n := by simp [isM, inM]
structure PM (rows : List RRow12) (b : Int) : Prop where
  r : inM rows b = true → RowM (getM rows b)
theorem newN_1 {n : Int} (h : n < 0) : newN n = 0 := by
  unfold newN
  repeat' split
  all_goals omega
theorem newN_2 {n : Int} (h : 64 < n) : newN n = 64 := by
  unfold newN
  repeat' split
  all_goals omega
theorem newN_3 {n : Int} (h1 : ¬ n < 0) (h2 : ¬ 64 < n) : newN n = n := by
  unfold newN
  repeat' split
  all_goals omega
theorem restM_t1 {r : RRow12} (h : (r.phase != 0) = true) : restM r = true := by simp at h; simp [restM, h]
theorem restM_t2 {r : RRow12} (h : (bif false then true else decide ((r.asked.length : Int) ≤ r.begun)) = true) : restM r = true := by simp at h; simp [restM, h]
theorem restM_f {r : RRow12} (h1 : (r.phase != 0) = false) (h2 : (bif false then true else decide ((r.asked.length : Int) ≤ r.begun)) = false) : restM r = false ∧ r.begun < r.asked.length := by
  simp at h1 h2
  refine ⟨?_, h2⟩
  simp [restM, h1]
  omega
theorem beginM_t {b : Int} {r : RRow12} (h : restM r = true) : beginM b r = (r, zA, false) := by unfold beginM; rw [if_pos h]
theorem beginM_f {b : Int} {r : RRow12} (h : restM r = false) : beginM b r = (begunM r, lastM b (begunM r), true) := by unfold beginM; rw [if_neg (by rw [h]; decide)]
theorem wrapM {r : RRow12} (h : RowM r) (h2 : r.begun < r.asked.length) : IntKind.i64.wrap (r.begun + 1) = r.begun + 1 := wrap_id (by have := h.b0; omega) (by have := h.len; omega)
theorem rowM_begun {r : RRow12} (h : RowM r) (h2 : r.begun < r.asked.length) : RowM (begunM r) ∧ 1 ≤ (begunM r).begun := by
  have e : (begunM r).begun = r.begun + 1 := wrapM h h2
  have := h.b0
  exact ⟨⟨by rw [e]; omega, by rw [e]; show r.begun + 1 ≤ (r.asked.length : Int); omega, .inr (by rw [e]; omega), h.len, h.klen⟩, by rw [e]; omega⟩
theorem curM_1 {rows : List RRow12} {b : Int} (h : inM rows b = false) : curM rows b = (zA, false) := by simp [curM, h]
theorem curM_2 {rows : List RRow12} {b : Int} (h : ¬ (getM rows b).phase = 1) : curM rows b = (zA, false) := by simp [curM, h]
theorem curM_3 {rows : List RRow12} {b : Int} (h1 : inM rows b = true) (h : (getM rows b).phase = 1) : curM rows b = (lastM b (getM rows b), true) := by simp [curM, h, h1]
theorem RowM.one {r : RRow12} (h : RowM r) (hp : r.phase = 1) : 1 ≤ r.begun := by
  rcases h.p with h1 | h1
  · rw [h1] at hp; cases hp
  · exact h1
def cNewM : Con where
  X := Int × Int
  args := fun ⟨n, b⟩ => [AI n, AI b]
  heap := fun _ => hp0
  pre := fun _ => True
  res := fun _ => pA
  heap' := fun ⟨n, b⟩ => ⟨2, [(1, some (.seq false 92 .rRow12 (newM b))), (0, some (.obj false [.int .i64 (newN n), .slc 1]))]⟩
  pure := false
  find := fun args H => match args with
    | [.int _ n, .int _ b] => some (n, b)
    | _ => none
set_option maxHeartbeats 4000000 in
theorem cNewM_ok : cNewM.Ok Try.prog 56 := by
  refine fun_ok (env_ok Cons.nil) mixedP Try.func56 (by decide) rfl cNewM [] (fun _ => rfl) (fun h => by cases h) (fun _ => Nat.le_of_ble_eq_true rfl) ?_
  rintro ⟨n, b⟩ hp ha hb
  clear hp ha hb
  all_goals (repeat' (first
    | with_reducible refine iTr ?_
    | with_reducible refine iB ?_
    | intro _
    | exact True.intro
    | (show _ ∧ _
       first
        | refine aTT ?_
        | refine aTB ?_
        | refine aT ?_
        | refine aB ?_
        | refine a11 ?_
        | refine a01 ?_
        | refine a00 ?_
        | refine a10 ?_
        | (with_reducible refine And.intro rfl ?_)
        | refine And.intro ?_ ?_)
    | with_reducible exact rfl
    | with_reducible exact HEq.rfl
    | (show (_ : Option Nat) = _; exact rfl)
    | (show (_ : Option Blk) = _; exact rfl)
    | (with_reducible show (nodupB _ && _ && _ && _ && _) = true; exact (Eq.refl true))
    | (with_reducible show (nodupB _ && _ && _ && _) = true; exact (Eq.refl true))
    | (with_reducible show (nodupB _ && _ && _) = true; exact (Eq.refl true))
    | (with_reducible show freeOk _ _ = true; exact (Eq.refl true))
    | (with_reducible show wrOk _ _ _ _ _ = true; exact (Eq.refl true))
    | (show (_ : AV) = _; exact rfl)
    | (show (_ : Heap) = _; exact rfl)
    | (with_reducible show (_ || !_) = true; exact (Eq.refl true))
    | (with_reducible show Nat.beq _ _ = true; exact (Eq.refl true))))
  all_goals (first | (show (_ : Int) = _) | (show (_ : Bool) = _) | (show HEq _ _) | (show ∃ _ : LInv, _) | skip)
  all_goals (try (with_reducible exact rfl))
  all_goals (try dsimp only at *)
  all_goals (try simp only [Bool.not_true, Bool.not_false, decide_eq_true_eq, decide_eq_false_iff_not] at *)
  all_goals (try apply heq_of_eq)
  all_goals (first
    | omega
    | (show _ * ((64 : Nat) : Int) ≤ _; omega)
    | exact (newN_1 (by omega)).symm
    | exact (newN_2 (by omega)).symm
    | exact (newN_3 (by omega) (by omega)).symm
    | (unfold newM; rw [newN_1 (n := b) (by omega)]; rfl)
    | (unfold newM; rw [newN_2 (n := b) (by omega)]; rfl)
    | (unfold newM; rw [newN_3 (n := b) (by omega) (by omega)]; rfl)
    | skip)
def cBlock : Con where
  X := Int × List RRow12 × Int
  args := fun ⟨n, rows, b⟩ => [pA, AI b]
  heap := fun ⟨n, rows, b⟩ => rH true n rows
  pre := fun _ => True
  res := fun ⟨n, rows, b⟩ => AB (inM rows b)
  heap' := fun ⟨n, rows, b⟩ => rH true n rows
  pure := true
  find := fun args H => match args with
    | [.ptr id _, .int _ b] => (findR id H).map fun (n, rows) => (n, rows, b)
    | _ => none
set_option maxHeartbeats 4000000 in
theorem cBlock_ok : cBlock.Ok Try.prog 47 := by
  refine fun_ok (env_ok Cons.nil) mixedP Try.func47 (by decide) rfl cBlock [] (fun _ => rfl) (fun _ x => ⟨rfl, rH_ro x.1 x.2.1⟩) (fun _ => Nat.le_of_ble_eq_true rfl) ?_
  rintro ⟨n, rows, b⟩ hp ha hb
  clear hp ha hb
  all_goals (repeat' (first
    | with_reducible refine iTr ?_
    | with_reducible refine iB ?_
    | intro _
    | exact True.intro
    | (show _ ∧ _
       first
        | refine aTT ?_
        | refine aTB ?_
        | refine aT ?_
        | refine aB ?_
        | refine a11 ?_
        | refine a01 ?_
        | refine a00 ?_
        | refine a10 ?_
        | (with_reducible refine And.intro rfl ?_)
        | refine And.intro ?_ ?_)
    | with_reducible exact rfl
    | with_reducible exact HEq.rfl
    | (show (_ : Option Nat) = _; exact rfl)
    | (show (_ : Option Blk) = _; exact rfl)
    | (with_reducible show (nodupB _ && _ && _ && _ && _) = true; exact (Eq.refl true))
    | (with_reducible show (nodupB _ && _ && _ && _) = true; exact (Eq.refl true))
    | (with_reducible show (nodupB _ && _ && _) = true; exact (Eq.refl true))
    | (with_reducible show freeOk _ _ = true; exact (Eq.refl true))
    | (with_reducible show wrOk _ _ _ _ _ = true; exact (Eq.refl true))
    | (show (_ : AV) = _; exact rfl)
    | (show (_ : Heap) = _; exact rfl)
    | (with_reducible show (_ || !_) = true; exact (Eq.refl true))
    | (with_reducible show Nat.beq _ _ = true; exact (Eq.refl true))))
  all_goals (first | (show (_ : Int) = _) | (show (_ : Bool) = _) | (show HEq _ _) | (show ∃ _ : LInv, _) | skip)
  all_goals (try (with_reducible exact rfl))
  all_goals (first | (simp_all [inM]; done) | (simp_all [inM]; omega) | skip)
def clast : Con where
  X := Int × List RRow12 × Int
  args := fun ⟨n, rows, b⟩ => [pA, AI b]
  heap := fun ⟨n, rows, b⟩ => rH true n rows
  pre := fun ⟨n, rows, b⟩ => inM rows b = true ∧ RowM (getM rows b) ∧ 1 ≤ (getM rows b).begun
  res := fun ⟨n, rows, b⟩ => AAtv (lastM b (getM rows b))
  heap' := fun ⟨n, rows, b⟩ => rH true n rows
  pure := true
  find := fun args H => match args with
    | [.ptr id _, .int _ b] => (findR id H).map fun (n, rows) => (n, rows, b)
    | _ => none
set_option maxRecDepth 100000 in
set_option maxHeartbeats 4000000 in
theorem clast_ok : clast.Ok Try.prog 48 := by
  refine fun_ok (env_ok Cons.nil) mixedP Try.func48 (by decide) rfl clast [(2, 11)] (fun _ => rfl) (fun _ x => ⟨rfl, rH_ro x.1 x.2.1⟩) (fun _ => Nat.le_of_ble_eq_true rfl) ?_
  rintro ⟨n, rows, b⟩ hp ha hb
  replace hp : inM rows b = true ∧ RowM (getM rows b) ∧ 1 ≤ (getM rows b).begun := hp
  clear ha hb
  all_goals (repeat' (first
    | with_reducible refine iTr ?_
    | with_reducible refine iB ?_
    | intro _
    | exact True.intro
    | (show _ ∧ _
       first
        | refine aTT ?_
        | refine aTB ?_
        | refine aT ?_
        | refine aB ?_
        | refine a11 ?_
        | refine a01 ?_
        | refine a00 ?_
        | refine a10 ?_
        | (with_reducible refine And.intro rfl ?_)
        | refine And.intro ?_ ?_)
    | with_reducible exact rfl
    | with_reducible exact HEq.rfl
    | (show (_ : Option Nat) = _; exact rfl)
    | (show (_ : Option Blk) = _; exact rfl)
    | (with_reducible show (nodupB _ && _ && _ && _ && _) = true; exact (Eq.refl true))
    | (with_reducible show (nodupB _ && _ && _ && _) = true; exact (Eq.refl true))
    | (with_reducible show (nodupB _ && _ && _) = true; exact (Eq.refl true))
    | (with_reducible show freeOk _ _ = true; exact (Eq.refl true))
    | (with_reducible show wrOk _ _ _ _ _ = true; exact (Eq.refl true))
    | (show (_ : AV) = _; exact rfl)
    | (show (_ : Heap) = _; exact rfl)
    | (with_reducible show (_ || !_) = true; exact (Eq.refl true))
    | (with_reducible show Nat.beq _ _ = true; exact (Eq.refl true))))
  all_goals (first | (show (_ : Int) = _) | (show (_ : Bool) = _) | (show HEq _ _) | (show ∃ _ : LInv, _) | skip)
  all_goals (try (with_reducible exact rfl))
  all_goals (try dsimp only at *)
  all_goals (have h1 := inM_iff.1 hp.1; have h2 := hp.2.1.bl; have h3 := hp.2.2; have h4 := hp.2.1.len; have hw : IntKind.i64.wrap ((getM rows b).begun - 1) = (getM rows b).begun - 1 := wrap_id (by omega) (by omega))
  all_goals (first
    | omega
    | rfl
    | (show 0 ≤ IntKind.i64.wrap ((getM rows b).begun - 1); omega)
    | (show IntKind.i64.wrap ((getM rows b).begun - 1) < ((getM rows b).asked.length : Int); omega)
    | skip)
def cbegin : Con where
  X := Int × List RRow12 × Int
  args := fun ⟨n, rows, b⟩ => [pA, AI b]
  heap := fun ⟨n, rows, b⟩ => rH false n rows
  pre := fun ⟨n, rows, b⟩ => inM rows b = true ∧ RowM (getM rows b)
  res := fun ⟨n, rows, b⟩ => .tup [AAtv (beginM b (getM rows b)).2.1, AB (beginM b (getM rows b)).2.2]
  heap' := fun ⟨n, rows, b⟩ => rH false n (setM rows b (beginM b (getM rows b)).1)
  pure := false
  find := fun args H => match args with
    | [.ptr id _, .int _ b] => (findR id H).map fun (n, rows) => (n, rows, b)
    | _ => none
set_option maxRecDepth 100000 in
set_option maxHeartbeats 8000000 in
theorem cbegin_ok : cbegin.Ok Try.prog 76 := by
  refine fun_ok (env_ok (Cons.cons clast_ok Cons.nil)) mixedP Try.func76 (by decide) rfl cbegin [(4, 8)] (fun _ => rfl) (fun h => by cases h) (fun _ => Nat.le_of_ble_eq_true rfl) ?_
  rintro ⟨n, rows, b⟩ hp ha hb
  replace hp : inM rows b = true ∧ RowM (getM rows b) := hp
  clear ha hb
  all_goals (repeat' (first
    | with_reducible refine iTr ?_
    | with_reducible refine iB ?_
    | intro _
    | exact True.intro
    | (show _ ∧ _
       first
        | refine aTT ?_
        | refine aTB ?_
        | refine aT ?_
        | refine aB ?_
        | refine a11 ?_
        | refine a01 ?_
        | refine a00 ?_
        | refine a10 ?_
        | (with_reducible refine And.intro rfl ?_)
        | refine And.intro ?_ ?_)
    | with_reducible exact rfl
    | with_reducible exact HEq.rfl
    | (show (_ : Option Nat) = _; exact rfl)
    | (show (_ : Option Blk) = _; exact rfl)
    | (with_reducible show (nodupB _ && _ && _ && _ && _) = true; exact (Eq.refl true))
    | (with_reducible show (nodupB _ && _ && _ && _) = true; exact (Eq.refl true))
    | (with_reducible show (nodupB _ && _ && _) = true; exact (Eq.refl true))
    | (with_reducible show freeOk _ _ = true; exact (Eq.refl true))
    | (with_reducible show wrOk _ _ _ _ _ = true; exact (Eq.refl true))
    | (show (_ : AV) = _; exact rfl)
    | (show (_ : Heap) = _; exact rfl)
    | (with_reducible show (_ || !_) = true; exact (Eq.refl true))
    | (with_reducible show Nat.beq _ _ = true; exact (Eq.refl true))))
  all_goals (first | (show (_ : Int) = _) | (show (_ : Bool) = _) | (show HEq _ _) | (show ∃ _ : LInv, _) | skip)
  all_goals (try (with_reducible exact rfl))
  all_goals (try dsimp only at *)
  all_goals (have hb := inM_iff.1 hp.1; have hlt : b.toNat < rows.length := (by omega); have hlt2 : b.toNat < rows.length ∧ True := ⟨hlt, trivial⟩; obtain ⟨r, hr⟩ : ∃ r, r = rows.getD b.toNat dM := ⟨_, rfl⟩; have hg : getM rows b = r := hr.symm)
  all_goals (try simp only [List.length_set, getD_set_self, List.set_set, getM_set, hlt, ← hr] at *)
  all_goals (try rw [hg] at hp)
  all_goals (try rw [hg])
  all_goals (replace hlt2 : b.toNat < rows.length := (by omega))
  all_goals (first
    | omega
    | (rw [beginM_t (by first | exact restM_t1 (by assumption) | exact restM_t2 (by assumption))]; first | done | rfl | (apply heq_of_eq; unfold setM; rw [← hg]; exact (set_getD_self hlt2).symm))
    | (have hq := restM_f (by assumption) (by assumption); have hb2 := rowM_begun hp.2 hq.2; first | (rw [inM_iff, List.length_set]; omega) | exact hb2.1 | exact hb2.2 | (rw [beginM_f hq.1]; first | done | rfl | (apply heq_of_eq; rfl)))
    | skip)
def cCurM : Con where
  X := Int × List RRow12 × Int
  args := fun ⟨n, rows, b⟩ => [pA, AI b]
  heap := fun ⟨n, rows, b⟩ => rH true n rows
  pre := fun ⟨n, rows, b⟩ => PM rows b
  res := fun ⟨n, rows, b⟩ => .tup [AAtv (curM rows b).1, AB (curM rows b).2]
  heap' := fun ⟨n, rows, b⟩ => rH true n rows
  pure := true
  find := fun args H => match args with
    | [.ptr id _, .int _ b] => (findR id H).map fun (n, rows) => (n, rows, b)
    | _ => none
set_option maxRecDepth 100000 in
set_option maxHeartbeats 4000000 in
theorem cCurM_ok : cCurM.Ok Try.prog 22 := by
  refine fun_ok (env_ok (Cons.cons cBlock_ok (Cons.cons clast_ok Cons.nil))) mixedP Try.func22 (by decide) rfl cCurM [] (fun _ => rfl) (fun _ x => ⟨rfl, rH_ro x.1 x.2.1⟩) (fun _ => Nat.le_of_ble_eq_true rfl) ?_
  rintro ⟨n, rows, b⟩ hp ha hb
  replace hp : PM rows b := hp
  clear ha hb
  all_goals (repeat' (first
    | with_reducible refine iTr ?_
    | with_reducible refine iB ?_
    | intro _
    | exact True.intro
    | (show _ ∧ _
       first
        | refine aTT ?_
        | refine aTB ?_
        | refine aT ?_
        | refine aB ?_
        | refine a11 ?_
        | refine a01 ?_
        | refine a00 ?_
        | refine a10 ?_
        | (with_reducible refine And.intro rfl ?_)
        | refine And.intro ?_ ?_)
    | with_reducible exact rfl
    | with_reducible exact HEq.rfl
    | (show (_ : Option Nat) = _; exact rfl)
    | (show (_ : Option Blk) = _; exact rfl)
    | (with_reducible show (nodupB _ && _ && _ && _ && _) = true; exact (Eq.refl true))
    | (with_reducible show (nodupB _ && _ && _ && _) = true; exact (Eq.refl true))
    | (with_reducible show (nodupB _ && _ && _) = true; exact (Eq.refl true))
    | (with_reducible show freeOk _ _ = true; exact (Eq.refl true))
    | (with_reducible show wrOk _ _ _ _ _ = true; exact (Eq.refl true))
    | (show (_ : AV) = _; exact rfl)
    | (show (_ : Heap) = _; exact rfl)
    | (with_reducible show (_ || !_) = true; exact (Eq.refl true))
    | (with_reducible show Nat.beq _ _ = true; exact (Eq.refl true))))
  all_goals (first | (show (_ : Int) = _) | (show (_ : Bool) = _) | (show HEq _ _) | (show ∃ _ : LInv, _) | skip)
  all_goals (try (with_reducible exact rfl))
  all_goals (try dsimp only at *)
  all_goals (try simp only [Bool.not_true, Bool.not_false, Bool.not_eq_true', Bool.not_eq_false', cond_true, cond_false, bne_iff_ne, ne_eq, bne_eq_false_iff_eq] at *)
  all_goals (first
    | (rw [curM_1 (by assumption)]; done)
    | (rw [curM_2 (by assumption)]; done)
    | (have hi : inM rows b = true := (by assumption); have hb := inM_iff.1 hi; first | omega | exact hi | exact hp.r hi | (have hph : (getM rows b).phase = 1 := (by assumption); first | exact (hp.r hi).one hph | (rw [curM_3 hi hph]; done)))
    | skip)
def cWaitM : Con where
  X := Int × List RRow12 × Int
  args := fun ⟨n, rows, b⟩ => [pA, AI b]
  heap := fun ⟨n, rows, b⟩ => rH true n rows
  pre := fun ⟨n, rows, b⟩ => PM rows b
  res := fun ⟨n, rows, b⟩ => .vsl .int (waitM rows b)
  heap' := fun ⟨n, rows, b⟩ => rH true n rows
  pure := true
  find := fun args H => match args with
    | [.ptr id _, .int _ b] => (findR id H).map fun (n, rows) => (n, rows, b)
    | _ => none
set_option maxRecDepth 100000 in
set_option maxHeartbeats 4000000 in
theorem cWaitM_ok : cWaitM.Ok Try.prog 24 := by
  refine fun_ok (env_ok (Cons.cons cBlock_ok Cons.nil)) mixedP Try.func24 (by decide) rfl cWaitM [(3, 19), (2000003, 0), (2000003, 18), (3000003, 1), (5000003, 1), (3000003, 2), (5000003, 2), (3000003, 3), (3000003, 4), (3000003, 5), (3000003, 6), (3000003, 7), (3000003, 8), (3000003, 9), (5000003, 9), (3000003, 10), (5000003, 10), (3000003, 11), (3000003, 12), (3000003, 13), (3000003, 14), (3000003, 15), (3000003, 16), (3000003, 17)] (fun _ => rfl) (fun _ x => ⟨rfl, rH_ro x.1 x.2.1⟩) (fun _ => Nat.le_of_ble_eq_true rfl) ?_
  rintro ⟨n, rows, b⟩ hp ha hb
  replace hp : PM rows b := hp
  clear ha hb
  all_goals (repeat' (first
    | with_reducible refine iTr ?_
    | with_reducible refine iB ?_
    | intro _
    | exact True.intro
    | (show _ ∧ _
       first
        | refine aTT ?_
        | refine aTB ?_
        | refine aT ?_
        | refine aB ?_
        | refine a11 ?_
        | refine a01 ?_
        | refine a00 ?_
        | refine a10 ?_
        | (with_reducible refine And.intro rfl ?_)
        | refine And.intro ?_ ?_)
    | with_reducible exact rfl
    | with_reducible exact HEq.rfl
    | (show (_ : Option Nat) = _; exact rfl)
    | (show (_ : Option Blk) = _; exact rfl)
    | (with_reducible show (nodupB _ && _ && _ && _ && _) = true; exact (Eq.refl true))
    | (with_reducible show (nodupB _ && _ && _ && _) = true; exact (Eq.refl true))
    | (with_reducible show (nodupB _ && _ && _) = true; exact (Eq.refl true))
    | (with_reducible show freeOk _ _ = true; exact (Eq.refl true))
    | (with_reducible show wrOk _ _ _ _ _ = true; exact (Eq.refl true))
    | (show (_ : AV) = _; exact rfl)
    | (show (_ : Heap) = _; exact rfl)
    | (with_reducible show (_ || !_) = true; exact (Eq.refl true))
    | (with_reducible show Nat.beq _ _ = true; exact (Eq.refl true))))
  all_goals (first | (show (_ : Int) = _) | (show (_ : Bool) = _) | (show HEq _ _) | (show ∃ _ : LInv, _) | skip)
  all_goals (try (with_reducible exact rfl))
  all_goals (try dsimp only at *)
  all_goals (try simp only [Bool.not_true, Bool.not_false, Bool.not_eq_true', Bool.not_eq_false'] at *)
  all_goals (first
    | (show waitM rows b = []; have hi : inM rows b = false := (by assumption); simp [waitM, hi]; done)
    | (have hi : inM rows b = true := (by assumption); have hb := inM_iff.1 hi; have hr := hp.r hi; have e : waitM rows b = (getM rows b).asked.drop (getM rows b).begun.toNat := (by simp [waitM, hi]); first | omega | exact hr.b0 | exact hr.bl | (have h1 := hr.len; show (0 + (List.drop (getM rows b).begun.toNat (getM rows b).asked).length) * 8 ≤ _; rw [List.length_drop]; omega) | (apply heq_of_eq; rw [e]; rfl) | skip)
    | skip)
end Go.Proofs.Ytipibgamajhgbaa

namespace Go.Proofs.Ytipibgamajhgbaa
open Go.RowKit
set_option linter.unusedVariables false
set_option linter.unusedSimpArgs false
structure PAM (n : Int) (rows : List RRow12) (b nd : Int) : Prop where
  r : isM n rows b nd = true → RowM (addM (getM rows b) nd)
theorem askM_t {n : Int} {rows : List RRow12} {b nd : Int} (h : isM n rows b nd = true) : askM n rows b nd = (setM rows b (beginM b (addM (getM rows b) nd)).1, (beginM b (addM (getM rows b) nd)).2) := if_pos h
theorem askM_f {n : Int} {rows : List RRow12} {b nd : Int} (h : isM n rows b nd = false) : askM n rows b nd = (rows, zA, false) := if_neg (by rw [h]; decide)
theorem isM_f {n : Int} {rows : List RRow12} {b nd : Int} (h : ¬ ((0 ≤ b ∧ b < rows.length) ∧ 0 ≤ nd ∧ nd < n)) : isM n rows b nd = false := by
  cases e : isM n rows b nd with
  | false => rfl
  | true => exact absurd (isM_iff.1 e) h
theorem onM_1 {rows : List RRow12} {b s ph : Int} (h : inM rows b = false) : onM rows b s ph = false := by simp [onM, h]
theorem onM_2 {rows : List RRow12} {b s ph : Int} (h : ¬ (getM rows b).phase = ph) : onM rows b s ph = false := by simp [onM, h]
theorem onM_3 {rows : List RRow12} {b s ph : Int} (h : ¬ (getM rows b).begun = s) : onM rows b s ph = false := by simp [onM, h]
theorem onM_t {rows : List RRow12} {b s ph : Int} (h : inM rows b = true) (h1 : (getM rows b).phase = ph) (h2 : (getM rows b).begun = s) : onM rows b s ph = true := by simp [onM, h, h1, h2]
theorem doneM_t {rows : List RRow12} {b s : Int} (h : onM rows b s 1 = true) : doneM rows b s = (setM rows b ⟨(getM rows b).asked, (getM rows b).begun, 2, []⟩, true) := if_pos h
theorem doneM_f {rows : List RRow12} {b s : Int} (h : onM rows b s 1 = false) : doneM rows b s = (rows, false) := if_neg (by rw [h]; decide)
def cAskM : Con where
  X := Int × List RRow12 × Int × Int
  args := fun ⟨n, rows, b, nd⟩ => [pA, AI b, AI nd]
  heap := fun ⟨n, rows, b, nd⟩ => rH false n rows
  pre := fun ⟨n, rows, b, nd⟩ => PAM n rows b nd
  res := fun ⟨n, rows, b, nd⟩ => .tup [AAtv (askM n rows b nd).2.1, AB (askM n rows b nd).2.2]
  heap' := fun ⟨n, rows, b, nd⟩ => rH false n (askM n rows b nd).1
  pure := false
  find := fun args H => match args with
    | [.ptr id _, .int _ b, .int _ nd] => (findR id H).map fun (n, rows) => (n, rows, b, nd)
    | _ => none
set_option maxRecDepth 100000 in
set_option maxHeartbeats 8000000 in
theorem cAskM_ok : cAskM.Ok Try.prog 42 := by
  refine fun_ok (env_ok (Cons.cons cBlock_ok (Cons.cons cbegin_ok Cons.nil))) mixedP Try.func42 (by decide) rfl cAskM [(3, 18), (2000003, 5), (2000003, 14), (2000003, 17), (4000003, 0), (5000003, 0), (6000003, 0), (4000003, 1), (5000003, 1), (6000003, 1), (4000003, 2), (5000003, 2), (6000003, 2), (4000003, 3), (5000003, 3), (6000003, 3), (4000003, 4), (5000003, 4), (6000003, 4), (3000003, 6), (5000003, 6), (6000003, 6), (3000003, 7), (3000003, 8), (3000003, 9), (3000003, 10), (3000003, 11), (3000003, 12), (3000003, 13), (3000003, 15), (4000003, 15), (3000003, 16), (4000003, 16)] (fun _ => rfl) (fun h => by cases h) (fun _ => Nat.le_of_ble_eq_true rfl) ?_
  rintro ⟨n, rows, b, nd⟩ hp ha hb
  replace hp : PAM n rows b nd := hp
  clear ha hb
  all_goals (repeat' (first
    | with_reducible refine iTr ?_
    | with_reducible refine iB ?_
    | intro _
    | exact True.intro
    | (show _ ∧ _
       first
        | refine aTT ?_
        | refine aTB ?_
        | refine aT ?_
        | refine aB ?_
        | refine a11 ?_
        | refine a01 ?_
        | refine a00 ?_
        | refine a10 ?_
        | (with_reducible refine And.intro rfl ?_)
        | refine And.intro ?_ ?_)
    | with_reducible exact rfl
    | with_reducible exact HEq.rfl
    | (show (_ : Option Nat) = _; exact rfl)
    | (show (_ : Option Blk) = _; exact rfl)
    | (with_reducible show (nodupB _ && _ && _ && _ && _) = true; exact (Eq.refl true))
    | (with_reducible show (nodupB _ && _ && _ && _) = true; exact (Eq.refl true))
    | (with_reducible show (nodupB _ && _ && _) = true; exact (Eq.refl true))
    | (with_reducible show freeOk _ _ = true; exact (Eq.refl true))
    | (with_reducible show wrOk _ _ _ _ _ = true; exact (Eq.refl true))
    | (show (_ : AV) = _; exact rfl)
    | (show (_ : Heap) = _; exact rfl)
    | (with_reducible show (_ || !_) = true; exact (Eq.refl true))
    | (with_reducible show Nat.beq _ _ = true; exact (Eq.refl true))))
  all_goals (first | (show (_ : Int) = _) | (show (_ : Bool) = _) | (show HEq _ _) | (show ∃ _ : LInv, _) | skip)
  all_goals (try (with_reducible exact rfl))
  all_goals (try dsimp only at *)
  all_goals (try simp only [Bool.not_true, Bool.not_false, Bool.not_eq_true', Bool.not_eq_false', cond_true, cond_false, decide_eq_true_eq, decide_eq_false_iff_not] at *)
  all_goals (first
    | (have hi : inM rows b = false := (by assumption); have hx : isM n rows b nd = false := (by simp [isM, hi]); rw [askM_f hx]; done)
    | (have hx : isM n rows b nd = false := isM_f (by omega); rw [askM_f hx]; done)
    | skip)
  all_goals (have hi : inM rows b = true := (by assumption); have hb := inM_iff.1 hi; have hlt : b.toNat < rows.length := (by omega); have hx : isM n rows b nd = true := isM_iff.2 ⟨hb, by omega, by omega⟩; have hr := hp.r hx; have hl : (getM rows b).asked.length + 1 ≤ 1000 := (by have h1 : ((getM rows b).asked ++ [nd]).length ≤ 1000 := hr.len; rw [List.length_append, List.length_singleton] at h1; exact h1))
  all_goals (first
    | omega
    | (show (0 + (getM rows b).asked.length) * 8 ≤ _; omega)
    | (show (([] ++ (getM rows b).asked).length + 1) * 8 ≤ _; rw [List.nil_append]; omega)
    | (rw [inM_iff, List.length_set]; exact hb)
    | (rw [getM_set hlt]; exact hr)
    | (rw [askM_t hx, getM_set hlt]; done)
    | (rw [askM_t hx, getM_set hlt]; rfl)
    | (apply heq_of_eq; rw [askM_t hx, getM_set hlt]; unfold setM; rw [List.set_set]; rfl)
    | skip)
def cDoneM : Con where
  X := Int × List RRow12 × Int × Int
  args := fun ⟨n, rows, b, s⟩ => [pA, AI b, AI s]
  heap := fun ⟨n, rows, b, s⟩ => rH false n rows
  pre := fun ⟨n, rows, b, s⟩ => True
  res := fun ⟨n, rows, b, s⟩ => AB (doneM rows b s).2
  heap' := fun ⟨n, rows, b, s⟩ => rH false n (doneM rows b s).1
  pure := false
  find := fun args H => match args with
    | [.ptr id _, .int _ b, .int _ s] => (findR id H).map fun (n, rows) => (n, rows, b, s)
    | _ => none
set_option maxRecDepth 100000 in
set_option maxHeartbeats 8000000 in
theorem cDoneM_ok : cDoneM.Ok Try.prog 44 := by
  refine fun_ok (env_ok (Cons.cons cBlock_ok Cons.nil)) mixedP Try.func44 (by decide) rfl cDoneM [] (fun _ => rfl) (fun h => by cases h) (fun _ => Nat.le_of_ble_eq_true rfl) ?_
  rintro ⟨n, rows, b, s⟩ hp ha hb
  clear hp ha hb
  all_goals (repeat' (first
    | with_reducible refine iTr ?_
    | with_reducible refine iB ?_
    | intro _
    | exact True.intro
    | (show _ ∧ _
       first
        | refine aTT ?_
        | refine aTB ?_
        | refine aT ?_
        | refine aB ?_
        | refine a11 ?_
        | refine a01 ?_
        | refine a00 ?_
        | refine a10 ?_
        | (with_reducible refine And.intro rfl ?_)
        | refine And.intro ?_ ?_)
    | with_reducible exact rfl
    | with_reducible exact HEq.rfl
    | (show (_ : Option Nat) = _; exact rfl)
    | (show (_ : Option Blk) = _; exact rfl)
    | (with_reducible show (nodupB _ && _ && _ && _ && _) = true; exact (Eq.refl true))
    | (with_reducible show (nodupB _ && _ && _ && _) = true; exact (Eq.refl true))
    | (with_reducible show (nodupB _ && _ && _) = true; exact (Eq.refl true))
    | (with_reducible show freeOk _ _ = true; exact (Eq.refl true))
    | (with_reducible show wrOk _ _ _ _ _ = true; exact (Eq.refl true))
    | (show (_ : AV) = _; exact rfl)
    | (show (_ : Heap) = _; exact rfl)
    | (with_reducible show (_ || !_) = true; exact (Eq.refl true))
    | (with_reducible show Nat.beq _ _ = true; exact (Eq.refl true))))
  all_goals (first | (show (_ : Int) = _) | (show (_ : Bool) = _) | (show HEq _ _) | (show ∃ _ : LInv, _) | skip)
  all_goals (try (with_reducible exact rfl))
  all_goals (try dsimp only at *)
  all_goals (try simp only [Bool.not_true, Bool.not_false, Bool.not_eq_true', Bool.not_eq_false', cond_true, cond_false, bne_iff_ne, ne_eq, bne_eq_false_iff_eq, List.length_set] at *)
  all_goals (first
    | (rw [doneM_f (by first | exact onM_1 (by assumption) | exact onM_2 (by assumption) | exact onM_3 (by assumption))]; done)
    | skip)
  all_goals (have hi : inM rows b = true := (by assumption); have hb := inM_iff.1 hi; have hlt : b.toNat < rows.length := (by omega))
  all_goals (first
    | omega
    | (rw [doneM_t (onM_t hi (by assumption) (by assumption))]; done)
    | (apply heq_of_eq; rw [doneM_t (onM_t hi (by assumption) (by assumption))]; unfold setM; simp only [getD_set_self, List.set_set, hlt]; rfl)
    | skip)
end Go.Proofs.Ytipibgamajhgbaa

namespace Go.Proofs.Ytipibgamajhgbaa
open Go.RowKit
set_option linter.unusedVariables false
set_option linter.unusedSimpArgs false
def hearM (r : RRow12) (nd : Int) : RRow12 := ⟨r.asked, r.begun, r.phase, r.knows ++ [nd]⟩
def overM (r : RRow12) (nd : Int) : RRow12 := ⟨r.asked, r.begun, 0, r.knows ++ [nd]⟩
def allM (n : Int) (k : List Int) : Prop := ∀ i : Nat, (i : Int) < n → (i : Int) ∈ k
instance (n : Int) (k : List Int) : Decidable (allM n k) := decidable_of_iff (∀ i, i < n.toNat → (i : Int) ∈ k) ⟨fun h i hi => h i (by omega), fun h i hi => h i (by omega)⟩
def ackM (n : Int) (rows : List RRow12) (b s nd : Int) : List RRow12 × Atv × Bool :=
  if isM n rows b nd && onM rows b s 2 then (if allM n ((getM rows b).knows ++ [nd]) then (setM rows b (beginM b (overM (getM rows b) nd)).1, (beginM b (overM (getM rows b) nd)).2) else (setM rows b (hearM (getM rows b) nd), zA, false)) else (rows, zA, false)
theorem ackM_f {n : Int} {rows : List RRow12} {b s nd : Int} (h : (isM n rows b nd && onM rows b s 2) = false) : ackM n rows b s nd = (rows, zA, false) := if_neg (by rw [h]; decide)
theorem ackM_1 {n : Int} {rows : List RRow12} {b s nd : Int} (h : (isM n rows b nd && onM rows b s 2) = true) (hk : ¬ allM n ((getM rows b).knows ++ [nd])) : ackM n rows b s nd = (setM rows b (hearM (getM rows b) nd), zA, false) := by unfold ackM; rw [if_pos h, if_neg hk]
theorem ackM_2 {n : Int} {rows : List RRow12} {b s nd : Int} (h : (isM n rows b nd && onM rows b s 2) = true) (hk : allM n ((getM rows b).knows ++ [nd])) : ackM n rows b s nd = (setM rows b (beginM b (overM (getM rows b) nd)).1, (beginM b (overM (getM rows b) nd)).2) := by unfold ackM; rw [if_pos h, if_pos hk]
structure PKM (n : Int) (rows : List RRow12) (b : Int) : Prop where
  n64 : n ≤ 64
  r : inM rows b = true → RowM (getM rows b)
  k : inM rows b = true → (getM rows b).knows.length ≤ 99999
structure SA (n : Int) (k : List Int) (i : Nat) : Prop where
  le : (i : Int) ≤ n
  n64 : n ≤ 64
  all : ∀ j : Nat, j < i → (j : Int) ∈ k
structure SK (k : List Int) (i j : Nat) (is : Bool) : Prop where
  le : j ≤ k.length
  eq : is = decide ((i : Int) ∈ k.take j)
theorem sk_next {k : List Int} {i j : Nat} {is : Bool} (h : SK k i j is) (hj : j < k.length) : SK k i (j + 1) (decide ((i : Int) ∈ k.take (j + 1))) := ⟨hj, rfl⟩
theorem sk_t {k : List Int} {i j : Nat} (h : SK k i j true) (hj : j < k.length) : decide ((i : Int) ∈ k.take (j + 1)) = true := by
  have h1 := of_decide_eq_true h.eq.symm
  refine decide_eq_true ?_
  rw [List.take_add_one]
  exact List.mem_append_left _ h1
theorem sk_f {k : List Int} {i j : Nat} {z : Int} (h : SK k i j false) (hj : j < k.length) : decide ((i : Int) ∈ k.take (j + 1)) = (k.getD j z == (i : Int)) := by
  have h1 := of_decide_eq_false h.eq.symm
  rw [List.take_add_one, List.getElem?_eq_getElem hj, List.getD_eq_getElem?_getD, List.getElem?_eq_getElem hj]
  simp only [Option.toList_some, Option.getD_some, List.mem_append, List.mem_singleton, h1, false_or]
  by_cases e : k[j] = (i : Int)
  · simp [e]
  · rw [decide_eq_false (fun h => e h.symm)]
    exact (beq_eq_false_iff_ne.2 e).symm
theorem sa_next {n : Int} {k : List Int} {i j : Nat} (h : SA n k i) (hi : (i : Int) < n) (hs : SK k i j true) (hj : ¬ j < k.length) : SA n k (i + 1) := by
  refine ⟨by omega, h.n64, fun j' hj' => ?_⟩
  rcases Nat.lt_or_ge j' i with h1 | h1
  · exact h.all j' h1
  · have : j' = i := by omega
    subst this
    have h2 := of_decide_eq_true hs.eq.symm
    rwa [List.take_of_length_le (by omega)] at h2
theorem sa_not {n : Int} {k : List Int} {i j : Nat} (hi : (i : Int) < n) (hs : SK k i j false) (hj : ¬ j < k.length) : ¬ allM n k := fun h => by
  have h2 := of_decide_eq_false hs.eq.symm
  rw [List.take_of_length_le (by omega)] at h2
  exact h2 (h i hi)
theorem sa_end {n : Int} {k : List Int} {i : Nat} (h : SA n k i) (hi : ¬ (i : Int) < n) : allM n k := fun j hj => h.all j (by omega)
theorem ackM_f1 {n : Int} {rows : List RRow12} {b s nd : Int} (h : inM rows b = false) : ackM n rows b s nd = (rows, zA, false) := ackM_f (by simp [isM, h])
theorem ackM_f2 {n : Int} {rows : List RRow12} {b s nd : Int} (h : isM n rows b nd = false) : ackM n rows b s nd = (rows, zA, false) := ackM_f (by simp [h])
theorem ackM_f3 {n : Int} {rows : List RRow12} {b s nd : Int} (h : onM rows b s 2 = false) : ackM n rows b s nd = (rows, zA, false) := ackM_f (by simp [h])
theorem rowM_over {r : RRow12} (h : RowM r) (hk : r.knows.length ≤ 99999) (nd : Int) : RowM (overM r nd) :=
  ⟨h.b0, h.bl, .inl rfl, h.len, by show (r.knows ++ [nd]).length ≤ 100000; rw [List.length_append, List.length_singleton]; omega⟩
def cAckM : Con where
  X := Int × List RRow12 × Int × Int × Int
  args := fun ⟨n, rows, b, s, nd⟩ => [pA, AI b, AI s, AI nd]
  heap := fun ⟨n, rows, b, s, nd⟩ => rH false n rows
  pre := fun ⟨n, rows, b, s, nd⟩ => PKM n rows b
  res := fun ⟨n, rows, b, s, nd⟩ => .tup [AAtv (ackM n rows b s nd).2.1, AB (ackM n rows b s nd).2.2]
  heap' := fun ⟨n, rows, b, s, nd⟩ => rH false n (ackM n rows b s nd).1
  pure := false
  find := fun args H => match args with
    | [.ptr id _, .int _ b, .int _ s, .int _ nd] => (findR id H).map fun (n, rows) => (n, rows, b, s, nd)
    | _ => none
set_option maxRecDepth 100000 in
set_option maxHeartbeats 16000000 in
theorem cAckM_ok : cAckM.Ok Try.prog 46 := by
  refine fun_ok (env_ok (Cons.cons cBlock_ok (Cons.cons cbegin_ok Cons.nil))) mixedP Try.func46 (by decide) rfl cAckM [(3, 18), (2000003, 5), (2000003, 14), (2000003, 17), (4000003, 0), (5000003, 0), (6000003, 0), (4000003, 1), (5000003, 1), (6000003, 1), (4000003, 2), (5000003, 2), (6000003, 2), (4000003, 3), (5000003, 3), (6000003, 3), (4000003, 4), (5000003, 4), (6000003, 4), (3000003, 6), (5000003, 6), (6000003, 6), (3000003, 7), (3000003, 8), (3000003, 9), (3000003, 10), (3000003, 11), (3000003, 12), (3000003, 13), (3000003, 15), (4000003, 15), (3000003, 16), (4000003, 16)] (fun _ => rfl) (fun h => by cases h) (fun _ => Nat.le_of_ble_eq_true rfl) ?_
  rintro ⟨n, rows, b, s, nd⟩ hp ha hb
  replace hp : PKM n rows b := hp
  clear ha hb
  all_goals (repeat' (first
    | with_reducible refine iTr ?_
    | with_reducible refine iB ?_
    | intro _
    | exact True.intro
    | (show _ ∧ _
       first
        | refine aTT ?_
        | refine aTB ?_
        | refine aT ?_
        | refine aB ?_
        | refine a11 ?_
        | refine a01 ?_
        | refine a00 ?_
        | refine a10 ?_
        | (with_reducible refine And.intro rfl ?_)
        | refine And.intro ?_ ?_)
    | with_reducible exact rfl
    | with_reducible exact HEq.rfl
    | (show (_ : Option Nat) = _; exact rfl)
    | (show (_ : Option Blk) = _; exact rfl)
    | (with_reducible show (nodupB _ && _ && _ && _ && _) = true; exact (Eq.refl true))
    | (with_reducible show (nodupB _ && _ && _ && _) = true; exact (Eq.refl true))
    | (with_reducible show (nodupB _ && _ && _) = true; exact (Eq.refl true))
    | (with_reducible show freeOk _ _ = true; exact (Eq.refl true))
    | (with_reducible show wrOk _ _ _ _ _ = true; exact (Eq.refl true))
    | (show (_ : AV) = _; exact rfl)
    | (show (_ : Heap) = _; exact rfl)
    | (with_reducible show (_ || !_) = true; exact (Eq.refl true))
    | (with_reducible show Nat.beq _ _ = true; exact (Eq.refl true))))
  all_goals (first | (show (_ : Int) = _) | (show (_ : Bool) = _) | (show HEq _ _) | (show ∃ _ : LInv, _) | skip)
  all_goals (try (with_reducible exact rfl))
  all_goals try (refine ⟨⟨{i : Nat // SA n ((getM rows b).knows ++ [nd]) i}, fun i => [(10, AI i.1), (0, pA), (1, AI b), (8, .ptr 2 ⟨0,0,0,none⟩), (9, AB false)], fun i => ⟨3, [(2, some (.obj false [.int .i64 0, .int .i64 0, .int .i64 0])), (1, some (.seq false 92 .rRow12 (setM rows b (hearM (getM rows b) nd)))), (0, some (.obj true [.int .i64 n, .slc 1]))]⟩, fun i => n.toNat - i.1⟩, ⟨⟨0, ?_⟩, [], ?_⟩, ?_⟩; rotate_right; rintro ⟨i, hS⟩)
  all_goals (repeat' (first
    | with_reducible refine iTr ?_
    | with_reducible refine iB ?_
    | intro _
    | exact True.intro
    | (show _ ∧ _
       first
        | refine aTT ?_
        | refine aTB ?_
        | refine aT ?_
        | refine aB ?_
        | refine a11 ?_
        | refine a01 ?_
        | refine a00 ?_
        | refine a10 ?_
        | (with_reducible refine And.intro rfl ?_)
        | refine And.intro ?_ ?_)
    | with_reducible exact rfl
    | with_reducible exact HEq.rfl
    | (show (_ : Option Nat) = _; exact rfl)
    | (show (_ : Option Blk) = _; exact rfl)
    | (with_reducible show (nodupB _ && _ && _ && _ && _) = true; exact (Eq.refl true))
    | (with_reducible show (nodupB _ && _ && _ && _) = true; exact (Eq.refl true))
    | (with_reducible show (nodupB _ && _ && _) = true; exact (Eq.refl true))
    | (with_reducible show freeOk _ _ = true; exact (Eq.refl true))
    | (with_reducible show wrOk _ _ _ _ _ = true; exact (Eq.refl true))
    | (show (_ : AV) = _; exact rfl)
    | (show (_ : Heap) = _; exact rfl)
    | (with_reducible show (_ || !_) = true; exact (Eq.refl true))
    | (with_reducible show Nat.beq _ _ = true; exact (Eq.refl true))))
  all_goals (first | (show (_ : Int) = _) | (show (_ : Bool) = _) | (show HEq _ _) | (show ∃ _ : LInv, _) | skip)
  all_goals (try (with_reducible exact rfl))
  all_goals try (refine ⟨⟨{s : Nat × Bool // SK ((getM rows b).knows ++ [nd]) i s.1 s.2}, fun s => [(12, AI s.1.1), (11, AB s.1.2), (10, AI i), (0, pA), (1, AI b), (8, .ptr 2 ⟨0,0,0,none⟩), (9, AB false)], fun s => ⟨3, [(2, some (.obj false [.int .i64 0, .int .i64 0, .int .i64 0])), (1, some (.seq false 92 .rRow12 (setM rows b (hearM (getM rows b) nd)))), (0, some (.obj true [.int .i64 n, .slc 1]))]⟩, fun s => ((getM rows b).knows ++ [nd]).length - s.1.1⟩, ⟨⟨(0, false), ?_⟩, [], ?_⟩, ?_⟩; rotate_right; rintro ⟨⟨j, is⟩, hS2⟩)
  all_goals (repeat' (first
    | with_reducible refine iTr ?_
    | with_reducible refine iB ?_
    | intro _
    | exact True.intro
    | (show _ ∧ _
       first
        | refine aTT ?_
        | refine aTB ?_
        | refine aT ?_
        | refine aB ?_
        | refine a11 ?_
        | refine a01 ?_
        | refine a00 ?_
        | refine a10 ?_
        | (with_reducible refine And.intro rfl ?_)
        | refine And.intro ?_ ?_)
    | with_reducible exact rfl
    | with_reducible exact HEq.rfl
    | (show (_ : Option Nat) = _; exact rfl)
    | (show (_ : Option Blk) = _; exact rfl)
    | (with_reducible show (nodupB _ && _ && _ && _ && _) = true; exact (Eq.refl true))
    | (with_reducible show (nodupB _ && _ && _ && _) = true; exact (Eq.refl true))
    | (with_reducible show (nodupB _ && _ && _) = true; exact (Eq.refl true))
    | (with_reducible show freeOk _ _ = true; exact (Eq.refl true))
    | (with_reducible show wrOk _ _ _ _ _ = true; exact (Eq.refl true))
    | (show (_ : AV) = _; exact rfl)
    | (show (_ : Heap) = _; exact rfl)
    | (with_reducible show (_ || !_) = true; exact (Eq.refl true))
    | (with_reducible show Nat.beq _ _ = true; exact (Eq.refl true))))
  all_goals (first | (show (_ : Int) = _) | (show (_ : Bool) = _) | (show HEq _ _) | (show ∃ _ : LInv, _) | skip)
  all_goals (try (with_reducible exact rfl))
  all_goals try (refine ⟨⟨(j + 1, decide ((i : Int) ∈ ((getM rows b).knows ++ [nd]).take (j + 1))), ?_⟩, ?_, ?_⟩)
  all_goals (repeat' (first
    | with_reducible refine iTr ?_
    | with_reducible refine iB ?_
    | intro _
    | exact True.intro
    | (show _ ∧ _
       first
        | refine aTT ?_
        | refine aTB ?_
        | refine aT ?_
        | refine aB ?_
        | refine a11 ?_
        | refine a01 ?_
        | refine a00 ?_
        | refine a10 ?_
        | (with_reducible refine And.intro rfl ?_)
        | refine And.intro ?_ ?_)
    | with_reducible exact rfl
    | with_reducible exact HEq.rfl
    | (show (_ : Option Nat) = _; exact rfl)
    | (show (_ : Option Blk) = _; exact rfl)
    | (with_reducible show (nodupB _ && _ && _ && _ && _) = true; exact (Eq.refl true))
    | (with_reducible show (nodupB _ && _ && _ && _) = true; exact (Eq.refl true))
    | (with_reducible show (nodupB _ && _ && _) = true; exact (Eq.refl true))
    | (with_reducible show freeOk _ _ = true; exact (Eq.refl true))
    | (with_reducible show wrOk _ _ _ _ _ = true; exact (Eq.refl true))
    | (show (_ : AV) = _; exact rfl)
    | (show (_ : Heap) = _; exact rfl)
    | (with_reducible show (_ || !_) = true; exact (Eq.refl true))
    | (with_reducible show Nat.beq _ _ = true; exact (Eq.refl true))))
  all_goals (first | (show (_ : Int) = _) | (show (_ : Bool) = _) | (show HEq _ _) | (show ∃ _ : LInv, _) | skip)
  all_goals (try (with_reducible exact rfl))
  all_goals try (refine ⟨⟨i + 1, ?_⟩, ?_, ?_⟩)
  all_goals (repeat' (first
    | with_reducible refine iTr ?_
    | with_reducible refine iB ?_
    | intro _
    | exact True.intro
    | (show _ ∧ _
       first
        | refine aTT ?_
        | refine aTB ?_
        | refine aT ?_
        | refine aB ?_
        | refine a11 ?_
        | refine a01 ?_
        | refine a00 ?_
        | refine a10 ?_
        | (with_reducible refine And.intro rfl ?_)
        | refine And.intro ?_ ?_)
    | with_reducible exact rfl
    | with_reducible exact HEq.rfl
    | (show (_ : Option Nat) = _; exact rfl)
    | (show (_ : Option Blk) = _; exact rfl)
    | (with_reducible show (nodupB _ && _ && _ && _ && _) = true; exact (Eq.refl true))
    | (with_reducible show (nodupB _ && _ && _ && _) = true; exact (Eq.refl true))
    | (with_reducible show (nodupB _ && _ && _) = true; exact (Eq.refl true))
    | (with_reducible show freeOk _ _ = true; exact (Eq.refl true))
    | (with_reducible show wrOk _ _ _ _ _ = true; exact (Eq.refl true))
    | (show (_ : AV) = _; exact rfl)
    | (show (_ : Heap) = _; exact rfl)
    | (with_reducible show (_ || !_) = true; exact (Eq.refl true))
    | (with_reducible show Nat.beq _ _ = true; exact (Eq.refl true))))
  all_goals (first | (show (_ : Int) = _) | (show (_ : Bool) = _) | (show HEq _ _) | (show ∃ _ : LInv, _) | skip)
  all_goals (try (with_reducible exact rfl))
  all_goals (try dsimp only at *)
  all_goals (try simp only [Bool.not_true, Bool.not_false, Bool.not_eq_true', Bool.not_eq_false', cond_true, cond_false, bne_iff_ne, ne_eq, bne_eq_false_iff_eq, decide_eq_true_eq, decide_eq_false_iff_not, List.length_set, len_setM, Int.toNat_natCast] at *)
  all_goals (first
    | (rw [ackM_f1 (by assumption)]; done)
    | (rw [ackM_f2 (isM_f (by omega))]; done)
    | (rw [ackM_f3 (by first | exact onM_2 (by assumption) | exact onM_3 (by assumption))]; done)
    | skip)
  all_goals (have hi : inM rows b = true := (by assumption); have hb := inM_iff.1 hi; have hlt : b.toNat < rows.length := (by omega); have hr := hp.r hi; have hkl := hp.k hi)
  all_goals (have hX : (setM rows b (hearM (getM rows b) nd)).getD b.toNat Ty.rRow12.dflt = hearM (getM rows b) nd := getD_set_self hlt; have hK : (hearM (getM rows b) nd).knows = (getM rows b).knows ++ [nd] := rfl; have hl2 : b.toNat < (setM rows b (hearM (getM rows b) nd)).length := (by rw [len_setM]; exact hlt))
  all_goals (first
    | omega
    | (show (0 + (getM rows b).knows.length) * 8 ≤ _; omega)
    | (show (([] ++ (getM rows b).knows).length + 1) * 8 ≤ _; rw [List.nil_append]; omega)
    | (show SA n _ 0; exact ⟨by omega, hp.n64, fun j hj => absurd hj (Nat.not_lt_zero _)⟩)
    | (show SK _ i 0 false; exact ⟨Nat.zero_le _, by simp⟩)
    | skip)
  all_goals (try simp only [hX, hK] at *)
  all_goals (have hlk : ((getM rows b).knows ++ [nd]).length ≤ 100000 := (by rw [List.length_append, List.length_singleton]; omega))
  all_goals (first
    | omega
    | (apply heq_of_eq; with_reducible rfl)
    | (exact sk_next hS2 (by omega))
    | (have h9 : is = false := (by assumption); subst h9; exact (sk_f hS2 (by omega)).symm)
    | (have h9 : is = true := (by assumption); subst h9; exact (sk_t hS2 (by omega)).symm)
    | (have h9 : is = true := (by assumption); subst h9; exact sa_next hS (by omega) hS2 (by omega))
    | exact wrap_succ (by omega)
    | (have h64 := hp.n64; exact wrap_succ (by omega))
    | (have hyes : (isM n rows b nd && onM rows b s 2) = true := (by rw [isM_iff.2 ⟨hb, by omega, by omega⟩, onM_t hi (by assumption) (by assumption)]; rfl)
       have h9 : is = false := (by assumption)
       subst h9
       have hna := sa_not (n := n) (by omega) hS2 (by omega)
       rw [ackM_1 hyes hna]
       first | done | rfl | exact HEq.rfl)
    | (rw [inM_iff, List.length_set, len_setM]; exact hb)
    | (rw [getM_set hl2]; exact rowM_over hr hkl nd)
    | (have hyes : (isM n rows b nd && onM rows b s 2) = true := (by rw [isM_iff.2 ⟨hb, by omega, by omega⟩, onM_t hi (by assumption) (by assumption)]; rfl)
       have hall := sa_end hS (by omega)
       first
       | (rw [ackM_2 hyes hall, getM_set hl2]; done)
       | (rw [ackM_2 hyes hall, getM_set hl2]; rfl)
       | (apply heq_of_eq; rw [ackM_2 hyes hall, getM_set hl2]; unfold setM; rw [List.set_set, List.set_set]; rfl))
    | (apply heq_of_eq; rfl)
    | skip)
end Go.Proofs.Ytipibgamajhgbaa

namespace Go.Proofs.Ytipibgamajhgbaa
open Go.RowKit
set_option linter.unusedVariables false
set_option linter.unusedSimpArgs false
theorem inR_setR (rows : List Row12) (b c : Int) (v : Row12) : inR (setR rows b v) c = inR rows c := by unfold inR; rw [len_setR]
theorem getR_ite {rows : List Row12} {b c : Int} {v : Row12} (hb : inR rows b = true) (hc : inR rows c = true) : getR (setR rows b v) c = if c = b then v else getR rows c := by
  have hb := inR_iff.1 hb
  have hc := inR_iff.1 hc
  split
  · rename_i e
    subst e
    exact getR_setR (by omega)
  · rename_i e
    unfold getR setR
    rw [List.getD_eq_getElem?_getD, List.getElem?_set_ne (by omega), ← List.getD_eq_getElem?_getD]
/-- A row and the reference's. -/
structure RR (n b : Int) (ka kk : Nat) (r : Row12) (m : RRow12) : Prop where
  seq : r.seq = m.begun
  b0 : 0 ≤ m.begun
  bl : m.begun ≤ m.asked.length
  ph : m.phase = 0 ∨ m.phase = 1 ∨ m.phase = 2
  b1 : m.phase ≠ 0 → 1 ≤ m.begun
  queue : r.queue = m.asked.drop m.begun.toNat
  on : r.on = decide (m.phase = 1)
  en : r.ending = decide (m.phase = 2)
  act : m.phase ≠ 0 → r.act = lastM b m
  kl : m.phase = 2 → r.knows.length = 64
  ki : m.phase = 2 → ∀ j : Nat, j < 64 → (r.knows.getD j false = true ↔ (j : Int) ∈ m.knows)
  kb : m.phase = 2 → ∀ x ∈ m.knows, 0 ≤ x ∧ x < n
  la : m.asked.length ≤ ka
  lk : m.knows.length ≤ kk
theorem RR.mono {n b : Int} {ka kk ka' kk' : Nat} {r : Row12} {m : RRow12} (h : RR n b ka kk r m) (h1 : ka ≤ ka') (h2 : kk ≤ kk') : RR n b ka' kk' r m :=
  { h with la := Nat.le_trans h.la h1, lk := Nat.le_trans h.lk h2 }
theorem RR.rowM {n b : Int} {ka kk : Nat} {r : Row12} {m : RRow12} (h : RR n b ka kk r m) (h1 : ka ≤ 1000) (h2 : kk ≤ 100000) : RowM m :=
  ⟨h.b0, h.bl, (Decidable.em (m.phase = 0)).elim .inl (fun e => .inr (h.b1 e)), by have := h.la; omega, by have := h.lk; omega⟩
theorem last_add {m : RRow12} {b nd : Int} (h1 : 1 ≤ m.begun) (h2 : m.begun ≤ m.asked.length) (h3 : m.asked.length ≤ 1000) : lastM b (addM m nd) = lastM b m := by
  have hw : IntKind.i64.wrap (m.begun - 1) = m.begun - 1 := wrap_id (by omega) (by omega)
  unfold lastM addM
  dsimp only
  rw [hw, List.getD_eq_getElem?_getD, List.getElem?_append_left (by omega), ← List.getD_eq_getElem?_getD]
theorem RR.add {n b : Int} {ka kk : Nat} {r : Row12} {m : RRow12} (h : RR n b ka kk r m) (hk : ka ≤ 1000) (nd : Int) : RR n b (ka + 1) kk (addQ r nd) (addM m nd) where
  seq := h.seq
  b0 := h.b0
  bl := by show m.begun ≤ ((m.asked ++ [nd]).length : Int); rw [List.length_append]; have := h.bl; push_cast; omega
  ph := h.ph
  b1 := h.b1
  queue := by
    show r.queue ++ [nd] = (m.asked ++ [nd]).drop m.begun.toNat
    rw [h.queue, List.drop_append_of_le_length (by have := h.bl; omega)]
  on := h.on
  en := h.en
  act := fun hp => (h.act hp).trans (last_add (h.b1 hp) h.bl (by have := h.la; omega)).symm
  kl := h.kl
  ki := h.ki
  kb := h.kb
  la := by show (m.asked ++ [nd]).length ≤ ka + 1; rw [List.length_append, List.length_singleton]; have := h.la; omega
  lk := h.lk
theorem RR.quiet {n b : Int} {ka kk : Nat} {r : Row12} {m : RRow12} (h : RR n b ka kk r m) : quiet r = restM m := by
  have hq : decide (r.queue.length = 0) = decide ((m.asked.length : Int) ≤ m.begun) := by
    rw [h.queue, List.length_drop]
    have := h.b0
    exact decide_eq_decide.2 ⟨fun h => by omega, fun h => by omega⟩
  unfold Go.Proofs.Ytipibgamajhgbaa.quiet restM
  rw [h.on, h.en, hq]
  rcases h.ph with e | e | e <;> rw [e] <;> simp
theorem RR.next {n b : Int} {ka kk : Nat} {r : Row12} {m : RRow12} (h : RR n b ka kk r m) (hk : ka ≤ 1001) : (nextR b r).2 = (beginM b m).2 ∧ RR n b ka kk (nextR b r).1 (beginM b m).1 := by
  have hq := h.quiet
  cases hr : restM m with
  | true =>
    rw [hr] at hq
    rw [next_q hq, beginM_t hr]
    exact ⟨rfl, h⟩
  | false =>
    rw [hr] at hq
    rw [next_n hq, beginM_f hr]
    have hlt : m.begun < m.asked.length := by
      unfold restM at hr
      simp only [Bool.or_eq_false_iff, Bool.not_eq_false', decide_eq_true_eq, decide_eq_false_iff_not] at hr
      omega
    have hp0 : m.phase = 0 := by
      unfold restM at hr
      simp only [Bool.or_eq_false_iff, Bool.not_eq_false', decide_eq_true_eq, decide_eq_false_iff_not] at hr
      exact hr.1
    have hen : r.ending = false := by rw [h.en, hp0]; rfl
    have h0 := h.b0
    have hla := h.la
    have hw : IntKind.i64.wrap (m.begun + 1) = m.begun + 1 := wrap_id (by omega) (by omega)
    have hw2 : IntKind.i64.wrap (m.begun + 1 - 1) = m.begun := by rw [show m.begun + 1 - 1 = m.begun from by omega]; exact wrap_id (by omega) (by omega)
    have hact : nextA b r = lastM b (begunM m) := by
      unfold nextA lastM begunM
      dsimp only
      rw [h.seq, hw, hw2, h.queue]
      congr 1
      rw [List.getD_eq_getElem?_getD, List.getElem?_drop, Nat.add_zero, ← List.getD_eq_getElem?_getD]
    refine ⟨by rw [hact], ?_⟩
    exact
      { seq := by show IntKind.i64.wrap (r.seq + 1) = IntKind.i64.wrap (m.begun + 1); rw [h.seq]
        b0 := by show 0 ≤ IntKind.i64.wrap (m.begun + 1); rw [hw]; omega
        bl := by show IntKind.i64.wrap (m.begun + 1) ≤ _; rw [hw]; show m.begun + 1 ≤ (m.asked.length : Int); omega
        ph := .inr (.inl rfl)
        b1 := fun _ => by show 1 ≤ IntKind.i64.wrap (m.begun + 1); rw [hw]; omega
        queue := by
          show r.queue.drop 1 = m.asked.drop (IntKind.i64.wrap (m.begun + 1)).toNat
          rw [h.queue, List.drop_drop, hw]
          congr 1
          omega
        on := rfl
        en := hen
        act := fun _ => hact
        kl := fun h' => by cases h'
        ki := fun h' => by cases h'
        kb := fun h' => by cases h'
        la := h.la
        lk := h.lk }
theorem RR.over {n b : Int} {ka kk : Nat} {r : Row12} {m : RRow12} (h : RR n b ka kk r m) (hp : m.phase = 1) : RR n b ka kk (overR r) ⟨m.asked, m.begun, 2, []⟩ where
  seq := h.seq
  b0 := h.b0
  bl := h.bl
  ph := .inr (.inr rfl)
  b1 := fun _ => h.b1 (by rw [hp]; decide)
  queue := h.queue
  on := rfl
  en := rfl
  act := fun _ => h.act (by rw [hp]; decide)
  kl := fun _ => by show (List.replicate 64 false).length = 64; simp
  ki := fun _ j hj => by
    show ((List.replicate 64 false).getD j false = true) ↔ (j : Int) ∈ []
    rw [List.getD_eq_getElem?_getD, List.getElem?_replicate, if_pos hj]
    simp
  kb := fun _ x hx => by cases hx
  la := h.la
  lk := Nat.zero_le _
theorem RR.know {n b : Int} {ka kk : Nat} {r : Row12} {m : RRow12} (h : RR n b ka kk r m) (hp : m.phase = 2) {nd : Int} (h1 : 0 ≤ nd) (h2 : nd < n) (h3 : n ≤ 64) :
    (r.knows.set nd.toNat true).length = 64 ∧ (∀ j : Nat, j < 64 → ((r.knows.set nd.toNat true).getD j false = true ↔ (j : Int) ∈ m.knows ++ [nd])) ∧ ∀ x ∈ m.knows ++ [nd], 0 ≤ x ∧ x < n := by
  refine ⟨by rw [List.length_set]; exact h.kl hp, fun j hj => ?_, fun x hx => ?_⟩
  · rw [List.mem_append, List.mem_singleton, List.getD_eq_getElem?_getD]
    by_cases e : j = nd.toNat
    · subst e
      rw [List.getElem?_set_self (by rw [h.kl hp]; omega)]
      exact ⟨fun _ => .inr (by omega), fun _ => rfl⟩
    · rw [List.getElem?_set_ne (by omega), ← List.getD_eq_getElem?_getD, h.ki hp j hj]
      exact ⟨.inl, fun h' => h'.elim id fun h' => absurd h' (by omega)⟩
  · rcases List.mem_append.1 hx with hx | hx
    · exact h.kb hp x hx
    · rw [List.mem_singleton] at hx; omega
theorem all_iff {n : Int} {k : List Bool} {km : List Int} (h0 : 0 ≤ n) (h3 : n ≤ 64) (hl : k.length = 64) (hi : ∀ j : Nat, j < 64 → (k.getD j false = true ↔ (j : Int) ∈ km)) (hb : ∀ x ∈ km, 0 ≤ x ∧ x < n) : k = allN n ↔ allM n km := by
  have hget : ∀ j : Nat, j < 64 → (allN n)[j]? = some (decide ((j : Int) < n)) := fun j hj => by
    unfold allN
    by_cases e : j < n.toNat
    · rw [List.getElem?_append_left (by simpa using e), List.getElem?_replicate, if_pos e, decide_eq_true (by omega)]
    · rw [List.getElem?_append_right (by simpa using e), List.length_replicate, List.getElem?_replicate, if_pos (by omega), decide_eq_false (by omega)]
  have hla : (allN n).length = 64 := by unfold allN; simp; omega
  have hk : ∀ j : Nat, j < 64 → k[j]? = some (k.getD j false) := fun j hj => by
    rw [List.getD_eq_getElem?_getD, List.getElem?_eq_getElem (by omega)]; rfl
  constructor
  · intro e j hj
    rw [← hi j (by omega)]
    have := hk j (by omega)
    rw [e, hget j (by omega)] at this
    injection this with this
    rw [e, ← this]
    exact decide_eq_true hj
  · intro h
    apply List.ext_getElem?
    intro j
    rcases Nat.lt_or_ge j 64 with hj | hj
    · rw [hk j hj, hget j hj]
      congr 1
      by_cases e : (j : Int) < n
      · rw [decide_eq_true e]; exact (hi j hj).2 (h j e)
      · rw [decide_eq_false e]
        cases hc : k.getD j false with
        | false => rfl
        | true => exact absurd (hb _ ((hi j hj).1 hc)).2 e
    · rw [List.getElem?_eq_none (by omega), List.getElem?_eq_none (by omega)]
theorem RR.hear {n b : Int} {ka kk : Nat} {r : Row12} {m : RRow12} (h : RR n b ka kk r m) (hp : m.phase = 2) {nd : Int} (h1 : 0 ≤ nd) (h2 : nd < n) (h3 : n ≤ 64) : RR n b ka (kk + 1) (knowR r nd) (hearM m nd) :=
  { seq := h.seq, b0 := h.b0, bl := h.bl, ph := h.ph, b1 := h.b1, queue := h.queue, on := h.on, en := h.en, act := h.act
    kl := fun _ => (h.know hp h1 h2 h3).1
    ki := fun _ => (h.know hp h1 h2 h3).2.1
    kb := fun _ => (h.know hp h1 h2 h3).2.2
    la := h.la
    lk := by show (m.knows ++ [nd]).length ≤ kk + 1; rw [List.length_append, List.length_singleton]; have := h.lk; omega }
theorem RR.rest {n b : Int} {ka kk : Nat} {r : Row12} {m : RRow12} (h : RR n b ka kk r m) (hp : m.phase = 2) (nd : Int) : RR n b ka (kk + 1) (endR r nd) (overM m nd) :=
  { seq := h.seq, b0 := h.b0, bl := h.bl, ph := .inl rfl, b1 := fun h' => absurd rfl h', queue := h.queue
    on := by show r.on = decide ((0 : Int) = 1); rw [h.on, hp]; rfl
    en := rfl
    act := fun h' => absurd rfl h'
    kl := fun h' => by cases h'
    ki := fun h' => by cases h'
    kb := fun h' => by cases h'
    la := h.la
    lk := by show (m.knows ++ [nd]).length ≤ kk + 1; rw [List.length_append, List.length_singleton]; have := h.lk; omega }
/-- All rows. -/
structure RA (n : Int) (ka kk : Nat) (rows : List Row12) (ms : List RRow12) : Prop where
  n0 : 0 ≤ n
  n64 : n ≤ 64
  le64 : rows.length ≤ 64
  len : rows.length = ms.length
  row : ∀ b, inR rows b = true → RR n b ka kk (getR rows b) (getM ms b)
theorem RA.inM {n : Int} {ka kk : Nat} {rows : List Row12} {ms : List RRow12} (h : RA n ka kk rows ms) (b : Int) : inM ms b = inR rows b := by unfold Go.Proofs.Ytipibgamajhgbaa.inM inR; rw [h.len]
theorem RA.isM {n : Int} {ka kk : Nat} {rows : List Row12} {ms : List RRow12} (h : RA n ka kk rows ms) (b nd : Int) : isM n ms b nd = isR n rows b nd := by unfold Go.Proofs.Ytipibgamajhgbaa.isM isR; rw [h.inM]
theorem RA.mono {n : Int} {ka kk ka' kk' : Nat} {rows : List Row12} {ms : List RRow12} (h : RA n ka kk rows ms) (h1 : ka ≤ ka') (h2 : kk ≤ kk') : RA n ka' kk' rows ms := ⟨h.n0, h.n64, h.le64, h.len, fun b hb => (h.row b hb).mono h1 h2⟩
theorem getM_ite {rows : List RRow12} {b c : Int} {v : RRow12} (hb : Go.Proofs.Ytipibgamajhgbaa.inM rows b = true) (hc : Go.Proofs.Ytipibgamajhgbaa.inM rows c = true) : getM (setM rows b v) c = if c = b then v else getM rows c := by
  have hb := inM_iff.1 hb
  have hc := inM_iff.1 hc
  split
  · rename_i e
    subst e
    exact getM_setM (by omega)
  · rename_i e
    unfold getM setM
    rw [List.getD_eq_getElem?_getD, List.getElem?_set_ne (by omega), ← List.getD_eq_getElem?_getD]
theorem RA.set {n : Int} {ka kk : Nat} {rows : List Row12} {ms : List RRow12} (h : RA n ka kk rows ms) {b : Int} (hb : inR rows b = true) {r : Row12} {m : RRow12} (hr : RR n b ka kk r m) : RA n ka kk (setR rows b r) (setM ms b m) := by
  refine ⟨h.n0, h.n64, by rw [len_setR]; exact h.le64, by rw [len_setR, len_setM]; exact h.len, fun c hc => ?_⟩
  rw [inR_setR] at hc
  rw [getR_ite hb hc, getM_ite (by rw [h.inM]; exact hb) (by rw [h.inM]; exact hc)]
  split
  · rename_i e; subst e; exact hr
  · exact h.row c hc
theorem RA.ask {n : Int} {ka kk : Nat} {rows : List Row12} {ms : List RRow12} (h : RA n ka kk rows ms) (hk : ka ≤ 1000) (b nd : Int) : (askA n rows b nd).2 = (askM n ms b nd).2 ∧ RA n (ka + 1) kk (askA n rows b nd).1 (askM n ms b nd).1 := by
  cases hx : isR n rows b nd with
  | true =>
    have hb := inR_iff.2 (isR_iff.1 hx).1
    have hn := ((h.row b hb).add hk nd).next (by omega)
    rw [ask_t hx, askM_t (by rw [h.isM]; exact hx)]
    exact ⟨hn.1, (h.mono (Nat.le_succ ka) (Nat.le_refl _)).set hb hn.2⟩
  | false =>
    rw [ask_f hx, askM_f (by rw [h.isM]; exact hx)]
    exact ⟨rfl, h.mono (Nat.le_succ ka) (Nat.le_refl _)⟩
theorem RR.seq_act {n b : Int} {ka kk : Nat} {r : Row12} {m : RRow12} (h : RR n b ka kk r m) (hp : m.phase ≠ 0) : r.act.seq = m.begun := by rw [h.act hp]; rfl
theorem RA.done {n : Int} {ka kk : Nat} {rows : List Row12} {ms : List RRow12} (h : RA n ka kk rows ms) (b s : Int) : (doneA rows b s).2 = (doneM ms b s).2 ∧ RA n ka kk (doneA rows b s).1 (doneM ms b s).1 := by
  have e : isOn rows b s = onM ms b s 1 := by
    unfold isOn onM
    rw [h.inM]
    cases hb : inR rows b with
    | false => rfl
    | true =>
      have hr := h.row b hb
      rw [hr.on, Bool.true_and, Bool.true_and]
      by_cases hp : (getM ms b).phase = 1
      · rw [hr.seq_act (by rw [hp]; decide)]
      · rw [decide_eq_false hp]; rfl
  cases hx : isOn rows b s with
  | true =>
    have hb : inR rows b = true := by unfold isOn at hx; simp only [Bool.and_eq_true] at hx; exact hx.1
    have hp : (getM ms b).phase = 1 := by rw [e] at hx; unfold onM at hx; simp only [Bool.and_eq_true, decide_eq_true_eq] at hx; exact hx.2.1
    rw [done_t hx, doneM_t (by rw [← e]; exact hx)]
    exact ⟨rfl, h.set hb ((h.row b hb).over hp)⟩
  | false =>
    rw [done_f hx, doneM_f (by rw [← e]; exact hx)]
    exact ⟨rfl, h⟩
theorem RA.ack {n : Int} {ka kk : Nat} {rows : List Row12} {ms : List RRow12} (h : RA n ka kk rows ms) (hk : ka ≤ 1000) (b s nd : Int) : (ackA n rows b s nd).2 = (ackM n ms b s nd).2 ∧ RA n ka (kk + 1) (ackA n rows b s nd).1 (ackM n ms b s nd).1 := by
  have e : isEnd n rows b s nd = (Go.Proofs.Ytipibgamajhgbaa.isM n ms b nd && onM ms b s 2) := by
    unfold isEnd onM
    rw [h.isM, h.inM]
    cases hx : isR n rows b nd with
    | false => rfl
    | true =>
      have hb := inR_iff.2 (isR_iff.1 hx).1
      have hr := h.row b hb
      rw [hb, hr.en, Bool.true_and, Bool.true_and, Bool.true_and]
      by_cases hp : (getM ms b).phase = 2
      · rw [hr.seq_act (by rw [hp]; decide)]
      · rw [decide_eq_false hp]; rfl
  cases hx : isEnd n rows b s nd with
  | true =>
    have hx' := hx
    rw [e] at hx'
    have hr1 : isR n rows b nd = true := by unfold isEnd at hx; simp only [Bool.and_eq_true] at hx; exact hx.1
    have hr2 := isR_iff.1 hr1
    have hb := inR_iff.2 hr2.1
    have hp : (getM ms b).phase = 2 := by
      have h2 := hx'
      simp only [onM, Bool.and_eq_true, decide_eq_true_eq] at h2
      exact h2.2.2.1
    have hr := h.row b hb
    have hkn := hr.know hp hr2.2.1 hr2.2.2 h.n64
    have hiff := all_iff h.n0 h.n64 hkn.1 hkn.2.1 hkn.2.2
    by_cases hall : (getR rows b).knows.set nd.toNat true = allN n
    · rw [ack_2 hx hall, ackM_2 hx' (hiff.1 hall)]
      have hn := (hr.rest hp nd).next (by omega)
      exact ⟨hn.1, (h.mono (Nat.le_refl _) (Nat.le_succ kk)).set hb hn.2⟩
    · rw [ack_1 hx hall, ackM_1 hx' (fun h' => hall (hiff.2 h'))]
      exact ⟨rfl, (h.mono (Nat.le_refl _) (Nat.le_succ kk)).set hb (hr.hear hp hr2.2.1 hr2.2.2 h.n64)⟩
  | false =>
    rw [ack_f hx, ackM_f (by rw [← e]; exact hx)]
    exact ⟨rfl, h.mono (Nat.le_refl _) (Nat.le_succ kk)⟩
theorem RA.cur {n : Int} {ka kk : Nat} {rows : List Row12} {ms : List RRow12} (h : RA n ka kk rows ms) (b : Int) : curR rows b = curM ms b ∧ waitR rows b = waitM ms b := by
  unfold curR curM waitR waitM
  rw [h.inM]
  cases hb : inR rows b with
  | false => exact ⟨rfl, rfl⟩
  | true =>
    have hr := h.row b hb
    rw [Bool.true_and, Bool.true_and, hr.on]
    refine ⟨?_, by rw [if_pos rfl, if_pos rfl]; exact hr.queue⟩
    by_cases hp : (getM ms b).phase = 1
    · rw [decide_eq_true hp, if_pos rfl, if_pos rfl, hr.act (by rw [hp]; decide)]
    · rw [decide_eq_false hp]; rfl
theorem RA.new (sa sb : Int) : RA (newN sa) 0 0 (newR sb) (newM sb) := by
  refine ⟨(newN_le sa).1, (newN_le sa).2, ?_, by simp [newR, newM], fun b hb => ?_⟩
  · have := newN_le sb
    unfold newR
    rw [List.length_replicate]
    omega
  · have h := inR_iff.1 hb
    unfold newR at h
    rw [List.length_replicate] at h
    have e1 : getR (newR sb) b = zRow := by
      unfold getR newR
      rw [List.getD_eq_getElem?_getD, List.getElem?_replicate, if_pos (by omega)]
      rfl
    have e2 : getM (newM sb) b = zM := by
      unfold getM newM
      rw [List.getD_eq_getElem?_getD, List.getElem?_replicate, if_pos (by omega)]
      rfl
    rw [e1, e2]
    exact
      { seq := rfl, b0 := Int.le_refl _, bl := Int.le_refl _, ph := .inl rfl, b1 := fun h => absurd rfl h, queue := rfl, on := rfl, en := rfl, act := fun h => absurd rfl h
        kl := fun h => by cases h
        ki := fun h => by cases h
        kb := fun h => by cases h
        la := Nat.le_refl _, lk := Nat.le_refl _ }
end Go.Proofs.Ytipibgamajhgbaa
