/- The reference's arbiter: plain functions; contracts of New, Block, last, begin, Current, Waiting, Ask, Done. No condition. -/
import Derived.Test.YtpjdicndjakeoaaV4
namespace Go.Proofs.Ytpjdicndjakeoaa
open Go.RowKit
set_option linter.unusedVariables false
set_option linter.unusedSimpArgs false
abbrev dM : RRow12 := Ty.rRow12.dflt
def zM : RRow12 := ⟨[], 0, 0, []⟩
def rH (ro : Bool) (n : Int) (rows : List RRow12) : Heap := ⟨2, [(1, some (.seq ro 63 .rRow12 rows)), (0, some (.obj true [.int .i64 n, .slc 1]))]⟩
theorem rH_ro (n : Int) (rows : List RRow12) : ∀ id k, (rH true n rows).get id = some k → k.ro = true
  | 0, k, h => by cases h; rfl
  | 1, k, h => by cases h; rfl
  | _ + 2, k, h => by cases h
def findR (id : Nat) (H : Heap) : Option (Int × List RRow12) := match H.get id with
  | some (.obj _ [.int _ n, .slc s]) => match H.get s with
    | some (.seq _ _ .rRow12 rows) => some (n, rows)
    | _ => none
  | _ => none
def inM (rows : List RRow12) (b : Int) : Bool := decide (0 ≤ b) && decide (b < rows.length)
def getM (rows : List RRow12) (b : Int) : RRow12 := rows.getD b.toNat dM
def setM (rows : List RRow12) (b : Int) (r : RRow12) : List RRow12 := rows.set b.toNat r
def newM (b : Int) : List RRow12 := List.replicate (newN b).toNat zM
theorem inM_iff {rows : List RRow12} {b : Int} : inM rows b = true ↔ 0 ≤ b ∧ b < rows.length := by simp [inM]
theorem inM_false {rows : List RRow12} {b : Int} (h : ¬ (0 ≤ b ∧ b < rows.length)) : inM rows b = false := by
  cases e : inM rows b with
  | false => rfl
  | true => exact absurd (inM_iff.1 e) h
theorem len_setM (rows : List RRow12) (b : Int) (v : RRow12) : (setM rows b v).length = rows.length := by simp [setM]
theorem getM_set {rows : List RRow12} {b : Int} {v : RRow12} (h : b.toNat < rows.length) : getM (rows.set b.toNat v) b = v := getD_set_self h
theorem getM_setM {rows : List RRow12} {b : Int} {v : RRow12} (h : b.toNat < rows.length) : getM (setM rows b v) b = v := getD_set_self h
def lastM (b : Int) (r : RRow12) : Atv := ⟨b, r.asked.getD (IntKind.i64.wrap (r.begun - 1)).toNat 0, r.begun⟩
/-- A row that may be. -/
structure RowM (r : RRow12) : Prop where
  b0 : 0 ≤ r.begun
  bl : r.begun ≤ r.asked.length
  p : r.phase = 0 ∨ 1 ≤ r.begun
  len : r.asked.length ≤ 1000
  klen : r.knows.length ≤ 100000
def restM (r : RRow12) : Bool := !(decide (r.phase = 0)) || decide ((r.asked.length : Int) ≤ r.begun)
def begunM (r : RRow12) : RRow12 := ⟨r.asked, IntKind.i64.wrap (r.begun + 1), 1, r.knows⟩
def beginM (b : Int) (r : RRow12) : RRow12 × Atv × Bool := if restM r then (r, zA, false) else (begunM r, lastM b (begunM r), true)
def curM (rows : List RRow12) (b : Int) : Atv × Bool := if inM rows b && decide ((getM rows b).phase = 1) then (lastM b (getM rows b), true) else (zA, false)
def waitM (rows : List RRow12) (b : Int) : List Int := if inM rows b then (getM rows b).asked.drop (getM rows b).begun.toNat else []
def addM (r : RRow12) (nd : Int) : RRow12 := ⟨r.asked ++ [nd], r.begun, r.phase, r.knows⟩
def isM (n : Int) (rows : List RRow12) (b nd : Int) : Bool := inM rows b && (decide (0 ≤ nd) && decide (nd < n))
def askM (n : Int) (rows : List RRow12) (b nd : Int) : List RRow12 × Atv × Bool :=
  if isM n rows b nd then (setM rows b (beginM b (addM (getM rows b) nd)).1, (beginM b (addM (getM rows b) nd)).2) else (rows, zA, false)
def onM (rows : List RRow12) (b s ph : Int) : Bool := inM rows b && (decide ((getM rows b).phase = ph) && decide ((getM rows b).begun = s))
def doneM (rows : List RRow12) (b s : Int) : List RRow12 × Bool :=
  if onM rows b s 1 then (setM rows b ⟨(getM rows b).asked, (getM rows b).begun, 2, []⟩, true) else (rows, false)
theorem isM_iff {n : Int} {rows : List RRow12} {b nd : Int} : isM n rows b nd = true ↔ (0 ≤ b ∧ b < rows.length) ∧ 0 ≤ nd ∧ nd < n := by simp [isM, inM]
structure PM (rows : List RRow12) (b : Int) : Prop where
  r : inM rows b = true → RowM (getM rows b)
theorem newN_1 {n : Int} (h : n < 0) : newN n = 0 := by
  unfold newN
  repeat' split
  all_goals omega
theorem newN_2 {n : Int} (h : 64 < n) : newN n = 64 := by
  unfold newN
  repeat' split
  all_goals omega
theorem newN_3 {n : Int} (h1 : ¬ n < 0) (h2 : ¬ 64 < n) : newN n = n := by
  unfold newN
  repeat' split
  all_goals omega
theorem restM_t1 {r : RRow12} (h : (r.phase != 0) = true) : restM r = true := by simp at h; simp [restM, h]
theorem restM_t2 {r : RRow12} (h : (bif false then true else decide ((r.asked.length : Int) ≤ r.begun)) = true) : restM r = true := by simp at h; simp [restM, h]
theorem restM_f {r : RRow12} (h1 : (r.phase != 0) = false) (h2 : (bif false then true else decide ((r.asked.length : Int) ≤ r.begun)) = false) : restM r = false ∧ r.begun < r.asked.length := by
  simp at h1 h2
  refine ⟨?_, h2⟩
  simp [restM, h1]
  omega
theorem beginM_t {b : Int} {r : RRow12} (h : restM r = true) : beginM b r = (r, zA, false) := by unfold beginM; rw [if_pos h]
theorem beginM_f {b : Int} {r : RRow12} (h : restM r = false) : beginM b r = (begunM r, lastM b (begunM r), true) := by unfold beginM; rw [if_neg (by rw [h]; decide)]
theorem wrapM {r : RRow12} (h : RowM r) (h2 : r.begun < r.asked.length) : IntKind.i64.wrap (r.begun + 1) = r.begun + 1 := wrap_id (by have := h.b0; omega) (by have := h.len; omega)
theorem rowM_begun {r : RRow12} (h : RowM r) (h2 : r.begun < r.asked.length) : RowM (begunM r) ∧ 1 ≤ (begunM r).begun := by
  have e : (begunM r).begun = r.begun + 1 := wrapM h h2
  have := h.b0
  exact ⟨⟨by rw [e]; omega, by rw [e]; show r.begun + 1 ≤ (r.asked.length : Int); omega, .inr (by rw [e]; omega), h.len, h.klen⟩, by rw [e]; omega⟩
theorem curM_1 {rows : List RRow12} {b : Int} (h : inM rows b = false) : curM rows b = (zA, false) := by simp [curM, h]
theorem curM_2 {rows : List RRow12} {b : Int} (h : ¬ (getM rows b).phase = 1) : curM rows b = (zA, false) := by simp [curM, h]
theorem curM_3 {rows : List RRow12} {b : Int} (h1 : inM rows b = true) (h : (getM rows b).phase = 1) : curM rows b = (lastM b (getM rows b), true) := by simp [curM, h, h1]
theorem RowM.one {r : RRow12} (h : RowM r) (hp : r.phase = 1) : 1 ≤ r.begun := by
  rcases h.p with h1 | h1
  · rw [h1] at hp; cases hp
  · exact h1
def cNewM : Con where
  X := Int × Int
  args := fun ⟨n, b⟩ => [AI n, AI b]
  heap := fun _ => hp0
  pre := fun _ => True
  res := fun _ => pA
  heap' := fun ⟨n, b⟩ => ⟨2, [(1, some (.seq false 63 .rRow12 (newM b))), (0, some (.obj false [.int .i64 (newN n), .slc 1]))]⟩
  pure := false
  find := fun args H => match args with
    | [.int _ n, .int _ b] => some (n, b)
    | _ => none
set_option maxHeartbeats 4000000 in
theorem cNewM_ok : cNewM.Ok Try.prog 17 := by
  refine fun_ok (env_ok Cons.nil) mixedP Try.func17 (by decide) rfl cNewM [] (fun _ => rfl) (fun h => by cases h) (fun _ => Nat.le_of_ble_eq_true rfl) ?_
  rintro ⟨n, b⟩ hp ha hb
  clear hp ha hb
  all_goals (repeat' (first
    | with_reducible refine iTr ?_
    | with_reducible refine iB ?_
    | intro _
    | exact True.intro
    | (show _ ∧ _
       first
        | refine aTT ?_
        | refine aTB ?_
        | refine aT ?_
        | refine aB ?_
        | refine a11 ?_
        | refine a01 ?_
        | refine a00 ?_
        | refine a10 ?_
        | (with_reducible refine And.intro rfl ?_)
        | refine And.intro ?_ ?_)
    | with_reducible exact rfl
    | with_reducible exact HEq.rfl
    | (show (_ : Option Nat) = _; exact rfl)
    | (show (_ : Option Blk) = _; exact rfl)
    | (with_reducible show (nodupB _ && _ && _ && _ && _) = true; exact (Eq.refl true))
    | (with_reducible show (nodupB _ && _ && _ && _) = true; exact (Eq.refl true))
    | (with_reducible show (nodupB _ && _ && _) = true; exact (Eq.refl true))
    | (with_reducible show freeOk _ _ = true; exact (Eq.refl true))
    | (with_reducible show wrOk _ _ _ _ _ = true; exact (Eq.refl true))
    | (show (_ : AV) = _; exact rfl)
    | (with_reducible show (_ || !_) = true; exact (Eq.refl true))
    | (with_reducible show Nat.beq _ _ = true; exact (Eq.refl true))))
  all_goals (first | (show (_ : Int) = _) | (show (_ : Bool) = _) | (show HEq _ _) | (show ∃ _ : LInv, _) | skip)
  all_goals (try (with_reducible exact rfl))
  all_goals (try dsimp only at *)
  all_goals (try simp only [Bool.not_true, Bool.not_false, decide_eq_true_eq, decide_eq_false_iff_not] at *)
  all_goals (try apply heq_of_eq)
  all_goals (first
    | omega
    | (show _ * ((64 : Nat) : Int) ≤ _; omega)
    | exact (newN_1 (by omega)).symm
    | exact (newN_2 (by omega)).symm
    | exact (newN_3 (by omega) (by omega)).symm
    | (unfold newM; rw [newN_1 (n := b) (by omega)]; rfl)
    | (unfold newM; rw [newN_2 (n := b) (by omega)]; rfl)
    | (unfold newM; rw [newN_3 (n := b) (by omega) (by omega)]; rfl)
    | skip)
def cBlock : Con where
  X := Int × List RRow12 × Int
  args := fun ⟨n, rows, b⟩ => [pA, AI b]
  heap := fun ⟨n, rows, b⟩ => rH true n rows
  pre := fun _ => True
  res := fun ⟨n, rows, b⟩ => AB (inM rows b)
  heap' := fun ⟨n, rows, b⟩ => rH true n rows
  pure := true
  find := fun args H => match args with
    | [.ptr id _, .int _ b] => (findR id H).map fun (n, rows) => (n, rows, b)
    | _ => none
set_option maxHeartbeats 4000000 in
theorem cBlock_ok : cBlock.Ok Try.prog 28 := by
  refine fun_ok (env_ok Cons.nil) mixedP Try.func28 (by decide) rfl cBlock [] (fun _ => rfl) (fun _ x => ⟨rfl, rH_ro x.1 x.2.1⟩) (fun _ => Nat.le_of_ble_eq_true rfl) ?_
  rintro ⟨n, rows, b⟩ hp ha hb
  clear hp ha hb
  all_goals (repeat' (first
    | with_reducible refine iTr ?_
    | with_reducible refine iB ?_
    | intro _
    | exact True.intro
    | (show _ ∧ _
       first
        | refine aTT ?_
        | refine aTB ?_
        | refine aT ?_
        | refine aB ?_
        | refine a11 ?_
        | refine a01 ?_
        | refine a00 ?_
        | refine a10 ?_
        | (with_reducible refine And.intro rfl ?_)
        | refine And.intro ?_ ?_)
    | with_reducible exact rfl
    | with_reducible exact HEq.rfl
    | (show (_ : Option Nat) = _; exact rfl)
    | (show (_ : Option Blk) = _; exact rfl)
    | (with_reducible show (nodupB _ && _ && _ && _ && _) = true; exact (Eq.refl true))
    | (with_reducible show (nodupB _ && _ && _ && _) = true; exact (Eq.refl true))
    | (with_reducible show (nodupB _ && _ && _) = true; exact (Eq.refl true))
    | (with_reducible show freeOk _ _ = true; exact (Eq.refl true))
    | (with_reducible show wrOk _ _ _ _ _ = true; exact (Eq.refl true))
    | (show (_ : AV) = _; exact rfl)
    | (with_reducible show (_ || !_) = true; exact (Eq.refl true))
    | (with_reducible show Nat.beq _ _ = true; exact (Eq.refl true))))
  all_goals (first | (show (_ : Int) = _) | (show (_ : Bool) = _) | (show HEq _ _) | (show ∃ _ : LInv, _) | skip)
  all_goals (try (with_reducible exact rfl))
  all_goals (first | (simp_all [inM]; done) | (simp_all [inM]; omega) | skip)
def clast : Con where
  X := Int × List RRow12 × Int
  args := fun ⟨n, rows, b⟩ => [pA, AI b]
  heap := fun ⟨n, rows, b⟩ => rH true n rows
  pre := fun ⟨n, rows, b⟩ => inM rows b = true ∧ RowM (getM rows b) ∧ 1 ≤ (getM rows b).begun
  res := fun ⟨n, rows, b⟩ => AAtv (lastM b (getM rows b))
  heap' := fun ⟨n, rows, b⟩ => rH true n rows
  pure := true
  find := fun args H => match args with
    | [.ptr id _, .int _ b] => (findR id H).map fun (n, rows) => (n, rows, b)
    | _ => none
set_option maxRecDepth 100000 in
set_option maxHeartbeats 4000000 in
theorem clast_ok : clast.Ok Try.prog 30 := by
  refine fun_ok (env_ok Cons.nil) mixedP Try.func30 (by decide) rfl clast [(2, 11)] (fun _ => rfl) (fun _ x => ⟨rfl, rH_ro x.1 x.2.1⟩) (fun _ => Nat.le_of_ble_eq_true rfl) ?_
  rintro ⟨n, rows, b⟩ hp ha hb
  replace hp : inM rows b = true ∧ RowM (getM rows b) ∧ 1 ≤ (getM rows b).begun := hp
  clear ha hb
  all_goals (repeat' (first
    | with_reducible refine iTr ?_
    | with_reducible refine iB ?_
    | intro _
    | exact True.intro
    | (show _ ∧ _
       first
        | refine aTT ?_
        | refine aTB ?_
        | refine aT ?_
        | refine aB ?_
        | refine a11 ?_
        | refine a01 ?_
        | refine a00 ?_
        | refine a10 ?_
        | (with_reducible refine And.intro rfl ?_)
        | refine And.intro ?_ ?_)
    | with_reducible exact rfl
    | with_reducible exact HEq.rfl
    | (show (_ : Option Nat) = _; exact rfl)
    | (show (_ : Option Blk) = _; exact rfl)
    | (with_reducible show (nodupB _ && _ && _ && _ && _) = true; exact (Eq.refl true))
    | (with_reducible show (nodupB _ && _ && _ && _) = true; exact (Eq.refl true))
    | (with_reducible show (nodupB _ && _ && _) = true; exact (Eq.refl true))
    | (with_reducible show freeOk _ _ = true; exact (Eq.refl true))
    | (with_reducible show wrOk _ _ _ _ _ = true; exact (Eq.refl true))
    | (show (_ : AV) = _; exact rfl)
    | (with_reducible show (_ || !_) = true; exact (Eq.refl true))
    | (with_reducible show Nat.beq _ _ = true; exact (Eq.refl true))))
  all_goals (first | (show (_ : Int) = _) | (show (_ : Bool) = _) | (show HEq _ _) | (show ∃ _ : LInv, _) | skip)
  all_goals (try (with_reducible exact rfl))
  all_goals (try dsimp only at *)
  all_goals (have h1 := inM_iff.1 hp.1; have h2 := hp.2.1.bl; have h3 := hp.2.2; have h4 := hp.2.1.len; have hw : IntKind.i64.wrap ((getM rows b).begun - 1) = (getM rows b).begun - 1 := wrap_id (by omega) (by omega))
  all_goals (first
    | omega
    | rfl
    | (show 0 ≤ IntKind.i64.wrap ((getM rows b).begun - 1); omega)
    | (show IntKind.i64.wrap ((getM rows b).begun - 1) < ((getM rows b).asked.length : Int); omega)
    | skip)
def cbegin : Con where
  X := Int × List RRow12 × Int
  args := fun ⟨n, rows, b⟩ => [pA, AI b]
  heap := fun ⟨n, rows, b⟩ => rH false n rows
  pre := fun ⟨n, rows, b⟩ => inM rows b = true ∧ RowM (getM rows b)
  res := fun ⟨n, rows, b⟩ => .tup [AAtv (beginM b (getM rows b)).2.1, AB (beginM b (getM rows b)).2.2]
  heap' := fun ⟨n, rows, b⟩ => rH false n (setM rows b (beginM b (getM rows b)).1)
  pure := false
  find := fun args H => match args with
    | [.ptr id _, .int _ b] => (findR id H).map fun (n, rows) => (n, rows, b)
    | _ => none
set_option maxRecDepth 100000 in
set_option maxHeartbeats 8000000 in
theorem cbegin_ok : cbegin.Ok Try.prog 29 := by
  refine fun_ok (env_ok (Cons.cons clast_ok Cons.nil)) mixedP Try.func29 (by decide) rfl cbegin [(4, 8)] (fun _ => rfl) (fun h => by cases h) (fun _ => Nat.le_of_ble_eq_true rfl) ?_
  rintro ⟨n, rows, b⟩ hp ha hb
  replace hp : inM rows b = true ∧ RowM (getM rows b) := hp
  clear ha hb
  all_goals (repeat' (first
    | with_reducible refine iTr ?_
    | with_reducible refine iB ?_
    | intro _
    | exact True.intro
    | (show _ ∧ _
       first
        | refine aTT ?_
        | refine aTB ?_
        | refine aT ?_
        | refine aB ?_
        | refine a11 ?_
        | refine a01 ?_
        | refine a00 ?_
        | refine a10 ?_
        | (with_reducible refine And.intro rfl ?_)
        | refine And.intro ?_ ?_)
    | with_reducible exact rfl
    | with_reducible exact HEq.rfl
    | (show (_ : Option Nat) = _; exact rfl)
    | (show (_ : Option Blk) = _; exact rfl)
    | (with_reducible show (nodupB _ && _ && _ && _ && _) = true; exact (Eq.refl true))
    | (with_reducible show (nodupB _ && _ && _ && _) = true; exact (Eq.refl true))
    | (with_reducible show (nodupB _ && _ && _) = true; exact (Eq.refl true))
    | (with_reducible show freeOk _ _ = true; exact (Eq.refl true))
    | (with_reducible show wrOk _ _ _ _ _ = true; exact (Eq.refl true))
    | (show (_ : AV) = _; exact rfl)
    | (with_reducible show (_ || !_) = true; exact (Eq.refl true))
    | (with_reducible show Nat.beq _ _ = true; exact (Eq.refl true))))
  all_goals (first | (show (_ : Int) = _) | (show (_ : Bool) = _) | (show HEq _ _) | (show ∃ _ : LInv, _) | skip)
  all_goals (try (with_reducible exact rfl))
  all_goals (try dsimp only at *)
  all_goals (have hb := inM_iff.1 hp.1; have hlt : b.toNat < rows.length := (by omega); have hlt2 : b.toNat < rows.length ∧ True := ⟨hlt, trivial⟩; obtain ⟨r, hr⟩ : ∃ r, r = rows.getD b.toNat dM := ⟨_, rfl⟩; have hg : getM rows b = r := hr.symm)
  all_goals (try simp only [List.length_set, getD_set_self, List.set_set, getM_set, hlt, ← hr] at *)
  all_goals (try rw [hg] at hp)
  all_goals (try rw [hg])
  all_goals (replace hlt2 : b.toNat < rows.length := (by omega))
  all_goals (first
    | omega
    | (rw [beginM_t (by first | exact restM_t1 (by assumption) | exact restM_t2 (by assumption))]; first | done | rfl | (apply heq_of_eq; unfold setM; rw [← hg]; exact (set_getD_self hlt2).symm))
    | (have hq := restM_f (by assumption) (by assumption); have hb2 := rowM_begun hp.2 hq.2; first | (rw [inM_iff, List.length_set]; omega) | exact hb2.1 | exact hb2.2 | (rw [beginM_f hq.1]; first | done | rfl | (apply heq_of_eq; rfl)))
    | skip)
def cCurM : Con where
  X := Int × List RRow12 × Int
  args := fun ⟨n, rows, b⟩ => [pA, AI b]
  heap := fun ⟨n, rows, b⟩ => rH true n rows
  pre := fun ⟨n, rows, b⟩ => PM rows b
  res := fun ⟨n, rows, b⟩ => .tup [AAtv (curM rows b).1, AB (curM rows b).2]
  heap' := fun ⟨n, rows, b⟩ => rH true n rows
  pure := true
  find := fun args H => match args with
    | [.ptr id _, .int _ b] => (findR id H).map fun (n, rows) => (n, rows, b)
    | _ => none
set_option maxRecDepth 100000 in
set_option maxHeartbeats 4000000 in
theorem cCurM_ok : cCurM.Ok Try.prog 19 := by
  refine fun_ok (env_ok (Cons.cons cBlock_ok (Cons.cons clast_ok Cons.nil))) mixedP Try.func19 (by decide) rfl cCurM [] (fun _ => rfl) (fun _ x => ⟨rfl, rH_ro x.1 x.2.1⟩) (fun _ => Nat.le_of_ble_eq_true rfl) ?_
  rintro ⟨n, rows, b⟩ hp ha hb
  replace hp : PM rows b := hp
  clear ha hb
  all_goals (repeat' (first
    | with_reducible refine iTr ?_
    | with_reducible refine iB ?_
    | intro _
    | exact True.intro
    | (show _ ∧ _
       first
        | refine aTT ?_
        | refine aTB ?_
        | refine aT ?_
        | refine aB ?_
        | refine a11 ?_
        | refine a01 ?_
        | refine a00 ?_
        | refine a10 ?_
        | (with_reducible refine And.intro rfl ?_)
        | refine And.intro ?_ ?_)
    | with_reducible exact rfl
    | with_reducible exact HEq.rfl
    | (show (_ : Option Nat) = _; exact rfl)
    | (show (_ : Option Blk) = _; exact rfl)
    | (with_reducible show (nodupB _ && _ && _ && _ && _) = true; exact (Eq.refl true))
    | (with_reducible show (nodupB _ && _ && _ && _) = true; exact (Eq.refl true))
    | (with_reducible show (nodupB _ && _ && _) = true; exact (Eq.refl true))
    | (with_reducible show freeOk _ _ = true; exact (Eq.refl true))
    | (with_reducible show wrOk _ _ _ _ _ = true; exact (Eq.refl true))
    | (show (_ : AV) = _; exact rfl)
    | (with_reducible show (_ || !_) = true; exact (Eq.refl true))
    | (with_reducible show Nat.beq _ _ = true; exact (Eq.refl true))))
  all_goals (first | (show (_ : Int) = _) | (show (_ : Bool) = _) | (show HEq _ _) | (show ∃ _ : LInv, _) | skip)
  all_goals (try (with_reducible exact rfl))
  all_goals (try dsimp only at *)
  all_goals (try simp only [Bool.not_true, Bool.not_false, Bool.not_eq_true', Bool.not_eq_false', cond_true, cond_false, bne_iff_ne, ne_eq, bne_eq_false_iff_eq] at *)
  all_goals (first
    | (rw [curM_1 (by assumption)]; done)
    | (rw [curM_2 (by assumption)]; done)
    | (have hi : inM rows b = true := (by assumption); have hb := inM_iff.1 hi; first | omega | exact hi | exact hp.r hi | (have hph : (getM rows b).phase = 1 := (by assumption); first | exact (hp.r hi).one hph | (rw [curM_3 hi hph]; done)))
    | skip)
def cWaitM : Con where
  X := Int × List RRow12 × Int
  args := fun ⟨n, rows, b⟩ => [pA, AI b]
  heap := fun ⟨n, rows, b⟩ => rH true n rows
  pre := fun ⟨n, rows, b⟩ => PM rows b
  res := fun ⟨n, rows, b⟩ => .vsl .int (waitM rows b)
  heap' := fun ⟨n, rows, b⟩ => rH true n rows
  pure := true
  find := fun args H => match args with
    | [.ptr id _, .int _ b] => (findR id H).map fun (n, rows) => (n, rows, b)
    | _ => none
set_option maxRecDepth 100000 in
set_option maxHeartbeats 4000000 in
theorem cWaitM_ok : cWaitM.Ok Try.prog 23 := by
  refine fun_ok (env_ok (Cons.cons cBlock_ok Cons.nil)) mixedP Try.func23 (by decide) rfl cWaitM [(3, 19), (2000003, 0), (2000003, 18), (3000003, 1), (5000003, 1), (3000003, 2), (5000003, 2), (3000003, 3), (3000003, 4), (3000003, 5), (3000003, 6), (3000003, 7), (3000003, 8), (3000003, 9), (5000003, 9), (3000003, 10), (5000003, 10), (3000003, 11), (3000003, 12), (3000003, 13), (3000003, 14), (3000003, 15), (3000003, 16), (3000003, 17)] (fun _ => rfl) (fun _ x => ⟨rfl, rH_ro x.1 x.2.1⟩) (fun _ => Nat.le_of_ble_eq_true rfl) ?_
  rintro ⟨n, rows, b⟩ hp ha hb
  replace hp : PM rows b := hp
  clear ha hb
  all_goals (repeat' (first
    | with_reducible refine iTr ?_
    | with_reducible refine iB ?_
    | intro _
    | exact True.intro
    | (show _ ∧ _
       first
        | refine aTT ?_
        | refine aTB ?_
        | refine aT ?_
        | refine aB ?_
        | refine a11 ?_
        | refine a01 ?_
        | refine a00 ?_
        | refine a10 ?_
        | (with_reducible refine And.intro rfl ?_)
        | refine And.intro ?_ ?_)
    | with_reducible exact rfl
    | with_reducible exact HEq.rfl
    | (show (_ : Option Nat) = _; exact rfl)
    | (show (_ : Option Blk) = _; exact rfl)
    | (with_reducible show (nodupB _ && _ && _ && _ && _) = true; exact (Eq.refl true))
    | (with_reducible show (nodupB _ && _ && _ && _) = true; exact (Eq.refl true))
    | (with_reducible show (nodupB _ && _ && _) = true; exact (Eq.refl true))
    | (with_reducible show freeOk _ _ = true; exact (Eq.refl true))
    | (with_reducible show wrOk _ _ _ _ _ = true; exact (Eq.refl true))
    | (show (_ : AV) = _; exact rfl)
    | (with_reducible show (_ || !_) = true; exact (Eq.refl true))
    | (with_reducible show Nat.beq _ _ = true; exact (Eq.refl true))))
  all_goals (first | (show (_ : Int) = _) | (show (_ : Bool) = _) | (show HEq _ _) | (show ∃ _ : LInv, _) | skip)
  all_goals (try (with_reducible exact rfl))
  all_goals (try dsimp only at *)
  all_goals (try simp only [Bool.not_true, Bool.not_false, Bool.not_eq_true', Bool.not_eq_false'] at *)
  all_goals (first
    | (show waitM rows b = []; have hi : inM rows b = false := (by assumption); simp [waitM, hi]; done)
    | (have hi : inM rows b = true := (by assumption); have hb := inM_iff.1 hi; have hr := hp.r hi; have e : waitM rows b = (getM rows b).asked.drop (getM rows b).begun.toNat := (by simp [waitM, hi]); first | omega | exact hr.b0 | exact hr.bl | (have h1 := hr.len; show (0 + (List.drop (getM rows b).begun.toNat (getM rows b).asked).length) * 8 ≤ _; rw [List.length_drop]; omega) | (apply heq_of_eq; rw [e]; rfl) | skip)
    | skip)
end Go.Proofs.Ytpjdicndjakeoaa

