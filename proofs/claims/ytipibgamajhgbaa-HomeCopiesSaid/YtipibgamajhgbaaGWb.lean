/- Contracts of home's come, ask, persist, done, ack. No condition. -/
import Derived.Test.YtipibgamajhgbaaGWa
namespace Go.Proofs.Ytipibgamajhgbaa
open Go.RowKit
set_option linter.unusedVariables false
set_option linter.unusedSimpArgs false
/-- What comes of a letter: the memory, the rows, what is sent. -/
structure HO where
  xs : List Bun
  rows : List Row12
  out : List Ltr
def comeO (h : HS) (l : Ltr) : HO :=
  if (curR h.rows l.block).2 then ⟨h.xs, h.rows, tokL h.c (curR h.rows l.block).1.node l.block l.tok⟩ else ⟨putB h.xs l.block l.tok, h.rows, []⟩
def askT (h : HS) (l : Ltr) (d : I3) : Bun × List Bun := takeB h.xs l.block (reply h.c.policy (getB h.xs l.block) l.wr d).1 (reply h.c.policy (getB h.xs l.block) l.wr d).2.1 (reply h.c.policy (getB h.xs l.block) l.wr d).2.2
def askO (h : HS) (l : Ltr) (d : I3) : HO := ⟨(askT h l d).2, h.rows, tokL h.c l.frm l.block (askT h l d).1⟩
def begO (h : HS) (x : List Row12 × Atv × Bool) : HO := ⟨if x.2.2 then (begT h.c h.xs x.2.1).2 else h.xs, x.1, if x.2.2 then begL h.c h.xs x.2.1 else []⟩
def persO (h : HS) (l : Ltr) : HO := begO h (askA h.n h.rows l.block l.frm)
def doneO (h : HS) (l : Ltr) : HO := ⟨h.xs, (doneA h.rows l.block l.seq).1, if (doneA h.rows l.block l.seq).2 then spreadL 6 h.c.nodes l.block l.seq 0 h.c.nodes else []⟩
def acksO (h : HS) (l : Ltr) : HO := begO h (ackA h.n h.rows l.block l.seq l.frm)
def findL (args : List AV) (H : Heap) : Option (HS × Ltr × I3) := match args with
  | [.ptr id _, .agg [.int _ k, .int _ l, .int _ m, .int _ n, .int _ o, .int _ p, .bool q, .int _ r, .bool s, .bool t, .int _ u], .agg [.arr _ .int ds]] => (findH id H).map fun h => (h, ⟨k, l, m, n, o, p, q, ⟨r, s, t, u⟩⟩, ⟨ds.getD 0 0, ds.getD 1 0, ds.getD 2 0⟩)
  | _ => none
def hArgs (l : Ltr) (d : I3) : List AV := [pH, ALtr l, AI3 d]
theorem come_t {h : HS} {l : Ltr} (hc : (curR h.rows l.block).2 = true) : comeO h l = ⟨h.xs, h.rows, tokL h.c (curR h.rows l.block).1.node l.block l.tok⟩ := if_pos hc
theorem come_f {h : HS} {l : Ltr} (hc : (curR h.rows l.block).2 = false) : comeO h l = ⟨putB h.xs l.block l.tok, h.rows, []⟩ := if_neg (by rw [hc]; decide)
structure NN (xs : List Bun) : Prop where
  nn : ∀ j, 0 ≤ (getB xs j).c
def cCome : Con where
  X := HS × Ltr × I3
  args := fun ⟨h, l, d⟩ => [pH, ALtr l, AI3 d]
  heap := fun ⟨h, l, d⟩ => hH false h.c h.n h.xs h.rows
  pre := fun _ => True
  res := fun _ => .slc 5
  heap' := fun ⟨h, l, d⟩ => hHL false h.c h.n (comeO h l).xs (comeO h l).rows (comeO h l).out
  pure := false
  find := findL
set_option maxRecDepth 100000 in
set_option maxHeartbeats 8000000 in
theorem cCome_ok : cCome.Ok Try.prog 31 := by
  refine fun_ok (env_ok (Cons.cons cCur_ok (Cons.cons cHTok_ok (Cons.cons cPut_ok Cons.nil)))) mixedP Try.func31 (by decide) rfl cCome [(1, 12), (4, 9), (2000001, 10), (2000001, 11), (4000001, 0), (4000001, 1), (4000001, 2), (4000001, 3), (4000001, 4), (4000001, 5), (4000001, 6), (4000001, 7), (4000001, 8), (4000001, 9), (5000001, 9), (2000004, 8)] (fun _ => rfl) (fun h => by cases h) (fun _ => Nat.le_of_ble_eq_true rfl) ?_
  rintro ⟨⟨c, n, xs, rows⟩, l, d⟩ hp ha hb
  clear hp ha hb
  all_goals (repeat' (first
    | with_reducible refine iTr ?_
    | with_reducible refine iB ?_
    | intro _
    | exact True.intro
    | (show _ ∧ _
       first
        | refine aTT ?_
        | refine aTB ?_
        | refine aT ?_
        | refine aB ?_
        | refine a11 ?_
        | refine a01 ?_
        | refine a00 ?_
        | refine a10 ?_
        | (with_reducible refine And.intro rfl ?_)
        | refine And.intro ?_ ?_)
    | with_reducible exact rfl
    | with_reducible exact HEq.rfl
    | (show (_ : Option Nat) = _; exact rfl)
    | (show (_ : Option Blk) = _; exact rfl)
    | (with_reducible show (nodupB _ && _ && _ && _ && _) = true; exact (Eq.refl true))
    | (with_reducible show (nodupB _ && _ && _ && _) = true; exact (Eq.refl true))
    | (with_reducible show (nodupB _ && _ && _) = true; exact (Eq.refl true))
    | (with_reducible show freeOk _ _ = true; exact (Eq.refl true))
    | (with_reducible show wrOk _ _ _ _ _ = true; exact (Eq.refl true))
    | (show (_ : AV) = _; exact rfl)
    | (show (_ : Heap) = _; exact rfl)
    | (with_reducible show (_ || !_) = true; exact (Eq.refl true))
    | (with_reducible show Nat.beq _ _ = true; exact (Eq.refl true))))
  all_goals (first | (show (_ : Int) = _) | (show (_ : Bool) = _) | (show HEq _ _) | (show ∃ _ : LInv, _) | skip)
  all_goals (try (with_reducible exact rfl))
  all_goals (try dsimp only at *)
  all_goals (first
    | (rw [come_t (by assumption)]; done)
    | (rw [come_t (by assumption)]; exact HEq.rfl)
    | (rw [come_f (by assumption)]; done)
    | (rw [come_f (by assumption)]; exact HEq.rfl)
    | skip)
end Go.Proofs.Ytipibgamajhgbaa

namespace Go.Proofs.Ytipibgamajhgbaa
open Go.RowKit
set_option linter.unusedVariables false
set_option linter.unusedSimpArgs false
def cAskH : Con where
  X := HS × Ltr × I3
  args := fun ⟨h, l, d⟩ => [pH, ALtr l, AI3 d]
  heap := fun ⟨h, l, d⟩ => hH false h.c h.n h.xs h.rows
  pre := fun ⟨h, l, d⟩ => NN h.xs
  res := fun _ => .slc 5
  heap' := fun ⟨h, l, d⟩ => hHL false h.c h.n (askO h l d).xs (askO h l d).rows (askO h l d).out
  pure := false
  find := findL
set_option maxRecDepth 100000 in
set_option maxHeartbeats 8000000 in
theorem cAskH_ok : cAskH.Ok Try.prog 32 := by
  refine fun_ok (env_ok (Cons.cons cGet_ok (Cons.cons cReply_ok (Cons.cons cTake_ok (Cons.cons cHTok_ok Cons.nil))))) mixedP Try.func32 (by decide) rfl cAskH [(1, 22), (2, 16), (2000002, 14), (2000002, 15), (4000002, 0), (4000002, 1), (4000002, 2), (4000002, 3), (4000002, 4)] (fun _ => rfl) (fun h => by cases h) (fun _ => Nat.le_of_ble_eq_true rfl) ?_
  rintro ⟨⟨c, n, xs, rows⟩, l, ⟨d1, d2, d3⟩⟩ hp ha hb
  replace hp : NN xs := hp
  clear ha hb
  all_goals (repeat' (first
    | with_reducible refine iTr ?_
    | with_reducible refine iB ?_
    | intro _
    | exact True.intro
    | (show _ ∧ _
       first
        | refine aTT ?_
        | refine aTB ?_
        | refine aT ?_
        | refine aB ?_
        | refine a11 ?_
        | refine a01 ?_
        | refine a00 ?_
        | refine a10 ?_
        | (with_reducible refine And.intro rfl ?_)
        | refine And.intro ?_ ?_)
    | with_reducible exact rfl
    | with_reducible exact HEq.rfl
    | (show (_ : Option Nat) = _; exact rfl)
    | (show (_ : Option Blk) = _; exact rfl)
    | (with_reducible show (nodupB _ && _ && _ && _ && _) = true; exact (Eq.refl true))
    | (with_reducible show (nodupB _ && _ && _ && _) = true; exact (Eq.refl true))
    | (with_reducible show (nodupB _ && _ && _) = true; exact (Eq.refl true))
    | (with_reducible show freeOk _ _ = true; exact (Eq.refl true))
    | (with_reducible show wrOk _ _ _ _ _ = true; exact (Eq.refl true))
    | (show (_ : AV) = _; exact rfl)
    | (show (_ : Heap) = _; exact rfl)
    | (with_reducible show (_ || !_) = true; exact (Eq.refl true))
    | (with_reducible show Nat.beq _ _ = true; exact (Eq.refl true))))
  all_goals (first | (show (_ : Int) = _) | (show (_ : Bool) = _) | (show HEq _ _) | (show ∃ _ : LInv, _) | skip)
  all_goals (try (with_reducible exact rfl))
  all_goals (try dsimp only at *)
  all_goals (first | exact hp.nn _ | exact HEq.rfl | skip)
def cDoneH : Con where
  X := HS × Ltr × I3
  args := fun ⟨h, l, d⟩ => [pH, ALtr l, AI3 d]
  heap := fun ⟨h, l, d⟩ => hH false h.c h.n h.xs h.rows
  pre := fun ⟨h, l, d⟩ => True
  res := fun _ => .slc 5
  heap' := fun ⟨h, l, d⟩ => hHL false h.c h.n (doneO h l).xs (doneO h l).rows (doneO h l).out
  pure := false
  find := findL
set_option maxRecDepth 100000 in
set_option maxHeartbeats 8000000 in
theorem cDoneH_ok : cDoneH.Ok Try.prog 34 := by
  refine fun_ok (env_ok (Cons.cons cDone_ok (Cons.cons cSpread_ok Cons.nil))) mixedP Try.func34 (by decide) rfl cDoneH [(1, 10), (3, 15), (2000001, 8), (2000003, 14)] (fun _ => rfl) (fun h => by cases h) (fun _ => Nat.le_of_ble_eq_true rfl) ?_
  rintro ⟨⟨c, n, xs, rows⟩, l, d⟩ hp ha hb
  clear hp ha hb
  all_goals (repeat' (first
    | with_reducible refine iTr ?_
    | with_reducible refine iB ?_
    | intro _
    | exact True.intro
    | (show _ ∧ _
       first
        | refine aTT ?_
        | refine aTB ?_
        | refine aT ?_
        | refine aB ?_
        | refine a11 ?_
        | refine a01 ?_
        | refine a00 ?_
        | refine a10 ?_
        | (with_reducible refine And.intro rfl ?_)
        | refine And.intro ?_ ?_)
    | with_reducible exact rfl
    | with_reducible exact HEq.rfl
    | (show (_ : Option Nat) = _; exact rfl)
    | (show (_ : Option Blk) = _; exact rfl)
    | (with_reducible show (nodupB _ && _ && _ && _ && _) = true; exact (Eq.refl true))
    | (with_reducible show (nodupB _ && _ && _ && _) = true; exact (Eq.refl true))
    | (with_reducible show (nodupB _ && _ && _) = true; exact (Eq.refl true))
    | (with_reducible show freeOk _ _ = true; exact (Eq.refl true))
    | (with_reducible show wrOk _ _ _ _ _ = true; exact (Eq.refl true))
    | (show (_ : AV) = _; exact rfl)
    | (show (_ : Heap) = _; exact rfl)
    | (with_reducible show (_ || !_) = true; exact (Eq.refl true))
    | (with_reducible show Nat.beq _ _ = true; exact (Eq.refl true))))
  all_goals (first | (show (_ : Int) = _) | (show (_ : Bool) = _) | (show HEq _ _) | (show ∃ _ : LInv, _) | skip)
  all_goals (try (with_reducible exact rfl))
  all_goals (try dsimp only at *)
  all_goals (try simp only [Bool.not_eq_true', Bool.not_eq_false'] at *)
  all_goals (first
    | (show _ ≍ (doneO _ _).xs; exact HEq.rfl)
    | (show _ ≍ (doneO _ _).rows; exact HEq.rfl)
    | (apply heq_of_eq; unfold doneO; dsimp only; first | (rw [if_pos (by assumption)]; done) | (rw [if_neg (by rw [‹(doneA rows l.block l.seq).snd = false›]; decide)]; done))
    | skip)
end Go.Proofs.Ytipibgamajhgbaa

namespace Go.Proofs.Ytipibgamajhgbaa
open Go.RowKit
set_option linter.unusedVariables false
set_option linter.unusedSimpArgs false
structure PPH (h : HS) (l : Ltr) : Prop where
  nn : NN h.xs
  ask : PAsk h.n h.rows l.block l.frm
structure PKH (h : HS) (l : Ltr) : Prop where
  nn : NN h.xs
  le : h.n ≤ 64
def cPersH : Con where
  X := HS × Ltr × I3
  args := fun ⟨h, l, d⟩ => [pH, ALtr l, AI3 d]
  heap := fun ⟨h, l, d⟩ => hH false h.c h.n h.xs h.rows
  pre := fun ⟨h, l, d⟩ => PPH h l
  res := fun _ => .slc 5
  heap' := fun ⟨h, l, d⟩ => hHL false h.c h.n (persO h l).xs (persO h l).rows (persO h l).out
  pure := false
  find := findL
set_option maxRecDepth 100000 in
set_option maxHeartbeats 8000000 in
theorem cPersH_ok : cPersH.Ok Try.prog 33 := by
  refine fun_ok (env_ok (Cons.cons cAsk_ok (Cons.cons cHBegin_ok Cons.nil))) mixedP Try.func33 (by decide) rfl cPersH [(1, 13), (2000001, 9), (2000001, 12), (4000001, 0)] (fun _ => rfl) (fun h => by cases h) (fun _ => Nat.le_of_ble_eq_true rfl) ?_
  rintro ⟨⟨c, n, xs, rows⟩, l, d⟩ hp ha hb
  replace hp : PPH ⟨c, n, xs, rows⟩ l := hp
  clear ha hb
  all_goals (repeat' (first
    | with_reducible refine iTr ?_
    | with_reducible refine iB ?_
    | intro _
    | exact True.intro
    | (show _ ∧ _
       first
        | refine aTT ?_
        | refine aTB ?_
        | refine aT ?_
        | refine aB ?_
        | refine a11 ?_
        | refine a01 ?_
        | refine a00 ?_
        | refine a10 ?_
        | (with_reducible refine And.intro rfl ?_)
        | refine And.intro ?_ ?_)
    | with_reducible exact rfl
    | with_reducible exact HEq.rfl
    | (show (_ : Option Nat) = _; exact rfl)
    | (show (_ : Option Blk) = _; exact rfl)
    | (with_reducible show (nodupB _ && _ && _ && _ && _) = true; exact (Eq.refl true))
    | (with_reducible show (nodupB _ && _ && _ && _) = true; exact (Eq.refl true))
    | (with_reducible show (nodupB _ && _ && _) = true; exact (Eq.refl true))
    | (with_reducible show freeOk _ _ = true; exact (Eq.refl true))
    | (with_reducible show wrOk _ _ _ _ _ = true; exact (Eq.refl true))
    | (show (_ : AV) = _; exact rfl)
    | (show (_ : Heap) = _; exact rfl)
    | (with_reducible show (_ || !_) = true; exact (Eq.refl true))
    | (with_reducible show Nat.beq _ _ = true; exact (Eq.refl true))))
  all_goals (first | (show (_ : Int) = _) | (show (_ : Bool) = _) | (show HEq _ _) | (show ∃ _ : LInv, _) | skip)
  all_goals (try (with_reducible exact rfl))
  all_goals (try dsimp only at *)
  all_goals (first | exact hp.ask | exact hp.nn.nn _ | exact HEq.rfl | skip)
def cAckH : Con where
  X := HS × Ltr × I3
  args := fun ⟨h, l, d⟩ => [pH, ALtr l, AI3 d]
  heap := fun ⟨h, l, d⟩ => hH false h.c h.n h.xs h.rows
  pre := fun ⟨h, l, d⟩ => PKH h l
  res := fun _ => .slc 5
  heap' := fun ⟨h, l, d⟩ => hHL false h.c h.n (acksO h l).xs (acksO h l).rows (acksO h l).out
  pure := false
  find := findL
set_option maxRecDepth 100000 in
set_option maxHeartbeats 8000000 in
theorem cAckH_ok : cAckH.Ok Try.prog 35 := by
  refine fun_ok (env_ok (Cons.cons cAck_ok (Cons.cons cHBegin_ok Cons.nil))) mixedP Try.func35 (by decide) rfl cAckH [(1, 15), (2000001, 11), (2000001, 14), (4000001, 0)] (fun _ => rfl) (fun h => by cases h) (fun _ => Nat.le_of_ble_eq_true rfl) ?_
  rintro ⟨⟨c, n, xs, rows⟩, l, d⟩ hp ha hb
  replace hp : PKH ⟨c, n, xs, rows⟩ l := hp
  clear ha hb
  all_goals (repeat' (first
    | with_reducible refine iTr ?_
    | with_reducible refine iB ?_
    | intro _
    | exact True.intro
    | (show _ ∧ _
       first
        | refine aTT ?_
        | refine aTB ?_
        | refine aT ?_
        | refine aB ?_
        | refine a11 ?_
        | refine a01 ?_
        | refine a00 ?_
        | refine a10 ?_
        | (with_reducible refine And.intro rfl ?_)
        | refine And.intro ?_ ?_)
    | with_reducible exact rfl
    | with_reducible exact HEq.rfl
    | (show (_ : Option Nat) = _; exact rfl)
    | (show (_ : Option Blk) = _; exact rfl)
    | (with_reducible show (nodupB _ && _ && _ && _ && _) = true; exact (Eq.refl true))
    | (with_reducible show (nodupB _ && _ && _ && _) = true; exact (Eq.refl true))
    | (with_reducible show (nodupB _ && _ && _) = true; exact (Eq.refl true))
    | (with_reducible show freeOk _ _ = true; exact (Eq.refl true))
    | (with_reducible show wrOk _ _ _ _ _ = true; exact (Eq.refl true))
    | (show (_ : AV) = _; exact rfl)
    | (show (_ : Heap) = _; exact rfl)
    | (with_reducible show (_ || !_) = true; exact (Eq.refl true))
    | (with_reducible show Nat.beq _ _ = true; exact (Eq.refl true))))
  all_goals (first | (show (_ : Int) = _) | (show (_ : Bool) = _) | (show HEq _ _) | (show ∃ _ : LInv, _) | skip)
  all_goals (try (with_reducible exact rfl))
  all_goals (try dsimp only at *)
  all_goals (first | exact ⟨hp.le⟩ | exact hp.nn.nn _ | exact HEq.rfl | skip)
end Go.Proofs.Ytipibgamajhgbaa
