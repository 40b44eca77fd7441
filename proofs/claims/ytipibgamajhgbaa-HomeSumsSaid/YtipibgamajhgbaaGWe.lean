/- Contracts of the reference's home: its parts. No condition. -/
import Derived.Test.YtipibgamajhgbaaW12
import Derived.Test.YtipibgamajhgbaaGY
import Derived.Test.YtipibgamajhgbaaGD
import Derived.Test.YtipibgamajhgbaaGWc
namespace Go.Proofs.Ytipibgamajhgbaa
open Go.RowKit
set_option linter.unusedVariables false
set_option linter.unusedSimpArgs false
def cRReply : Con where
  X := Int × Bun × Bool × I3
  args := fun ⟨p, b, wr, d⟩ => [AI p, ABun b, AB wr, AI3 d]
  heap := fun _ => hp0
  pre := fun _ => True
  res := fun ⟨p, b, wr, d⟩ => .tup [AI (reply p b wr d).1, AB (reply p b wr d).2.1, AB (reply p b wr d).2.2]
  heap' := fun _ => hp0
  pure := true
  find := fun args _ => match args with
    | [.int _ p, .agg [.int _ c, .bool o, .bool h, .int _ v], .bool wr, .agg [.arr _ .int ds]] => some (p, ⟨c, o, h, v⟩, wr, ⟨ds.getD 0 0, ds.getD 1 0, ds.getD 2 0⟩)
    | _ => none
theorem cRReply_ok : cRReply.Ok Try.prog 40 := by
  refine con_of_calls2 Try.func40 (by decide) rfl cRReply (fun _ => ⟨rfl, rfl⟩) (fun x => match x with | (p, b, wr, d) => [.int .i64 p, .agg #[.int .i64 b.c, .bool b.o, .bool b.h, .int .i64 b.d], .bool wr, .agg #[.int .i64 d.a, .int .i64 d.b, .int .i64 d.c]]) ?_ ?_ ?_
  · rintro C ⟨p, b, wr, d⟩ vs h
    match vs, h with
    | [v1, v2, v3, v4], ⟨h1, h2, h3, h4, _⟩ =>
      have e1 := rv1_plain h1 rfl
      have e2 := rv1_plain h2 rfl
      have e3 := rv1_plain h3 rfl
      have e4 := rv_I3 h4
      subst e1 e2 e3 e4
      rfl
  · rintro ⟨p, b, wr, d⟩ - ⟨h1, h2, h3, h4, -⟩
    refine ⟨rfl, ⟨reply_ok (okABun.1 h2).1 ?_, trivial⟩, trivial, trivial, trivial⟩
    have h5 := h4.1.2 d.a (by simp)
    exact h5.1
  · rintro ⟨p, b, wr, d⟩ w - -
    exact rReply_calls p b wr d w
def mHL (ro : Bool) (c : Cfg) (n : Int) (m : List Bun) (rows : List RRow12) (out : List Ltr) : Heap :=
  ⟨4, [(3, some (.seq false 34 .ltr out)), (2, some (.seq ro 92 .rRow12 rows)), (1, some (.obj true [.int .i64 n, .slc 2])), (0, some (.obj ro [.int .i64 c.nodes, .int .i64 c.blocks, .int .i64 c.tokens, .int .i64 c.sets, .int .i64 c.ways, .int .i64 c.cap, .int .i64 c.wait, .int .i64 c.tries, .int .i64 c.policy, .vsl .bun m, .ptr 1 p0]))]⟩
def findMS (id : Nat) (H : Heap) : Option MS := match H.get id with
  | some (.obj _ [.int _ a, .int _ b, .int _ c, .int _ d, .int _ e, .int _ f, .int _ g, .int _ h, .int _ i, .vsl .bun m, .ptr q _]) => match findR q H with
    | some (n, rows) => some ⟨⟨a, b, c, d, e, f, g, h, i⟩, n, m, rows⟩
    | none => none
  | _ => none
def rtokL (c : Cfg) (dst block : Int) (b : Bun) : List Ltr := if b.c = 0 then [] else [⟨1, c.nodes, dst, block, 0, 0, false, b⟩]
theorem rtokL_len (c : Cfg) (dst block : Int) (b : Bun) : (rtokL c dst block b).length ≤ 1 := by unfold rtokL; split <;> simp
def cRTok : Con where
  X := MS × Int × Int × Bun
  args := fun ⟨h, dst, k, b⟩ => [pH, AI dst, AI k, ABun b]
  heap := fun ⟨h, dst, k, b⟩ => mHH true h.c h.n h.m h.rows
  pre := fun _ => True
  res := fun _ => .slc 3
  heap' := fun ⟨h, dst, k, b⟩ => mHL true h.c h.n h.m h.rows (rtokL h.c dst k b)
  pure := false
  find := fun args H => match args with
    | [.ptr id _, .int _ dst, .int _ k, .agg [.int _ c, .bool o, .bool h, .int _ d]] => (findMS id H).map fun s => (s, dst, k, ⟨c, o, h, d⟩)
    | _ => none
set_option maxRecDepth 100000 in
set_option maxHeartbeats 8000000 in
theorem cRTok_ok : cRTok.Ok Try.prog 38 := by
  refine fun_ok (env_ok Cons.nil) mixedP Try.func38 (by decide) rfl cRTok [(3, 10), (2000003, 9)] (fun _ => rfl) (fun h => by cases h) (fun _ => Nat.le_of_ble_eq_true rfl) ?_
  rintro ⟨⟨c, n, m, rows⟩, dst, k, b⟩ hp ha hb
  clear hp ha hb
  all_goals (repeat' (first
    | with_reducible refine iTr ?_
    | with_reducible refine iB ?_
    | intro _
    | exact True.intro
    | (show _ ∧ _
       first
        | refine aTT ?_
        | refine aTB ?_
        | refine aT ?_
        | refine aB ?_
        | refine a11 ?_
        | refine a01 ?_
        | refine a00 ?_
        | refine a10 ?_
        | (with_reducible refine And.intro rfl ?_)
        | refine And.intro ?_ ?_)
    | with_reducible exact rfl
    | with_reducible exact HEq.rfl
    | (show (_ : Option Nat) = _; exact rfl)
    | (show (_ : Option Blk) = _; exact rfl)
    | (with_reducible show (nodupB _ && _ && _ && _ && _) = true; exact (Eq.refl true))
    | (with_reducible show (nodupB _ && _ && _ && _) = true; exact (Eq.refl true))
    | (with_reducible show (nodupB _ && _ && _) = true; exact (Eq.refl true))
    | (with_reducible show freeOk _ _ = true; exact (Eq.refl true))
    | (with_reducible show wrOk _ _ _ _ _ = true; exact (Eq.refl true))
    | (show (_ : AV) = _; exact rfl)
    | (show (_ : Heap) = _; exact rfl)
    | (with_reducible show (_ || !_) = true; exact (Eq.refl true))
    | (with_reducible show Nat.beq _ _ = true; exact (Eq.refl true))))
  all_goals (first | (show (_ : Int) = _) | (show (_ : Bool) = _) | (show HEq _ _) | (show ∃ _ : LInv, _) | skip)
  all_goals (try (with_reducible exact rfl))
  all_goals (try dsimp only at *)
  all_goals (try simp only [beq_iff_eq, beq_eq_false_iff_ne, ne_eq] at *)
  all_goals (apply heq_of_eq; unfold rtokL; first | (rw [if_pos (by assumption)]; done) | (rw [if_neg (by assumption)]; done) | skip)
structure SSr (n : Int) (i : Nat) : Prop where
  le : (i : Int) ≤ n ∨ i = 0
  n64 : n ≤ 64
def rspreadL (kd f b s x n : Int) : List Ltr := sprI kd f b s x n.toNat
def cRSpread : Con where
  X := MS × Int × Int × Int × Int
  args := fun ⟨h, kd, b, s, x⟩ => [pH, AI kd, AI b, AI s, AI x]
  heap := fun ⟨h, kd, b, s, x⟩ => mHH true h.c h.n h.m h.rows
  pre := fun ⟨h, kd, b, s, x⟩ => h.c.nodes ≤ 64
  res := fun _ => .slc 3
  heap' := fun ⟨h, kd, b, s, x⟩ => mHL true h.c h.n h.m h.rows (rspreadL kd h.c.nodes b s x h.c.nodes)
  pure := false
  find := fun args H => match args with
    | [.ptr id _, .int _ kd, .int _ b, .int _ s, .int _ x] => (findMS id H).map fun h => (h, kd, b, s, x)
    | _ => none
set_option maxRecDepth 100000 in
set_option maxHeartbeats 8000000 in
theorem cRSpread_ok : cRSpread.Ok Try.prog 45 := by
  refine fun_ok (env_ok Cons.nil) mixedP Try.func45 (by decide) rfl cRSpread [] (fun _ => rfl) (fun h => by cases h) (fun _ => Nat.le_of_ble_eq_true rfl) ?_
  rintro ⟨⟨c, n, m, rows⟩, kd, b, s, x⟩ hp ha hb
  replace hp : c.nodes ≤ 64 := hp
  clear ha hb
  all_goals (repeat' (first
    | with_reducible refine iTr ?_
    | with_reducible refine iB ?_
    | intro _
    | exact True.intro
    | (show _ ∧ _
       first
        | refine aTT ?_
        | refine aTB ?_
        | refine aT ?_
        | refine aB ?_
        | refine a11 ?_
        | refine a01 ?_
        | refine a00 ?_
        | refine a10 ?_
        | (with_reducible refine And.intro rfl ?_)
        | refine And.intro ?_ ?_)
    | with_reducible exact rfl
    | with_reducible exact HEq.rfl
    | (show (_ : Option Nat) = _; exact rfl)
    | (show (_ : Option Blk) = _; exact rfl)
    | (with_reducible show (nodupB _ && _ && _ && _ && _) = true; exact (Eq.refl true))
    | (with_reducible show (nodupB _ && _ && _ && _) = true; exact (Eq.refl true))
    | (with_reducible show (nodupB _ && _ && _) = true; exact (Eq.refl true))
    | (with_reducible show freeOk _ _ = true; exact (Eq.refl true))
    | (with_reducible show wrOk _ _ _ _ _ = true; exact (Eq.refl true))
    | (show (_ : AV) = _; exact rfl)
    | (show (_ : Heap) = _; exact rfl)
    | (with_reducible show (_ || !_) = true; exact (Eq.refl true))
    | (with_reducible show Nat.beq _ _ = true; exact (Eq.refl true))))
  all_goals (first | (show (_ : Int) = _) | (show (_ : Bool) = _) | (show HEq _ _) | (show ∃ _ : LInv, _) | skip)
  all_goals (try (with_reducible exact rfl))
  all_goals try (refine ⟨⟨{i : Nat // SSr c.nodes i}, fun i => [(12, AI i.1), (11, .slc 3), (0, .ptr 0 p0), (1, AI kd), (2, AI b), (3, AI s), (4, AI x)], fun i => mHL true c n m rows (sprI kd c.nodes b s x i.1), fun i => c.nodes.toNat - i.1⟩, ⟨⟨0, ?_⟩, [], ?_⟩, ?_⟩; rotate_right; rintro ⟨i, hS⟩)
  all_goals (repeat' (first
    | with_reducible refine iTr ?_
    | with_reducible refine iB ?_
    | intro _
    | exact True.intro
    | (show _ ∧ _
       first
        | refine aTT ?_
        | refine aTB ?_
        | refine aT ?_
        | refine aB ?_
        | refine a11 ?_
        | refine a01 ?_
        | refine a00 ?_
        | refine a10 ?_
        | (with_reducible refine And.intro rfl ?_)
        | refine And.intro ?_ ?_)
    | with_reducible exact rfl
    | with_reducible exact HEq.rfl
    | (show (_ : Option Nat) = _; exact rfl)
    | (show (_ : Option Blk) = _; exact rfl)
    | (with_reducible show (nodupB _ && _ && _ && _ && _) = true; exact (Eq.refl true))
    | (with_reducible show (nodupB _ && _ && _ && _) = true; exact (Eq.refl true))
    | (with_reducible show (nodupB _ && _ && _) = true; exact (Eq.refl true))
    | (with_reducible show freeOk _ _ = true; exact (Eq.refl true))
    | (with_reducible show wrOk _ _ _ _ _ = true; exact (Eq.refl true))
    | (show (_ : AV) = _; exact rfl)
    | (show (_ : Heap) = _; exact rfl)
    | (with_reducible show (_ || !_) = true; exact (Eq.refl true))
    | (with_reducible show Nat.beq _ _ = true; exact (Eq.refl true))))
  all_goals (first | (show (_ : Int) = _) | (show (_ : Bool) = _) | (show HEq _ _) | (show ∃ _ : LInv, _) | skip)
  all_goals (try (with_reducible exact rfl))
  all_goals try (refine ⟨⟨i + 1, ?_⟩, ?_, ?_⟩)
  all_goals (repeat' (first
    | with_reducible refine iTr ?_
    | with_reducible refine iB ?_
    | intro _
    | exact True.intro
    | (show _ ∧ _
       first
        | refine aTT ?_
        | refine aTB ?_
        | refine aT ?_
        | refine aB ?_
        | refine a11 ?_
        | refine a01 ?_
        | refine a00 ?_
        | refine a10 ?_
        | (with_reducible refine And.intro rfl ?_)
        | refine And.intro ?_ ?_)
    | with_reducible exact rfl
    | with_reducible exact HEq.rfl
    | (show (_ : Option Nat) = _; exact rfl)
    | (show (_ : Option Blk) = _; exact rfl)
    | (with_reducible show (nodupB _ && _ && _ && _ && _) = true; exact (Eq.refl true))
    | (with_reducible show (nodupB _ && _ && _ && _) = true; exact (Eq.refl true))
    | (with_reducible show (nodupB _ && _ && _) = true; exact (Eq.refl true))
    | (with_reducible show freeOk _ _ = true; exact (Eq.refl true))
    | (with_reducible show wrOk _ _ _ _ _ = true; exact (Eq.refl true))
    | (show (_ : AV) = _; exact rfl)
    | (show (_ : Heap) = _; exact rfl)
    | (with_reducible show (_ || !_) = true; exact (Eq.refl true))
    | (with_reducible show Nat.beq _ _ = true; exact (Eq.refl true))))
  all_goals (first | (show (_ : Int) = _) | (show (_ : Bool) = _) | (show HEq _ _) | (show ∃ _ : LInv, _) | skip)
  all_goals (try (with_reducible exact rfl))
  all_goals (try dsimp only at *)
  all_goals (try simp only [decide_eq_true_eq, decide_eq_false_iff_not] at *)
  all_goals (first
    | rfl
    | (with_reducible exact HEq.rfl)
    | exact ⟨.inr rfl, hp⟩
    | exact ⟨.inl (by omega), hp⟩
    | omega
    | (show ((sprI kd c.nodes b s x i).length + 1) * 80 ≤ _; rw [sprI_len]; omega)
    | exact wrap_succ (by omega)
    | (apply heq_of_eq; rw [sprI_succ]; first | done | rfl)
    | (have hle := hS.le; have e : c.nodes.toNat = i := (by omega); apply heq_of_eq; unfold rspreadL; rw [e])
    | exact HEq.rfl
    | skip)
end Go.Proofs.Ytipibgamajhgbaa

namespace Go.Proofs.Ytipibgamajhgbaa
open Go.RowKit
set_option linter.unusedVariables false
set_option linter.unusedSimpArgs false
structure MO where
  m : List Bun
  rows : List RRow12
  out : List Ltr
def rbegL (c : Cfg) (m : List Bun) (a : Atv) : List Ltr := rspreadL 4 c.nodes a.block a.seq a.node c.nodes ++ rtokL c a.node a.block (m.getD a.block.toNat bun0)
structure PBg (h : MS) (a : Atv) : Prop where
  inb : inB h.m a.block = true
  n64 : h.c.nodes ≤ 64
  m64 : h.m.length ≤ 64
def cRBegin : Con where
  X := MS × Atv
  args := fun ⟨h, a⟩ => [pH, AAtv a]
  heap := fun ⟨h, a⟩ => mHH false h.c h.n h.m h.rows
  pre := fun ⟨h, a⟩ => PBg h a
  res := fun _ => .slc 3
  heap' := fun ⟨h, a⟩ => mHL false h.c h.n (h.m.set a.block.toNat bun0) h.rows (rbegL h.c h.m a)
  pure := false
  find := fun args H => match args with
    | [.ptr id _, .agg [.int _ b, .int _ nd, .int _ s]] => (findMS id H).map fun h => (h, ⟨b, nd, s⟩)
    | _ => none
theorem rspread_len {kd f b s x n : Int} (h : n ≤ 64) : (rspreadL kd f b s x n).length ≤ 64 := by
  unfold rspreadL
  rw [sprI_len]
  omega
set_option maxRecDepth 100000 in
set_option maxHeartbeats 8000000 in
theorem cRBegin_ok : cRBegin.Ok Try.prog 43 := by
  refine fun_ok (env_ok (Cons.cons cRSpread_ok (Cons.cons crSet_ok (Cons.cons cRTok_ok Cons.nil)))) mixedP Try.func43 (by decide) rfl cRBegin [(2, 9), (3, 9), (2000002, 8), (4000002, 0), (4000002, 1), (4000002, 2), (4000002, 3), (4000002, 4), (4000002, 5), (4000002, 6), (4000002, 7)] (fun _ => rfl) (fun h => by cases h) (fun _ => Nat.le_of_ble_eq_true rfl) ?_
  rintro ⟨⟨c, n, m, rows⟩, ⟨ab, an, sq⟩⟩ hp ha hb
  replace hp : PBg ⟨c, n, m, rows⟩ ⟨ab, an, sq⟩ := hp
  clear ha hb
  all_goals (repeat' (first
    | with_reducible refine iTr ?_
    | with_reducible refine iB ?_
    | intro _
    | exact True.intro
    | (show _ ∧ _
       first
        | refine aTT ?_
        | refine aTB ?_
        | refine aT ?_
        | refine aB ?_
        | refine a11 ?_
        | refine a01 ?_
        | refine a00 ?_
        | refine a10 ?_
        | (with_reducible refine And.intro rfl ?_)
        | refine And.intro ?_ ?_)
    | with_reducible exact rfl
    | with_reducible exact HEq.rfl
    | (show (_ : Option Nat) = _; exact rfl)
    | (show (_ : Option Blk) = _; exact rfl)
    | (with_reducible show (nodupB _ && _ && _ && _ && _) = true; exact (Eq.refl true))
    | (with_reducible show (nodupB _ && _ && _ && _) = true; exact (Eq.refl true))
    | (with_reducible show (nodupB _ && _ && _) = true; exact (Eq.refl true))
    | (with_reducible show freeOk _ _ = true; exact (Eq.refl true))
    | (with_reducible show wrOk _ _ _ _ _ = true; exact (Eq.refl true))
    | (show (_ : AV) = _; exact rfl)
    | (show (_ : Heap) = _; exact rfl)
    | (with_reducible show (_ || !_) = true; exact (Eq.refl true))
    | (with_reducible show Nat.beq _ _ = true; exact (Eq.refl true))))
  all_goals (first | (show (_ : Int) = _) | (show (_ : Bool) = _) | (show HEq _ _) | (show ∃ _ : LInv, _) | skip)
  all_goals (try (with_reducible exact rfl))
  all_goals (try dsimp only at *)
  all_goals (have hi := hp.inb)
  all_goals (first
    | exact hp.n64
    | exact hp.m64
    | exact ⟨hp.inb, hp.m64⟩
    | (have h1 := rspread_len (kd := 4) (f := c.nodes) (b := ab) (s := sq) (x := an) hp.n64; have h2 := rtokL_len c an ab (m.getD ab.toNat Ty.bun.dflt); dsimp only at h1; show ((rspreadL 4 c.nodes ab sq an c.nodes).length + (rtokL c an ab (m.getD ab.toNat Ty.bun.dflt)).length) * 80 ≤ _; omega)
    | (simp [inB] at hi ⊢; omega)
    | (with_reducible exact HEq.rfl)
    | exact HEq.rfl
    | skip)
def rbegO (h : MS) (x : List RRow12 × Atv × Bool) : MO := ⟨if x.2.2 then h.m.set x.2.1.block.toNat bun0 else h.m, x.1, if x.2.2 then rbegL h.c h.m x.2.1 else []⟩
def rcomeO (h : MS) (l : Ltr) : MO :=
  if (curM h.rows l.block).2 then ⟨h.m, h.rows, rtokL h.c (curM h.rows l.block).1.node l.block l.tok⟩ else ⟨rputB h.m l.block l.tok, h.rows, []⟩
def raskT (h : MS) (l : Ltr) (d : I3) : Bun × List Bun := rtakeB h.m l.block (reply h.c.policy (h.m.getD l.block.toNat bun0) l.wr d).1 (reply h.c.policy (h.m.getD l.block.toNat bun0) l.wr d).2.1 (reply h.c.policy (h.m.getD l.block.toNat bun0) l.wr d).2.2
def raskO (h : MS) (l : Ltr) (d : I3) : MO := ⟨(raskT h l d).2, h.rows, rtokL h.c l.frm l.block (raskT h l d).1⟩
def rpersO (h : MS) (l : Ltr) : MO := rbegO h (askM h.n h.rows l.block l.frm)
def rdoneO (h : MS) (l : Ltr) : MO := ⟨h.m, (doneM h.rows l.block l.seq).1, if (doneM h.rows l.block l.seq).2 then rspreadL 6 h.c.nodes l.block l.seq 0 h.c.nodes else []⟩
def racksO (h : MS) (l : Ltr) : MO := rbegO h (ackM h.n h.rows l.block l.seq l.frm)
def rkindO (h : MS) (l : Ltr) (d : I3) : MO :=
  if l.kind = 1 then rcomeO h l else if l.kind = 2 then raskO h l d else if l.kind = 3 then rpersO h l else if l.kind = 5 then rdoneO h l else if l.kind = 7 then racksO h l else ⟨h.m, h.rows, []⟩
def rtakeO (h : MS) (l : Ltr) (d : I3) : MO := if Sk1 h.c l then rkindO h l d else ⟨h.m, h.rows, []⟩
structure PTR (h : MS) (l : Ltr) : Prop where
  c64 : h.c.nodes ≤ 64
  n64 : h.n ≤ 64
  m64 : h.m.length ≤ 64
  inb : Sk1 h.c l → inB h.m l.block = true
  row : inM h.rows l.block = true → RowM (getM h.rows l.block)
  ask : PAM h.n h.rows l.block l.frm
  kn : inM h.rows l.block = true → (getM h.rows l.block).knows.length ≤ 99999
theorem rt_bad1 {h : MS} {l : Ltr} {d : I3} (h1 : (lcheck h.c l != 0) = true) : rtakeO h l d = ⟨h.m, h.rows, []⟩ := if_neg fun k => by rw [k.ok] at h1; cases h1
theorem rt_bad2 {h : MS} {l : Ltr} {d : I3} (h1 : (bif false then true else l.to != h.c.nodes) = true) : rtakeO h l d = ⟨h.m, h.rows, []⟩ := if_neg fun k => by
  have : (l.to != h.c.nodes) = true := h1
  rw [k.dest] at this
  simp at this
theorem rk_of {h : MS} {l : Ltr} {d : I3} (s : Sk1 h.c l) : rtakeO h l d = rkindO h l d := if_pos s
theorem sk_eq {c : Cfg} {l : Ltr} (h1 : (lcheck c l != 0) = false) (h2 : (bif false then true else l.to != c.nodes) = false) : Sk1 c l := ⟨bne_eq_false_iff_eq.1 h1, bne_eq_false_iff_eq.1 h2⟩
theorem beginM_block {b : Int} {r : RRow12} (h : (beginM b r).2.2 = true) : (beginM b r).2.1.block = b := by
  unfold beginM at h ⊢
  split
  · rename_i hr; rw [if_pos hr] at h; cases h
  · rfl
theorem askM_block {n : Int} {rows : List RRow12} {b nd : Int} (h : (askM n rows b nd).2.2 = true) : (askM n rows b nd).2.1.block = b := by
  unfold askM at h ⊢
  split
  · rename_i hx; rw [if_pos hx] at h; exact beginM_block h
  · rename_i hx; rw [if_neg hx] at h; cases h
theorem ackM_block {n : Int} {rows : List RRow12} {b s nd : Int} (h : (ackM n rows b s nd).2.2 = true) : (ackM n rows b s nd).2.1.block = b := by
  unfold ackM at h ⊢
  split
  · rename_i hx
    rw [if_pos hx] at h
    split
    · rename_i hk; rw [if_pos hk] at h; exact beginM_block h
    · rename_i hk; rw [if_neg hk] at h; cases h
  · rename_i hx; rw [if_neg hx] at h; cases h
theorem rt1t {h : MS} {l : Ltr} {d : I3} (s : Sk1 h.c l) (k : (l.kind == 1) = true) (hc : (curM h.rows l.block).2 = true) : rtakeO h l d = ⟨h.m, h.rows, rtokL h.c (curM h.rows l.block).1.node l.block l.tok⟩ := by
  rw [rk_of s]; unfold rkindO rcomeO; rw [if_pos (by simpa using k), if_pos hc]
theorem rt1f {h : MS} {l : Ltr} {d : I3} (s : Sk1 h.c l) (k : (l.kind == 1) = true) (hc : (curM h.rows l.block).2 = false) : rtakeO h l d = ⟨rputB h.m l.block l.tok, h.rows, []⟩ := by
  rw [rk_of s]; unfold rkindO rcomeO; rw [if_pos (by simpa using k), if_neg (by rw [hc]; decide)]
theorem rt2 {h : MS} {l : Ltr} {d : I3} (s : Sk1 h.c l) (k : (l.kind == 2) = true) : rtakeO h l d = raskO h l d := by
  have k : l.kind = 2 := by simpa using k
  rw [rk_of s]; unfold rkindO; rw [if_neg (by omega), if_pos k]
theorem rt3t {h : MS} {l : Ltr} {d : I3} (s : Sk1 h.c l) (k : (l.kind == 3) = true) (hc : (askM h.n h.rows l.block l.frm).2.2 = true) : rtakeO h l d = ⟨h.m.set (askM h.n h.rows l.block l.frm).2.1.block.toNat bun0, (askM h.n h.rows l.block l.frm).1, rbegL h.c h.m (askM h.n h.rows l.block l.frm).2.1⟩ := by
  have k : l.kind = 3 := by simpa using k
  rw [rk_of s]; unfold rkindO rpersO rbegO; rw [if_neg (by omega), if_neg (by omega), if_pos k, if_pos hc, if_pos hc]
theorem rt3f {h : MS} {l : Ltr} {d : I3} (s : Sk1 h.c l) (k : (l.kind == 3) = true) (hc : (askM h.n h.rows l.block l.frm).2.2 = false) : rtakeO h l d = ⟨h.m, (askM h.n h.rows l.block l.frm).1, []⟩ := by
  have k : l.kind = 3 := by simpa using k
  rw [rk_of s]; unfold rkindO rpersO rbegO; rw [if_neg (by omega), if_neg (by omega), if_pos k, if_neg (by rw [hc]; decide), if_neg (by rw [hc]; decide)]
theorem rt5t {h : MS} {l : Ltr} {d : I3} (s : Sk1 h.c l) (k : (l.kind == 5) = true) (hc : (doneM h.rows l.block l.seq).2 = true) : rtakeO h l d = ⟨h.m, (doneM h.rows l.block l.seq).1, rspreadL 6 h.c.nodes l.block l.seq 0 h.c.nodes⟩ := by
  have k : l.kind = 5 := by simpa using k
  rw [rk_of s]; unfold rkindO rdoneO; rw [if_neg (by omega), if_neg (by omega), if_neg (by omega), if_pos k, if_pos hc]
theorem rt5f {h : MS} {l : Ltr} {d : I3} (s : Sk1 h.c l) (k : (l.kind == 5) = true) (hc : (doneM h.rows l.block l.seq).2 = false) : rtakeO h l d = ⟨h.m, (doneM h.rows l.block l.seq).1, []⟩ := by
  have k : l.kind = 5 := by simpa using k
  rw [rk_of s]; unfold rkindO rdoneO; rw [if_neg (by omega), if_neg (by omega), if_neg (by omega), if_pos k, if_neg (by rw [hc]; decide)]
theorem rt7t {h : MS} {l : Ltr} {d : I3} (s : Sk1 h.c l) (k : (l.kind == 7) = true) (hc : (ackM h.n h.rows l.block l.seq l.frm).2.2 = true) : rtakeO h l d = ⟨h.m.set (ackM h.n h.rows l.block l.seq l.frm).2.1.block.toNat bun0, (ackM h.n h.rows l.block l.seq l.frm).1, rbegL h.c h.m (ackM h.n h.rows l.block l.seq l.frm).2.1⟩ := by
  have k : l.kind = 7 := by simpa using k
  rw [rk_of s]; unfold rkindO racksO rbegO; rw [if_neg (by omega), if_neg (by omega), if_neg (by omega), if_neg (by omega), if_pos k, if_pos hc, if_pos hc]
theorem rt7f {h : MS} {l : Ltr} {d : I3} (s : Sk1 h.c l) (k : (l.kind == 7) = true) (hc : (ackM h.n h.rows l.block l.seq l.frm).2.2 = false) : rtakeO h l d = ⟨h.m, (ackM h.n h.rows l.block l.seq l.frm).1, []⟩ := by
  have k : l.kind = 7 := by simpa using k
  rw [rk_of s]; unfold rkindO racksO rbegO; rw [if_neg (by omega), if_neg (by omega), if_neg (by omega), if_neg (by omega), if_pos k, if_neg (by rw [hc]; decide), if_neg (by rw [hc]; decide)]
theorem rt0 {h : MS} {l : Ltr} {d : I3} (s : Sk1 h.c l) (k1 : (l.kind == 1) = false) (k2 : (l.kind == 2) = false) (k3 : (l.kind == 3) = false) (k5 : (l.kind == 5) = false) (k7 : (l.kind == 7) = false) : rtakeO h l d = ⟨h.m, h.rows, []⟩ := by
  rw [rk_of s]; unfold rkindO; rw [if_neg (by simpa using k1), if_neg (by simpa using k2), if_neg (by simpa using k3), if_neg (by simpa using k5), if_neg (by simpa using k7)]
def cRTake : Con where
  X := MS × Ltr × I3
  args := fun ⟨h, l, d⟩ => [pH, ALtr l, AI3 d]
  heap := fun ⟨h, l, d⟩ => mHH false h.c h.n h.m h.rows
  pre := fun ⟨h, l, d⟩ => PTR h l
  res := fun _ => .slc 3
  heap' := fun ⟨h, l, d⟩ => mHL false h.c h.n (rtakeO h l d).m (rtakeO h l d).rows (rtakeO h l d).out
  pure := false
  find := fun args H => match args with
    | [.ptr id _, .agg [.int _ k, .int _ l, .int _ m, .int _ n, .int _ o, .int _ p, .bool q, .int _ r, .bool s, .bool t, .int _ u], .agg [.arr _ .int ds]] => (findMS id H).map fun h => (h, ⟨k, l, m, n, o, p, q, ⟨r, s, t, u⟩⟩, ⟨ds.getD 0 0, ds.getD 1 0, ds.getD 2 0⟩)
    | _ => none
set_option maxRecDepth 100000 in
set_option maxHeartbeats 16000000 in
theorem cRTake_ok : cRTake.Ok Try.prog 19 := by
  refine fun_ok (env_ok (Cons.cons cRCheck_ok (Cons.cons cRTok_ok (Cons.cons cRSpread_ok (Cons.cons cRBegin_ok (Cons.cons cCurM_ok (Cons.cons cAskM_ok (Cons.cons cDoneM_ok (Cons.cons cAckM_ok (Cons.cons crPut_ok (Cons.cons crTake_ok (Cons.cons cRReply_ok Cons.nil)))))))))))) mixedP Try.func19 (by decide) rfl cRTake [(1, 17), (5, 12), (8, 16), (10, 23), (11, 15), (15, 14), (19, 9), (22, 16), (2000005, 10), (2000005, 11), (4000005, 0), (4000005, 1), (4000005, 2), (4000005, 3), (4000005, 4), (4000005, 5), (4000005, 6), (4000005, 7), (4000005, 8), (4000005, 9), (5000005, 9), (2000008, 15), (4000008, 12), (2000011, 13), (2000011, 14), (4000011, 0), (4000011, 1), (4000011, 2), (4000011, 3), (4000011, 4), (4000011, 5), (4000011, 6), (4000011, 7), (4000011, 8), (4000011, 9), (4000011, 10), (4000011, 11), (4000011, 12), (5000011, 12), (2000015, 8), (2000015, 12), (2000015, 13), (90000015, 12), (5000015, 9), (5000015, 10), (5000015, 11), (6000015, 11), (2000019, 8), (2000022, 10), (2000022, 14), (2000022, 15), (90000022, 14), (5000022, 11), (5000022, 12), (5000022, 13), (6000022, 13)] (fun _ => rfl) (fun h => by cases h) (fun _ => Nat.le_of_ble_eq_true rfl) ?_
  rintro ⟨⟨c, n, m, rows⟩, l, ⟨d1, d2, d3⟩⟩ hp ha hb
  replace hp : PTR ⟨c, n, m, rows⟩ l := hp
  clear ha hb
  all_goals (repeat' (first
    | with_reducible refine iTr ?_
    | with_reducible refine iB ?_
    | intro _
    | exact True.intro
    | (show _ ∧ _
       first
        | refine aTT ?_
        | refine aTB ?_
        | refine aT ?_
        | refine aB ?_
        | refine a11 ?_
        | refine a01 ?_
        | refine a00 ?_
        | refine a10 ?_
        | (with_reducible refine And.intro rfl ?_)
        | refine And.intro ?_ ?_)
    | with_reducible exact rfl
    | with_reducible exact HEq.rfl
    | (show (_ : Option Nat) = _; exact rfl)
    | (show (_ : Option Blk) = _; exact rfl)
    | (with_reducible show (nodupB _ && _ && _ && _ && _) = true; exact (Eq.refl true))
    | (with_reducible show (nodupB _ && _ && _ && _) = true; exact (Eq.refl true))
    | (with_reducible show (nodupB _ && _ && _) = true; exact (Eq.refl true))
    | (with_reducible show freeOk _ _ = true; exact (Eq.refl true))
    | (with_reducible show wrOk _ _ _ _ _ = true; exact (Eq.refl true))
    | (show (_ : AV) = _; exact rfl)
    | (show (_ : Heap) = _; exact rfl)
    | (with_reducible show (_ || !_) = true; exact (Eq.refl true))
    | (with_reducible show Nat.beq _ _ = true; exact (Eq.refl true))))
  all_goals (first | (show (_ : Int) = _) | (show (_ : Bool) = _) | (show HEq _ _) | (show ∃ _ : LInv, _) | skip)
  all_goals (try (with_reducible exact rfl))
  all_goals (try dsimp only at *)
  all_goals (try (with_reducible exact HEq.rfl))
  all_goals (first
    | exact hp.m64
    | exact hp.c64
    | exact hp.ask
    | exact ⟨hp.row⟩
    | exact ⟨hp.n64, hp.row, hp.kn⟩
    | (show PBg _ _; refine ⟨?_, hp.c64, hp.m64⟩; show inB m (askM n rows l.block l.frm).2.1.block = true; rw [askM_block (by assumption)]; exact hp.inb (sk_eq (by assumption) (by assumption)))
    | (show PBg _ _; refine ⟨?_, hp.c64, hp.m64⟩; show inB m (ackM n rows l.block l.seq l.frm).2.1.block = true; rw [ackM_block (by assumption)]; exact hp.inb (sk_eq (by assumption) (by assumption)))
    | (have hi : inB m l.block = true := hp.inb (sk_eq (by assumption) (by assumption)); simp [inB] at hi; omega)
    | exact heq_of_eq (congrArg MO.m (rt_bad1 (h := ⟨c, n, m, rows⟩) (by assumption))).symm
    | exact heq_of_eq (congrArg MO.rows (rt_bad1 (h := ⟨c, n, m, rows⟩) (by assumption))).symm
    | exact heq_of_eq (congrArg MO.out (rt_bad1 (h := ⟨c, n, m, rows⟩) (by assumption))).symm
    | exact heq_of_eq (congrArg MO.m (rt_bad2 (h := ⟨c, n, m, rows⟩) (by assumption))).symm
    | exact heq_of_eq (congrArg MO.rows (rt_bad2 (h := ⟨c, n, m, rows⟩) (by assumption))).symm
    | exact heq_of_eq (congrArg MO.out (rt_bad2 (h := ⟨c, n, m, rows⟩) (by assumption))).symm
    | exact heq_of_eq (congrArg MO.m (rt1t (h := ⟨c, n, m, rows⟩) (sk_eq (by assumption) (by assumption)) (by assumption) (by assumption))).symm
    | exact heq_of_eq (congrArg MO.rows (rt1t (h := ⟨c, n, m, rows⟩) (sk_eq (by assumption) (by assumption)) (by assumption) (by assumption))).symm
    | exact heq_of_eq (congrArg MO.out (rt1t (h := ⟨c, n, m, rows⟩) (sk_eq (by assumption) (by assumption)) (by assumption) (by assumption))).symm
    | exact heq_of_eq (congrArg MO.m (rt1f (h := ⟨c, n, m, rows⟩) (sk_eq (by assumption) (by assumption)) (by assumption) (by assumption))).symm
    | exact heq_of_eq (congrArg MO.rows (rt1f (h := ⟨c, n, m, rows⟩) (sk_eq (by assumption) (by assumption)) (by assumption) (by assumption))).symm
    | exact heq_of_eq (congrArg MO.out (rt1f (h := ⟨c, n, m, rows⟩) (sk_eq (by assumption) (by assumption)) (by assumption) (by assumption))).symm
    | exact heq_of_eq (congrArg MO.m (rt2 (h := ⟨c, n, m, rows⟩) (sk_eq (by assumption) (by assumption)) (by assumption))).symm
    | exact heq_of_eq (congrArg MO.rows (rt2 (h := ⟨c, n, m, rows⟩) (sk_eq (by assumption) (by assumption)) (by assumption))).symm
    | exact heq_of_eq (congrArg MO.out (rt2 (h := ⟨c, n, m, rows⟩) (sk_eq (by assumption) (by assumption)) (by assumption))).symm
    | exact heq_of_eq (congrArg MO.m (rt3t (h := ⟨c, n, m, rows⟩) (sk_eq (by assumption) (by assumption)) (by assumption) (by assumption))).symm
    | exact heq_of_eq (congrArg MO.rows (rt3t (h := ⟨c, n, m, rows⟩) (sk_eq (by assumption) (by assumption)) (by assumption) (by assumption))).symm
    | exact heq_of_eq (congrArg MO.out (rt3t (h := ⟨c, n, m, rows⟩) (sk_eq (by assumption) (by assumption)) (by assumption) (by assumption))).symm
    | exact heq_of_eq (congrArg MO.m (rt3f (h := ⟨c, n, m, rows⟩) (sk_eq (by assumption) (by assumption)) (by assumption) (by assumption))).symm
    | exact heq_of_eq (congrArg MO.rows (rt3f (h := ⟨c, n, m, rows⟩) (sk_eq (by assumption) (by assumption)) (by assumption) (by assumption))).symm
    | exact heq_of_eq (congrArg MO.out (rt3f (h := ⟨c, n, m, rows⟩) (sk_eq (by assumption) (by assumption)) (by assumption) (by assumption))).symm
    | exact heq_of_eq (congrArg MO.m (rt5t (h := ⟨c, n, m, rows⟩) (sk_eq (by assumption) (by assumption)) (by assumption) (by assumption))).symm
    | exact heq_of_eq (congrArg MO.rows (rt5t (h := ⟨c, n, m, rows⟩) (sk_eq (by assumption) (by assumption)) (by assumption) (by assumption))).symm
    | exact heq_of_eq (congrArg MO.out (rt5t (h := ⟨c, n, m, rows⟩) (sk_eq (by assumption) (by assumption)) (by assumption) (by assumption))).symm
    | exact heq_of_eq (congrArg MO.m (rt5f (h := ⟨c, n, m, rows⟩) (sk_eq (by assumption) (by assumption)) (by assumption) (by assumption))).symm
    | exact heq_of_eq (congrArg MO.rows (rt5f (h := ⟨c, n, m, rows⟩) (sk_eq (by assumption) (by assumption)) (by assumption) (by assumption))).symm
    | exact heq_of_eq (congrArg MO.out (rt5f (h := ⟨c, n, m, rows⟩) (sk_eq (by assumption) (by assumption)) (by assumption) (by assumption))).symm
    | exact heq_of_eq (congrArg MO.m (rt7t (h := ⟨c, n, m, rows⟩) (sk_eq (by assumption) (by assumption)) (by assumption) (by assumption))).symm
    | exact heq_of_eq (congrArg MO.rows (rt7t (h := ⟨c, n, m, rows⟩) (sk_eq (by assumption) (by assumption)) (by assumption) (by assumption))).symm
    | exact heq_of_eq (congrArg MO.out (rt7t (h := ⟨c, n, m, rows⟩) (sk_eq (by assumption) (by assumption)) (by assumption) (by assumption))).symm
    | exact heq_of_eq (congrArg MO.m (rt7f (h := ⟨c, n, m, rows⟩) (sk_eq (by assumption) (by assumption)) (by assumption) (by assumption))).symm
    | exact heq_of_eq (congrArg MO.rows (rt7f (h := ⟨c, n, m, rows⟩) (sk_eq (by assumption) (by assumption)) (by assumption) (by assumption))).symm
    | exact heq_of_eq (congrArg MO.out (rt7f (h := ⟨c, n, m, rows⟩) (sk_eq (by assumption) (by assumption)) (by assumption) (by assumption))).symm
    | exact heq_of_eq (congrArg MO.m (rt0 (h := ⟨c, n, m, rows⟩) (sk_eq (by assumption) (by assumption)) (by assumption) (by assumption) (by assumption) (by assumption) (by assumption))).symm
    | exact heq_of_eq (congrArg MO.rows (rt0 (h := ⟨c, n, m, rows⟩) (sk_eq (by assumption) (by assumption)) (by assumption) (by assumption) (by assumption) (by assumption) (by assumption))).symm
    | exact heq_of_eq (congrArg MO.out (rt0 (h := ⟨c, n, m, rows⟩) (sk_eq (by assumption) (by assumption)) (by assumption) (by assumption) (by assumption) (by assumption) (by assumption))).symm
    | exact HEq.rfl
    | skip)
end Go.Proofs.Ytipibgamajhgbaa
