/- The records that stand for the program's plain structs, and the plain functions that the layers compute. -/
import Derived.RowKit
namespace Go.Proofs.Ytpjdicndjakeoaa
open Go.RowKit
set_option linter.unusedVariables false
def okI (n : Int) : Prop := -9223372036854775808 ≤ n ∧ n ≤ 9223372036854775807
theorem okI_of {n : Int} (h : -9223372036854775808 ≤ n ∧ n ≤ 9223372036854775807) : okI n := h
def icell (n : Int) : List Value := [.int .i64 n]
structure Bun where
  c : Int
  o : Bool
  h : Bool
  d : Int
  deriving DecidableEq
def okBun (r : Bun) : Prop := okI r.c ∧ okI r.d
def Bun.cs (r : Bun) : List Value := [.int .i64 r.c, .bool r.o, .bool r.h, .int .i64 r.d]
structure Opr where
  b : Int
  w : Bool
  v : Int
  deriving DecidableEq
def okOpr (r : Opr) : Prop := okI r.b ∧ okI r.v
def Opr.cs (r : Opr) : List Value := [.int .i64 r.b, .bool r.w, .int .i64 r.v]
structure Cfg where
  nodes : Int
  blocks : Int
  tokens : Int
  sets : Int
  ways : Int
  cap : Int
  wait : Int
  tries : Int
  policy : Int
  deriving DecidableEq
def okCfg (r : Cfg) : Prop := okI r.nodes ∧ okI r.blocks ∧ okI r.tokens ∧ okI r.sets ∧ okI r.ways ∧ okI r.cap ∧ okI r.wait ∧ okI r.tries ∧ okI r.policy
def Cfg.cs (r : Cfg) : List Value := [.int .i64 r.nodes, .int .i64 r.blocks, .int .i64 r.tokens, .int .i64 r.sets, .int .i64 r.ways, .int .i64 r.cap, .int .i64 r.wait, .int .i64 r.tries, .int .i64 r.policy]
structure Ltr where
  kind : Int
  frm : Int
  to : Int
  block : Int
  seq : Int
  who : Int
  wr : Bool
  tok : Bun
  deriving DecidableEq
def okLtr (r : Ltr) : Prop := okI r.kind ∧ okI r.frm ∧ okI r.to ∧ okI r.block ∧ okI r.seq ∧ okI r.who ∧ okBun r.tok
def Ltr.cs (r : Ltr) : List Value := [.int .i64 r.kind, .int .i64 r.frm, .int .i64 r.to, .int .i64 r.block, .int .i64 r.seq, .int .i64 r.who, .bool r.wr, .int .i64 r.tok.c, .bool r.tok.o, .bool r.tok.h, .int .i64 r.tok.d]
structure Ent where
  kind : Int
  a : Int
  b : Int
  c : Int
  d : Int
  deriving DecidableEq
def okEnt (r : Ent) : Prop := okI r.kind ∧ okI r.a ∧ okI r.b ∧ okI r.c ∧ okI r.d
def Ent.cs (r : Ent) : List Value := [.int .i64 r.kind, .int .i64 r.a, .int .i64 r.b, .int .i64 r.c, .int .i64 r.d]
structure Don where
  node : Int
  num : Int
  op : Opr
  val : Int
  step : Int
  deriving DecidableEq
def okDon (r : Don) : Prop := okI r.node ∧ okI r.num ∧ okOpr r.op ∧ okI r.val ∧ okI r.step
def Don.cs (r : Don) : List Value := [.int .i64 r.node, .int .i64 r.num, .int .i64 r.op.b, .bool r.op.w, .int .i64 r.op.v, .int .i64 r.val, .int .i64 r.step]
structure Atv where
  block : Int
  node : Int
  seq : Int
  deriving DecidableEq
def okAtv (r : Atv) : Prop := okI r.block ∧ okI r.node ∧ okI r.seq
def Atv.cs (r : Atv) : List Value := [.int .i64 r.block, .int .i64 r.node, .int .i64 r.seq]
structure Lin where
  block : Int
  tok : Bun
  deriving DecidableEq
def okLin (r : Lin) : Prop := okI r.block ∧ okBun r.tok
def Lin.cs (r : Lin) : List Value := [.int .i64 r.block, .int .i64 r.tok.c, .bool r.tok.o, .bool r.tok.h, .int .i64 r.tok.d]
structure B2 where
  a : Bool
  b : Bool
  deriving DecidableEq
def okB2 (r : B2) : Prop := True
def B2.cs (r : B2) : List Value := [.bool r.a, .bool r.b]
structure I2 where
  a : Int
  b : Int
  deriving DecidableEq
def okI2 (r : I2) : Prop := okI r.a ∧ okI r.b
def I2.cs (r : I2) : List Value := [.int .i64 r.a, .int .i64 r.b]
structure I3 where
  a : Int
  b : Int
  c : Int
  deriving DecidableEq
def okI3 (r : I3) : Prop := okI r.a ∧ okI r.b ∧ okI r.c
def I3.cs (r : I3) : List Value := [.int .i64 r.a, .int .i64 r.b, .int .i64 r.c]
structure I4 where
  a : Int
  b : Int
  c : Int
  d : Int
  deriving DecidableEq
def okI4 (r : I4) : Prop := okI r.a ∧ okI r.b ∧ okI r.c ∧ okI r.d
def I4.cs (r : I4) : List Value := [.int .i64 r.a, .int .i64 r.b, .int .i64 r.c, .int .i64 r.d]
structure I32 where
  a : I3
  b : I3
  deriving DecidableEq
def okI32 (r : I32) : Prop := okI3 r.a ∧ okI3 r.b
def I32.cs (r : I32) : List Value := [.int .i64 r.a.a, .int .i64 r.a.b, .int .i64 r.a.c, .int .i64 r.b.a, .int .i64 r.b.b, .int .i64 r.b.c]
structure Act10 where
  kind : Int
  block : Int
  count : Int
  owner : Bool
  data : Bool
  tok : Bun
  deriving DecidableEq
def okAct10 (r : Act10) : Prop := okI r.kind ∧ okI r.block ∧ okI r.count ∧ okBun r.tok
def Act10.cs (r : Act10) : List Value := [.int .i64 r.kind, .int .i64 r.block, .int .i64 r.count, .bool r.owner, .bool r.data, .int .i64 r.tok.c, .bool r.tok.o, .bool r.tok.h, .int .i64 r.tok.d]
structure Act12 where
  kind : Int
  block : Int
  seq : Int
  node : Int
  deriving DecidableEq
def okAct12 (r : Act12) : Prop := okI r.kind ∧ okI r.block ∧ okI r.seq ∧ okI r.node
def Act12.cs (r : Act12) : List Value := [.int .i64 r.kind, .int .i64 r.block, .int .i64 r.seq, .int .i64 r.node]
structure Act11 where
  kind : Int
  a : Atv
  deriving DecidableEq
def okAct11 (r : Act11) : Prop := okI r.kind ∧ okAtv r.a
def Act11.cs (r : Act11) : List Value := [.int .i64 r.kind, .int .i64 r.a.block, .int .i64 r.a.node, .int .i64 r.a.seq]
structure Act16 where
  l : Ltr
  d : I3
  copy : Bool
  deriving DecidableEq
def okAct16 (r : Act16) : Prop := okLtr r.l ∧ okI3 r.d
def Act16.cs (r : Act16) : List Value := [.int .i64 r.l.kind, .int .i64 r.l.frm, .int .i64 r.l.to, .int .i64 r.l.block, .int .i64 r.l.seq, .int .i64 r.l.who, .bool r.l.wr, .int .i64 r.l.tok.c, .bool r.l.tok.o, .bool r.l.tok.h, .int .i64 r.l.tok.d, .int .i64 r.d.a, .int .i64 r.d.b, .int .i64 r.d.c, .bool r.copy]

/-! ### layer 1 -/
def clamp (n lo hi : Int) : Int := max (min n hi) lo
/-! ### layer 2 -/
def bun0 : Bun := ⟨0, false, false, 0⟩
def valued (c : Int) (o h : Bool) (d : Int) : Bun := ⟨c, o, h, if h then d else 0⟩
def splitW (h : Bun) (n0 : Int) (owner data : Bool) : Bun × Bun :=
  let own := owner && h.o && decide (0 < n0)
  let n := if h.o && !own then min n0 (wrap64 (h.c - 1)) else n0
  if n < 1 then (bun0, h) else
    (valued n own (h.h && (data || own)) h.d, if n < h.c then valued (wrap64 (h.c - n)) (h.o && !own) h.h h.d else bun0)
def split (h : Bun) (count : Int) (owner data : Bool) : Bun × Bun := splitW h (clamp count 0 (max h.c 0)) owner data
def join (h b : Bun) : Bun := valued (wrap64 (h.c + b.c)) (h.o || b.o) (h.h || b.h) (if b.h then b.d else h.d)
def bcheck (b : Bun) (t : Int) : Int :=
  if b.c < 0 ∨ t < b.c then 4 else if b.c = 0 ∧ (b.o = true ∨ b.h = true) then 5 else if (b.o = true ∧ b.h = false) ∨ (b.h = false ∧ b.d ≠ 0) then 6 else 0
def full (t d : Int) : Bun := if t < 1 then bun0 else ⟨t, true, true, d⟩
def rsplitN (h : Bun) (count : Int) (owner : Bool) : Int × Bool :=
  let n0 := if count < 0 then 0 else count
  let n := if h.c < n0 then h.c else n0
  if h.o = false then (n, false) else if owner = true ∧ 0 < n then (n, true) else if n = h.c then (wrap64 (n - 1), false) else (n, false)
def rsplit (h : Bun) (count : Int) (owner data : Bool) : Bun × Bun :=
  let n := (rsplitN h count owner).1
  let own := (rsplitN h count owner).2
  if h.c = 0 ∨ n ≤ 0 then (bun0, h) else
    (⟨n, own, h.h && (data || own), if h.h && (data || own) then h.d else 0⟩, if n = h.c then bun0 else ⟨wrap64 (h.c - n), h.o && !own, h.h, h.d⟩)
def rjoin (h b : Bun) : Bun := ⟨wrap64 (h.c + b.c), h.o || b.o, h.h || b.h, if b.h then b.d else h.d⟩
/-! ### layer 3 -/
def reads (b : Bun) : Bool := decide (1 ≤ b.c) && b.h
def writes (b : Bun) (t : Int) : Bool := reads b && decide (b.c = t)
def pdo (op : Opr) (b : Bun) (t : Int) : Bun × Int × Bool :=
  if op.w && writes b t then (⟨b.c, b.o, b.h, op.v⟩, op.v, true) else if !op.w && reads b then (b, b.d, true) else (b, 0, false)
theorem pdo_keeps (op : Opr) (b : Bun) (t : Int) : (pdo op b t).1.c = b.c ∧ (pdo op b t).1.o = b.o ∧ (pdo op b t).1.h = b.h ∧ (op.w = false → (pdo op b t).1.d = b.d) := by
  unfold pdo
  split
  · rename_i h
    simp at h
    simp [h]
  · split <;> simp
theorem pdo_idem (op : Opr) (b : Bun) (t : Int) : pdo op (pdo op b t).1 t = pdo op b t := by
  obtain ⟨ob, ow, ov⟩ := op
  obtain ⟨c, o, h, d⟩ := b
  rcases Classical.em (c = t) with rfl | h2 <;> by_cases h1 : 1 ≤ c <;> cases ow <;> cases h <;> simp [pdo, writes, reads, *]
def rmay (write : Bool) (h : Bun) (t : Int) : Bool := if write then writes h t else reads h
end Go.Proofs.Ytpjdicndjakeoaa
