/- The engine's abstract values: trees of numbers and lists; memory by numbered blocks. No condition. -/
import Derived.Test.YtpjdicndjakeoaaD
import Derived.Test.YtpjdicndjakeoaaK
import Derived.Test.YtpjdicndjakeoaaG
import Derived.Laws.AppendOwn
import Derived.Laws.OwnMore
import Derived.Laws.StructEq
import Derived.DeepKeys
namespace Go.Proofs.Ytpjdicndjakeoaa
open Go.RowKit
set_option linter.unusedVariables false
set_option linter.unusedSimpArgs false
structure Row12 where
  seq : Int
  act : Atv
  on : Bool
  ending : Bool
  knows : List Bool
  queue : List Int
  deriving DecidableEq
structure RRow12 where
  asked : List Int
  begun : Int
  phase : Int
  knows : List Int
  deriving DecidableEq
/-- The kinds of elements. -/
inductive Ty where
  | int | bool | str | bun | opr | cfg | ltr | ent | don | atv | lin | act10 | act12 | act11 | act16 | row12 | rRow12
  | sl (t : Ty)
  deriving DecidableEq
@[reducible] def Ty.den : Ty → Type
  | .int => Int
  | .bool => Bool
  | .str => ByteArray
  | .bun => Bun
  | .opr => Opr
  | .cfg => Cfg
  | .ltr => Ltr
  | .ent => Ent
  | .don => Don
  | .atv => Atv
  | .lin => Lin
  | .act10 => Act10
  | .act12 => Act12
  | .act11 => Act11
  | .act16 => Act16
  | .row12 => Row12
  | .rRow12 => RRow12
  | .sl t => List t.den
def Ty.sz : Ty → Nat
  | .int => 1
  | .bool => 1
  | .str => 1
  | .bun => 4
  | .opr => 3
  | .cfg => 9
  | .ltr => 11
  | .ent => 5
  | .don => 7
  | .atv => 3
  | .lin => 5
  | .act10 => 9
  | .act12 => 4
  | .act11 => 4
  | .act16 => 15
  | .row12 => 71
  | .rRow12 => 4
  | .sl _ => 1
def Ty.dflt : (t : Ty) → t.den
  | .int => (0 : Int)
  | .bool => false
  | .str => ByteArray.empty
  | .bun => (⟨0, false, false, 0⟩ : Bun)
  | .opr => (⟨0, false, 0⟩ : Opr)
  | .cfg => (⟨0, 0, 0, 0, 0, 0, 0, 0, 0⟩ : Cfg)
  | .ltr => (⟨0, 0, 0, 0, 0, 0, false, ⟨0, false, false, 0⟩⟩ : Ltr)
  | .ent => (⟨0, 0, 0, 0, 0⟩ : Ent)
  | .don => (⟨0, 0, ⟨0, false, 0⟩, 0, 0⟩ : Don)
  | .atv => (⟨0, 0, 0⟩ : Atv)
  | .lin => (⟨0, ⟨0, false, false, 0⟩⟩ : Lin)
  | .act10 => (⟨0, 0, 0, false, false, ⟨0, false, false, 0⟩⟩ : Act10)
  | .act12 => (⟨0, 0, 0, 0⟩ : Act12)
  | .act11 => (⟨0, ⟨0, 0, 0⟩⟩ : Act11)
  | .act16 => (⟨⟨0, 0, 0, 0, 0, 0, false, ⟨0, false, false, 0⟩⟩, ⟨0, 0, 0⟩, false⟩ : Act16)
  | .row12 => (⟨0, ⟨0, 0, 0⟩, false, false, [], []⟩ : Row12)
  | .rRow12 => (⟨[], 0, 0, []⟩ : RRow12)
  | .sl t => ([] : List t.den)
/-- A place in a block: the element's number, an element's cells, the cell in it; perhaps a number in an array there, and its elements' cells. -/
structure Path where
  i : Nat
  s : Nat
  k : Nat
  j : Option (Nat × Nat)
def Path.jn (p : Path) : Nat := match p.j with | none => 0 | some (j, s) => j * s
def Path.inn (p : Path) : Nat := p.k + p.jn
def Path.off (p : Path) : Nat := p.i * p.s + p.inn
inductive HK where
  | mp
  | itr (g : Nat)
  | osl (n : Nat)
  | tl (lo sz : Nat)
  deriving DecidableEq
inductive AV where
  | undef
  | int (k : IntKind) (n : Int)
  | bool (b : Bool)
  | str (s : ByteArray)
  | nilp
  | ptr (id : Nat) (p : Path)
  | nils
  | nilm
  | slc (id : Nat)
  | hdl (k : HK) (id : Nat)
  | vsl (t : Ty) (xs : List t.den)
  | arr (n : Nat) (t : Ty) (xs : List t.den)
  | fn (f : Nat)
  | vptr (t : Ty) (x : t.den) (k : Nat)
  | agg (cs : List AV)
  | tup (vs : List AV)
def AV.lsz : AV → Nat
  | .arr n t _ => n * t.sz
  | _ => 1
def enc : (t : Ty) → t.den → List AV
  | .int, n => [.int .i64 n]
  | .bool, b => [.bool b]
  | .str, s => [.str s]
  | .bun, (x : Bun) => [.int .i64 x.c, .bool x.o, .bool x.h, .int .i64 x.d]
  | .opr, (x : Opr) => [.int .i64 x.b, .bool x.w, .int .i64 x.v]
  | .cfg, (x : Cfg) => [.int .i64 x.nodes, .int .i64 x.blocks, .int .i64 x.tokens, .int .i64 x.sets, .int .i64 x.ways, .int .i64 x.cap, .int .i64 x.wait, .int .i64 x.tries, .int .i64 x.policy]
  | .ltr, (x : Ltr) => [.int .i64 x.kind, .int .i64 x.frm, .int .i64 x.to, .int .i64 x.block, .int .i64 x.seq, .int .i64 x.who, .bool x.wr, .int .i64 x.tok.c, .bool x.tok.o, .bool x.tok.h, .int .i64 x.tok.d]
  | .ent, (x : Ent) => [.int .i64 x.kind, .int .i64 x.a, .int .i64 x.b, .int .i64 x.c, .int .i64 x.d]
  | .don, (x : Don) => [.int .i64 x.node, .int .i64 x.num, .int .i64 x.op.b, .bool x.op.w, .int .i64 x.op.v, .int .i64 x.val, .int .i64 x.step]
  | .atv, (x : Atv) => [.int .i64 x.block, .int .i64 x.node, .int .i64 x.seq]
  | .lin, (x : Lin) => [.int .i64 x.block, .int .i64 x.tok.c, .bool x.tok.o, .bool x.tok.h, .int .i64 x.tok.d]
  | .act10, (x : Act10) => [.int .i64 x.kind, .int .i64 x.block, .int .i64 x.count, .bool x.owner, .bool x.data, .int .i64 x.tok.c, .bool x.tok.o, .bool x.tok.h, .int .i64 x.tok.d]
  | .act12, (x : Act12) => [.int .i64 x.kind, .int .i64 x.block, .int .i64 x.seq, .int .i64 x.node]
  | .act11, (x : Act11) => [.int .i64 x.kind, .int .i64 x.a.block, .int .i64 x.a.node, .int .i64 x.a.seq]
  | .act16, (x : Act16) => [.int .i64 x.l.kind, .int .i64 x.l.frm, .int .i64 x.l.to, .int .i64 x.l.block, .int .i64 x.l.seq, .int .i64 x.l.who, .bool x.l.wr, .int .i64 x.l.tok.c, .bool x.l.tok.o, .bool x.l.tok.h, .int .i64 x.l.tok.d, .arr 3 .int [x.d.a, x.d.b, x.d.c], .bool x.copy]
  | .row12, (x : Row12) => [.int .i64 x.seq, .int .i64 x.act.block, .int .i64 x.act.node, .int .i64 x.act.seq, .bool x.on, .bool x.ending, .arr 64 .bool x.knows, .vsl .int x.queue]
  | .rRow12, (x : RRow12) => [.vsl .int x.asked, .int .i64 x.begun, .int .i64 x.phase, .vsl .int x.knows]
  | .sl t, xs => [.vsl t xs]
def asSl (t : Ty) : AV → Option (List t.den)
  | .vsl u xs => if h : u = t then some (h ▸ xs) else none
  | .nils => some []
  | _ => none
def asArr (n : Nat) (t : Ty) : AV → Option (List t.den)
  | .arr m u xs => if h : u = t then (if m = n then some (h ▸ xs) else none) else none
  | _ => none
def dec : (t : Ty) → List AV → Option t.den
  | .int, [.int .i64 n] => some n
  | .bool, [.bool b] => some b
  | .str, [.str s] => some s
  | .bun, [.int .i64 a0, .bool a1, .bool a2, .int .i64 a3] => some (⟨a0, a1, a2, a3⟩ : Bun)
  | .opr, [.int .i64 a0, .bool a1, .int .i64 a2] => some (⟨a0, a1, a2⟩ : Opr)
  | .cfg, [.int .i64 a0, .int .i64 a1, .int .i64 a2, .int .i64 a3, .int .i64 a4, .int .i64 a5, .int .i64 a6, .int .i64 a7, .int .i64 a8] => some (⟨a0, a1, a2, a3, a4, a5, a6, a7, a8⟩ : Cfg)
  | .ltr, [.int .i64 a0, .int .i64 a1, .int .i64 a2, .int .i64 a3, .int .i64 a4, .int .i64 a5, .bool a6, .int .i64 a70, .bool a71, .bool a72, .int .i64 a73] => some (⟨a0, a1, a2, a3, a4, a5, a6, ⟨a70, a71, a72, a73⟩⟩ : Ltr)
  | .ent, [.int .i64 a0, .int .i64 a1, .int .i64 a2, .int .i64 a3, .int .i64 a4] => some (⟨a0, a1, a2, a3, a4⟩ : Ent)
  | .don, [.int .i64 a0, .int .i64 a1, .int .i64 a20, .bool a21, .int .i64 a22, .int .i64 a3, .int .i64 a4] => some (⟨a0, a1, ⟨a20, a21, a22⟩, a3, a4⟩ : Don)
  | .atv, [.int .i64 a0, .int .i64 a1, .int .i64 a2] => some (⟨a0, a1, a2⟩ : Atv)
  | .lin, [.int .i64 a0, .int .i64 a10, .bool a11, .bool a12, .int .i64 a13] => some (⟨a0, ⟨a10, a11, a12, a13⟩⟩ : Lin)
  | .act10, [.int .i64 a0, .int .i64 a1, .int .i64 a2, .bool a3, .bool a4, .int .i64 a50, .bool a51, .bool a52, .int .i64 a53] => some (⟨a0, a1, a2, a3, a4, ⟨a50, a51, a52, a53⟩⟩ : Act10)
  | .act12, [.int .i64 a0, .int .i64 a1, .int .i64 a2, .int .i64 a3] => some (⟨a0, a1, a2, a3⟩ : Act12)
  | .act11, [.int .i64 a0, .int .i64 a10, .int .i64 a11, .int .i64 a12] => some (⟨a0, ⟨a10, a11, a12⟩⟩ : Act11)
  | .row12, [.int .i64 a0, .int .i64 a10, .int .i64 a11, .int .i64 a12, .bool a2, .bool a3, a4, a5] => (asArr 64 .bool a4).bind fun a4 => (asSl .int a5).bind fun a5 => some (⟨a0, ⟨a10, a11, a12⟩, a2, a3, a4, a5⟩ : Row12)
  | .rRow12, [a0, .int .i64 a1, .int .i64 a2, a3] => (asSl .int a0).bind fun a0 => (asSl .int a3).bind fun a3 => some (⟨a0, a1, a2, a3⟩ : RRow12)
  | .sl t, [a] => asSl t a
  | _, _ => none
end Go.Proofs.Ytpjdicndjakeoaa
