/- The engine's abstract values: trees of numbers and lists; memory by numbered blocks. No condition. -/
import Derived.Test.YtpkidbhpfohopaaDoorGA
import Derived.Laws.AppendOwn
import Derived.Laws.OwnMore
import Derived.Laws.StructEq
import Derived.DeepKeys
import Derived.Maps.RangeWalk
import Derived.Lib.ItoaNum
import Derived.Laws.CopyRow
import Derived.Laws.MakeOwn
import Derived.Conc.MuLone
noncomputable section
namespace Go.Proofs.YtpkidbhpfohopaaDoor
open Go.RowKit
set_option linter.unusedVariables false
set_option linter.unusedSimpArgs false
structure Row12 where
  seq : Int
  act : Atv
  on : Bool
  ending : Bool
  knows : List Bool
  queue : List Int
  deriving DecidableEq
structure RRow12 where
  asked : List Int
  begun : Int
  phase : Int
  knows : List Int
  deriving DecidableEq
/-- The kinds of elements. -/
inductive Ty where
  | int | bool | str | u8 | bun | opr | cfg | ltr | ent | don | atv | lin | act10 | act12 | act11 | act16 | row12 | rRow12
  | sl (t : Ty)
  deriving DecidableEq
@[reducible] def Ty.den : Ty → Type
  | .int => Int
  | .bool => Bool
  | .str => ByteArray
  | .u8 => Int
  | .bun => Bun
  | .opr => Opr
  | .cfg => Cfg
  | .ltr => Ltr
  | .ent => Ent
  | .don => Don
  | .atv => Atv
  | .lin => Lin
  | .act10 => Act10
  | .act12 => Act12
  | .act11 => Act11
  | .act16 => Act16
  | .row12 => Row12
  | .rRow12 => RRow12
  | .sl t => List t.den
def Ty.sz : Ty → Nat
  | .int => 1
  | .bool => 1
  | .str => 1
  | .u8 => 1
  | .bun => 4
  | .opr => 3
  | .cfg => 9
  | .ltr => 11
  | .ent => 5
  | .don => 7
  | .atv => 3
  | .lin => 5
  | .act10 => 9
  | .act12 => 4
  | .act11 => 4
  | .act16 => 15
  | .row12 => 71
  | .rRow12 => 4
  | .sl _ => 1
def Ty.dflt : (t : Ty) → t.den
  | .int => (0 : Int)
  | .bool => false
  | .str => ByteArray.empty
  | .u8 => (0 : Int)
  | .bun => (⟨0, false, false, 0⟩ : Bun)
  | .opr => (⟨0, false, 0⟩ : Opr)
  | .cfg => (⟨0, 0, 0, 0, 0, 0, 0, 0, 0⟩ : Cfg)
  | .ltr => (⟨0, 0, 0, 0, 0, 0, false, ⟨0, false, false, 0⟩⟩ : Ltr)
  | .ent => (⟨0, 0, 0, 0, 0⟩ : Ent)
  | .don => (⟨0, 0, ⟨0, false, 0⟩, 0, 0⟩ : Don)
  | .atv => (⟨0, 0, 0⟩ : Atv)
  | .lin => (⟨0, ⟨0, false, false, 0⟩⟩ : Lin)
  | .act10 => (⟨0, 0, 0, false, false, ⟨0, false, false, 0⟩⟩ : Act10)
  | .act12 => (⟨0, 0, 0, 0⟩ : Act12)
  | .act11 => (⟨0, ⟨0, 0, 0⟩⟩ : Act11)
  | .act16 => (⟨⟨0, 0, 0, 0, 0, 0, false, ⟨0, false, false, 0⟩⟩, ⟨0, 0, 0⟩, false⟩ : Act16)
  | .row12 => (⟨0, ⟨0, 0, 0⟩, false, false, [], []⟩ : Row12)
  | .rRow12 => (⟨[], 0, 0, []⟩ : RRow12)
  | .sl t => ([] : List t.den)
/-- A place in a block: the element's number, an element's cells, the cell in it; perhaps a number in an array there, and its elements' cells. -/
structure Path where
  i : Nat
  s : Nat
  k : Nat
  j : Option (Nat × Nat)
def Path.jn (p : Path) : Nat := match p.j with | none => 0 | some (j, s) => j * s
def Path.inn (p : Path) : Nat := p.k + p.jn
def Path.off (p : Path) : Nat := p.i * p.s + p.inn
inductive HK where
  | mp
  | itr (g : Nat)
  | osl (n : Nat)
  | tl (lo sz : Nat)
  deriving DecidableEq
inductive AV where
  | undef
  | int (k : IntKind) (n : Int)
  | bool (b : Bool)
  | str (s : ByteArray)
  | nilp
  | ptr (id : Nat) (p : Path)
  | nils
  | nilm
  | ifz
  | ifn
  | slc (id : Nat)
  | hdl (k : HK) (id : Nat)
  | vsl (t : Ty) (xs : List t.den)
  | arr (n : Nat) (t : Ty) (xs : List t.den)
  | fn (f : Nat)
  | vptr (t : Ty) (x : t.den) (k : Nat)
  | agg (cs : List AV)
  | tup (vs : List AV)
def AV.lsz : AV → Nat
  | .arr n t _ => n * t.sz
  | _ => 1
def enc : (t : Ty) → t.den → List AV
  | .int, n => [.int .i64 n]
  | .bool, b => [.bool b]
  | .str, s => [.str s]
  | .u8, n => [.int .u8 n]
  | .bun, (x : Bun) => [.int .i64 x.c, .bool x.o, .bool x.h, .int .i64 x.d]
  | .opr, (x : Opr) => [.int .i64 x.b, .bool x.w, .int .i64 x.v]
  | .cfg, (x : Cfg) => [.int .i64 x.nodes, .int .i64 x.blocks, .int .i64 x.tokens, .int .i64 x.sets, .int .i64 x.ways, .int .i64 x.cap, .int .i64 x.wait, .int .i64 x.tries, .int .i64 x.policy]
  | .ltr, (x : Ltr) => [.int .i64 x.kind, .int .i64 x.frm, .int .i64 x.to, .int .i64 x.block, .int .i64 x.seq, .int .i64 x.who, .bool x.wr, .int .i64 x.tok.c, .bool x.tok.o, .bool x.tok.h, .int .i64 x.tok.d]
  | .ent, (x : Ent) => [.int .i64 x.kind, .int .i64 x.a, .int .i64 x.b, .int .i64 x.c, .int .i64 x.d]
  | .don, (x : Don) => [.int .i64 x.node, .int .i64 x.num, .int .i64 x.op.b, .bool x.op.w, .int .i64 x.op.v, .int .i64 x.val, .int .i64 x.step]
  | .atv, (x : Atv) => [.int .i64 x.block, .int .i64 x.node, .int .i64 x.seq]
  | .lin, (x : Lin) => [.int .i64 x.block, .int .i64 x.tok.c, .bool x.tok.o, .bool x.tok.h, .int .i64 x.tok.d]
  | .act10, (x : Act10) => [.int .i64 x.kind, .int .i64 x.block, .int .i64 x.count, .bool x.owner, .bool x.data, .int .i64 x.tok.c, .bool x.tok.o, .bool x.tok.h, .int .i64 x.tok.d]
  | .act12, (x : Act12) => [.int .i64 x.kind, .int .i64 x.block, .int .i64 x.seq, .int .i64 x.node]
  | .act11, (x : Act11) => [.int .i64 x.kind, .int .i64 x.a.block, .int .i64 x.a.node, .int .i64 x.a.seq]
  | .act16, (x : Act16) => [.int .i64 x.l.kind, .int .i64 x.l.frm, .int .i64 x.l.to, .int .i64 x.l.block, .int .i64 x.l.seq, .int .i64 x.l.who, .bool x.l.wr, .int .i64 x.l.tok.c, .bool x.l.tok.o, .bool x.l.tok.h, .int .i64 x.l.tok.d, .arr 3 .int [x.d.a, x.d.b, x.d.c], .bool x.copy]
  | .row12, (x : Row12) => [.int .i64 x.seq, .int .i64 x.act.block, .int .i64 x.act.node, .int .i64 x.act.seq, .bool x.on, .bool x.ending, .arr 64 .bool x.knows, .vsl .int x.queue]
  | .rRow12, (x : RRow12) => [.vsl .int x.asked, .int .i64 x.begun, .int .i64 x.phase, .vsl .int x.knows]
  | .sl t, xs => [.vsl t xs]
def asSl (t : Ty) : AV → Option (List t.den)
  | .vsl u xs => if h : u = t then some (h ▸ xs) else none
  | .nils => some []
  | _ => none
def asArr (n : Nat) (t : Ty) : AV → Option (List t.den)
  | .arr m u xs => if h : u = t then (if m = n then some (h ▸ xs) else none) else none
  | _ => none
def dec : (t : Ty) → List AV → Option t.den
  | .int, [.int .i64 n] => some n
  | .bool, [.bool b] => some b
  | .str, [.str s] => some s
  | .u8, [.int .u8 n] => some n
  | .bun, [.int .i64 a0, .bool a1, .bool a2, .int .i64 a3] => some (⟨a0, a1, a2, a3⟩ : Bun)
  | .opr, [.int .i64 a0, .bool a1, .int .i64 a2] => some (⟨a0, a1, a2⟩ : Opr)
  | .cfg, [.int .i64 a0, .int .i64 a1, .int .i64 a2, .int .i64 a3, .int .i64 a4, .int .i64 a5, .int .i64 a6, .int .i64 a7, .int .i64 a8] => some (⟨a0, a1, a2, a3, a4, a5, a6, a7, a8⟩ : Cfg)
  | .ltr, [.int .i64 a0, .int .i64 a1, .int .i64 a2, .int .i64 a3, .int .i64 a4, .int .i64 a5, .bool a6, .int .i64 a70, .bool a71, .bool a72, .int .i64 a73] => some (⟨a0, a1, a2, a3, a4, a5, a6, ⟨a70, a71, a72, a73⟩⟩ : Ltr)
  | .ent, [.int .i64 a0, .int .i64 a1, .int .i64 a2, .int .i64 a3, .int .i64 a4] => some (⟨a0, a1, a2, a3, a4⟩ : Ent)
  | .don, [.int .i64 a0, .int .i64 a1, .int .i64 a20, .bool a21, .int .i64 a22, .int .i64 a3, .int .i64 a4] => some (⟨a0, a1, ⟨a20, a21, a22⟩, a3, a4⟩ : Don)
  | .atv, [.int .i64 a0, .int .i64 a1, .int .i64 a2] => some (⟨a0, a1, a2⟩ : Atv)
  | .lin, [.int .i64 a0, .int .i64 a10, .bool a11, .bool a12, .int .i64 a13] => some (⟨a0, ⟨a10, a11, a12, a13⟩⟩ : Lin)
  | .act10, [.int .i64 a0, .int .i64 a1, .int .i64 a2, .bool a3, .bool a4, .int .i64 a50, .bool a51, .bool a52, .int .i64 a53] => some (⟨a0, a1, a2, a3, a4, ⟨a50, a51, a52, a53⟩⟩ : Act10)
  | .act12, [.int .i64 a0, .int .i64 a1, .int .i64 a2, .int .i64 a3] => some (⟨a0, a1, a2, a3⟩ : Act12)
  | .act11, [.int .i64 a0, .int .i64 a10, .int .i64 a11, .int .i64 a12] => some (⟨a0, ⟨a10, a11, a12⟩⟩ : Act11)
  | .row12, [.int .i64 a0, .int .i64 a10, .int .i64 a11, .int .i64 a12, .bool a2, .bool a3, a4, a5] => (asArr 64 .bool a4).bind fun a4 => (asSl .int a5).bind fun a5 => some (⟨a0, ⟨a10, a11, a12⟩, a2, a3, a4, a5⟩ : Row12)
  | .rRow12, [a0, .int .i64 a1, .int .i64 a2, a3] => (asSl .int a0).bind fun a0 => (asSl .int a3).bind fun a3 => some (⟨a0, a1, a2, a3⟩ : RRow12)
  | .sl t, [a] => asSl t a
  | _, _ => none
end Go.Proofs.YtpkidbhpfohopaaDoor

noncomputable section
namespace Go.Proofs.YtpkidbhpfohopaaDoor
open Go.RowKit
set_option linter.unusedVariables false
set_option linter.unusedSimpArgs false
/-- Where a numbered block lies. -/
structure RS where
  blk : Nat
  len : Nat
  cap : Nat
  nil : Bool
def RS.sl (r : RS) : Value := if r.nil then .slice none 0 0 else .slice (some ⟨r.blk, 0, none⟩) r.len r.cap
/-- A handle at a block: a map, an iterator over what lies there, a slice of it all, the part of a slice from a number on. -/
def HK.val : HK → RS → Value
  | .mp, r => .map (some r.blk)
  | .itr g, r => .func (.func g) #[] #[.pointer (some ⟨r.blk, 0, none⟩)]
  | .osl n, r => .slice (some ⟨r.blk, 0, none⟩) n n
  | .tl lo sz, r => .slice (if r.nil then none else some ⟨r.blk, if r.cap = lo then 0 else lo * sz, none⟩) ((if r.nil then 0 else r.len) - lo) ((if r.nil then 0 else r.cap) - lo)
structure Cx where
  φ : Nat → RS
  n : Nat
  mt : Nat → Prop
  wr : Nat → Prop
  sub : ∀ b, wr b → mt b
  w : World
inductive Reps (C : Cx) : List AV → List Value → Prop
  | nil : Reps C [] []
  | int {k n as vs} : k.min ≤ n → n ≤ k.max → Reps C as vs → Reps C (.int k n :: as) (.int k n :: vs)
  | bool {b as vs} : Reps C as vs → Reps C (.bool b :: as) (.bool b :: vs)
  | str {s as vs} : s.size ≤ maxLen → Reps C as vs → Reps C (.str s :: as) (.string s :: vs)
  | nilp {as vs} : Reps C as vs → Reps C (.nilp :: as) (.pointer none :: vs)
  | ptr {id p as vs} : id < C.n → Reps C as vs → Reps C (.ptr id p :: as) (.pointer (some ⟨(C.φ id).blk, p.off, none⟩) :: vs)
  | nils {as vs} : Reps C as vs → Reps C (.nils :: as) (.slice none 0 0 :: vs)
  | nilm {as vs} : Reps C as vs → Reps C (.nilm :: as) (.map none :: vs)
  | ifz {as vs} : Reps C as vs → Reps C (.ifz :: as) (.nilIface :: vs)
  | ifn {t v as vs} : Reps C as vs → Reps C (.ifn :: as) (.iface t v :: vs)
  | hdl {k id as vs} : id < C.n → Reps C as vs → Reps C (.hdl k id :: as) (k.val (C.φ id) :: vs)
  | slc {id as vs} : id < C.n → Reps C as vs → Reps C (.slc id :: as) ((C.φ id).sl :: vs)
  | vsl {t xs A c as vs} (ws : Nat → List Value) : xs.length ≤ c → (c ≤ maxLen ∧ (A = none → c = 0)) →
      (0 < xs.length → ∃ b off, A = some ⟨b, off, none⟩ ∧ ¬ C.mt b ∧ b < C.w.heap.size ∧ ∀ i, i < xs.length → ∀ j v, (ws i)[j]? = some v → C.w.cell? ⟨b, off + i * t.sz + j, none⟩ = some v) →
      (∀ i (x : t.den), xs[i]? = some x → Reps C (enc t x) (ws i)) → Reps C as vs → Reps C (.vsl t xs :: as) (.slice A xs.length c :: vs)
  | arr {k t xs us as vs} : Reps C (xs.flatMap (enc t)) us → xs.length = k → Reps C as vs → Reps C (.arr k t xs :: as) (us ++ vs)
  | fn {f as vs} : Reps C as vs → Reps C (.fn f :: as) (.func (.func f) #[] #[] :: vs)
  | vptr {t x k b o as vs} (ws : List Value) : Reps C (enc t x) ws → ¬ C.mt b → b < C.w.heap.size → (∀ j v, ws[j]? = some v → C.w.cell? ⟨b, o + j, none⟩ = some v) → Reps C as vs → Reps C (.vptr t x k :: as) (.pointer (some ⟨b, o + k, none⟩) :: vs)

def cellsL (as : List AV) : Nat := (as.map AV.lsz).sum
theorem cellsL_cons (a : AV) (as : List AV) : cellsL (a :: as) = a.lsz + cellsL as := by simp [cellsL]
theorem cellsL_append (as bs : List AV) : cellsL (as ++ bs) = cellsL as + cellsL bs := by simp [cellsL]
theorem cellsL_one (a : AV) : cellsL [a] = a.lsz := by simp [cellsL]
theorem enc_cells (t : Ty) (x : t.den) : cellsL (enc t x) = t.sz := by cases t <;> rfl
theorem flat_cells (t : Ty) (xs : List t.den) : cellsL (xs.flatMap (enc t)) = xs.length * t.sz := by
  induction xs with
  | nil => simp [cellsL]
  | cons x xs ih => rw [List.flatMap_cons, cellsL_append, ih, enc_cells, List.length_cons, Nat.succ_mul]; omega
section
variable {C C' : Cx}
theorem Reps.length {as : List AV} {vs : List Value} (h : Reps C as vs) : vs.length = cellsL as := by
  induction h with
  | nil => rfl
  | arr h hk h2 ih1 ih2 => rw [List.length_append, ih1, ih2, flat_cells, cellsL_cons, hk]; rfl
  | vsl ws h1 h2 h3 h4 h5 ih1 ih2 => rw [List.length_cons, ih2, cellsL_cons]; simp only [AV.lsz]; omega
  | vptr ws h1 h2 h3 h4 h5 ih1 ih2 => rw [List.length_cons, ih2, cellsL_cons]; simp only [AV.lsz]; omega
  | _ => rename_i ih; rw [List.length_cons, ih, cellsL_cons]; simp only [AV.lsz]; omega
theorem Reps.nil_inv {vs : List Value} (h : Reps C [] vs) : vs = [] := by cases h; rfl
theorem Reps.cons_inv {a : AV} {as : List AV} {vs : List Value} (h : Reps C (a :: as) vs) : ∃ us ws, vs = us ++ ws ∧ Reps C [a] us ∧ Reps C as ws := by
  cases h with
  | int a b h => exact ⟨[_], _, rfl, .int a b .nil, h⟩
  | bool h => exact ⟨[_], _, rfl, .bool .nil, h⟩
  | str a h => exact ⟨[_], _, rfl, .str a .nil, h⟩
  | nilp h => exact ⟨[_], _, rfl, .nilp .nil, h⟩
  | ptr a h => exact ⟨[_], _, rfl, .ptr a .nil, h⟩
  | nils h => exact ⟨[_], _, rfl, .nils .nil, h⟩
  | slc a h => exact ⟨[_], _, rfl, .slc a .nil, h⟩
  | nilm h => exact ⟨[_], _, rfl, .nilm .nil, h⟩
  | ifz h => exact ⟨[_], _, rfl, .ifz .nil, h⟩
  | ifn h => exact ⟨[_], _, rfl, .ifn .nil, h⟩
  | hdl a h => exact ⟨[_], _, rfl, .hdl a .nil, h⟩
  | vsl ws a b c d h => exact ⟨[_], _, rfl, .vsl ws a b c d .nil, h⟩
  | arr a b h => exact ⟨_, _, rfl, by have := Reps.arr a b Reps.nil; rwa [List.append_nil] at this, h⟩
  | fn h => exact ⟨[_], _, rfl, .fn .nil, h⟩
  | vptr ws a b c d h => exact ⟨[_], _, rfl, .vptr ws a b c d .nil, h⟩
theorem Reps.append {as bs : List AV} {us vs : List Value} (h : Reps C as us) (h2 : Reps C bs vs) : Reps C (as ++ bs) (us ++ vs) := by
  induction h with
  | nil => exact h2
  | int a b h ih => exact .int a b ih
  | bool h ih => exact .bool ih
  | str a h ih => exact .str a ih
  | nilp h ih => exact .nilp ih
  | ptr a h ih => exact .ptr a ih
  | nils h ih => exact .nils ih
  | slc a h ih => exact .slc a ih
  | nilm h ih => exact .nilm ih
  | ifz h ih => exact .ifz ih
  | ifn h ih => exact .ifn ih
  | hdl a h ih => exact .hdl a ih
  | vsl ws a b c d h ih1 ih2 => exact .vsl ws a b c d ih2
  | arr a b h ih1 ih2 => rw [List.append_assoc]; exact .arr a b ih2
  | fn h ih => exact .fn ih
  | vptr ws a b c d h ih1 ih2 => exact .vptr ws a b c d ih2
theorem Reps.append_inv {as bs : List AV} {vs : List Value} (h : Reps C (as ++ bs) vs) : ∃ us ws, vs = us ++ ws ∧ Reps C as us ∧ Reps C bs ws := by
  induction as generalizing vs with
  | nil => exact ⟨[], vs, rfl, .nil, h⟩
  | cons a as ih =>
    obtain ⟨u1, w1, rfl, h1, h2⟩ := Reps.cons_inv h
    obtain ⟨u2, w2, rfl, h3, h4⟩ := ih h2
    exact ⟨u1 ++ u2, w2, by rw [List.append_assoc], Reps.append h1 h3, h4⟩
/-- What stays as memory goes on. -/
structure Cx.Le (C C' : Cx) : Prop where
  φ : ∀ id, id < C.n → C'.φ id = C.φ id
  n : C.n ≤ C'.n
  mt : ∀ b, b < C.w.heap.size → ¬ C.mt b → ¬ C'.mt b
  size : C.w.heap.size ≤ C'.w.heap.size
  blk : ∀ b, b < C.w.heap.size → ¬ C.wr b → C'.w.heap[b]? = C.w.heap[b]?
  wr : ∀ b, b < C.w.heap.size → ¬ C.wr b → ¬ C'.wr b
theorem Cx.Le.refl (C : Cx) : C.Le C := ⟨fun _ _ => rfl, Nat.le_refl _, fun _ _ h => h, Nat.le_refl _, fun _ _ _ => rfl, fun _ _ h => h⟩
theorem Cx.Le.trans {C1 C2 C3 : Cx} (h : C1.Le C2) (g : C2.Le C3) : C1.Le C3 :=
  ⟨fun id hi => (g.φ id (Nat.lt_of_lt_of_le hi h.n)).trans (h.φ id hi), Nat.le_trans h.n g.n, fun b hb hm => g.mt b (Nat.lt_of_lt_of_le hb h.size) (h.mt b hb hm), Nat.le_trans h.size g.size,
    fun b hb hm => (g.blk b (Nat.lt_of_lt_of_le hb h.size) (h.wr b hb hm)).trans (h.blk b hb hm), fun b hb hm => g.wr b (Nat.lt_of_lt_of_le hb h.size) (h.wr b hb hm)⟩
theorem Reps.mono {as : List AV} {vs : List Value} (hle : C.Le C') (h : Reps C as vs) : Reps C' as vs := by
  induction h with
  | nil => exact .nil
  | int a b h ih => exact .int a b ih
  | bool h ih => exact .bool ih
  | str a h ih => exact .str a ih
  | nilp h ih => exact .nilp ih
  | ptr a h ih => rw [← hle.φ _ a]; exact .ptr (Nat.lt_of_lt_of_le a hle.n) ih
  | nils h ih => exact .nils ih
  | slc a h ih => rw [← hle.φ _ a]; exact .slc (Nat.lt_of_lt_of_le a hle.n) ih
  | nilm h ih => exact .nilm ih
  | ifz h ih => exact .ifz ih
  | ifn h ih => exact .ifn ih
  | hdl a h ih => rw [← hle.φ _ a]; exact .hdl (Nat.lt_of_lt_of_le a hle.n) ih
  | vsl ws a b c d h ih1 ih2 =>
    refine .vsl ws a b (fun h0 => ?_) ih1 ih2
    obtain ⟨bb, off, hA, hm, hlt, hc⟩ := c h0
    exact ⟨bb, off, hA, hle.mt _ hlt hm, Nat.lt_of_lt_of_le hlt hle.size, fun i hi j v hv => (World.cell?_of_block (w := C.w) (a := ⟨bb, _, none⟩) (hle.blk bb hlt (fun h => hm (C.sub _ h)))).trans (hc i hi j v hv)⟩
  | arr a b h ih1 ih2 => exact .arr ih1 b ih2
  | fn h ih => exact .fn ih
  | vptr ws a b c d h ih1 ih2 => exact .vptr ws ih1 (hle.mt _ c b) (Nat.lt_of_lt_of_le c hle.size) (fun j v hv => (World.cell?_of_block (w := C.w) (a := ⟨_, _, none⟩) (hle.blk _ c (fun h => b (C.sub _ h)))).trans (d j v hv)) ih2
end
/-! ### parts of a list of cells -/
def dropC : List AV → Nat → Option (List AV)
  | as, 0 => some as
  | [], _ + 1 => none
  | a :: as, n + 1 => bif Nat.ble a.lsz (n + 1) then dropC as (n + 1 - a.lsz) else none
def takeC : List AV → Nat → Option (List AV)
  | _, 0 => some []
  | [], _ + 1 => none
  | a :: as, n + 1 => bif Nat.ble a.lsz (n + 1) then (match takeC as (n + 1 - a.lsz) with | some bs => some (a :: bs) | none => none) else none
theorem dropC_spec {C : Cx} : ∀ (as : List AV) (n : Nat) (bs : List AV) (vs : List Value), dropC as n = some bs → Reps C as vs → Reps C bs (vs.drop n)
  | as, 0, bs, vs, h, hr => by
    cases as <;> (simp [dropC] at h; subst h; simpa using hr)
  | [], n + 1, bs, vs, h, hr => by simp [dropC] at h
  | a :: as, n + 1, bs, vs, h, hr => by
    rw [dropC] at h
    cases hb : Nat.ble a.lsz (n + 1) with
    | false => rw [hb] at h; cases h
    | true =>
      rw [hb] at h
      obtain ⟨us, ws, rfl, h1, h2⟩ := hr.cons_inv
      have hl := h1.length
      rw [cellsL_one] at hl
      have := dropC_spec as (n + 1 - a.lsz) bs ws h h2
      have hle := Nat.le_of_ble_eq_true hb
      rw [List.drop_append, List.drop_of_length_le (by omega), List.nil_append, hl]
      exact this
theorem takeC_spec {C : Cx} : ∀ (as : List AV) (n : Nat) (bs : List AV) (vs : List Value), takeC as n = some bs → Reps C as vs → Reps C bs (vs.take n) ∧ cellsL bs = n ∧ n ≤ vs.length
  | as, 0, bs, vs, h, hr => by
    cases as <;> (simp [takeC] at h; subst h; exact ⟨by simpa using Reps.nil, rfl, Nat.zero_le _⟩)
  | [], n + 1, bs, vs, h, hr => by simp [takeC] at h
  | a :: as, n + 1, bs, vs, h, hr => by
    rw [takeC] at h
    cases hb : Nat.ble a.lsz (n + 1) with
    | false => rw [hb] at h; cases h
    | true =>
      rw [hb] at h
      simp only [cond_true] at h
      cases ht : takeC as (n + 1 - a.lsz) with
      | none => rw [ht] at h; cases h
      | some cs =>
        rw [ht] at h
        simp only [Option.some.injEq] at h
        subst h
        obtain ⟨us, ws, rfl, h1, h2⟩ := hr.cons_inv
        have hl := h1.length
        rw [cellsL_one] at hl
        obtain ⟨h3, h4, h5⟩ := takeC_spec as _ cs ws ht h2
        have hle := Nat.le_of_ble_eq_true hb
        refine ⟨?_, by rw [cellsL_cons, h4]; omega, by rw [List.length_append]; omega⟩
        rw [List.take_append, List.take_of_length_le (by omega), hl]
        exact Reps.append h1 h3
/-- A list with others in the place of some. -/
def spl {α : Type} (l : List α) (o : Nat) (ws : List α) : List α := l.take o ++ ws ++ l.drop (o + ws.length)
theorem spl_get {α : Type} (l : List α) (o : Nat) (ws : List α) (h : o + ws.length ≤ l.length) (j : Nat) : (spl l o ws)[j]? = if j < o then l[j]? else if j < o + ws.length then ws[j - o]? else l[j]? := by
  unfold spl
  by_cases h1 : j < o
  · rw [if_pos h1, List.append_assoc, List.getElem?_append_left (by rw [List.length_take]; omega), List.getElem?_take, if_pos h1]
  · rw [if_neg h1, List.append_assoc, List.getElem?_append_right (by rw [List.length_take]; omega), List.length_take, Nat.min_eq_left (by omega)]
    by_cases h2 : j < o + ws.length
    · rw [if_pos h2, List.getElem?_append_left (by omega)]
    · rw [if_neg h2, List.getElem?_append_right (by omega), List.getElem?_drop]
      congr 1
      omega
theorem spl_length {α : Type} (l : List α) (o : Nat) (ws : List α) (h : o + ws.length ≤ l.length) : (spl l o ws).length = l.length := by
  unfold spl
  simp only [List.length_append, List.length_take, List.length_drop]
  omega
theorem spl_take {α : Type} (l : List α) (o n : Nat) (ws : List α) (h : o + ws.length ≤ n) (hn : n ≤ l.length) : (spl l o ws).take n = spl (l.take n) o ws := by
  apply List.ext_getElem?
  intro j
  rw [spl_get _ _ _ (by rw [List.length_take]; omega), List.getElem?_take, spl_get _ _ _ (by omega), List.getElem?_take]
  by_cases h1 : j < n
  · simp only [if_pos h1]
  · rw [if_neg h1, if_neg (by omega), if_neg (by omega), if_neg h1]
theorem spl_nest {α : Type} (l : List α) (a s b : Nat) (ws : List α) (h : b + ws.length ≤ s) (hn : a + s ≤ l.length) : spl l a (spl ((l.drop a).take s) b ws) = spl l (a + b) ws := by
  have hl : (spl ((l.drop a).take s) b ws).length = s := by rw [spl_length _ _ _ (by rw [List.length_take, List.length_drop]; omega), List.length_take, List.length_drop]; omega
  apply List.ext_getElem?
  intro j
  rw [spl_get l a _ (by omega), spl_get l (a + b) ws (by omega), hl]
  by_cases h1 : j < a
  · rw [if_pos h1, if_pos (by omega)]
  · rw [if_neg h1]
    by_cases h2 : j < a + s
    · rw [if_pos h2, spl_get ((l.drop a).take s) b ws (by rw [List.length_take, List.length_drop]; omega)]
      by_cases h3 : j < a + b
      · rw [if_pos (by omega), if_pos h3, List.getElem?_take, if_pos (by omega), List.getElem?_drop]
        congr 1
        omega
      · rw [if_neg (by omega), if_neg h3]
        by_cases h4 : j < a + b + ws.length
        · rw [if_pos (by omega), if_pos h4]
          congr 1
          omega
        · rw [if_neg (by omega), if_neg h4, List.getElem?_take, if_pos (by omega), List.getElem?_drop]
          congr 1
          omega
    · rw [if_neg h2, if_neg (by omega), if_neg (by omega)]
/-- The cells with others in the place of some. -/
def putC (as : List AV) (k : Nat) (bs : List AV) : Option (List AV) :=
  match takeC as k, dropC as (k + cellsL bs) with
  | some x, some y => some (x ++ (bs ++ y))
  | _, _ => none
theorem putC_spec {C : Cx} {as : List AV} {k : Nat} {bs cs : List AV} {vs us : List Value} (h : putC as k bs = some cs) (h1 : Reps C as vs) (h2 : Reps C bs us) : Reps C cs (spl vs k us) ∧ k + us.length ≤ vs.length ∧ cellsL cs = cellsL as := by
  unfold putC at h
  cases hx : takeC as k with
  | none => rw [hx] at h; cases h
  | some x =>
    rw [hx] at h
    cases hy : dropC as (k + cellsL bs) with
    | none => rw [hy] at h; cases h
    | some y =>
      rw [hy] at h
      simp only [Option.some.injEq] at h
      subst h
      obtain ⟨h3, h4, h5⟩ := takeC_spec as k x vs hx h1
      have h6 := dropC_spec as _ y vs hy h1
      unfold spl
      rw [h2.length]
      have h7 := h1.length
      have h8 := h6.length
      have hle : k + cellsL bs ≤ vs.length := by
        rw [h7]
        clear h8 h6 h3 h2 hx h1 h7
        exact dropC_le as _ y hy
      refine ⟨by rw [List.append_assoc]; exact Reps.append h3 (Reps.append h2 h6), hle, ?_⟩
      rw [cellsL_append, cellsL_append, h4, ← h8, ← h7, List.length_drop]
      omega
where
  dropC_le : ∀ (as : List AV) (n : Nat) (bs : List AV), dropC as n = some bs → n ≤ cellsL as
    | as, 0, bs, h => Nat.zero_le _
    | [], n + 1, bs, h => by simp [dropC] at h
    | a :: as, n + 1, bs, h => by
      rw [dropC] at h
      cases hb : Nat.ble a.lsz (n + 1) with
      | false => rw [hb] at h; cases h
      | true =>
        rw [hb] at h
        have := dropC_le as _ bs h
        have hle := Nat.le_of_ble_eq_true hb
        rw [cellsL_cons]
        omega
/-! ### an element from its cells -/
theorem asSl_spec {C : Cx} {t : Ty} {a : AV} {xs : List t.den} {vs : List Value} (h : asSl t a = some xs) (hr : Reps C [a] vs) : Reps C [.vsl t xs] vs := by
  cases a <;> simp only [asSl, reduceCtorEq] at h
  · injection h with h
    subst h
    cases hr with
    | nils h2 => exact .vsl (t := t) (xs := []) (fun _ => []) (Nat.le_refl _) ⟨Nat.zero_le _, fun _ => rfl⟩ (fun h => absurd h (by simp)) (fun i x hx => by simp at hx) h2
  · split at h
    · rename_i t' xs' e
      cases e
      injection h with h
      subst h
      exact hr
    · cases h
theorem asArr_spec {C : Cx} {n : Nat} {t : Ty} {a : AV} {xs : List t.den} {vs : List Value} (h : asArr n t a = some xs) (hr : Reps C [a] vs) : Reps C [.arr n t xs] vs := by
  cases a <;> simp only [asArr, reduceCtorEq] at h
  split at h
  · rename_i m t' xs' e
    cases e
    split at h
    · rename_i e2
      subst e2
      injection h with h
      subst h
      exact hr
    · cases h
  · cases h
theorem Reps.sub {C : Cx} {a b : AV} {as bs : List AV} {vs : List Value} (h : ∀ us, Reps C [a] us → Reps C [b] us) (hr : Reps C (as ++ a :: bs) vs) : Reps C (as ++ b :: bs) vs := by
  obtain ⟨u1, w1, rfl, h1, h2⟩ := Reps.append_inv hr
  obtain ⟨u2, w2, rfl, h3, h4⟩ := Reps.cons_inv h2
  exact Reps.append h1 (Reps.append (h _ h3) h4)
theorem dec_spec {C : Cx} {t : Ty} {as : List AV} {x : t.den} {vs : List Value} (h : dec t as = some x) (hr : Reps C as vs) : Reps C (enc t x) vs := by
  unfold dec at h
  split at h
  all_goals first | (cases h; exact hr) | (cases h; done) | exact asSl_spec h hr | skip
  · obtain ⟨k, hk, h⟩ := Option.bind_eq_some_iff.1 h
    obtain ⟨q, hq, h⟩ := Option.bind_eq_some_iff.1 h
    cases h
    exact Reps.sub (as := [_, _, _, _, _, _]) (bs := [_]) (fun us h => asArr_spec hk h) (Reps.sub (as := [_, _, _, _, _, _, _]) (bs := []) (fun us h => asSl_spec hq h) hr)
  · obtain ⟨k, hk, h⟩ := Option.bind_eq_some_iff.1 h
    obtain ⟨q, hq, h⟩ := Option.bind_eq_some_iff.1 h
    cases h
    exact Reps.sub (as := []) (bs := [_, _, _]) (fun us h => asSl_spec hk h) (Reps.sub (as := [_, _, _]) (bs := []) (fun us h => asSl_spec hq h) hr)
end Go.Proofs.YtpkidbhpfohopaaDoor

noncomputable section
namespace Go.Proofs.YtpkidbhpfohopaaDoor
open Go.RowKit Go.Maps
set_option linter.unusedVariables false
set_option linter.unusedSimpArgs false
def RVv (v : Value) : Option (DataW Value × List MemPlace) := some (.held v, [])
theorem keyOf_same {P P' : Program} {k k' : TypeId} {q : IntKind} (h : P.underlying k = some (.int q)) (h' : P'.underlying k' = some (.int q)) : keyOf P k = keyOf P' k' := by
  funext v
  cases e : keyOf P k v with
  | some l =>
    obtain ⟨x, rfl, rfl, hw⟩ := Maps.keyOf_int_inv h e
    exact (keyOf_int_mk h' hw).symm
  | none =>
    cases e' : keyOf P' k' v with
    | none => rfl
    | some l =>
      obtain ⟨x, rfl, rfl, hw⟩ := Maps.keyOf_int_inv h' e'
      rw [keyOf_int_mk h hw] at e
      cases e
/-- Block b is a map with whole numbers for keys that reads as D. -/
def OMap (w : World) (b n : Nat) (D : DataW Value) : Prop := ∃ P k, P.underlying k = some (.int .i64) ∧ w.ownsMap P k RVv b n D
theorem OMap.owns {w : World} {b n : Nat} {D : DataW Value} (h : OMap w b n D) {P : Program} {k : TypeId} (hk : P.underlying k = some (.int .i64)) : w.ownsMap P k RVv b n D := by
  obtain ⟨P', k', hk', es, clock, hb, F, hs, hD⟩ := h
  have e := keyOf_same hk' hk
  have e1 : WideElems.rd P' k' RVv = WideElems.rd P k RVv := by funext x; unfold WideElems.rd; rw [e]
  have e2 : WideElems.rg P' k' RVv = WideElems.rg P k RVv := by funext x; unfold WideElems.rg; rw [e1]
  exact ⟨es, clock, hb, ⟨F.size, F.stamped, fun x hx => by rw [← e1]; exact F.reads x hx⟩, hs, by rw [← e2]; exact hD⟩
theorem OMap.lt {w : World} {b n : Nat} {D : DataW Value} (h : OMap w b n D) : b < w.heap.size := by
  obtain ⟨P, k, _, h⟩ := h
  exact h.lt
theorem OMap.of_block {w w' : World} {b n : Nat} {D : DataW Value} (h : OMap w b n D) (hb : w'.heap[b]? = w.heap[b]?) : OMap w' b n D := by
  obtain ⟨P, k, hk, es, clock, h1, h2⟩ := h
  exact ⟨P, k, hk, es, clock, hb.trans h1, h2⟩
theorem owns_tight {H : Type} {w : World} {P : Program} {k : TypeId} {R : Value → Option (DataW H × List MemPlace)} {b n : Nat} {l : List (Lit × DataW H)} (h : w.ownsMap P k R b n (.map l)) : w.ownsMap P k R b l.length (.map l) := by
  obtain ⟨es, clock, h1, F, hs, hD⟩ := h
  refine ⟨es, clock, h1, F, ?_, hD⟩
  injection hD with hD
  rw [hD, length_read]
  exact Nat.le_refl _
theorem owns_len {H : Type} {w : World} {P : Program} {k : TypeId} {R : Value → Option (DataW H × List MemPlace)} {b n : Nat} {l : List (Lit × DataW H)} (h : w.ownsMap P k R b n (.map l)) : l.length ≤ maxLen := by
  obtain ⟨es, clock, h1, F, hs, hD⟩ := h
  injection hD with hD
  rw [hD, length_read]
  exact F.size
theorem owns_sorted {H : Type} {w : World} {P : Program} {k : TypeId} {R : Value → Option (DataW H × List MemPlace)} {b n : Nat} {l : List (Lit × DataW H)} (K : Keyed P k) (h : w.ownsMap P k R b n (.map l)) : l.Pairwise (fun p q => p.1.before q.1 = true) := by
  obtain ⟨es, clock, h1, F, hs, hD⟩ := h
  injection hD with hD
  rw [hD]
  exact sorted_sorted K.one _ (fit_keys F) (fit_apart K F)
/-! ### lists by keys -/
def mGet {α : Type} : List (Int × α) → Int → Option α
  | [], _ => none
  | (a, x) :: r, k => if a = k then some x else mGet r k
def mIns {α : Type} (k : Int) (x : α) : List (Int × α) → List (Int × α)
  | [] => [(k, x)]
  | (a, y) :: r => if k < a then (k, x) :: (a, y) :: r else (a, y) :: mIns k x r
def mDel {α : Type} (l : List (Int × α)) (k : Int) : List (Int × α) := l.filter fun p => decide (p.1 ≠ k)
def mPut {α : Type} (l : List (Int × α)) (k : Int) (x : α) : List (Int × α) := mIns k x (mDel l k)
def vdL (vs : List (Int × Value)) : List (Lit × DataW Value) := vs.map fun v => (.int .i64 v.1, .held v.2)
def vdat (vs : List (Int × Value)) : DataW Value := .map (vdL vs)
theorem same_int (a k : Int) : (Lit.int .i64 a).sameKey (.int .i64 k) = decide (a = k) := by simp [Lit.sameKey]
theorem vdat_del (vs : List (Int × Value)) (k : Int) : (vdat vs).del (.int .i64 k) = vdat (mDel vs k) := by
  simp only [vdat, DataW.del, vdL, mDel, List.filter_map]
  congr 2
  apply List.filter_congr
  intro x _
  simp [Function.comp, same_int]
theorem vdat_ins (k : Int) (v : Value) : ∀ vs : List (Int × Value), DataW.insert (.int .i64 k, .held v) (vdL vs) = vdL (mIns k v vs)
  | [] => rfl
  | (a, y) :: r => by
    have ih := vdat_ins k v r
    simp only [vdL, List.map_cons] at ih ⊢
    rw [DataW.insert, mIns]
    simp only [Lit.before, decide_eq_true_eq]
    split
    · rfl
    · rw [ih]; rfl
theorem vdat_put (vs : List (Int × Value)) (k : Int) (v : Value) : (vdat vs).put (.int .i64 k) (.held v) = vdat (mPut vs k v) := by
  have h := vdat_del vs k
  simp only [vdat, DataW.del, DataW.map.injEq] at h
  simp only [vdat, DataW.put, DataW.map.injEq]
  rw [h, vdat_ins]
  rfl
theorem vdat_get (k : Int) (z : Value) : ∀ vs : List (Int × Value), (vdat vs).atKey (.int .i64 k) (.held z) = .held ((mGet vs k).getD z)
  | [] => rfl
  | (a, y) :: r => by
    have ih := vdat_get k z r
    simp only [vdat, vdL, DataW.atKey, List.map_cons, List.find?_cons, same_int] at ih ⊢
    rw [mGet]
    by_cases e : a = k
    · simp [e]
    · rw [if_neg e]
      simp only [e, decide_false]
      exact ih
theorem vdat_has (k : Int) : ∀ vs : List (Int × Value), has (vdat vs) (.int .i64 k) = (mGet vs k).isSome
  | [] => rfl
  | (a, y) :: r => by
    have ih := vdat_has k r
    simp only [vdat, vdL, has, List.map_cons, List.any_cons, same_int] at ih ⊢
    rw [mGet, ih]
    by_cases e : a = k
    · simp [e]
    · simp [e]
theorem vdat_size (vs : List (Int × Value)) : Maps.size (vdat vs) = vs.length := by simp [vdat, vdL, Maps.size]
theorem OMap.sorted {w : World} {b n : Nat} {vs : List (Int × Value)} (h : OMap w b n (vdat vs)) : vs.Pairwise (fun p q => p.1 < q.1) := by
  obtain ⟨P, k, hk, h⟩ := h
  have h2 := owns_sorted (int_keyed hk) h
  rw [vdL, List.pairwise_map] at h2
  refine h2.imp fun {a b} hab => ?_
  simpa [Lit.before] using hab
theorem OMap.len {w : World} {b n : Nat} {vs : List (Int × Value)} (h : OMap w b n (vdat vs)) : vs.length ≤ maxLen := by
  obtain ⟨P, k, hk, h⟩ := h
  have := owns_len h
  simpa [vdL] using this
/-! ### values of elements -/
def Ty.agg : Ty → Bool
  | .int | .bool | .str | .sl _ => false
  | _ => true
/-- A value that stands for an element. -/
def RX (C : Cx) (t : Ty) (x : t.den) (v : Value) : Prop := if t.agg then ∃ us : List Value, v = .agg us.toArray ∧ Reps C (enc t x) us else Reps C (enc t x) [v]
structure RE (C : Cx) (t : Ty) (e : Int × t.den) (v : Int × Value) : Prop where
  key : v.1 = e.1
  wf : (Lit.int .i64 e.1).wf = true
  val : RX C t e.2 v.2
theorem RX.mono {C C' : Cx} (hle : C.Le C') {t : Ty} {x : t.den} {v : Value} (h : RX C t x v) : RX C' t x v := by
  unfold RX at h ⊢
  by_cases ha : t.agg = true
  · rw [if_pos ha] at h ⊢
    obtain ⟨us, e, h⟩ := h
    exact ⟨us, e, h.mono hle⟩
  · rw [if_neg ha] at h ⊢
    exact h.mono hle
theorem RE.mono {C C' : Cx} (hle : C.Le C') {t : Ty} {e : Int × t.den} {v : Int × Value} (h : RE C t e v) : RE C' t e v := ⟨h.key, h.wf, h.val.mono hle⟩
inductive All2 {α β : Type} (R : α → β → Prop) : List α → List β → Prop
  | nil : All2 R [] []
  | cons {a b as bs} : R a b → All2 R as bs → All2 R (a :: as) (b :: bs)
theorem All2.imp {α β : Type} {R R' : α → β → Prop} (hi : ∀ a b, R a b → R' a b) {as : List α} {bs : List β} (h : All2 R as bs) : All2 R' as bs := by
  induction h with
  | nil => exact .nil
  | cons h _ ih => exact .cons (hi _ _ h) ih
theorem All2.length {α β : Type} {R : α → β → Prop} {as : List α} {bs : List β} (h : All2 R as bs) : bs.length = as.length := by
  induction h with
  | nil => rfl
  | cons h _ ih => simp [ih]
section
variable {C : Cx} {t : Ty} {es : List (Int × t.den)} {vs : List (Int × Value)}
theorem RE.del (h : All2 (RE C t) es vs) (k : Int) : All2 (RE C t) (mDel es k) (mDel vs k) := by
  induction h with
  | nil => exact .nil
  | @cons a b as bs h _ ih =>
    unfold mDel at ih ⊢
    have hk := h.key
    by_cases e : a.1 = k
    · rw [List.filter_cons_of_neg (by simp [e]), List.filter_cons_of_neg (by simp [hk, e])]
      exact ih
    · rw [List.filter_cons_of_pos (by simp [e]), List.filter_cons_of_pos (by simp [hk, e])]
      exact .cons h ih
theorem RE.ins {k : Int} {x : t.den} {v : Value} (hx : RE C t (k, x) (k, v)) (h : All2 (RE C t) es vs) : All2 (RE C t) (mIns k x es) (mIns k v vs) := by
  induction h with
  | nil => exact .cons hx .nil
  | @cons a b as bs h hr ih =>
    obtain ⟨a1, a2⟩ := a
    obtain ⟨b1, b2⟩ := b
    have hk := h.key
    simp only at hk
    subst hk
    rw [mIns, mIns]
    split
    · exact .cons hx (.cons h hr)
    · exact .cons h ih
theorem RE.put {k : Int} {x : t.den} {v : Value} (hx : RE C t (k, x) (k, v)) (h : All2 (RE C t) es vs) : All2 (RE C t) (mPut es k x) (mPut vs k v) := RE.ins hx (RE.del h k)
theorem RE.get (h : All2 (RE C t) es vs) (k : Int) {z : t.den} {zv : Value} (hz : RX C t z zv) : RX C t ((mGet es k).getD z) ((mGet vs k).getD zv) ∧ (mGet vs k).isSome = (mGet es k).isSome := by
  induction h with
  | nil => exact ⟨hz, rfl⟩
  | @cons a b as bs h hr ih =>
    obtain ⟨a1, a2⟩ := a
    obtain ⟨b1, b2⟩ := b
    have hk := h.key
    simp only at hk
    subst hk
    rw [mGet, mGet]
    split
    · exact ⟨h.val, rfl⟩
    · exact ih
end
theorem RE.sorted {C : Cx} {t : Ty} {es : List (Int × t.den)} {vs : List (Int × Value)} (h : All2 (RE C t) es vs) (hs : vs.Pairwise (fun p q => p.1 < q.1)) : es.Pairwise (fun p q => p.1 < q.1) := by
  have mem : ∀ {es : List (Int × t.den)} {vs : List (Int × Value)}, All2 (RE C t) es vs → ∀ e ∈ es, ∃ v ∈ vs, v.1 = e.1 := fun h => by
    induction h with
    | nil => exact fun e he => absurd he (by simp)
    | cons h _ ih =>
      intro e he
      rcases List.mem_cons.1 he with rfl | he
      · exact ⟨_, List.mem_cons_self .., h.key⟩
      · obtain ⟨v, hv, e1⟩ := ih e he
        exact ⟨v, List.mem_cons_of_mem _ hv, e1⟩
  induction h with
  | nil => exact .nil
  | cons h hr ih =>
    rw [List.pairwise_cons] at hs ⊢
    refine ⟨fun e he => ?_, ih hs.2⟩
    obtain ⟨v, hv, e1⟩ := mem hr e he
    have := hs.1 v hv
    rw [h.key, e1] at this
    exact this
theorem RE.all {C : Cx} {t : Ty} {es : List (Int × t.den)} {vs : List (Int × Value)} (h : All2 (RE C t) es vs) : ∀ e ∈ es, ∃ v, RE C t e v := by
  induction h with
  | nil => exact fun e he => absurd he (by simp)
  | cons h _ ih =>
    intro e he
    rcases List.mem_cons.1 he with rfl | he
    · exact ⟨_, h⟩
    · exact ih e he
theorem mIns_len {α : Type} (k : Int) (x : α) : ∀ l : List (Int × α), (mIns k x l).length = l.length + 1
  | [] => rfl
  | (a, y) :: r => by
    rw [mIns]
    split
    · rfl
    · simp [mIns_len k x r]
end Go.Proofs.YtpkidbhpfohopaaDoor

noncomputable section
namespace Go.Proofs.YtpkidbhpfohopaaDoor
open Go.RowKit
/-- The block of one of the package-level variables that the library's functions read. -/
def FxB (b : Nat) : Prop := b = 0 ∨ b = 1 ∨ b = 4 ∨ b = 5
structure St (w : World) : Prop where
  ml : ∃ m t f, w.heap[0]? = some (.cells #[.int .i64 m] t f)
  tab : ∃ t f, w.heap[1]? = some (.cells (Lib.pow10Tab.map fun z => Value.int .u64 z).toArray t f)
  es : ∃ tp p t f, w.heap[4]? = some (.cells #[.iface tp p] t f)
  er : ∃ tp p t f, w.heap[5]? = some (.cells #[.iface tp p] t f)
theorem St.keep {w w' : World} (h : St w) (hk : ∀ b, FxB b → w'.heap[b]? = w.heap[b]?) : St w' where
  ml := by rw [hk _ (.inl rfl)]; exact h.ml
  tab := by rw [hk _ (.inr (.inl rfl))]; exact h.tab
  es := by rw [hk _ (.inr (.inr (.inl rfl)))]; exact h.es
  er := by rw [hk _ (.inr (.inr (.inr rfl)))]; exact h.er
theorem St.lt {w : World} (h : St w) {b : Nat} (hb : FxB b) : b < w.heap.size := by
  rcases hb with rfl | rfl | rfl | rfl
  · obtain ⟨_, _, _, e⟩ := h.ml; exact (Array.getElem?_eq_some_iff.1 e).1
  · obtain ⟨_, _, e⟩ := h.tab; exact (Array.getElem?_eq_some_iff.1 e).1
  · obtain ⟨_, _, _, _, e⟩ := h.es; exact (Array.getElem?_eq_some_iff.1 e).1
  · obtain ⟨_, _, _, _, e⟩ := h.er; exact (Array.getElem?_eq_some_iff.1 e).1
end Go.Proofs.YtpkidbhpfohopaaDoor

noncomputable section
namespace Go.Proofs.YtpkidbhpfohopaaDoor
open Go.RowKit
set_option linter.unusedVariables false
set_option linter.unusedSimpArgs false
inductive Blk where
  | objT (ro : Bool) (e : Option Nat) (cs : List AV)
  | seq (ro : Bool) (e : Nat) (t : Ty) (xs : List t.den)
  | map (ro : Bool) (t : Ty) (es : List (Int × t.den))
/-- An object of whatever type. (A type is kept where the library asks for it.) -/
@[match_pattern, reducible] def Blk.obj (ro : Bool) (cs : List AV) : Blk := .objT ro none cs
def tyOf : Option Nat → Nat → Nat
  | none, x => x
  | some t, _ => t
def eqO : Option Nat → Option Nat → Bool
  | none, none => true
  | some a, some b => Nat.beq a b
  | _, _ => false
theorem eqO_eq {a b : Option Nat} (h : eqO a b = true) : a = b := by
  cases a <;> cases b <;> simp [eqO] at h ⊢ <;> assumption
/-- What an allocation makes: the type of a strings.Builder is kept. -/
def objOf (t : Nat) (cs : List AV) : Blk :=
  match cs with
  | [.nilp, .nils] => .objT false (some t) cs
  | cs => .obj false cs
def Blk.ro : Blk → Bool
  | .objT r _ _ => r
  | .seq r _ _ _ => r
  | .map r _ _ => r
structure Heap where
  n : Nat
  l : List (Nat × Option Blk)
def lookH : List (Nat × Option Blk) → Nat → Option Blk
  | [], _ => none
  | (i, b) :: r, k => bif Nat.beq i k then b else lookH r k
def Heap.get (H : Heap) (id : Nat) : Option Blk := lookH H.l id
def Heap.put (H : Heap) (id : Nat) (b : Option Blk) : Heap := ⟨H.n, (id, b) :: H.l⟩
def Heap.new (H : Heap) (b : Blk) : Heap := ⟨H.n + 1, (H.n, some b) :: H.l⟩
theorem Heap.get_put_same (H : Heap) (id : Nat) (b : Option Blk) : (H.put id b).get id = b := by
  simp [Heap.get, Heap.put, lookH]
theorem Heap.get_put_ne (H : Heap) {id j : Nat} (b : Option Blk) (h : j ≠ id) : (H.put id b).get j = H.get j := by
  have : Nat.beq id j = false := by cases e : Nat.beq id j with | false => rfl | true => exact absurd (Nat.eq_of_beq_eq_true e).symm h
  simp [Heap.get, Heap.put, lookH, this]
theorem Heap.get_new_same (H : Heap) (b : Blk) : (H.new b).get H.n = some b := by
  simp [Heap.get, Heap.new, lookH]
theorem Heap.get_new_ne (H : Heap) {j : Nat} (b : Blk) (h : j ≠ H.n) : (H.new b).get j = H.get j := by
  have : Nat.beq H.n j = false := by cases e : Nat.beq H.n j with | false => rfl | true => exact absurd (Nat.eq_of_beq_eq_true e).symm h
  simp [Heap.get, Heap.new, lookH, this]
def Mut (φ : Nat → RS) (H : Heap) (b : Nat) : Prop := ∃ id k, H.get id = some k ∧ (φ id).nil = false ∧ (φ id).blk = b
def Wr (φ : Nat → RS) (H : Heap) (b : Nat) : Prop := ∃ id k, H.get id = some k ∧ k.ro = false ∧ (φ id).nil = false ∧ (φ id).blk = b
theorem Wr.mut {φ : Nat → RS} {H : Heap} {b : Nat} (h : Wr φ H b) : Mut φ H b := by
  obtain ⟨id, k, h1, -, h2, h3⟩ := h
  exact ⟨id, k, h1, h2, h3⟩
def cx (F : Nat → Prop) (φ : Nat → RS) (H : Heap) (w : World) : Cx := ⟨φ, H.n, fun b => Mut φ H b ∨ F b, Wr φ H, fun _ h => .inl h.mut, w⟩
def BRel (C : Cx) (r : RS) : Blk → Prop
  | .objT _ t cs => r.nil = false ∧ ∃ vs e, C.w.heap[r.blk]? = some (.cells vs (tyOf t e) (0, 0)) ∧ Reps C cs vs.toList
  | .seq _ e t xs => r.len = xs.length ∧ (r.nil = true → xs = []) ∧ ∃ us, Reps C (xs.flatMap (enc t)) us ∧ C.w.ownsRow 0 e t.sz r.sl xs.length us
  | .map _ t es => r.nil = false ∧ ∃ vs, All2 (RE C t) es vs ∧ OMap C.w r.blk es.length (vdat vs)
/-- What stands fast, for it hangs on foreign blocks alone. -/
def SeatSt (F : Nat → Prop) (w : World) : Prop := ∃ S : Nat → Prop, (∀ b, S b → F b) ∧ ∀ w' : World, (∀ b, S b → w'.heap[b]? = w.heap[b]?) → St w'
theorem SeatSt.st {F : Nat → Prop} {w : World} (h : SeatSt F w) : St w := by
  obtain ⟨S, -, h⟩ := h
  exact h w fun _ _ => rfl
theorem SeatSt.mono {F F' : Nat → Prop} {w : World} (h : SeatSt F w) (hF : ∀ b, F b → F' b) : SeatSt F' w := by
  obtain ⟨S, h1, h2⟩ := h
  exact ⟨S, fun b hb => hF b (h1 b hb), h2⟩
theorem SeatSt.keep {F : Nat → Prop} {w w' : World} (h : SeatSt F w) (hk : ∀ b, F b → w'.heap[b]? = w.heap[b]?) : SeatSt F w' := by
  obtain ⟨S, h1, h2⟩ := h
  exact ⟨S, h1, fun x hx => h2 x fun b hb => (hx b hb).trans (hk b (h1 b hb))⟩
structure Rel (F : Nat → Prop) (φ : Nat → RS) (H : Heap) (w : World) : Prop where
  st : SeatSt F w
  lt : ∀ id k, H.get id = some k → id < H.n
  blk : ∀ id k, H.get id = some k → BRel (cx F φ H w) (φ id) k
  inj : ∀ id id' k k', H.get id = some k → H.get id' = some k' → (φ id).nil = false → (φ id').nil = false → (φ id).blk = (φ id').blk → id = id'
  forb : ∀ id k, H.get id = some k → (φ id).nil = false → ¬ F (φ id).blk
  flt : ∀ b, F b → b < w.heap.size
structure Ext (F : Nat → Prop) (φ : Nat → RS) (H : Heap) (w : World) (φ' : Nat → RS) (H' : Heap) (w' : World) : Prop where
  le : (cx F φ H w).Le (cx F φ' H' w')
  ro : ∀ id k, H.get id = some k → k.ro = true → H'.get id = some k
  os : w'.os = w.os
  tape : w'.tape = w.tape
  output : w'.output = w.output
theorem Ext.refl (F : Nat → Prop) (φ : Nat → RS) (H : Heap) (w : World) : Ext F φ H w φ H w := ⟨Cx.Le.refl _, fun _ _ h _ => h, rfl, rfl, rfl⟩
theorem Ext.trans {F : Nat → Prop} {φ1 φ2 φ3 : Nat → RS} {H1 H2 H3 : Heap} {w1 w2 w3 : World} (h : Ext F φ1 H1 w1 φ2 H2 w2) (g : Ext F φ2 H2 w2 φ3 H3 w3) : Ext F φ1 H1 w1 φ3 H3 w3 :=
  ⟨h.le.trans g.le, fun id k hg hr => g.ro id k (h.ro id k hg hr) hr, g.os.trans h.os, g.tape.trans h.tape, g.output.trans h.output⟩
theorem BRel.lt {C : Cx} {r : RS} {k : Blk} (h : BRel C r k) (hn : r.nil = false) : r.blk < C.w.heap.size := by
  cases k with
  | objT ro ty cs =>
    obtain ⟨_, vs, e, hb, _⟩ := h
    exact (Array.getElem?_eq_some_iff.1 hb).1
  | seq ro e t xs =>
    obtain ⟨_, _, us, _, ho⟩ := h
    exact (ho.lt r.blk (by simp [RS.sl, hn, Value.ownBlock])).2
  | map ro t es =>
    obtain ⟨_, vs, _, ho⟩ := h
    exact ho.lt
theorem Rel.mut_lt {F : Nat → Prop} {φ : Nat → RS} {H : Heap} {w : World} (h : Rel F φ H w) {b : Nat} (hb : Mut φ H b) : b < w.heap.size := by
  obtain ⟨id, k, hk, hn, rfl⟩ := hb
  exact (h.blk id k hk).lt hn
theorem ownsRow_of_block {w w' : World} {e : Nat} {sz : Nat} {r : RS} {n : Nat} {us : List Value} (h : w.ownsRow 0 e sz r.sl n us) (hb : r.nil = false → w'.heap[r.blk]? = w.heap[r.blk]?) : w'.ownsRow 0 e sz r.sl n us := by
  refine ⟨h.1, ?_⟩
  rcases h.2 with hn | ⟨g, cap, cur, hv, hg, hh, rest⟩
  · exact .inl hn
  · refine .inr ⟨g, cap, cur, hv, hg, ?_, rest⟩
    cases hn : r.nil with
    | true => simp [RS.sl, hn] at hv
    | false =>
      simp only [RS.sl, hn, Bool.false_eq_true, if_false, Value.slice.injEq, Option.some.injEq, Addr.mk.injEq, and_true] at hv
      obtain ⟨rfl, -, -⟩ := hv
      rw [hb hn]
      exact hh
theorem BRel.mono {C C' : Cx} {r : RS} {k : Blk} (hle : C.Le C') (hb : r.nil = false → C'.w.heap[r.blk]? = C.w.heap[r.blk]?) (h : BRel C r k) : BRel C' r k := by
  cases k with
  | objT ro ty cs =>
    obtain ⟨hn, vs, e, h1, h2⟩ := h
    exact ⟨hn, vs, e, by rw [hb hn]; exact h1, h2.mono hle⟩
  | seq ro e t xs =>
    obtain ⟨h1, h2, us, h3, h4⟩ := h
    exact ⟨h1, h2, us, h3.mono hle, ownsRow_of_block h4 hb⟩
  | map ro t es =>
    obtain ⟨hn, vs, h1, h2⟩ := h
    exact ⟨hn, vs, h1.imp fun _ _ h => h.mono hle, h2.of_block (hb hn)⟩
section
variable {F : Nat → Prop} {φ φ' : Nat → RS} {H H' : Heap} {w w' : World}
/-- How memory goes on. -/
theorem Rel.gen (h : Rel F φ H w) (h1 : ∀ id k, H'.get id = some k → id < H'.n) (h2 : H.n ≤ H'.n) (h2' : ∀ id, id < H.n → φ' id = φ id)
    (h3 : w.heap.size ≤ w'.heap.size) (h3' : ∀ b, b < w.heap.size → ¬ Wr φ H b → w'.heap[b]? = w.heap[b]?) (h4 : ∀ b, b < w.heap.size → ¬ Mut φ H b → ¬ Mut φ' H' b) (h4' : ∀ b, b < w.heap.size → ¬ Wr φ H b → ¬ Wr φ' H' b)
    (hro : ∀ id k, H.get id = some k → k.ro = true → H'.get id = some k)
    (h5 : (cx F φ H w).Le (cx F φ' H' w') → ∀ id k, H'.get id = some k → (H.get id = some k ∧ ((φ id).nil = false → w'.heap[(φ id).blk]? = w.heap[(φ id).blk]?)) ∨ BRel (cx F φ' H' w') (φ' id) k)
    (h6 : ∀ id id' k k', H'.get id = some k → H'.get id' = some k' → (φ' id).nil = false → (φ' id').nil = false → (φ' id).blk = (φ' id').blk → id = id')
    (h7 : ∀ id k, H'.get id = some k → (φ' id).nil = false → ¬ F (φ' id).blk) (ho : w'.os = w.os) (ht : w'.tape = w.tape) (hp : w'.output = w.output) : Rel F φ' H' w' ∧ Ext F φ H w φ' H' w' := by
  have le : (cx F φ H w).Le (cx F φ' H' w') := ⟨h2', h2, fun b hb hm => fun h => h.elim (h4 b hb (fun x => hm (.inl x))) (fun x => hm (.inr x)), h3, h3', h4'⟩
  have hst : SeatSt F w' := h.st.keep fun b hb => h3' b (h.flt b hb) fun ⟨id, k, hk, _, hn, he⟩ => h.forb id k hk hn (by rw [he]; exact hb)
  refine ⟨⟨hst, h1, fun id k hk => ?_, h6, h7, fun b hb => Nat.lt_of_lt_of_le (h.flt b hb) h3⟩, ⟨le, hro, ho, ht, hp⟩⟩
  rcases h5 le id k hk with ⟨h7, h8⟩ | h7
  · rw [h2' id (h.lt id k h7)]
    exact (h.blk id k h7).mono le h8
  · exact h7
def upd (φ : Nat → RS) (id : Nat) (r : RS) : Nat → RS := fun j => if j = id then r else φ j
theorem upd_same (φ : Nat → RS) (id : Nat) (r : RS) : upd φ id r id = r := by simp [upd]
theorem upd_ne (φ : Nat → RS) {id j : Nat} (r : RS) (h : j ≠ id) : upd φ id r j = φ j := by simp [upd, h]
/-- A new block. -/
theorem Rel.new (h : Rel F φ H w) (r : RS) (k : Blk) (hkr : k.ro = false) (h3 : w.heap.size ≤ w'.heap.size) (h3' : ∀ b, b < w.heap.size → w'.heap[b]? = w.heap[b]?) (hr : r.nil = false → w.heap.size ≤ r.blk)
    (hk : (cx F φ H w).Le (cx F (upd φ H.n r) (H.new k) w') → BRel (cx F (upd φ H.n r) (H.new k) w') r k)
    (ho : w'.os = w.os) (ht : w'.tape = w.tape) (hp : w'.output = w.output) : Rel F (upd φ H.n r) (H.new k) w' ∧ Ext F φ H w (upd φ H.n r) (H.new k) w' := by
  have key : ∀ id k', (H.new k).get id = some k' → (id = H.n ∧ k' = k) ∨ (id ≠ H.n ∧ H.get id = some k') := fun id k' hg => by
    by_cases e : id = H.n
    · subst e
      rw [Heap.get_new_same] at hg
      injection hg with hg
      exact .inl ⟨rfl, hg.symm⟩
    · rw [Heap.get_new_ne _ _ e] at hg
      exact .inr ⟨e, hg⟩
  refine Rel.gen h (fun id k' hg => ?_) (Nat.le_succ _) (fun id hi => upd_ne _ _ (Nat.ne_of_lt hi)) h3 (fun b hb _ => h3' b hb) (fun b hb hm => ?_) (fun b hb hm => ?_) (fun id k' hg hro => ?_) (fun le id k' hg => ?_) (fun id id' k1 k2 hg hg' hn hn' he => ?_) (fun id k' hg hn => ?_) ho ht hp
  · rcases key id k' hg with ⟨rfl, -⟩ | ⟨-, hg⟩
    · exact Nat.lt_succ_self _
    · exact Nat.lt_succ_of_lt (h.lt _ _ hg)
  · rintro ⟨id, k', hg, hn, he⟩
    rcases key id k' hg with ⟨rfl, -⟩ | ⟨hne, hg⟩
    · rw [upd_same] at hn he
      have := hr hn
      omega
    · rw [upd_ne _ _ hne] at hn he
      exact hm ⟨id, k', hg, hn, he⟩
  · rintro ⟨id, k', hg, hro, hn, he⟩
    rcases key id k' hg with ⟨rfl, -⟩ | ⟨hne, hg⟩
    · rw [upd_same] at hn he
      have := hr hn
      omega
    · rw [upd_ne _ _ hne] at hn he
      exact hm ⟨id, k', hg, hro, hn, he⟩
  · rw [Heap.get_new_ne _ _ (Nat.ne_of_lt (h.lt _ _ hg))]
    exact hg
  · rcases key id k' hg with ⟨rfl, rfl⟩ | ⟨hne, hg⟩
    · right
      rw [upd_same]
      exact hk le
    · exact .inl ⟨hg, fun hn => h3' _ ((h.blk _ _ hg).lt hn)⟩
  · rcases key id k1 hg with ⟨rfl, -⟩ | ⟨hne, hg⟩ <;> rcases key id' k2 hg' with ⟨rfl, -⟩ | ⟨hne', hg'⟩
    · rfl
    · rw [upd_same] at hn he
      rw [upd_ne _ _ hne'] at hn' he
      have := (h.blk _ _ hg').lt hn'
      have := hr hn
      simp only [cx] at *
      omega
    · rw [upd_same] at hn' he
      rw [upd_ne _ _ hne] at hn he
      have := (h.blk _ _ hg).lt hn
      have := hr hn'
      simp only [cx] at *
      omega
    · rw [upd_ne _ _ hne] at hn he
      rw [upd_ne _ _ hne'] at hn' he
      exact h.inj _ _ _ _ hg hg' hn hn' he
  · rcases key id k' hg with ⟨rfl, -⟩ | ⟨hne, hg⟩
    · rw [upd_same] at hn ⊢
      exact fun hf => absurd (h.flt _ hf) (by have := hr hn; omega)
    · rw [upd_ne _ _ hne] at hn ⊢
      exact h.forb _ _ hg hn
/-- A block that is there gets other cells. -/
theorem Rel.upd (h : Rel F φ H w) {id : Nat} {k0 : Blk} (k : Blk) (hg : H.get id = some k0) (hk0 : k0.ro = false) (hkr : k.ro = false) (hn : (φ id).nil = false) (h3 : w.heap.size ≤ w'.heap.size) (h3' : ∀ b, b < w.heap.size → b ≠ (φ id).blk → w'.heap[b]? = w.heap[b]?)
    (hk : (cx F φ H w).Le (cx F φ (H.put id (some k)) w') → BRel (cx F φ (H.put id (some k)) w') (φ id) k)
    (ho : w'.os = w.os) (ht : w'.tape = w.tape) (hp : w'.output = w.output) : Rel F φ (H.put id (some k)) w' ∧ Ext F φ H w φ (H.put id (some k)) w' := by
  have key : ∀ j k', (H.put id (some k)).get j = some k' → (j = id ∧ k' = k) ∨ (j ≠ id ∧ H.get j = some k') := fun j k' hg' => by
    by_cases e : j = id
    · subst e
      rw [Heap.get_put_same] at hg'
      injection hg' with hg'
      exact .inl ⟨rfl, hg'.symm⟩
    · rw [Heap.get_put_ne _ _ e] at hg'
      exact .inr ⟨e, hg'⟩
  have old : ∀ j k', (H.put id (some k)).get j = some k' → ∃ k2, H.get j = some k2 ∧ k2.ro = k'.ro := fun j k' hg' => by
    rcases key j k' hg' with ⟨rfl, rfl⟩ | ⟨-, hg'⟩
    · exact ⟨_, hg, by rw [hk0, hkr]⟩
    · exact ⟨_, hg', rfl⟩
  refine Rel.gen h (fun j k' hg' => ?_) (Nat.le_refl _) (fun _ _ => rfl) h3 (fun b hb hm => h3' b hb (fun e => hm ⟨id, k0, hg, hk0, hn, e.symm⟩)) (fun b hb hm => ?_) (fun b hb hm => ?_) (fun j k' hj hro => ?_) (fun le j k' hg' => ?_) (fun j j' k1 k2 hj hj' => ?_) (fun j k' hj hn' => ?_) ho ht hp
  · obtain ⟨k2, h2, -⟩ := old j k' hg'
    exact h.lt _ _ h2
  · rintro ⟨j, k', hg', hnn, he⟩
    obtain ⟨k2, h2, -⟩ := old j k' hg'
    exact hm ⟨j, k2, h2, hnn, he⟩
  · rintro ⟨j, k', hg', hro, hnn, he⟩
    obtain ⟨k2, h2, h2r⟩ := old j k' hg'
    exact hm ⟨j, k2, h2, h2r.trans hro, hnn, he⟩
  · have hne : j ≠ id := fun e => by
      subst e
      rw [hg] at hj
      injection hj with hj
      subst hj
      rw [hk0] at hro
      cases hro
    rw [Heap.get_put_ne _ _ hne]
    exact hj
  · rcases key j k' hg' with ⟨rfl, rfl⟩ | ⟨hne, hg'⟩
    · exact .inr (hk le)
    · exact .inl ⟨hg', fun hnn => h3' _ ((h.blk _ _ hg').lt hnn) (fun e => hne (h.inj _ _ _ _ hg hg' hn hnn e.symm).symm)⟩
  · obtain ⟨k3, h3, h3r⟩ := old j k1 hj
    obtain ⟨k4, h4, -⟩ := old j' k2 hj'
    exact h.inj _ _ _ _ h3 h4
  · obtain ⟨k2, h2, -⟩ := old j k' hj
    exact h.forb _ _ h2 hn'
/-- A block is written no more. -/
theorem Rel.drop (h : Rel F φ H w) (id : Nat) (hro : ∀ k, H.get id = some k → k.ro = false) : Rel F φ (H.put id none) w ∧ Ext F φ H w φ (H.put id none) w := by
  have old : ∀ j k', (H.put id none).get j = some k' → H.get j = some k' := fun j k' hg' => by
    by_cases e : j = id
    · subst e
      rw [Heap.get_put_same] at hg'
      cases hg'
    · rwa [Heap.get_put_ne _ _ e] at hg'
  refine Rel.gen h (fun j k' hg' => h.lt _ _ (old j k' hg')) (Nat.le_refl _) (fun _ _ => rfl) (Nat.le_refl _) (fun b hb hm => rfl) (fun b hb hm => ?_) (fun b hb hm => ?_) (fun j k' hj hr => ?_) (fun le j k' hg' => .inl ⟨old j k' hg', fun _ => rfl⟩) (fun j j' k1 k2 hj hj' => h.inj _ _ _ _ (old _ _ hj) (old _ _ hj')) (fun j k' hj hn => h.forb _ _ (old _ _ hj) hn) rfl rfl rfl
  · rintro ⟨j, k', hg', hnn, he⟩
    exact hm ⟨j, k', old j k' hg', hnn, he⟩
  · rintro ⟨j, k', hg', hr, hnn, he⟩
    exact hm ⟨j, k', old j k' hg', hr, hnn, he⟩
  · have hne : j ≠ id := fun e => by
      subst e
      rw [hro _ hj] at hr
      cases hr
    rw [Heap.get_put_ne _ _ hne]
    exact hj
theorem Rel.noop (h : Rel F φ H w) {id : Nat} {k : Blk} (hg : H.get id = some k) : Rel F φ (H.put id (some k)) w ∧ Ext F φ H w φ (H.put id (some k)) w := by
  have hget : ∀ j, (H.put id (some k)).get j = H.get j := fun j => by
    by_cases e : j = id
    · subst e
      rw [Heap.get_put_same, hg]
    · rw [Heap.get_put_ne _ _ e]
  refine Rel.gen h (fun j k' hj => ?_) (Nat.le_refl _) (fun _ _ => rfl) (Nat.le_refl _) (fun _ _ _ => rfl) (fun b hb hm => ?_) (fun b hb hm => ?_) (fun j k' hj hr => ?_) (fun le j k' hj => ?_) (fun j j' k1 k2 hj hj' => ?_) (fun j k' hj hn => ?_) rfl rfl rfl
  · rw [hget] at hj; exact h.lt _ _ hj
  · rintro ⟨j, k', hj, r⟩; rw [hget] at hj; exact hm ⟨j, k', hj, r⟩
  · rintro ⟨j, k', hj, r⟩; rw [hget] at hj; exact hm ⟨j, k', hj, r⟩
  · rw [hget]; exact hj
  · rw [hget] at hj; exact .inl ⟨hj, fun _ => rfl⟩
  · rw [hget] at hj hj'; exact h.inj _ _ _ _ hj hj'
  · rw [hget] at hj; exact h.forb _ _ hj hn
/-- A block goes on under a new number, there or elsewhere. -/
theorem Rel.move (h : Rel F φ H w) {id : Nat} {k0 : Blk} (r : RS) (k : Blk) (hg : H.get id = some k0) (hk0 : k0.ro = false) (hkr : k.ro = false) (h3 : w.heap.size ≤ w'.heap.size)
    (h3' : ∀ b, b < w.heap.size → ((φ id).nil = false → b ≠ (φ id).blk) → w'.heap[b]? = w.heap[b]?) (hr : r.nil = false → w.heap.size ≤ r.blk ∨ ((φ id).nil = false ∧ r.blk = (φ id).blk))
    (hk : (cx F φ H w).Le (cx F (Go.Proofs.YtpkidbhpfohopaaDoor.upd φ H.n r) ((H.put id none).new k) w') → BRel (cx F (Go.Proofs.YtpkidbhpfohopaaDoor.upd φ H.n r) ((H.put id none).new k) w') r k)
    (ho : w'.os = w.os) (ht : w'.tape = w.tape) (hp : w'.output = w.output) : Rel F (Go.Proofs.YtpkidbhpfohopaaDoor.upd φ H.n r) ((H.put id none).new k) w' ∧ Ext F φ H w (Go.Proofs.YtpkidbhpfohopaaDoor.upd φ H.n r) ((H.put id none).new k) w' := by
  have hid : id < H.n := h.lt _ _ hg
  have key : ∀ j k', ((H.put id none).new k).get j = some k' → (j = H.n ∧ k' = k) ∨ (j ≠ H.n ∧ j ≠ id ∧ H.get j = some k') := fun j k' hg' => by
    by_cases e : j = H.n
    · subst e
      rw [show H.n = (H.put id none).n from rfl, Heap.get_new_same] at hg'
      injection hg' with hg'
      exact .inl ⟨rfl, hg'.symm⟩
    · rw [Heap.get_new_ne (H.put id none) _ (show j ≠ (H.put id none).n from e)] at hg'
      by_cases e2 : j = id
      · subst e2
        rw [Heap.get_put_same] at hg'
        cases hg'
      · rw [Heap.get_put_ne _ _ e2] at hg'
        exact .inr ⟨e, e2, hg'⟩
  have other : ∀ j k', H.get j = some k' → j ≠ id → (φ j).nil = false → r.nil = false → (φ j).blk ≠ r.blk := fun j k' hj hne hn hrn he => by
    rcases hr hrn with h1 | ⟨h1, h2⟩
    · have := (h.blk _ _ hj).lt hn
      simp only [cx] at this
      omega
    · exact hne (h.inj _ _ _ _ hg hj h1 hn (he.trans h2).symm).symm
  refine Rel.gen h (fun j k' hg' => ?_) (Nat.le_succ _) (fun j hj => upd_ne _ _ (Nat.ne_of_lt hj)) h3 (fun b hb hm => h3' b hb (fun hn e => hm ⟨id, k0, hg, hk0, hn, e.symm⟩)) (fun b hb hm => ?_) (fun b hb hm => ?_) (fun j k' hj hro => ?_) (fun le j k' hg' => ?_) (fun j j' k1 k2 hj hj' hn hn' he => ?_) (fun j k' hj hn => ?_) ho ht hp
  · rcases key j k' hg' with ⟨rfl, -⟩ | ⟨-, -, hg'⟩
    · exact Nat.lt_succ_self _
    · exact Nat.lt_succ_of_lt (h.lt _ _ hg')
  · rintro ⟨j, k', hg', hn, he⟩
    rcases key j k' hg' with ⟨rfl, -⟩ | ⟨hne, hne2, hg'⟩
    · rw [upd_same] at hn he
      rcases hr hn with h1 | ⟨h1, h2⟩
      · omega
      · exact hm ⟨id, k0, hg, h1, h2.symm.trans he⟩
    · rw [upd_ne _ _ hne] at hn he
      exact hm ⟨j, k', hg', hn, he⟩
  · rintro ⟨j, k', hg', hro, hn, he⟩
    rcases key j k' hg' with ⟨rfl, -⟩ | ⟨hne, hne2, hg'⟩
    · rw [upd_same] at hn he
      rcases hr hn with h1 | ⟨h1, h2⟩
      · omega
      · exact hm ⟨id, k0, hg, hk0, h1, h2.symm.trans he⟩
    · rw [upd_ne _ _ hne] at hn he
      exact hm ⟨j, k', hg', hro, hn, he⟩
  · have hne : j ≠ id := fun e => by
      subst e
      rw [hg] at hj
      injection hj with hj
      subst hj
      rw [hk0] at hro
      cases hro
    rw [Heap.get_new_ne (H.put id none) _ (show j ≠ (H.put id none).n from Nat.ne_of_lt (h.lt _ _ hj)), Heap.get_put_ne _ _ hne]
    exact hj
  · rcases key j k' hg' with ⟨rfl, rfl⟩ | ⟨hne, hne2, hg'⟩
    · right
      rw [upd_same]
      exact hk le
    · exact .inl ⟨hg', fun hnn => h3' _ ((h.blk _ _ hg').lt hnn) (fun hn e => hne2 (h.inj _ _ _ _ hg hg' hn hnn e.symm).symm)⟩
  · rcases key j k1 hj with ⟨rfl, -⟩ | ⟨hne, hne2, hj⟩ <;> rcases key j' k2 hj' with ⟨rfl, -⟩ | ⟨hne', hne2', hj'⟩
    · rfl
    · rw [upd_same] at hn he
      rw [upd_ne _ _ hne'] at hn' he
      exact absurd he.symm (other _ _ hj' hne2' hn' hn)
    · rw [upd_same] at hn' he
      rw [upd_ne _ _ hne] at hn he
      exact absurd he (other _ _ hj hne2 hn hn')
    · rw [upd_ne _ _ hne] at hn he
      rw [upd_ne _ _ hne'] at hn' he
      exact h.inj _ _ _ _ hj hj' hn hn' he
  · rcases key j k' hj with ⟨rfl, -⟩ | ⟨hne, hne2, hj⟩
    · rw [upd_same] at hn ⊢
      rcases hr hn with h1 | ⟨h1, h2⟩
      · exact fun hf => absurd (h.flt _ hf) (by omega)
      · rw [h2]
        exact h.forb _ _ hg h1
    · rw [upd_ne _ _ hne] at hn ⊢
      exact h.forb _ _ hj hn
end
/-! ### values of temporaries -/
def RV1 (C : Cx) : AV → Value → Prop
  | .undef, _ => True
  | .agg cs, v => ∃ vs : List Value, v = .agg vs.toArray ∧ Reps C cs vs
  | .tup _, _ => False
  | a, v => Reps C [a] [v]
def RVs (C : Cx) : List AV → List Value → Prop
  | [], [] => True
  | a :: as, v :: vs => RV1 C a v ∧ RVs C as vs
  | _, _ => False
def RV (C : Cx) : AV → Value → Prop
  | .tup l, v => ∃ vs : List Value, v = .tuple vs.toArray ∧ RVs C l vs
  | a, v => RV1 C a v
theorem RV1.mono {C C' : Cx} (hle : C.Le C') {a : AV} {v : Value} (h : RV1 C a v) : RV1 C' a v := by
  cases a <;> simp only [RV1] at h ⊢ <;> first | trivial | exact h.mono hle | (obtain ⟨vs, e, hr⟩ := h; exact ⟨vs, e, hr.mono hle⟩)
theorem RVs.mono {C C' : Cx} (hle : C.Le C') : ∀ {as : List AV} {vs : List Value}, RVs C as vs → RVs C' as vs
  | [], [], _ => trivial
  | a :: as, v :: vs, h => ⟨h.1.mono hle, RVs.mono hle h.2⟩
  | [], _ :: _, h => h.elim
  | _ :: _, [], h => h.elim
theorem RV.mono {C C' : Cx} (hle : C.Le C') {a : AV} {v : Value} (h : RV C a v) : RV C' a v := by
  cases a with
  | tup l => obtain ⟨vs, e, hr⟩ := h; exact ⟨vs, e, hr.mono hle⟩
  | _ => simp only [RV] at h ⊢; exact RV1.mono hle h
end Go.Proofs.YtpkidbhpfohopaaDoor

noncomputable section
namespace Go.Proofs.YtpkidbhpfohopaaDoor
open Go.RowKit
set_option linter.unusedVariables false
set_option linter.unusedSimpArgs false
inductive TK where
  | int (k : IntKind) | bool | str | ptr (e : Nat) | slice (e : Nat) | map (k e : Nat) | iface | struct (fs : List (Nat × Nat)) | array (n e : Nat) | other
def TK.agg : TK → Bool
  | .struct _ | .array _ _ => true
  | _ => false
structure TI where
  n : Nat
  bytes : Nat
  zero : List AV
  k : TK
  ty : Option Ty
/-- The cells of a plain zero. -/
def zfit : Nat → List AV → List Value → Bool
  | _, [], [] => true
  | d + 1, .int k n :: as, .int k' n' :: vs => decide (k = k' ∧ n = 0 ∧ n' = 0) && zfit d as vs
  | d + 1, .bool b :: as, .bool b' :: vs => decide (b = b') && zfit d as vs
  | d + 1, .str s :: as, .string s' :: vs => decide (s.size = 0 ∧ s'.size = 0) && zfit d as vs
  | d + 1, .nilp :: as, .pointer none :: vs => zfit d as vs
  | d + 1, .nils :: as, .slice none 0 0 :: vs => zfit d as vs
  | d + 1, .nilm :: as, .map none :: vs => zfit d as vs
  | d + 1, .ifz :: as, .nilIface :: vs => zfit d as vs
  | d + 1, .arr n t xs :: as, vs => decide (xs.length = n ∧ n * t.sz ≤ vs.length) && zfit d (xs.flatMap (enc t)) (vs.take (n * t.sz)) && zfit d as (vs.drop (n * t.sz))
  | _, _, _ => false
theorem zfit_ok {C : Cx} : ∀ (d : Nat) (as : List AV) (vs : List Value), zfit d as vs = true → Reps C as vs := by
  intro d as vs
  fun_induction zfit d as vs with
  | case1 => exact fun _ => .nil
  | case2 d k n as k' n' vs ih =>
    intro h
    simp only [Bool.and_eq_true, decide_eq_true_eq] at h
    obtain ⟨⟨rfl, rfl, rfl⟩, h⟩ := h
    exact .int (by cases k <;> decide) (by cases k <;> decide) (ih h)
  | case3 d b as b' vs ih =>
    intro h
    simp only [Bool.and_eq_true, decide_eq_true_eq] at h
    obtain ⟨rfl, h⟩ := h
    exact .bool (ih h)
  | case4 d s as s' vs ih =>
    intro h
    simp only [Bool.and_eq_true, decide_eq_true_eq] at h
    obtain ⟨⟨h1, h2⟩, h⟩ := h
    have : s = s' := by
      obtain ⟨x⟩ := s
      obtain ⟨y⟩ := s'
      simp only [ByteArray.size] at h1 h2
      rw [Array.eq_empty_of_size_eq_zero h1, Array.eq_empty_of_size_eq_zero h2]
    subst this
    exact .str (by rw [h1]; exact Nat.zero_le _) (ih h)
  | case5 d as vs ih => exact fun h => .nilp (ih h)
  | case6 d as vs ih => exact fun h => .nils (ih h)
  | case7 d as vs ih => exact fun h => .nilm (ih h)
  | case8 d as vs ih => exact fun h => .ifz (ih h)
  | case9 d n t xs as vs ih1 ih2 =>
    intro h
    simp only [Bool.and_eq_true, decide_eq_true_eq] at h
    obtain ⟨⟨⟨h1, h2⟩, h3⟩, h4⟩ := h
    have := Reps.arr (ih1 h3) h1 (ih2 h4)
    rwa [List.take_append_drop] at this
  | case10 => exact fun h => by cases h
/-- Is it a struct's or an array's value? -/
def aggV : Value → Bool
  | .agg _ => true
  | _ => false
structure TIok (P : Program) (t : Nat) (i : TI) : Prop where
  info : ∃ j z, P.info? t = some j ∧ j.size = i.n ∧ j.bytes = i.bytes ∧ j.zero = some z ∧ z.cells.size = i.n ∧ ∀ C, Reps C i.zero z.cells.toList
  shape : ∀ j z, P.info? t = some j → j.zero = some z → aggV z = i.k.agg
  und : ∃ d, P.underlying t = some d ∧ (match d with | .struct _ | .array _ _ => true | _ => false) = i.k.agg ∧
    (match i.k with
      | .int k => d = .int k
      | .bool => d = .bool
      | .str => d = .string
      | .ptr e => d = .pointer e
      | .slice e => d = .slice e
      | .map k e => d = .map k e
      | .iface => ∃ ms, d = .interface ms
      | .struct fs => ∃ F, d = .struct F ∧ F.toList.map (fun f => (f.offset, f.type)) = fs
      | .array n e => d = .array n e
      | .other => True)
def TK.fit : TK → TypeDesc → Bool
  | .int k, .int k' => decide (k = k')
  | .bool, .bool => true
  | .str, .string => true
  | .ptr e, .pointer e' => Nat.beq e e'
  | .slice e, .slice e' => Nat.beq e e'
  | .map k e, .map k' e' => Nat.beq k k' && Nat.beq e e'
  | .iface, .interface _ => true
  | .struct fs, .struct F => decide (F.toList.map (fun f => (f.offset, f.type)) = fs)
  | .array n e, .array n' e' => Nat.beq n n' && Nat.beq e e'
  | _, _ => false
def tiFits (P : Program) (t : Nat) (i : TI) : Bool :=
  match P.info? t, P.underlying t with
  | some j, some d => Nat.beq j.size i.n && Nat.beq j.bytes i.bytes && (match j.zero with | some z => Nat.beq z.cells.size i.n && zfit 300 i.zero z.cells.toList && (aggV z == i.k.agg) | none => false) && i.k.fit d
  | _, _ => false
theorem tiFits_ok {P : Program} {t : Nat} {i : TI} (h : tiFits P t i = true) : TIok P t i := by
  unfold tiFits at h
  split at h
  · rename_i j d hj hd
    simp only [Bool.and_eq_true] at h
    obtain ⟨⟨⟨h1, h2⟩, h3⟩, h4⟩ := h
    split at h3
    · rename_i z hz
      simp only [Bool.and_eq_true] at h3
      refine ⟨⟨j, z, hj, Nat.eq_of_beq_eq_true h1, Nat.eq_of_beq_eq_true h2, hz, Nat.eq_of_beq_eq_true h3.1.1, fun C => zfit_ok _ _ _ h3.1.2⟩, fun j' z' hj' hz' => by
        rw [hj] at hj'; injection hj' with hj'; subst hj'; rw [hz] at hz'; injection hz' with hz'; subst hz'; exact eq_of_beq h3.2, ⟨d, hd, ?_, ?_⟩⟩
      · cases hk : i.k <;> cases d <;> rw [hk] at h4 <;> first | rfl | cases h4
      · cases hk : i.k <;> cases d <;> rw [hk] at h4 <;> first
          | (cases h4; done)
          | rfl
          | exact ⟨_, rfl⟩
          | (simp only [TK.fit, decide_eq_true_eq] at h4; subst h4; rfl)
          | (simp only [TK.fit, decide_eq_true_eq] at h4; exact ⟨_, rfl, h4⟩)
          | (simp only [TK.fit, Bool.and_eq_true] at h4; rw [Nat.eq_of_beq_eq_true h4.1, Nat.eq_of_beq_eq_true h4.2])
          | (simp only [TK.fit] at h4; rw [Nat.eq_of_beq_eq_true h4])
    · cases h3
  · cases h
theorem Reps.one {C : Cx} {as : List AV} {vs : List Value} (h : Reps C as vs) : ∀ v ∈ vs, v.oneCell' = true := by
  induction h with
  | nil => simp
  | arr h hk h2 ih1 ih2 => intro v hv; rcases List.mem_append.1 hv with h | h; exact ih1 v h; exact ih2 v h
  | slc a h ih =>
    intro v hv
    rcases List.mem_cons.1 hv with rfl | h
    · unfold RS.sl; split <;> rfl
    · exact ih v h
  | @hdl k id as vs a h ih =>
    intro v hv
    rcases List.mem_cons.1 hv with rfl | h
    · cases k <;> rfl
    · exact ih v h
  | vsl ws a b c d h ih1 ih2 =>
    intro v hv
    rcases List.mem_cons.1 hv with rfl | h
    · rfl
    · exact ih2 v h
  | vptr ws a b c d h ih1 ih2 =>
    intro v hv
    rcases List.mem_cons.1 hv with rfl | h
    · rfl
    · exact ih2 v h
  | _ =>
    rename_i ih
    intro v hv
    rcases List.mem_cons.1 hv with rfl | h
    · rfl
    · exact ih v h
theorem flat_get {C : Cx} {t : Ty} : ∀ (xs : List t.den) (i : Nat) (us : List Value), i < xs.length → Reps C (xs.flatMap (enc t)) us →
    ∃ ws, Reps C (enc t (xs.getD i t.dflt)) ws ∧ ws.length = t.sz ∧ ws = (us.drop (i * t.sz)).take t.sz ∧ i * t.sz + t.sz ≤ us.length ∧ ∀ j v, ws[j]? = some v → us[i * t.sz + j]? = some v := by
  intro xs
  induction xs with
  | nil => intro i us h; simp at h
  | cons x xs ih =>
    intro i us h hr
    rw [List.flatMap_cons] at hr
    obtain ⟨u1, u2, rfl, h1, h2⟩ := Reps.append_inv hr
    have hl : u1.length = t.sz := by rw [h1.length, enc_cells]
    cases i with
    | zero =>
      refine ⟨u1, by simpa using h1, hl, ?_, by simp; omega, fun j v hv => ?_⟩
      · simp [← hl]
      · rw [Nat.zero_mul, Nat.zero_add, List.getElem?_append_left (List.getElem?_eq_some_iff.1 hv).1]
        exact hv
    | succ i =>
      obtain ⟨ws, h3, h4, h5, h6, h7⟩ := ih i u2 (by simpa using h) h2
      have e : (i + 1) * t.sz = u1.length + i * t.sz := by rw [Nat.succ_mul, hl]; omega
      refine ⟨ws, by simpa using h3, h4, ?_, by rw [List.length_append, e]; omega, fun j v hv => ?_⟩
      · rw [e, List.drop_length_add_append]
        exact h5
      · rw [e, Nat.add_assoc, List.getElem?_append_right (by omega), Nat.add_sub_cancel_left]
        exact h7 j v hv
theorem flat_set {C : Cx} {t : Ty} : ∀ (xs : List t.den) (i : Nat) (y : t.den) (us ws : List Value), i < xs.length → Reps C (xs.flatMap (enc t)) us → Reps C (enc t y) ws →
    Reps C ((xs.set i y).flatMap (enc t)) (spl us (i * t.sz) ws) := by
  have hlw : ∀ {y : t.den} {ws : List Value}, Reps C (enc t y) ws → ws.length = t.sz := fun h => by rw [h.length, enc_cells]
  unfold spl
  intro xs
  induction xs with
  | nil => intro i y us ws h; simp at h
  | cons x xs ih =>
    intro i y us ws h hr hw
    rw [List.flatMap_cons] at hr
    obtain ⟨u1, u2, rfl, h1, h2⟩ := Reps.append_inv hr
    have hl : u1.length = t.sz := by rw [h1.length, enc_cells]
    cases i with
    | zero =>
      simp only [List.set_cons_zero, List.flatMap_cons, Nat.zero_mul, List.take_zero, List.nil_append, Nat.zero_add]
      rw [hlw hw, ← hl, List.drop_left]
      exact Reps.append hw h2
    | succ i =>
      have e : (i + 1) * t.sz = u1.length + i * t.sz := by rw [Nat.succ_mul, hl]; omega
      simp only [List.set_cons_succ, List.flatMap_cons]
      rw [e, List.take_length_add_append, Nat.add_assoc, List.drop_length_add_append, List.append_assoc, List.append_assoc]
      refine Reps.append h1 ?_
      rw [← List.append_assoc]
      exact ih i y u2 ws (by simpa using h) h2 hw
/-! ### reading -/
def readIn (cs : List AV) (p : Path) (n : Nat) (pre : Prop) : Option (Prop × List AV) :=
  match p.j with
  | none => match dropC cs p.k with
    | some ds => match takeC ds n with
      | some es => some (pre, es)
      | none => none
    | none => none
  | some (j, s) => match dropC cs p.k with
    | some (.arr m t ys :: _) => bif Nat.beq n t.sz then (bif Nat.beq s t.sz then some (pre ∧ j < m, enc t (ys.getD j t.dflt)) else none) else none
    | _ => none
def readL (H : Heap) (id : Nat) (p : Path) (n : Nat) : Option (Prop × List AV) :=
  match H.get id with
  | some (.objT _ _ cs) => bif Nat.beq p.s 0 then readIn cs p n True else none
  | some (.seq _ e t xs) => bif Nat.beq p.s t.sz then readIn (enc t (xs.getD p.i t.dflt)) p n (p.i < xs.length) else none
  | _ => none
theorem readIn_ok {C : Cx} {cs : List AV} {p : Path} {n : Nat} {pre q : Prop} {es : List AV} {us : List Value} (h : readIn cs p n pre = some (q, es)) (hq : q) (hr : Reps C cs us) :
    pre ∧ ∃ vs, Reps C es vs ∧ vs.length = n ∧ p.inn + n ≤ us.length ∧ ∀ j v, vs[j]? = some v → us[p.inn + j]? = some v := by
  unfold readIn at h
  cases hj : p.j with
  | none =>
    simp only [hj] at h
    cases hd : dropC cs p.k with
    | none => simp only [hd, reduceCtorEq] at h
    | some ds =>
      simp only [hd] at h
      cases ht : takeC ds n with
      | none => simp only [ht, reduceCtorEq] at h
      | some es' =>
        simp only [ht, Option.some.injEq, Prod.mk.injEq] at h
        obtain ⟨rfl, rfl⟩ := h
        have h1 := dropC_spec _ _ _ _ hd hr
        obtain ⟨h2, h3, h4⟩ := takeC_spec _ _ _ _ ht h1
        rw [List.length_drop] at h4
        have hkl : p.k ≤ us.length := by rw [hr.length]; exact putC_spec.dropC_le _ _ _ hd
        refine ⟨hq, _, h2, by rw [h2.length, h3], by simp only [Path.inn, Path.jn, hj]; omega, fun j v hv => ?_⟩
        rw [List.getElem?_take] at hv
        split at hv
        · rw [List.getElem?_drop] at hv
          simpa [Path.inn, Path.jn, hj] using hv
        · cases hv
  | some js =>
    obtain ⟨j, s⟩ := js
    simp only [hj] at h
    split at h
    · rename_i m t ys rest hd
      cases e1 : Nat.beq n t.sz with
      | false => rw [e1] at h; cases h
      | true =>
        cases e2 : Nat.beq s t.sz with
        | false => rw [e1, e2] at h; cases h
        | true =>
          rw [e1, e2] at h
          simp only [cond_true, Option.some.injEq, Prod.mk.injEq] at h
          obtain ⟨rfl, rfl⟩ := h
          have en := Nat.eq_of_beq_eq_true e1
          have es := Nat.eq_of_beq_eq_true e2
          subst en es
          have h1 := dropC_spec _ _ _ _ hd hr
          obtain ⟨u1, u2, e3, h2, h3⟩ := h1.cons_inv
          have hkl : p.k ≤ us.length := by rw [hr.length]; exact putC_spec.dropC_le _ _ _ hd
          cases h2 with
          | arr h4 h5 h6 =>
            rename_i us' vs'
            have := h6.nil_inv
            subst this
            rw [List.append_nil] at e3
            obtain ⟨ws, h7, h8, h9, h10, h11⟩ := flat_get ys j us' (by omega) h4
            have hlen := congrArg List.length e3
            rw [List.length_drop, List.length_append] at hlen
            refine ⟨hq.1, ws, h7, h8, by simp only [Path.inn, Path.jn, hj]; omega, fun j' v hv => ?_⟩
            have := h11 j' v hv
            have hlt := (List.getElem?_eq_some_iff.1 this).1
            simp only [Path.inn, Path.jn, hj]
            rw [show p.k + j * t.sz + j' = p.k + (j * t.sz + j') from by omega, ← List.getElem?_drop, e3, List.getElem?_append_left hlt]
            exact this
    · cases h
section
variable {F : Nat → Prop} {φ : Nat → RS} {H : Heap} {w : World}
theorem readL_ok (hR : Rel F φ H w) {id : Nat} {p : Path} {n : Nat} {q : Prop} {es : List AV} (h : readL H id p n = some (q, es)) (hq : q) :
    (φ id).nil = false ∧ ∃ vs, Reps (cx F φ H w) es vs ∧ vs.length = n ∧ ∀ j v, vs[j]? = some v → w.cell? ⟨(φ id).blk, p.off + j, none⟩ = some v := by
  unfold readL at h
  split at h
  · rename_i ro cs hg
    cases e : Nat.beq p.s 0 with
    | false => rw [e] at h; cases h
    | true =>
      rw [e] at h
      obtain ⟨hn, us, el, hb, hr⟩ := hR.blk _ _ hg
      obtain ⟨-, vs, h1, h2, h3, h4⟩ := readIn_ok h hq hr
      have es0 := Nat.eq_of_beq_eq_true e
      refine ⟨hn, vs, h1, h2, fun j v hv => ?_⟩
      have : p.off = p.inn := by simp [Path.off, es0]
      show (cx F φ H w).w.cell? _ = _
      rw [this, blk_cell hb]
      have := h4 j v hv
      simpa using this
  · rename_i ro el t xs hg
    cases e : Nat.beq p.s t.sz with
    | false => rw [e] at h; cases h
    | true =>
      rw [e] at h
      obtain ⟨hl, hn, us, hr, ho⟩ := hR.blk _ _ hg
      have es0 := Nat.eq_of_beq_eq_true e
      by_cases hi : p.i < xs.length
      · obtain ⟨ws, g1, g2, g3, g4, g5⟩ := flat_get xs p.i us hi hr
        obtain ⟨-, vs, h1, h2, h3, h4⟩ := readIn_ok h hq g1
        have hnil : (φ id).nil = false := by
          cases hx : (φ id).nil with
          | false => rfl
          | true => rw [hn hx] at hi; simp at hi
        refine ⟨hnil, vs, h1, h2, fun j v hv => ?_⟩
        have hc := ho.cells (g := (φ id).blk) (by simp [RS.sl, hnil, Value.ownBlock]) _ v (g5 _ v (h4 j v hv))
        have ea : ((⟨(φ id).blk, 0, none⟩ : Addr).add (p.i * t.sz + (p.inn + j))) = ⟨(φ id).blk, p.off + j, none⟩ := by
          have : p.off + j = p.i * t.sz + (p.inn + j) := by simp [Path.off, es0]; omega
          rw [this, Addr.add_lit, Nat.zero_add]
        rwa [ea] at hc
      · exact absurd (readIn_pre h hq) hi
  · cases h
where
  readIn_pre {cs : List AV} {p : Path} {n : Nat} {pre q : Prop} {es : List AV} (h : readIn cs p n pre = some (q, es)) (hq : q) : pre := by
    unfold readIn at h
    split at h
    · split at h
      · split at h
        · simp only [Option.some.injEq, Prod.mk.injEq] at h
          obtain ⟨rfl, -⟩ := h
          exact hq
        · cases h
      · cases h
    · split at h
      · rename_i m t ys r hd
        simp only [Bool.cond_eq_ite] at h
        split at h
        · split at h
          · simp only [Option.some.injEq, Prod.mk.injEq] at h
            obtain ⟨rfl, -⟩ := h
            exact hq.1
          · cases h
        · cases h
      · cases h
end
end Go.Proofs.YtpkidbhpfohopaaDoor

noncomputable section
namespace Go.Proofs.YtpkidbhpfohopaaDoor
open Go.RowKit
set_option linter.unusedVariables false
set_option linter.unusedSimpArgs false
/-! ### writing in an element -/
def writeIn (cs : List AV) (p : Path) (bs : List AV) : Option (Prop × List AV) :=
  match p.j with
  | none => match putC cs p.k bs with
    | some ds => some (True, ds)
    | none => none
  | some (j, s) => match dropC cs p.k with
    | some (.arr m t ys :: _) => match dec t bs with
      | some y => bif Nat.beq s t.sz then (match putC cs p.k [.arr m t (ys.set j y)] with
        | some ds => some (j < m, ds)
        | none => none) else none
      | none => none
    | _ => none
theorem writeIn_ok {C : Cx} {cs bs ds : List AV} {p : Path} {q : Prop} {us ws : List Value} (h : writeIn cs p bs = some (q, ds)) (hq : q) (hr : Reps C cs us) (hw : Reps C bs ws) :
    Reps C ds (spl us p.inn ws) ∧ p.inn + ws.length ≤ us.length := by
  unfold writeIn at h
  cases hj : p.j with
  | none =>
    simp only [hj] at h
    split at h
    · rename_i ds' hp
      simp only [Option.some.injEq, Prod.mk.injEq] at h
      obtain ⟨rfl, rfl⟩ := h
      obtain ⟨h1, h2, -⟩ := putC_spec hp hr hw
      have e : p.inn = p.k := by simp [Path.inn, Path.jn, hj]
      rw [e]
      exact ⟨h1, h2⟩
    · cases h
  | some js =>
    obtain ⟨j, s⟩ := js
    simp only [hj] at h
    split at h
    · rename_i m t ys rest hd
      split at h
      · rename_i y hy
        simp only [Bool.cond_eq_ite] at h
        split at h
        · rename_i hs
          split at h
          · rename_i ds' hp
            simp only [Option.some.injEq, Prod.mk.injEq] at h
            obtain ⟨rfl, rfl⟩ := h
            have es := Nat.eq_of_beq_eq_true hs
            have h1 := dropC_spec _ _ _ _ hd hr
            obtain ⟨u1, u2, e3, h2, h3⟩ := h1.cons_inv
            have hkl : p.k ≤ us.length := by rw [hr.length]; exact putC_spec.dropC_le _ _ _ hd
            have hwy := dec_spec hy hw
            have hlw : ws.length = t.sz := by rw [hwy.length, enc_cells]
            cases h2 with
            | arr h4 h5 h6 =>
              rename_i us' vs'
              have := h6.nil_inv
              subst this
              rw [List.append_nil] at e3
              have hl' : us'.length = m * t.sz := by rw [h4.length, flat_cells, h5]
              have hset := flat_set ys j y us' ws (by omega) h4 hwy
              have hjm : j * t.sz + t.sz ≤ m * t.sz := by rw [← Nat.succ_mul]; exact Nat.mul_le_mul_right _ hq
              have hsl : (spl us' (j * t.sz) ws).length = us'.length := spl_length _ _ _ (by omega)
              obtain ⟨h7, h8, -⟩ := putC_spec hp hr (Reps.arr (C := C) hset (by rw [List.length_set]; exact h5) Reps.nil)
              rw [List.append_nil] at h7 h8
              have hlen := congrArg List.length e3
              rw [List.length_drop, List.length_append] at hlen
              have e4 : us' = (us.drop p.k).take (m * t.sz) := by rw [e3, List.take_left' (by omega)]
              have e5 : p.inn = p.k + j * t.sz := by simp [Path.inn, Path.jn, hj, es]
              rw [e4, spl_nest _ _ _ _ _ (by omega) (by omega)] at h7
              rw [e5]
              exact ⟨h7, by omega⟩
          · cases h
        · cases h
      · cases h
    · cases h
/-! ### a row of cells is written -/
section
variable {F : Nat → Prop} {φ : Nat → RS} {H : Heap} {w : World}
theorem setRow_facts (w : World) (g : Nat) (cs : Array Value) : (w.setRow g cs).os = w.os ∧ (w.setRow g cs).tape = w.tape ∧ (w.setRow g cs).output = w.output ∧ (w.setRow g cs).heap.size = w.heap.size ∧ ∀ b, b ≠ g → (w.setRow g cs).heap[b]? = w.heap[b]? :=
  ⟨rfl, rfl, rfl, by simp [World.setRow], fun b hb => setRow_other w g b cs hb⟩
/-- Into an object. -/
theorem store_obj (hR : Rel F φ H w) {id : Nat} {ty : Option Nat} {cs : List AV} (hg : H.get id = some (.objT false ty cs)) {p : Path} (hs : p.s = 0) {bs ds : List AV} {q : Prop} (h : writeIn cs p bs = some (q, ds)) (hq : q) {ws : List Value} (hw : Reps (cx F φ H w) bs ws) :
    ∃ cur e, w.heap[(φ id).blk]? = some (.cells cur e (0, 0)) ∧ p.off + ws.length ≤ cur.size ∧
      Rel F φ (H.put id (some (.objT false ty ds))) (w.setRow (φ id).blk (spl cur.toList p.off ws).toArray) ∧ Ext F φ H w φ (H.put id (some (.objT false ty ds))) (w.setRow (φ id).blk (spl cur.toList p.off ws).toArray) := by
  obtain ⟨hn, cur, e, hb, hr⟩ := hR.blk _ _ hg
  obtain ⟨h1, h2⟩ := writeIn_ok h hq hr hw
  have ho : p.off = p.inn := by simp [Path.off, hs]
  obtain ⟨f1, f2, f3, f4, f5⟩ := setRow_facts w (φ id).blk (spl cur.toList p.off ws).toArray
  refine ⟨cur, _, hb, by rw [ho]; simpa using h2, ?_⟩
  refine Rel.upd hR _ hg rfl rfl hn (Nat.le_of_eq f4.symm) (fun b _ hne => f5 b hne) (fun le => ?_) f1 f2 f3
  refine ⟨hn, _, e, setRow_heap w _ cur _ _ _ hb, ?_⟩
  rw [ho] at le ⊢
  rw [List.toList_toArray]
  exact h1.mono le
theorem ownsRow_splice {w : World} {e sz n g cap : Nat} {us : List Value} (ho : w.ownsRow 0 e sz (.slice (some ⟨g, 0, none⟩) n cap) n us) {o : Nat} {ws : List Value} (hl : o + ws.length ≤ n * sz) :
    ∃ cur, w.heap[g]? = some (.cells cur e (0, 0)) ∧ o + ws.length ≤ cur.size ∧ (w.setRow g (spl cur.toList o ws).toArray).ownsRow 0 e sz (.slice (some ⟨g, 0, none⟩) n cap) n (spl us o ws) := by
  obtain ⟨h1, h2⟩ := ho
  rcases h2 with ⟨h, _⟩ | ⟨g', cap', cur, h, h3, hg, h4, h5, h6, h7⟩
  · cases h
  · simp only [Value.slice.injEq, Option.some.injEq, Addr.mk.injEq, and_true, true_and] at h
    obtain ⟨rfl, rfl⟩ := h
    have hle : n * sz ≤ cur.size := by rw [h6]; exact Nat.mul_le_mul_right _ h4
    have hcl : cur.toList.length = cur.size := Array.length_toList
    refine ⟨cur, hg, by omega, by rw [spl_length us _ _ (by omega), h1], .inr ⟨g, cap, _, rfl, h3, setRow_heap w g cur _ e _ hg, h4, h5, ?_, ?_⟩⟩
    · rw [List.size_toArray, spl_length cur.toList _ _ (by omega), Array.length_toList, h6]
    · rw [List.toList_toArray, spl_take cur.toList o (n * sz) ws (by omega) (by omega), h7]
/-- Into an element of a list. -/
theorem store_seq (hR : Rel F φ H w) {id : Nat} {e : Nat} {t : Ty} {xs : List t.den} (hg : H.get id = some (.seq false e t xs)) {p : Path} (hs : p.s = t.sz) {bs ds : List AV} {q : Prop} (hi : p.i < xs.length) (h : writeIn (enc t (xs.getD p.i t.dflt)) p bs = some (q, ds)) (hq : q)
    {y : t.den} (hy : dec t ds = some y) {ws : List Value} (hw : Reps (cx F φ H w) bs ws) :
    ∃ cur, w.heap[(φ id).blk]? = some (.cells cur e (0, 0)) ∧ p.off + ws.length ≤ cur.size ∧
      Rel F φ (H.put id (some (.seq false e t (xs.set p.i y)))) (w.setRow (φ id).blk (spl cur.toList p.off ws).toArray) ∧ Ext F φ H w φ (H.put id (some (.seq false e t (xs.set p.i y)))) (w.setRow (φ id).blk (spl cur.toList p.off ws).toArray) := by
  obtain ⟨hl, hn, us, hr, ho⟩ := hR.blk _ _ hg
  have hnil : (φ id).nil = false := by
    cases hx : (φ id).nil with
    | false => rfl
    | true => rw [hn hx] at hi; simp at hi
  obtain ⟨el, g1, g2, g3, g4, g5⟩ := flat_get xs p.i us hi hr
  obtain ⟨h1, h2⟩ := writeIn_ok h hq g1 hw
  have h3 := dec_spec hy h1
  have h4 := flat_set xs p.i y us _ hi hr h3
  have hoff : p.off = p.i * t.sz + p.inn := by simp [Path.off, hs]
  have hus : us.length = xs.length * t.sz := by rw [hr.length, flat_cells]
  rw [g3, spl_nest _ _ _ _ _ (by omega) (by omega), ← hoff] at h4
  have hsl : (φ id).sl = .slice (some ⟨(φ id).blk, 0, none⟩) xs.length (φ id).cap := by simp [RS.sl, hnil, hl]
  rw [hsl] at ho
  obtain ⟨cur, hc, hfit, ho'⟩ := ownsRow_splice (w := w) ho (o := p.off) (ws := ws) (by omega)
  obtain ⟨f1, f2, f3, f4, f5⟩ := setRow_facts w (φ id).blk (spl cur.toList p.off ws).toArray
  refine ⟨cur, hc, hfit, Rel.upd hR _ hg rfl rfl hnil (Nat.le_of_eq f4.symm) (fun b _ hne => f5 b hne) (fun le => ?_) f1 f2 f3⟩
  refine ⟨by rw [List.length_set]; exact hl, fun hx => (by rw [hnil] at hx; cases hx), _, h4.mono le, ?_⟩
  rw [hsl, List.length_set]
  exact ho'
/-! ### a block is written no more: its slice is a value -/
theorem Rel.dropR (h : Rel F φ H w) (id : Nat) : Rel F φ (H.put id none) w ∧ (cx F φ H w).Le (cx F φ (H.put id none) w) := by
  have old : ∀ j k', (H.put id none).get j = some k' → H.get j = some k' := fun j k' hg' => by
    by_cases e : j = id
    · subst e
      rw [Heap.get_put_same] at hg'
      cases hg'
    · rwa [Heap.get_put_ne _ _ e] at hg'
  have le : (cx F φ H w).Le (cx F φ (H.put id none) w) := ⟨fun _ _ => rfl, Nat.le_refl _, fun b hb hm => by
      rintro (⟨j, k, hj, r⟩ | hf)
      · exact hm (.inl ⟨j, k, old _ _ hj, r⟩)
      · exact hm (.inr hf), Nat.le_refl _, fun _ _ _ => rfl, fun b hb hm => by
      rintro ⟨j, k, hj, r⟩
      exact hm ⟨j, k, old _ _ hj, r⟩⟩
  exact ⟨⟨h.st, fun j k hj => h.lt _ _ (old _ _ hj), fun j k hj => (h.blk _ _ (old _ _ hj)).mono le (fun _ => rfl), fun j j' k k' hj hj' => h.inj _ _ _ _ (old _ _ hj) (old _ _ hj'), fun j k hj => h.forb _ _ (old _ _ hj), h.flt⟩, le⟩
theorem freeze_ok (hR : Rel F φ H w) {id : Nat} {ro : Bool} {e : Nat} {t : Ty} {xs : List t.den} (hg : H.get id = some (.seq ro e t xs)) :
    Reps (cx F φ (H.put id none) w) [.vsl t xs] [(φ id).sl] := by
  obtain ⟨hl, hn, us, hr, ho⟩ := hR.blk _ _ hg
  have le := (hR.dropR id).2
  have hrm := hr.mono le
  cases hx : (φ id).nil with
  | true =>
    have := hn hx
    subst this
    rw [show (φ id).sl = .slice none 0 0 from by simp [RS.sl, hx]]
    exact Reps.vsl (t := t) (xs := []) (fun _ => []) (Nat.le_refl _) ⟨Nat.zero_le _, fun _ => rfl⟩ (fun h => absurd h (by simp)) (fun i x h => by simp at h) .nil
  | false =>
    have hsl : (φ id).sl = .slice (some ⟨(φ id).blk, 0, none⟩) xs.length (φ id).cap := by simp [RS.sl, hx, hl]
    rw [hsl]
    rw [hsl] at ho
    have hcells := ho.cells (g := (φ id).blk) rfl
    have hcap : xs.length ≤ (φ id).cap ∧ (φ id).cap ≤ maxLen := by
      rcases ho.2 with ⟨h, _⟩ | ⟨g', cap', cur, h, h3, hg, h4, h5, h6, h7⟩
      · cases h
      · simp only [Value.slice.injEq, Option.some.injEq, Addr.mk.injEq, and_true, true_and] at h
        obtain ⟨-, rfl⟩ := h
        exact ⟨h4, h5⟩
    have hsz : us.length = xs.length * t.sz := by rw [hr.length, flat_cells]
    refine Reps.vsl (fun i => (us.drop (i * t.sz)).take t.sz) hcap.1 ⟨hcap.2, fun h => by cases h⟩ (fun h0 => ⟨(φ id).blk, 0, rfl, ?_, ?_, fun i hi j v hv => ?_⟩) (fun i x hi => ?_) .nil
    · rintro (⟨id', k', hg', hn', he'⟩ | hf)
      rotate_left
      · exact hR.forb _ _ hg hx hf
      by_cases e : id' = id
      · subst e
        rw [Heap.get_put_same] at hg'
        cases hg'
      · rw [Heap.get_put_ne _ _ e] at hg'
        exact e (hR.inj _ _ _ _ hg hg' hx hn' he'.symm).symm
    · exact (ho.lt _ rfl).2
    · rw [List.getElem?_take] at hv
      split at hv
      · rw [List.getElem?_drop] at hv
        have := hcells _ v hv
        rw [Addr.add_lit] at this
        rw [Nat.zero_add] at this ⊢
        exact this
      · cases hv
    · have hlt := (List.getElem?_eq_some_iff.1 hi).1
      obtain ⟨ws, g1, g2, g3, -⟩ := flat_get xs i us hlt hrm
      rw [← g3]
      have : xs.getD i t.dflt = x := by rw [List.getD_eq_getElem?_getD, hi]; rfl
      rw [← this]
      exact g1
def frzL : Heap → List AV → List AV × Heap
  | H, [] => ([], H)
  | H, .slc id :: as => match H.get id with
    | some (.seq false e t xs) => match frzL (H.put id none) as with
      | (bs, H') => (.vsl t xs :: bs, H')
    | _ => match frzL H as with
      | (bs, H') => (.slc id :: bs, H')
  | H, a :: as => match frzL H as with
      | (bs, H') => (a :: bs, H')
theorem frzL_ok : ∀ (as : List AV) (H : Heap) (vs : List Value), Rel F φ H w → Reps (cx F φ H w) as vs → Rel F φ (frzL H as).2 w ∧ Ext F φ H w φ (frzL H as).2 w ∧ Reps (cx F φ (frzL H as).2 w) (frzL H as).1 vs
  | [], H, vs, hR, hr => ⟨hR, Ext.refl _ _ _ _, hr⟩
  | a :: as, H, vs, hR, hr => by
    obtain ⟨u1, u2, rfl, h1, h2⟩ := hr.cons_inv
    have other : frzL H (a :: as) = (a :: (frzL H as).1, (frzL H as).2) → Rel F φ (frzL H (a :: as)).2 w ∧ Ext F φ H w φ (frzL H (a :: as)).2 w ∧ Reps (cx F φ (frzL H (a :: as)).2 w) (frzL H (a :: as)).1 (u1 ++ u2) := fun e => by
      obtain ⟨h3, h4, h5⟩ := frzL_ok as H u2 hR h2
      rw [e]
      exact ⟨h3, h4, Reps.append (as := [a]) (h1.mono h4.le) h5⟩
    cases a with
    | slc id =>
      cases hg : H.get id with
      | none => exact other (by simp only [frzL, hg])
      | some k =>
        cases k with
        | objT ro ty cs => exact other (by simp only [frzL, hg])
        | map ro t es => exact other (by simp only [frzL, hg])
        | seq ro e t xs =>
          cases ro with
          | true => exact other (by simp only [frzL, hg])
          | false =>
          obtain ⟨d1, d2⟩ := hR.drop id (fun k hk => by rw [hg] at hk; injection hk with hk; rw [← hk]; rfl)
          obtain ⟨h3, h4, h5⟩ := frzL_ok as (H.put id none) u2 d1 (h2.mono d2.le)
          have e1 : frzL H (.slc id :: as) = (.vsl t xs :: (frzL (H.put id none) as).1, (frzL (H.put id none) as).2) := by simp only [frzL, hg]
          rw [e1]
          refine ⟨h3, d2.trans h4, Reps.append (as := [.vsl t xs]) ?_ h5⟩
          have := freeze_ok hR hg
          cases h1 with
          | slc _ h => 
            have := h.nil_inv
            subst this
            exact (freeze_ok hR hg).mono h4.le
    | _ => exact other rfl
/-! ### new memory -/
theorem new_obj (hR : Rel F φ H w) {cs : List AV} {vs : Array Value} (hr : Reps (cx F φ H w) cs vs.toList) (e : TypeId) :
    Rel F (upd φ H.n ⟨w.heap.size, 0, 0, false⟩) (H.new (.obj false cs)) (w.alloc (.cells vs e)) ∧ Ext F φ H w (upd φ H.n ⟨w.heap.size, 0, 0, false⟩) (H.new (.obj false cs)) (w.alloc (.cells vs e)) := by
  refine Rel.new hR _ _ rfl (by simp) (fun b hb => Below.heap_alloc w _ b hb) (fun _ => Nat.le_refl _) (fun le => ?_) rfl rfl rfl
  exact ⟨rfl, vs, e, heap_alloc_new w _, hr.mono le⟩
theorem new_objO (hR : Rel F φ H w) {cs : List AV} {vs : Array Value} (hr : Reps (cx F φ H w) cs vs.toList) (e : TypeId) :
    Rel F (upd φ H.n ⟨w.heap.size, 0, 0, false⟩) (H.new (objOf e cs)) (w.alloc (.cells vs e)) ∧ Ext F φ H w (upd φ H.n ⟨w.heap.size, 0, 0, false⟩) (H.new (objOf e cs)) (w.alloc (.cells vs e)) := by
  unfold objOf
  split
  · refine Rel.new hR _ _ rfl (by simp) (fun b hb => Below.heap_alloc w _ b hb) (fun _ => Nat.le_refl _) (fun le => ?_) rfl rfl rfl
    exact ⟨rfl, vs, e, heap_alloc_new w _, hr.mono le⟩
  · exact new_obj hR hr e
theorem ownsRow_base {w : World} {base e sz n : Nat} {v : Value} {us : List Value} (h : w.ownsRow base e sz v n us) : w.ownsRow 0 e sz v n us := by
  obtain ⟨h1, h2⟩ := h
  refine ⟨h1, ?_⟩
  rcases h2 with h2 | ⟨g, cap, cur, hv, hg, r⟩
  · exact .inl h2
  · exact .inr ⟨g, cap, cur, hv, Nat.zero_le _, r⟩
/-- A list in new memory. -/
theorem new_seq (hR : Rel F φ H w) {w' : World} {e : Nat} {t : Ty} {xs : List t.den} {n cap : Nat} {us : List Value} (hn : n = xs.length) (hg : w.grownBy w' none) (hr : Reps (cx F φ H w) (xs.flatMap (enc t)) us)
    {b : Nat} (hb : w.heap.size ≤ b) (ho : w'.ownsRow 0 e t.sz (.slice (some ⟨b, 0, none⟩) n cap) n us) :
    Rel F (upd φ H.n ⟨b, n, cap, false⟩) (H.new (.seq false e t xs)) w' ∧ Ext F φ H w (upd φ H.n ⟨b, n, cap, false⟩) (H.new (.seq false e t xs)) w' := by
  subst hn
  refine Rel.new hR _ _ rfl hg.size (fun b hb => hg.block b hb (by simp)) (fun _ => hb) (fun le => ?_) hg.os hg.tape hg.output
  exact ⟨rfl, fun h => (by cases h), us, hr.mono le, ho⟩
theorem new_nil (hR : Rel F φ H w) (e : Nat) (t : Ty) : Rel F (upd φ H.n ⟨0, 0, 0, true⟩) (H.new (.seq false e t [])) w ∧ Ext F φ H w (upd φ H.n ⟨0, 0, 0, true⟩) (H.new (.seq false e t [])) w := by
  refine Rel.new hR _ _ rfl (Nat.le_refl _) (fun _ _ => rfl) (fun h => by cases h) (fun le => ?_) rfl rfl rfl
  exact ⟨rfl, fun _ => rfl, [], .nil, World.ownsRow_nil w 0 e t.sz⟩
theorem madeCells_flat (z : List Value) (n : Nat) (hz : 0 < z.length) : (madeCells z.toArray (n * z.length)).toList = (List.replicate n z).flatten := by
  apply List.ext_getElem?
  intro j
  have hlen : ((List.replicate n z).flatten).length = n * z.length := by simp
  by_cases hj : j < n * z.length
  · have hm : j % z.length < z.length := Nat.mod_lt _ hz
    have e1 : (madeCells z.toArray (n * z.length)).toList[j]? = some z[j % z.length] := by
      simp [madeCells, hj, hm]
    rw [e1]
    clear e1 hlen
    induction n generalizing j with
    | zero => simp at hj
    | succ n ih =>
      rw [List.replicate_succ, List.flatten_cons]
      by_cases h1 : j < z.length
      · rw [List.getElem?_append_left h1, List.getElem?_eq_getElem h1]
        congr 2
        exact Nat.mod_eq_of_lt h1
      · rw [List.getElem?_append_right (by omega)]
        rw [Nat.succ_mul] at hj
        rw [← ih (j - z.length) (by omega) (Nat.mod_lt _ hz)]
        congr 2
        exact (Nat.mod_eq_sub_mod (by omega))
  · rw [List.getElem?_eq_none (by simpa [madeCells] using hj), List.getElem?_eq_none (by rw [hlen]; omega)]
theorem reps_replicate {C : Cx} {t : Ty} {x : t.den} {z : List Value} (h : Reps C (enc t x) z) : ∀ n, Reps C ((List.replicate n x).flatMap (enc t)) (List.replicate n z).flatten
  | 0 => .nil
  | n + 1 => by
    rw [List.replicate_succ, List.replicate_succ, List.flatMap_cons, List.flatten_cons]
    exact Reps.append h (reps_replicate h n)
end
end Go.Proofs.YtpkidbhpfohopaaDoor

noncomputable section
namespace Go.Proofs.YtpkidbhpfohopaaDoor
open Go.RowKit
set_option linter.unusedVariables false
set_option linter.unusedSimpArgs false
inductive FK where
  | b | i (k : IntKind) | s
  deriving DecidableEq
def litV : Value → Lit
  | .bool b => .bool b
  | .int k n => .int k n
  | .string s => .string s.data.toList
  | _ => .bool false
def fitsK : List FK → List Value → Prop
  | [], [] => True
  | .b :: ks, .bool _ :: vs => fitsK ks vs
  | .i k :: ks, .int k' n :: vs => k' = k ∧ k.min ≤ n ∧ n ≤ k.max ∧ fitsK ks vs
  | .s :: ks, .string s :: vs => s.size ≤ maxLen ∧ fitsK ks vs
  | _, _ => False
theorem fitsK_append : ∀ (ks ls : List FK) (vs : List Value), fitsK (ks ++ ls) vs → fitsK ks (vs.take ks.length) ∧ fitsK ls (vs.drop ks.length)
  | [], ls, vs, h => by simpa [fitsK] using h
  | k :: ks, ls, [], h => by cases k <;> exact h.elim
  | k :: ks, ls, v :: vs, h => by
    cases k <;> cases v <;> first | exact h.elim | skip
    all_goals simp only [List.cons_append, fitsK] at h
    · have := fitsK_append ks ls vs h
      simpa [fitsK] using this
    · obtain ⟨h1, h2, h3, h4⟩ := h
      have := fitsK_append ks ls vs h4
      simpa [fitsK, h1, h2, h3] using this
    · obtain ⟨h1, h4⟩ := h
      have := fitsK_append ks ls vs h4
      simpa [fitsK, h1] using this
theorem fitsK_length : ∀ (ks : List FK) (vs : List Value), fitsK ks vs → vs.length = ks.length
  | [], [], h => rfl
  | [], _ :: _, h => h.elim
  | k :: ks, [], h => by cases k <;> exact h.elim
  | k :: ks, v :: vs, h => by
    cases k <;> cases v <;> first | exact h.elim | skip
    all_goals simp only [fitsK] at h
    · simp [fitsK_length ks vs h]
    · simp [fitsK_length ks vs h.2.2.2]
    · simp [fitsK_length ks vs h.2]
/-- The kinds of a type's cells. -/
def flatFs (P : Program) (F : TypeId → Option (List FK)) : List Field → Nat → Option (List FK)
  | [], _ => some []
  | f :: fs, off => if f.offset = off ∧ (f.name != "_") = true then
      (match F f.type with
        | some ks => if ks.length = P.cellsOf f.type then (match flatFs P F fs (off + P.cellsOf f.type) with
          | some ls => some (ks ++ ls)
          | none => none) else none
        | none => none) else none
def flatK (P : Program) : Nat → TypeId → Option (List FK)
  | 0, _ => none
  | d + 1, t => match P.underlying t with
    | some .bool => some [.b]
    | some (.int q) => some [.i q]
    | some .string => some [.s]
    | some (.array n e) => match flatK P d e with
      | some ks => if ks.length = P.cellsOf e ∧ P.cellsOf t = n * P.cellsOf e then some (List.replicate n ks).flatten else none
      | none => none
    | some (.struct fs) => match flatFs P (flatK P d) fs.toList 0 with
      | some ks => if ks.length = P.cellsOf t then some ks else none
      | none => none
    | _ => none
theorem mapM_range {β : Type} (f : Nat → Option β) (g : Nat → β) : ∀ (n : Nat), (∀ i, i < n → f i = some (g i)) → (List.range n).mapM f = some ((List.range n).map g) := by
  intro n h
  have : ∀ (l : List Nat), (∀ i ∈ l, f i = some (g i)) → l.mapM f = some (l.map g) := by
    intro l
    induction l with
    | nil => intro _; rfl
    | cons a l ih =>
      intro hl
      rw [List.mapM_cons, hl a (by simp), ih (fun i hi => hl i (by simp [hi]))]
      rfl
  exact this _ (fun i hi => h i (List.mem_range.1 hi))
theorem keyLits_flat (P : Program) : ∀ (d : Nat) (t : TypeId) (ks : List FK) (vs : List Value), flatK P d t = some ks → fitsK ks vs → P.keyLits d t vs = some (vs.map litV)
  | 0, t, ks, vs, h, hf => by simp [flatK] at h
  | d + 1, t, ks, vs, h, hf => by
    have ih := keyLits_flat P d
    have hlv := fitsK_length _ _ hf
    unfold flatK at h
    unfold Program.keyLits
    split at h
    · rename_i hu
      cases h
      match vs, hf with
      | [.bool b], _ => simp [hu, litV]
    · rename_i q hu
      cases h
      match vs, hf with
      | [.int k n], hf =>
        simp only [fitsK] at hf
        obtain ⟨rfl, h1, h2, -⟩ := hf
        simp [hu, litV, Lit.wf, h1, h2]
    · rename_i hu
      cases h
      match vs, hf with
      | [.string s], hf =>
        simp only [fitsK] at hf
        simp [hu, litV, hf.1]
    · rename_i n e hu
      split at h
      · rename_i ls hls
        split at h
        · rename_i hc
          cases h
          obtain ⟨h1, h2⟩ := hc
          have hl : vs.length = P.cellsOf t := by rw [hlv, h2]; simp [h1]
          simp only [hu, hl, if_true]
          have key : ∀ (m : Nat) (us : List Value), fitsK (List.replicate m ls).flatten us → ∀ i, i < m → P.keyLits d e ((us.drop (i * P.cellsOf e)).take (P.cellsOf e)) = some (((us.drop (i * P.cellsOf e)).take (P.cellsOf e)).map litV) := by
            intro m
            induction m with
            | zero => intro us _ i hi; omega
            | succ m ihm =>
              intro us hu i hi
              rw [List.replicate_succ, List.flatten_cons] at hu
              obtain ⟨g1, g2⟩ := fitsK_append _ _ _ hu
              rw [h1] at g1 g2
              cases i with
              | zero => rw [Nat.zero_mul, List.drop_zero]; exact ih e ls _ hls g1
              | succ i =>
                have := ihm _ g2 i (by omega)
                rw [List.drop_drop] at this
                rw [Nat.succ_mul, Nat.add_comm]
                exact this
          rw [mapM_range _ _ n (key n vs hf)]
          simp only [Option.map_some, Option.some.injEq]
          have hcat : ∀ (m : Nat) (us : List Value) (s : Nat), us.length = m * s → ((List.range m).map fun i => ((us.drop (i * s)).take s).map litV).flatten = us.map litV := by
            intro m
            induction m with
            | zero => intro us s h; have : us = [] := List.eq_nil_of_length_eq_zero (by simpa using h); subst this; rfl
            | succ m ihm =>
              intro us s h
              rw [Nat.succ_mul] at h
              rw [List.range_succ_eq_map, List.map_cons, List.flatten_cons, List.map_map]
              have e2 := ihm (us.drop s) s (by rw [List.length_drop]; omega)
              have e3 : ((fun i => ((us.drop (i * s)).take s).map litV) ∘ Nat.succ) = fun i => (((us.drop s).drop (i * s)).take s).map litV := by
                funext i
                simp only [Function.comp, List.drop_drop, Nat.succ_eq_add_one, Nat.add_mul, Nat.one_mul, Nat.add_comm]
              rw [e3, e2, Nat.zero_mul, List.drop_zero, ← List.map_append, List.take_append_drop]
          exact hcat n vs _ (by rw [hl, h2])
        · cases h
      · cases h
    · rename_i fs hu
      split at h
      · rename_i ls hls
        split at h
        · rename_i hc
          cases h
          have hl : vs.length = P.cellsOf t := by rw [hlv, hc]
          have key : ∀ (fs : List Field) (off : Nat) (ls : List FK) (us : List Value), flatFs P (flatK P d) fs off = some ls → fitsK ls (us.drop off) → (fs.mapM fun f => P.keyLits d f.type ((us.drop f.offset).take (P.cellsOf f.type))).map List.flatten = some ((us.drop off).map litV) ∧ ∀ f ∈ fs, (f.name != "_") = true := by
            intro fs
            induction fs with
            | nil =>
              intro off ls us h hf
              cases h
              have := fitsK_length _ _ hf
              have : us.drop off = [] := List.eq_nil_of_length_eq_zero this
              rw [this]
              exact ⟨rfl, by simp⟩
            | cons f fs ihf =>
              intro off ls us h hf
              unfold flatFs at h
              split at h
              · rename_i hcond
                split at h
                · rename_i k1 hk1
                  split at h
                  · rename_i hk2
                    split at h
                    · rename_i l2 hl2
                      cases h
                      obtain ⟨g1, g2⟩ := fitsK_append _ _ _ hf
                      rw [hk2] at g1 g2
                      rw [List.drop_drop] at g2
                      obtain ⟨i1, i2⟩ := ihf _ _ _ hl2 g2
                      refine ⟨?_, fun f' hf' => ?_⟩
                      · rw [List.mapM_cons, hcond.1, ih _ _ _ hk1 g1]
                        cases hm : (fs.mapM fun f => P.keyLits d f.type ((us.drop f.offset).take (P.cellsOf f.type))) with
                        | none => rw [hm] at i1; cases i1
                        | some y =>
                          rw [hm] at i1
                          simp only [Option.map_some, Option.some.injEq] at i1
                          show some (_ ++ y.flatten) = _
                          rw [i1, ← List.map_append, ← List.drop_drop, List.take_append_drop]
                      · rcases List.mem_cons.1 hf' with rfl | hf'
                        · exact hcond.2
                        · exact i2 f' hf'
                    · cases h
                  · cases h
                · cases h
              · cases h
          obtain ⟨k1, k2⟩ := key fs.toList 0 ks vs hls (by simpa using hf)
          have hall : fs.all (·.name != "_") = true := by
            rw [Array.all_eq_true_iff_forall_mem]
            exact fun f hf => k2 f (Array.mem_toList_iff.2 hf)
          simp only [hu, hl, hall, and_self, if_true]
          simpa using k1
        · cases h
      · cases h
    · cases h
/-! ### of abstract values -/
def stripK : Nat → FK → List FK → Option (List FK)
  | 0, _, ks => some ks
  | n + 1, f, g :: ks => bif decide (f = g) then stripK n f ks else none
  | _ + 1, _, [] => none
theorem stripK_ok : ∀ (n : Nat) (f : FK) (ks ls : List FK), stripK n f ks = some ls → ks = List.replicate n f ++ ls
  | 0, f, ks, ls, h => by cases h; rfl
  | n + 1, f, [], ls, h => by cases h
  | n + 1, f, g :: ks, ls, h => by
    rw [stripK, Bool.cond_eq_ite] at h
    split at h
    · rename_i e
      have e := of_decide_eq_true e
      subst e
      rw [stripK_ok n f ks ls h]
      rfl
    · cases h
def eqL : List FK → List AV → List AV → Option Bool
  | ks, .int k a :: as, .int k' b :: bs => match ks with
    | .i q :: ks => bif decide (k = q) && decide (k' = q) then (match eqL ks as bs with | some r => some ((a == b) && r) | none => none) else none
    | _ => none
  | ks, .bool a :: as, .bool b :: bs => match ks with
    | .b :: ks => (match eqL ks as bs with | some r => some ((a == b) && r) | none => none)
    | _ => none
  | ks, .str a :: as, .str b :: bs => match ks with
    | .s :: ks => (match eqL ks as bs with | some r => some (decide (a = b) && r) | none => none)
    | _ => none
  | ks, .arr n .bool xs :: as, .arr m .bool ys :: bs => bif Nat.beq n m then (match stripK n .b ks with
      | some ks => (match eqL ks as bs with | some r => some (decide (xs = ys) && r) | none => none)
      | none => none) else none
  | ks, .arr n .int xs :: as, .arr m .int ys :: bs => bif Nat.beq n m then (match stripK n (.i .i64) ks with
      | some ks => (match eqL ks as bs with | some r => some (decide (xs = ys) && r) | none => none)
      | none => none) else none
  | [], [], [] => some true
  | _, _, _ => none
theorem fitsK_cat : ∀ (ks ls : List FK) (us vs : List Value), fitsK ks us → fitsK ls vs → fitsK (ks ++ ls) (us ++ vs)
  | [], ls, [], vs, _, h => h
  | [], ls, _ :: _, vs, h, _ => h.elim
  | k :: ks, ls, [], vs, h, _ => by cases k <;> exact h.elim
  | k :: ks, ls, u :: us, vs, h, h2 => by
    cases k <;> cases u <;> first | exact h.elim | skip
    all_goals simp only [List.cons_append, fitsK] at h ⊢
    · exact fitsK_cat ks ls us vs h h2
    · exact ⟨h.1, h.2.1, h.2.2.1, fitsK_cat ks ls us vs h.2.2.2 h2⟩
    · exact ⟨h.1, fitsK_cat ks ls us vs h.2 h2⟩
theorem reps_bools {C : Cx} : ∀ (xs : List Bool) (us : List Value), Reps C (xs.flatMap (enc .bool)) us → us = xs.map Value.bool ∧ fitsK (List.replicate xs.length .b) us
  | [], us, h => by have := h.nil_inv; subst this; exact ⟨rfl, trivial⟩
  | x :: xs, us, h => by
    simp only [List.flatMap_cons, enc, List.cons_append, List.nil_append] at h
    cases h with
    | bool h =>
      obtain ⟨h1, h2⟩ := reps_bools xs _ h
      exact ⟨by rw [h1]; rfl, h2⟩
theorem reps_ints {C : Cx} : ∀ (xs : List Int) (us : List Value), Reps C (xs.flatMap (enc .int)) us → us = xs.map (Value.int .i64) ∧ fitsK (List.replicate xs.length (.i .i64)) us
  | [], us, h => by have := h.nil_inv; subst this; exact ⟨rfl, trivial⟩
  | x :: xs, us, h => by
    simp only [List.flatMap_cons, enc, List.cons_append, List.nil_append] at h
    cases h with
    | int a b h =>
      obtain ⟨h1, h2⟩ := reps_ints xs _ h
      exact ⟨by rw [h1]; rfl, rfl, a, b, h2⟩
theorem ba_ext {a b : ByteArray} (h : a.data.toList = b.data.toList) : a = b := by
  obtain ⟨⟨x⟩⟩ := a
  obtain ⟨⟨y⟩⟩ := b
  simp at h
  rw [h]
theorem app_eq {α : Type} {a b c d : List α} (h : a.length = b.length) : a ++ c = b ++ d ↔ a = b ∧ c = d :=
  ⟨fun e => List.append_inj e h, fun ⟨e1, e2⟩ => by rw [e1, e2]⟩
theorem map_eq {α β : Type} (f : α → β) (hf : ∀ a b, f a = f b → a = b) : ∀ (xs ys : List α), xs.map f = ys.map f ↔ xs = ys
  | [], [] => by simp
  | [], _ :: _ => by simp
  | _ :: _, [] => by simp
  | x :: xs, y :: ys => by
    simp only [List.map_cons, List.cons.injEq, map_eq f hf xs ys]
    exact and_congr_left fun _ => ⟨hf x y, fun e => by rw [e]⟩
theorem eqL_ok {C : Cx} : ∀ (ks : List FK) (as bs : List AV) (r : Bool) (us vs : List Value), eqL ks as bs = some r → Reps C as us → Reps C bs vs → fitsK ks us ∧ fitsK ks vs ∧ (r = true ↔ us.map litV = vs.map litV) := by
  intro ks as bs
  fun_induction eqL ks as bs
  all_goals intro r us vs h h1 h2
  all_goals try (cases h; done)
  case case1 =>
    rename_i ih
    injection h with h
    subst h
    rename_i hk _ _
    simp only [Bool.and_eq_true, decide_eq_true_eq] at hk
    obtain ⟨rfl, rfl⟩ := hk
    cases h1 with
    | int a1 a2 a3 =>
      cases h2 with
      | int b1 b2 b3 =>
        obtain ⟨i1, i2, i3⟩ := ih _ _ _ (by assumption) a3 b3
        exact ⟨⟨rfl, a1, a2, i1⟩, ⟨rfl, b1, b2, i2⟩, by simp [litV, i3]⟩
  case case5 =>
    rename_i ih
    injection h with h
    subst h
    cases h1 with
    | bool a3 =>
      cases h2 with
      | bool b3 =>
        obtain ⟨i1, i2, i3⟩ := ih _ _ _ (by assumption) a3 b3
        exact ⟨i1, i2, by simp [litV, i3]⟩
  case case8 =>
    rename_i ih
    injection h with h
    subst h
    cases h1 with
    | str a1 a3 =>
      cases h2 with
      | str b1 b3 =>
        obtain ⟨i1, i2, i3⟩ := ih _ _ _ (by assumption) a3 b3
        refine ⟨⟨a1, i1⟩, ⟨b1, i2⟩, ?_⟩
        simp only [Bool.and_eq_true, decide_eq_true_eq, List.map_cons, litV, List.cons.injEq, Lit.string.injEq, i3]
        refine and_congr_left fun _ => ⟨fun e => by rw [e], fun e => ?_⟩
        exact ba_ext e
  case case11 =>
    rename_i hs _ _ ih
    injection h with h
    subst h
    rename_i hb _ _ _
    have e := Nat.eq_of_beq_eq_true hb
    subst e
    have e := stripK_ok _ _ _ _ hs
    subst e
    cases h1 with
    | arr a1 a2 a3 =>
      cases h2 with
      | arr b1 b2 b3 =>
        obtain ⟨i1, i2, i3⟩ := ih _ _ _ (by assumption) a3 b3
        obtain ⟨e1, f1⟩ := reps_bools _ _ a1
        obtain ⟨e2, f2⟩ := reps_bools _ _ b1
        rw [a2] at f1
        rw [b2] at f2
        refine ⟨fitsK_cat _ _ _ _ f1 i1, fitsK_cat _ _ _ _ f2 i2, ?_⟩
        rw [e1, e2, List.map_append, List.map_append, app_eq (by simp [a2, b2]), List.map_map, List.map_map, map_eq (litV ∘ Value.bool) (fun a b h => by simpa [litV] using h), ← i3]
        simp
  case case15 =>
    rename_i hs _ _ ih
    injection h with h
    subst h
    rename_i hb _ _ _
    have e := Nat.eq_of_beq_eq_true hb
    subst e
    have e := stripK_ok _ _ _ _ hs
    subst e
    cases h1 with
    | arr a1 a2 a3 =>
      cases h2 with
      | arr b1 b2 b3 =>
        obtain ⟨i1, i2, i3⟩ := ih _ _ _ (by assumption) a3 b3
        obtain ⟨e1, f1⟩ := reps_ints _ _ a1
        obtain ⟨e2, f2⟩ := reps_ints _ _ b1
        rw [a2] at f1
        rw [b2] at f2
        refine ⟨fitsK_cat _ _ _ _ f1 i1, fitsK_cat _ _ _ _ f2 i2, ?_⟩
        rw [e1, e2, List.map_append, List.map_append, app_eq (by simp [a2, b2]), List.map_map, List.map_map, map_eq (litV ∘ Value.int .i64) (fun a b h => by simpa [litV] using h), ← i3]
        simp
  case case19 =>
    injection h with h
    subst h
    have := h1.nil_inv
    subst this
    have := h2.nil_inv
    subst this
    exact ⟨trivial, trivial, by simp⟩
end Go.Proofs.YtpkidbhpfohopaaDoor

noncomputable section
namespace Go.Proofs.YtpkidbhpfohopaaDoor
open Go.RowKit
set_option linter.unusedVariables false
set_option linter.unusedSimpArgs false
def okN (k : IntKind) (n : Int) : Prop :=
  match k with
  | .i64 => okI n
  | k => k.min ≤ n ∧ n ≤ k.max
theorem okN_iff {k : IntKind} {n : Int} : okN k n ↔ k.min ≤ n ∧ n ≤ k.max := by
  cases k <;> simp [okN, okI, IntKind.min, IntKind.max, IntKind.signed, IntKind.bits]
/-- What an operation comes to: what must hold, what is known then, the value, the memory. -/
structure Res where
  need : Prop
  know : Prop
  v : AV
  H : Heap
structure Env where
  T : Nat → Option TI
  Q : Nat → Option (List FK)
  K : Nat → List AV → Heap → Option Res
  V : Bool
def leavesOf : AV → Option (List AV)
  | .undef => none
  | .tup _ => none
  | .agg cs => some cs
  | .int k n => some [.int k n]
  | .bool b => some [.bool b]
  | .str s => some [.str s]
  | .nilp => some [.nilp]
  | .ptr id p => some [.ptr id p]
  | .nils => some [.nils]
  | .slc id => some [.slc id]
  | .nilm => some [.nilm]
  | .ifz => some [.ifz]
  | .ifn => some [.ifn]
  | .hdl k id => some [.hdl k id]
  | .vsl t xs => some [.vsl t xs]
  | .arr n t xs => some [.arr n t xs]
  | .fn f => some [.fn f]
  | .vptr t x k => some [.vptr t x k]
def ofL (g : Bool) (cs : List AV) : Option AV :=
  bif g then some (.agg cs) else match cs with
    | [.arr _ _ _] => none
    | [a] => some a
    | _ => none
def lenD (k : TK) (H : Heap) (x : AV) : Option (Prop × Nat) :=
  match k with
  | .slice _ => match x with
    | .slc id => match H.get id with
      | some (.seq _ _ _ xs) => some (xs.length ≤ 9223372036854775807, xs.length)
      | _ => none
    | .vsl _ xs => some (xs.length ≤ 9223372036854775807, xs.length)
    | .nils => some (True, 0)
    | .hdl (.osl n) _ => bif Nat.ble n 1000 then some (True, n) else none
    | _ => none
  | .str => match x with
    | .str s => some (s.size ≤ 9223372036854775807, s.size)
    | _ => none
  | .map _ _ => match x with
    | .hdl .mp id => match H.get id with
      | some (.map _ _ es) => some (es.length ≤ 9223372036854775807, es.length)
      | _ => none
    | _ => none
  | _ => none
def intB (op : BinOp) (k : IntKind) (a b : Int) : Option (Prop × AV) :=
  match op with
  | .add => some (True, .int k (k.wrap (a + b)))
  | .sub => some (True, .int k (k.wrap (a - b)))
  | .mul => some (True, .int k (k.wrap (a * b)))
  | .quo => some (b ≠ 0, .int k (k.wrap (a.tdiv b)))
  | .rem => some (b ≠ 0, .int k (k.wrap (a.tmod b)))
  | .eql => some (True, .bool (a == b))
  | .neq => some (True, .bool (a != b))
  | .lss => some (True, .bool (decide (a < b)))
  | .leq => some (True, .bool (decide (a ≤ b)))
  | .gtr => some (True, .bool (decide (b < a)))
  | .geq => some (True, .bool (decide (b ≤ a)))
  | _ => none
def eqB (E : Env) (t : Nat) (x y : AV) : Option Bool :=
  match x, y with
  | .str a, .str b => some (decide (a = b))
  | x, y => match E.T t with
    | some i => match i.k with
      | .bool => match x, y with
        | .bool a, .bool b => some (a == b)
        | _, _ => none
      | .ptr _ => match x, y with
        | .nilp, .nilp => some true
        | .nilp, .ptr _ _ => some false
        | .ptr _ _, .nilp => some false
        | _, _ => none
      | .slice _ => match x, y with
        | .nils, .nils => some true
        | _, _ => none
      | k => bif k.agg then (match x, y with
        | .agg as, .agg bs => match E.Q t with
          | some ks => eqL ks as bs
          | none => none
        | _, _ => none) else none
    | none => none
def binD (E : Env) (op : BinOp) (t : Nat) (x y : AV) : Option (Prop × Prop × AV) :=
  match x, y with
  | .int k a, .int k' b => bif decide (k = k') then (match intB op k a b with
      | some (p, v) => some (p, okN k a ∧ okN k b, v)
      | none => none) else none
  | x, y => match op with
    | .eql => match eqB E t x y with
      | some r => some (True, True, .bool r)
      | none => none
    | .neq => match eqB E t x y with
      | some r => some (True, True, .bool (!r))
      | none => none
    | .add => match x, y with
      | .str a, .str b => some (a.size + b.size ≤ 9223372036854775807, True, .str (a ++ b))
      | _, _ => none
    | _ => none
/-- Is an error nil? -/
def ifD (op : BinOp) (x : AV) (y : Operand) : Option Bool :=
  match y with
  | .const .nilIface => match x with
    | .ifz => match op with
      | .eql => some true
      | .neq => some false
      | _ => none
    | .ifn => match op with
      | .eql => some false
      | .neq => some true
      | _ => none
    | _ => none
  | _ => none
/-- A string's bytes, as numbers. -/
def bytesU (s : ByteArray) : List Int := s.data.toList.map fun b => (b.toNat : Int)
def byteU (s : ByteArray) (i : Nat) : Int := (bytesU s).getD i 0
noncomputable def strF : {f : List Int → ByteArray // ∀ xs, f xs = ⟨(xs.map fun n => UInt8.ofNat n.toNat).toArray⟩} := Classical.choice ⟨⟨_, fun _ => rfl⟩⟩
/-- The text of bytes. (Nothing that the kernel could reckon.) -/
noncomputable def strU (xs : List Int) : ByteArray := strF.1 xs
theorem strU_eq (xs : List Int) : strU xs = ⟨(xs.map fun n => UInt8.ofNat n.toNat).toArray⟩ := strF.2 xs
def strSl (s : ByteArray) (lo hi : Option AV) (H : Heap) : Option Res :=
  match lo, hi with
  | none, some (.int _ h) => some ⟨0 ≤ h ∧ h ≤ s.size, s.size ≤ 9223372036854775807, .str (s.extract 0 h.toNat), H⟩
  | some (.int _ l), none => some ⟨0 ≤ l ∧ l ≤ s.size, s.size ≤ 9223372036854775807, .str (s.extract l.toNat s.size), H⟩
  | some (.int _ l), some (.int _ h) => some ⟨0 ≤ l ∧ l ≤ h ∧ h ≤ s.size, s.size ≤ 9223372036854775807, .str (s.extract l.toNat h.toNat), H⟩
  | _, _ => none
/-- A list's elements, to be read. -/
def srcL (ty : Ty) (H : Heap) : AV → Option (List ty.den)
  | .slc id => match H.get id with
    | some (.seq _ _ u xs) => if h : u = ty then some (h ▸ xs) else none
    | _ => none
  | .vsl u xs => if h : u = ty then some (h ▸ xs) else none
  | .nils => some []
  | .hdl (.tl lo sz) id => match H.get id with
    | some (.seq _ _ u xs) => bif Nat.beq sz ty.sz then (if h : u = ty then some ((h ▸ xs).drop lo) else none) else none
    | _ => none
  | _ => none
def fillD (E : Env) (fs : List (Nat × Nat)) : List AV → List (Nat × AV) → Option (List AV)
  | cs, [] => some cs
  | cs, (i, a) :: r => match fs[i]? with
    | some (off, ft) => match E.T ft with
      | some ti => match leavesOf a with
        | some bs => bif Nat.beq (cellsL bs) ti.n then (match putC cs off bs with
          | some ds => fillD E fs ds r
          | none => none) else none
        | none => none
      | none => none
    | none => none
/-- A literal's elements, from a given number on. -/
def elemsD (ty : Ty) : Heap → Nat → List (Nat × AV) → Option (List ty.den × Heap)
  | H, _, [] => some ([], H)
  | H, n, (i, a) :: r => bif Nat.beq i n then (match leavesOf a with
    | some bs => match frzL H bs with
      | (bs, H1) => match dec ty bs with
        | some x => match elemsD ty H1 (n + 1) r with
          | some (xs, H2) => some (x :: xs, H2)
          | none => none
        | none => none
    | none => none) else none
/-- A literal's elements that are pointers. -/
def ptrsD : Nat → List (Nat × AV) → Option (List AV)
  | _, [] => some []
  | n, (i, a) :: r => bif Nat.beq i n then (match a with
    | .ptr id p => match ptrsD (n + 1) r with
      | some as => some (.ptr id p :: as)
      | none => none
    | _ => none) else none
def storeD (H : Heap) (id : Nat) (p : Path) (bs : List AV) : Option (Prop × Heap) :=
  match H.get id with
  | some (.objT false ty cs) => bif Nat.beq p.s 0 then (match writeIn cs p bs with
    | some (q, ds) => some (q, H.put id (some (.objT false ty ds)))
    | none => none) else none
  | some (.seq false _ _ _) => match frzL H bs with
    | (bs, H1) => match H1.get id with
      | some (.seq false e t xs) => bif Nat.beq p.s t.sz then (match writeIn (enc t (xs.getD p.i t.dflt)) p bs with
        | some (q, ds) => match dec t ds with
          | some y => some (p.i < xs.length ∧ q, H1.put id (some (.seq false e t (xs.set p.i y))))
          | none => none
        | none => none) else none
      | _ => none
  | _ => none
/-- A slice of its own memory that is put where one stands that is but read: it is but read from now on. -/
def storeF (H : Heap) (id : Nat) (p : Path) (bs : List AV) : Option (Prop × Heap) :=
  match bs with
  | [.slc k] => match H.get id with
    | some (.objT false _ cs) => match dropC cs p.k with
      | some (.vsl _ _ :: _) => match H.get k with
        | some (.seq false _ t xs) => storeD (H.put k none) id p [.vsl t xs]
        | _ => storeD H id p [.slc k]
      | _ => storeD H id p [.slc k]
    | _ => storeD H id p [.slc k]
  | bs => storeD H id p bs
def indexD (E : Env) (H : Heap) (t : Nat) (x : AV) (n : Int) : Option (Prop × Prop × AV) :=
  match E.T t with
  | some ti => match ti.k with
    | .slice e => match E.T e with
      | some te => match x with
        | .slc id => match H.get id with
          | some (.seq _ _ ty xs) => bif Nat.beq te.n ty.sz then some (0 ≤ n ∧ n < xs.length, xs.length ≤ 9223372036854775807, .ptr id ⟨n.toNat, ty.sz, 0, none⟩) else none
          | _ => none
        | .vsl ty xs => bif Nat.beq te.n ty.sz then some (0 ≤ n ∧ n < xs.length, xs.length ≤ 9223372036854775807, .vptr ty (xs.getD n.toNat ty.dflt) 0) else none
        | .hdl (.osl m) id => bif Nat.beq te.n 1 then some (0 ≤ n ∧ n < m, True, .ptr id ⟨0, 0, n.toNat, none⟩) else none
        | _ => none
      | none => none
    | .array m e => match E.T e with
      | some te => match x with
        | .ptr id p => match p.j with
          | some _ => none
          | none => some (0 ≤ n ∧ n < m, True, .ptr id ⟨p.i, p.s, p.k, some (n.toNat, te.n)⟩)
        | _ => none
      | none => none
    | _ => none
  | none => none
/-- A type of maps whose keys are ints: the keys' type, the elements'. -/
def mapT (E : Env) (t : Nat) : Option (Nat × TI × Ty) :=
  match E.T t with
  | some i => match i.k with
    | .map k e => match E.T k with
      | some tk => match tk.k with
        | .int .i64 => match E.T e with
          | some te => match te.ty with
            | some ty => some (k, te, ty)
            | none => none
          | none => none
        | _ => none
      | none => none
    | _ => none
  | none => none
def isAggA : AV → Bool
  | .agg _ => true
  | _ => false
def noTup : AV → Bool
  | .tup _ => false
  | _ => true
def lookupD (E : Env) (H : Heap) (t : Nat) (m : AV) (n : Int) (ok : Bool) : Option AV :=
  match mapT E t with
  | some (_, te, _) => match m with
    | .hdl .mp id => match H.get id with
      | some (.map _ u es) => bif te.k.agg == u.agg then (match dec u te.zero with
        | some z => match ofL u.agg (enc u ((mGet es n).getD z)) with
          | some v => bif ok then (bif noTup v then some (.tup [v, .bool (mGet es n).isSome]) else none) else some v
          | none => none
        | none => none) else none
      | _ => none
    | _ => none
  | none => none
def mapUpdD (E : Env) (H : Heap) (t : Nat) (m : AV) (n : Int) (x : AV) : Option (Prop × Heap) :=
  match mapT E t with
  | some (_, te, _) => match m with
    | .hdl .mp id => match H.get id with
      | some (.map false u es) => match leavesOf x with
        | some bs => bif isAggA x == u.agg then (match dec u bs with
          | some y => some (es.length < 9223372036854775807, H.put id (some (.map false u (mPut es n y))))
          | none => none) else none
        | none => none
      | _ => none
    | _ => none
  | none => none
def delD (E : Env) (H : Heap) (t k : Nat) (m : AV) (n : Int) : Option Heap :=
  match mapT E t with
  | some (k', _, _) => match m with
    | .hdl .mp id => match H.get id with
      | some (.map false u es) => bif Nat.beq k k' then some (H.put id (some (.map false u (mDel es n)))) else none
      | _ => none
    | _ => none
  | none => none
/-- Are two pointers at whole objects one? -/
def ptrD (H : Heap) (op : BinOp) (x y : AV) : Option Bool :=
  match x, y with
  | .ptr id ⟨0, 0, 0, none⟩, .ptr id' ⟨0, 0, 0, none⟩ => match H.get id, H.get id' with
    | some (.objT _ _ _), some (.objT _ _ _) => match op with
      | .eql => some (Nat.beq id id')
      | .neq => some (!(Nat.beq id id'))
      | _ => none
    | _, _ => none
  | _, _ => none
def isZ8 : List AV → Bool
  | [.int .u8 n] => decide (n = 0)
  | _ => false
def builtinD (E : Env) (b : Builtin) (ts : Array TypeId) (args : List AV) (H : Heap) : Option Res :=
  match b, args with
  | .len, [x] => match ts.toList with
    | [t] => match E.T t with
      | some ti => match lenD ti.k H x with
        | some (p, n) => some ⟨True, p, .int .i64 n, H⟩
        | none => none
      | none => none
    | _ => none
  | .min, [.int k a, .int k' b] => bif decide (k = k') then some ⟨True, True, .int k (if b < a then b else a), H⟩ else none
  | .max, [.int k a, .int k' b] => bif decide (k = k') then some ⟨True, True, .int k (if a < b then b else a), H⟩ else none
  | .append, [x, .str s] => match ts.toList with
    | [t, t'] => match E.T t, E.T t' with
      | some ti, some tj => match ti.k, tj.k with
        | .slice e, .str => match E.T e with
          | some te => match te.k with
            | .int .u8 => bif Nat.beq te.n 1 && Nat.beq te.bytes 1 && isZ8 te.zero then (match x with
              | .nils => some ⟨s.size ≤ 140737488355328, True, .slc H.n, H.new (.seq false e .u8 (bytesU s))⟩
              | .slc id => match H.get id with
                | some (.seq false e' .u8 xs) => bif Nat.beq e e' then some ⟨xs.length + s.size ≤ 140737488355328, True, .slc H.n, (H.put id none).new (.seq false e .u8 (xs ++ bytesU s))⟩ else none
                | _ => none
              | _ => none) else none
            | _ => none
          | none => none
        | _, _ => none
      | _, _ => none
    | _ => none
  | .append, [x, y] => match ts.toList with
    | [t, t'] => bif Nat.beq t t' then (match E.T t with
      | some ti => match ti.k with
        | .slice e => match E.T e with
          | some te => match x with
            | .nils => match te.ty with
              | some ty => match srcL ty H y with
                | some ys => bif Nat.beq te.n ty.sz && Nat.blt 0 ty.sz && Nat.blt 0 te.bytes then some ⟨ys.length * te.bytes ≤ 140737488355328, ys.length ≤ 9223372036854775807, .slc H.n, H.new (.seq false e ty ys)⟩ else none
                | none => none
              | none => none
            | .slc id => match H.get id with
              | some (.seq false e' ty xs) => match srcL ty H y with
                | some ys => bif Nat.beq e e' && Nat.beq te.n ty.sz && Nat.blt 0 ty.sz && Nat.blt 0 te.bytes then some ⟨(xs.length + ys.length) * te.bytes ≤ 140737488355328, xs.length + ys.length ≤ 9223372036854775807, .slc H.n, (H.put id none).new (.seq false e ty (xs ++ ys))⟩ else none
                | none => none
              | _ => none
            | _ => none
          | none => none
        | _ => none
      | none => none) else none
    | _ => none
  | .copy, [.slc id, y] => match ts.toList with
    | [t, _] => match E.T t with
      | some ti => match ti.k with
        | .slice e => match E.T e with
          | some te => match H.get id with
            | some (.seq false e' ty xs) => match srcL ty H y with
              | some ys => bif Nat.beq te.n ty.sz then some ⟨True, True, .int .i64 (min ys.length xs.length : Nat), H.put id (some (.seq false e' ty (ys.take xs.length ++ xs.drop ys.length)))⟩ else none
              | none => none
            | _ => none
          | none => none
        | _ => none
      | none => none
    | _ => none
  | .delete, [m, .int .i64 n] => match ts.toList with
    | [t, k] => match delD E H t k m n with
      | some H' => some ⟨True, True, .tup [], H'⟩
      | none => none
    | _ => none
  | _, _ => none
def sliceD (V : Bool) (H : Heap) (x : AV) (lo hi : Option AV) : Option Res :=
  match lo, hi with
  | some (.int _ l), none => match x with
    | .vsl ty xs => some ⟨0 ≤ l ∧ l ≤ xs.length, True, .vsl ty (xs.drop l.toNat), H⟩
    | .slc id => match H.get id with
      | some (.seq false e ty xs) => bif V then some ⟨0 ≤ l ∧ l ≤ xs.length, True, .hdl (.tl l.toNat ty.sz) id, H⟩ else some ⟨0 ≤ l ∧ l ≤ xs.length, True, .vsl ty (xs.drop l.toNat), H.put id none⟩
      | _ => none
    | _ => none
  | none, some (.int _ h) => match x with
    | .vsl ty xs => some ⟨0 ≤ h ∧ h ≤ xs.length, True, .vsl ty (xs.take h.toNat), H⟩
    | .slc id => match H.get id with
      | some (.seq false e ty xs) => bif V then some ⟨0 ≤ h ∧ h ≤ xs.length, True, .slc H.n, (H.put id none).new (.seq false e ty (xs.take h.toNat))⟩ else some ⟨0 ≤ h ∧ h ≤ xs.length, True, .vsl ty (xs.take h.toNat), H.put id none⟩
      | _ => none
    | _ => none
  | _, _ => none
def opD (E : Env) (op : Op) (ρ : Operand → AV) (H : Heap) : Option Res :=
  match op with
  | .move x => some ⟨True, True, ρ x, H⟩
  | .assign x => some ⟨True, True, ρ x, H⟩
  | .pick c a b => match ρ c with
    | .bool c => match ρ a, ρ b with
      | .bool x, .bool y => some ⟨True, True, .bool (bif c then x else y), H⟩
      | .bool x, .undef => some ⟨c = true, True, .bool x, H⟩
      | .bool x, .tup [] => some ⟨c = true, True, .bool x, H⟩
      | .undef, .bool y => some ⟨c = false, True, .bool y, H⟩
      | .tup [], .bool y => some ⟨c = false, True, .bool y, H⟩
      | _, _ => none
    | _ => none
  | .alloc t => match E.T t with
    | some i => some ⟨True, True, .ptr H.n ⟨0, 0, 0, none⟩, H.new (objOf t i.zero)⟩
    | none => none
  | .box _ x => match leavesOf (ρ x) with
    | some cs => some ⟨True, True, .ptr H.n ⟨0, 0, 0, none⟩, H.new (.obj false cs)⟩
    | none => none
  | .build t parts => match E.T t with
    | some i => match i.k with
      | .struct fs => bif fs.all (fun x => (E.T x.2).isSome) then (match fillD E fs i.zero (parts.toList.map fun (j, x) => (j, ρ x)) with
        | some cs => some ⟨True, True, .agg cs, H⟩
        | none => none) else none
      | .array _ e => match E.T e with
        | some _ => match parts.toList with
          | [] => some ⟨True, True, .agg i.zero, H⟩
          | _ => none
        | none => none
      | _ => none
    | none => none
  | .buildSlice t len parts => match E.T t with
    | some i => match i.k with
      | .slice e => match E.T e with
        | some te => match te.ty with
          | some ty => bif Nat.beq te.n ty.sz && Nat.blt 0 ty.sz && Nat.beq parts.size len && Nat.ble (len * ty.sz) 16777216 then (match elemsD ty H 0 (parts.toList.map fun (j, x) => (j, ρ x)) with
            | some (xs, H') => some ⟨True, True, .slc H'.n, H'.new (.seq false e ty xs)⟩
            | none => none) else none
          | none => bif Nat.beq te.n 1 && Nat.beq parts.size len && Nat.ble len 1000 then (match ptrsD 0 (parts.toList.map fun (j, x) => (j, ρ x)) with
            | some as => some ⟨True, True, .hdl (.osl len) H.n, H.new (.obj false as)⟩
            | none => none) else none
        | none => none
      | _ => none
    | none => none
  | .load t x => match E.T t with
    | some i => match ρ x with
      | .ptr id p => match readL H id p i.n with
        | some (q, cs) => match ofL i.k.agg cs with
          | some v => some ⟨q, True, v, H⟩
          | none => none
        | none => none
      | .vptr ty y k => match dropC (enc ty y) k with
        | some ds => match takeC ds i.n with
          | some cs => match ofL i.k.agg cs with
            | some v => some ⟨True, True, v, H⟩
            | none => none
          | none => none
        | none => none
      | _ => none
    | none => none
  | .store t a x => match E.T t with
    | some i => match ρ a with
      | .ptr id p => match leavesOf (ρ x) with
        | some bs => bif Nat.beq (cellsL bs) i.n then (match storeF H id p bs with
          | some (q, H') => some ⟨q, True, .undef, H'⟩
          | none => none) else none
        | none => none
      | _ => none
    | none => none
  | .nilCheck x => match ρ x with
    | .ptr id p => some ⟨True, True, .ptr id p, H⟩
    | _ => none
  | .binOp op t x y _ => match binD E op t (ρ x) (ρ y) with
    | some (p, q, v) => some ⟨p, q, v, H⟩
    | none => match E.T t with
      | some i => match i.k with
        | .iface => match ifD op (ρ x) y with
          | some b => some ⟨True, True, .bool b, H⟩
          | none => none
        | .ptr e => match E.T e with
          | some te => bif Nat.blt 0 te.n then (match ptrD H op (ρ x) (ρ y) with
            | some b => some ⟨True, True, .bool b, H⟩
            | none => none) else none
          | none => none
        | _ => none
      | none => none
  | .unOp op _ x => match op, ρ x with
    | .not, .bool b => some ⟨True, True, .bool (!b), H⟩
    | .neg, .int k n => some ⟨True, True, .int k (k.wrap (0 - n)), H⟩
    | _, _ => none
  | .fieldAddr s x f => match E.T s with
    | some i => match i.k with
      | .struct fs => match fs[f]? with
        | some (off, ft) => match E.T ft with
          | some ti => bif Nat.blt 0 ti.n then (match ρ x with
            | .ptr id p => match p.j with
              | none => some ⟨True, True, .ptr id ⟨p.i, p.s, p.k + off, none⟩, H⟩
              | some _ => none
            | .vptr ty y k => some ⟨True, True, .vptr ty y (k + off), H⟩
            | _ => none) else none
          | none => none
        | none => none
      | _ => none
    | none => none
  | .field s x f => match E.T s with
    | some i => match i.k with
      | .struct fs => match fs[f]? with
        | some (off, ft) => match E.T ft with
          | some ti => match ρ x with
            | .agg cs => match dropC cs off with
              | some ds => match takeC ds ti.n with
                | some es => match ofL ti.k.agg es with
                  | some v => bif Nat.blt 0 ti.n then some ⟨True, True, v, H⟩ else none
                  | none => none
                | none => none
              | none => none
            | _ => none
          | none => none
        | none => none
      | _ => none
    | none => none
  | .indexAddr t x ix => match ρ ix with
    | .int k n => match indexD E H t (ρ x) n with
      | some (p, q, v) => some ⟨p, q, v, H⟩
      | none => none
    | _ => none
  | .makeSlice t l c => match E.T t with
    | some i => match i.k with
      | .slice e => match E.T e with
        | some te => match te.ty with
          | some ty => match ρ l, ρ c with
            | .int _ n, .int _ m => match dec ty te.zero with
              | some z => bif Nat.beq te.n ty.sz && Nat.blt 0 ty.sz then some ⟨(m = n ∧ 0 ≤ n) ∧ n * te.bytes ≤ 140737488355328 ∧ n ≤ 9223372036854775807, True, .slc H.n, H.new (.seq false e ty (List.replicate n.toNat z))⟩ else none
              | none => none
            | _, _ => none
          | none => none
        | none => none
      | _ => none
    | none => none
  | .slice t x lo hi none => match E.T t with
    | some i => match i.k with
      | .slice e => match E.T e with
        | some te => match ρ x with
          | .vsl ty _ => bif Nat.beq te.n ty.sz then sliceD E.V H (ρ x) (lo.map ρ) (hi.map ρ) else none
          | .slc id => match H.get id with
            | some (.seq _ _ ty _) => bif Nat.beq te.n ty.sz then sliceD E.V H (ρ x) (lo.map ρ) (hi.map ρ) else none
            | _ => none
          | _ => none
        | none => none
      | .str => match ρ x with
        | .str s => strSl s (lo.map ρ) (hi.map ρ) H
        | _ => none
      | _ => none
    | none => none
  | .index t x ix => match ρ ix with
    | .int _ n => match E.T t with
      | some i => match i.k with
        | .str => match ρ x with
          | .str s => some ⟨0 ≤ n ∧ n < s.size, s.size ≤ 9223372036854775807, .int .u8 (byteU s n.toNat), H⟩
          | _ => none
        | _ => none
      | none => none
    | _ => none
  | .extract x i => match ρ x with
    | .tup l => match l[i]? with
      | some v => some ⟨True, True, v, H⟩
      | none => none
    | _ => none
  | .convert src dst x => match ρ x with
    | .int _ n => match E.T dst, E.T src with
      | some i, some _ => match i.k with
        | .int k => some ⟨True, True, .int k (k.wrap n), H⟩
        | _ => none
      | _, _ => none
    | .slc id => match E.T dst, E.T src with
      | some i, some j => match i.k, j.k with
        | .str, .slice e => match E.T e with
          | some te => match te.k with
            | .int .u8 => match H.get id with
              | some (.seq _ _ .u8 xs) => some ⟨True, True, .str (strU xs), H⟩
              | _ => none
            | _ => none
          | none => none
        | _, _ => none
      | _, _ => none
    | _ => none
  | .makeMap t none => match mapT E t with
    | some (_, _, ty) => some ⟨True, True, .hdl .mp H.n, H.new (.map false ty [])⟩
    | none => none
  | .lookup t m x ok => match ρ x with
    | .int .i64 n => match lookupD E H t (ρ m) n ok with
      | some v => some ⟨True, True, v, H⟩
      | none => none
    | _ => none
  | .mapUpdate t m x v => match ρ x with
    | .int .i64 n => match mapUpdD E H t (ρ m) n (ρ v) with
      | some (q, H') => some ⟨q, True, .undef, H'⟩
      | none => none
    | _ => none
  | .call c => match c.callee with
    | .value f => match ρ f with
      | .fn g => bif (c.args.toList.map ρ).all noTup then E.K g (c.args.toList.map ρ) H else none
      | _ => none
    | .builtin b => builtinD E b c.argTypes (c.args.toList.map ρ) H
    | .invoke _ _ => none
  | _ => none
end Go.Proofs.YtpkidbhpfohopaaDoor

noncomputable section
namespace Go.Proofs.YtpkidbhpfohopaaDoor
open Go.RowKit
set_option linter.unusedVariables false
set_option linter.unusedSimpArgs false
def Post (F : Nat → Prop) (φ : Nat → RS) (H : Heap) (w : World) (r : Res) (v : Value) (w' : World) : Prop :=
  ∃ φ', RV (cx F φ' r.H w') r.v v ∧ Rel F φ' r.H w' ∧ Ext F φ H w φ' r.H w'
structure Env.Ok (E : Env) (P : Program) : Prop where
  T : ∀ t i, E.T t = some i → TIok P t i
  Q : ∀ t ks, E.Q t = some ks → flatK P 40 t = some ks ∧ P.keyTypeAt 40 t = true ∧ P.eqGuardType P.depth t = false
  K : ∀ f args H r, E.K f args H = some r → r.need → ∀ F φ w (vs : List Value), Rel F φ H w → RVs (cx F φ H w) args vs →
    r.know ∧ (∀ w, (callFunc f vs.toArray).run P w = .ok (.enter f vs.toArray) w) ∧ Calls P f vs.toArray w fun e w' => ∃ v, e = .returned v ∧ Post F φ H w r v w'
theorem cells_one {v : Value} (h : v.oneCell' = true) : v.cells = #[v] := by
  cases v <;> first | rfl | (simp [Value.oneCell'] at h)
section
variable {P : Program} {C : Cx} {F : Nat → Prop} {φ : Nat → RS} {H : Heap} {w : World}
theorem give_v {G : Value → World → Prop} {s : Sem Value} {v : Value} {w' : World} (h : s.run P w = .ok v w') (hg : G v w') : Give P G ((s >>= fun a => Pure.pure (Next.value a)).run P w) := by
  simp only [Sem.run_bind, h, Result.andThen_ok, Sem.run_pure, Give_value]
  exact hg
theorem post_same (hR : Rel F φ H w) {p q : Prop} {a : AV} {v : Value} (hv : RV (cx F φ H w) a v) : Post F φ H w ⟨p, q, a, H⟩ v w := ⟨φ, hv, hR, Ext.refl _ _ _ _⟩
theorem leaves_ok {a : AV} {cs : List AV} {v : Value} (h : leavesOf a = some cs) (hv : RV C a v) : Reps C cs v.cells.toList := by
  cases a <;> simp only [leavesOf, reduceCtorEq, Option.some.injEq] at h <;> subst h <;> simp only [RV, RV1] at hv
  case agg cs =>
    obtain ⟨vs, rfl, hr⟩ := hv
    exact hr
  all_goals
    rw [cells_one (hv.one v (by simp))]
    exact hv
theorem ofL_agg {cs : List AV} {a : AV} {vs : List Value} (h : ofL true cs = some a) (hr : Reps C cs vs) : RV C a (.agg vs.toArray) := by
  simp only [ofL, cond_true, Option.some.injEq] at h
  subst h
  exact ⟨vs, rfl, hr⟩
theorem ofL_one {cs : List AV} {a : AV} {vs : List Value} (h : ofL false cs = some a) (hr : Reps C cs vs) : ∃ v, vs = [v] ∧ RV C a v := by
  simp only [ofL, cond_false] at h
  split at h
  · cases h
  · rename_i b hb
    injection h with h
    subst h
    have hl := hr.length
    rw [cellsL_one] at hl
    have : b.lsz = 1 := by cases b <;> first | rfl | exact absurd rfl (hb _ _ _)
    rw [this] at hl
    match vs, hl with
    | [v], _ =>
      refine ⟨v, rfl, ?_⟩
      cases b <;> simp only [RV, RV1] <;> first | exact hr | cases hr
  · cases h
theorem reps_rv {b : AV} {v : Value} (hr : Reps C [b] [v]) : RV C b v := by
  cases b <;> simp only [RV, RV1] <;> first | exact hr | cases hr
theorem TIok.agg {t : Nat} {i : TI} (hT : TIok P t i) : (isAgg t).run P w = .ok i.k.agg w := by
  obtain ⟨d, hd, hg, -⟩ := hT.und
  unfold isAgg
  rw [Sem.run_bind, run_underlying hd w, ← hg]
  cases d <;> rfl
theorem TIok.size {t : Nat} {i : TI} (hT : TIok P t i) : (sizeOf t).run P w = .ok i.n w := by
  obtain ⟨j, z, hj, hn, -⟩ := hT.info
  simp [sizeOf, typeInfo, hj, hn]
theorem TIok.zeroV {t : Nat} {i : TI} (hT : TIok P t i) : ∃ z, (zeroValue t).run P w = .ok z w ∧ ∀ C, Reps C i.zero z.cells.toList := by
  obtain ⟨j, z, hj, hn, -, hz, -, hr⟩ := hT.info
  exact ⟨z, by simp [zeroValue, typeInfo, hj, hz], hr⟩
theorem run_loadVar_of {t : Nat} {i : TI} (hT : TIok P t i) {a : Addr} {cs : List AV} {av : AV} {vs : List Value} (h : ofL i.k.agg cs = some av) (hr : Reps C cs vs) (hl : vs.length = i.n) (hc : ∀ j v, vs[j]? = some v → w.cell? (a.add j) = some v) :
    ∃ v, (loadVar t a).run P w = .ok v w ∧ RV C av v := by
  have hload := run_loadCells_list (P := P) w a vs hc
  cases hg : i.k.agg with
  | true =>
    rw [hg] at h
    refine ⟨.agg vs.toArray, ?_, ofL_agg h hr⟩
    simp [loadVar, hT.agg, hg, hT.size, ← hl, hload]
  | false =>
    rw [hg] at h
    obtain ⟨v, rfl, hv⟩ := ofL_one h hr
    refine ⟨v, ?_, hv⟩
    have := hc 0 v rfl
    simp only [Addr.add_zero'] at this
    simp [loadVar, hT.agg, hg, this]
theorem run_storeVar_of {t : Nat} {i : TI} (hT : TIok P t i) {g o : Nat} {v : Value} {cur : Array Value} {e : TypeId} (hs : v.cells.toList.length = i.n) (hg : w.heap[g]? = some (.cells cur e (0, 0))) (hfit : o + v.cells.toList.length ≤ cur.size) (h1 : ∀ u ∈ v.cells.toList, u.oneCell' = true) :
    (storeVar t ⟨g, o, none⟩ v).run P w = .ok () (w.setRow g (spl cur.toList o v.cells.toList).toArray) := by
  have hst := run_storeCells_at P g o e v.cells.toList 0 cur w hg (by simpa using hfit) h1
  have hs' : v.cells.size = i.n := by simpa using hs
  simp only [Nat.add_zero] at hst
  simp only [storeVar, Sem.run_bind, hT.size, Result.andThen_ok, hs', ne_eq, not_true_eq_false, if_false, hst, Sem.run_pure]
  rfl
theorem RVs.get {as : List AV} {vs : List Value} (h : RVs C as vs) : ∀ (i : Nat) (a : AV), as[i]? = some a → ∃ v, vs[i]? = some v ∧ RV1 C a v := by
  induction as generalizing vs with
  | nil => intro i a h2; simp at h2
  | cons b as ih =>
    cases vs with
    | nil => exact h.elim
    | cons v vs =>
      intro i a h2
      cases i with
      | zero =>
        simp at h2
        subst h2
        exact ⟨v, rfl, h.1⟩
      | succ i => exact ih h.2 i a (by simpa using h2)
theorem rv_of_rv1 {a : AV} {v : Value} (h : RV1 C a v) : RV C a v := by
  cases a <;> simp only [RV] <;> first | exact h | exact h.elim
theorem wrap_in (k : IntKind) (n : Int) : k.min ≤ k.wrap n ∧ k.wrap n ≤ k.max := by
  cases k <;> simp [IntKind.min, IntKind.max, IntKind.wrap, IntKind.bits, IntKind.signed] <;> omega
theorem rv_int {k : IntKind} {n : Int} (h : k.min ≤ n ∧ n ≤ k.max) : RV C (.int k n) (.int k n) := Reps.int h.1 h.2 .nil
theorem rv_bool (b : Bool) : RV C (.bool b) (.bool b) := Reps.bool .nil
theorem rv_int_inv {k : IntKind} {n : Int} {v : Value} (h : RV C (.int k n) v) : v = .int k n ∧ k.min ≤ n ∧ n ≤ k.max := by
  simp only [RV, RV1] at h
  cases h with
  | int a b _ => exact ⟨rfl, a, b⟩
theorem rv_bool_inv {b : Bool} {v : Value} (h : RV C (.bool b) v) : v = .bool b := by
  simp only [RV, RV1] at h
  cases h; rfl
theorem rv_str_inv {s : ByteArray} {v : Value} (h : RV C (.str s) v) : v = .string s ∧ s.size ≤ maxLen := by
  simp only [RV, RV1] at h
  cases h with
  | str a _ => exact ⟨rfl, a⟩
theorem rv_ptr_inv {id : Nat} {p : Path} {v : Value} (h : RV C (.ptr id p) v) : v = .pointer (some ⟨(C.φ id).blk, p.off, none⟩) ∧ id < C.n := by
  simp only [RV, RV1] at h
  cases h with
  | ptr a _ => exact ⟨rfl, a⟩
theorem rv_ptr {id : Nat} (p : Path) (h : id < C.n) : RV C (.ptr id p) (.pointer (some ⟨(C.φ id).blk, p.off, none⟩)) := Reps.ptr h .nil
theorem rv_nilp_inv {v : Value} (h : RV C .nilp v) : v = .pointer none := by
  simp only [RV, RV1] at h
  cases h; rfl
theorem rv_nils_inv {v : Value} (h : RV C .nils v) : v = .slice none 0 0 := by
  simp only [RV, RV1] at h
  cases h; rfl
theorem rv_slc_inv {id : Nat} {v : Value} (h : RV C (.slc id) v) : v = (C.φ id).sl ∧ id < C.n := by
  simp only [RV, RV1] at h
  cases h with
  | slc a _ => exact ⟨rfl, a⟩
theorem rv_hdl_inv {k : HK} {id : Nat} {v : Value} (h : RV C (.hdl k id) v) : v = k.val (C.φ id) ∧ id < C.n := by
  simp only [RV, RV1] at h
  cases h with
  | hdl a _ => exact ⟨rfl, a⟩
theorem rv_hdl {k : HK} {id : Nat} (h : id < C.n) : RV C (.hdl k id) (k.val (C.φ id)) := Reps.hdl h .nil
theorem rv_agg_inv {cs : List AV} {v : Value} (h : RV C (.agg cs) v) : ∃ vs : List Value, v = .agg vs.toArray ∧ Reps C cs vs := h
theorem rv_fn_inv {f : Nat} {v : Value} (h : RV C (.fn f) v) : v = .func (.func f) #[] #[] := by
  simp only [RV, RV1] at h
  cases h; rfl
theorem rv_vptr_inv {t : Ty} {x : t.den} {k : Nat} {v : Value} (h : RV C (.vptr t x k) v) : ∃ b o ws, v = .pointer (some ⟨b, o + k, none⟩) ∧ Reps C (enc t x) ws ∧ ¬ C.mt b ∧ b < C.w.heap.size ∧ ∀ j v, ws[j]? = some v → C.w.cell? ⟨b, o + j, none⟩ = some v := by
  simp only [RV, RV1] at h
  cases h with
  | vptr ws a b c d _ => exact ⟨_, _, ws, rfl, a, b, c, d⟩
theorem rv_vsl_inv {t : Ty} {xs : List t.den} {v : Value} (h : RV C (.vsl t xs) v) : ∃ A c, v = .slice A xs.length c ∧ xs.length ≤ c ∧ (c ≤ maxLen ∧ (A = none → c = 0)) ∧ ∃ ws : Nat → List Value,
    (0 < xs.length → ∃ b off, A = some ⟨b, off, none⟩ ∧ ¬ C.mt b ∧ b < C.w.heap.size ∧ ∀ i, i < xs.length → ∀ j v, (ws i)[j]? = some v → C.w.cell? ⟨b, off + i * t.sz + j, none⟩ = some v) ∧
    (∀ i (x : t.den), xs[i]? = some x → Reps C (enc t x) (ws i)) := by
  simp only [RV, RV1] at h
  cases h with
  | vsl ws a b c d _ => exact ⟨_, _, rfl, a, b, ws, c, d⟩
theorem seq_len {id : Nat} {e : Nat} {t : Ty} {xs : List t.den} (hR : Rel F φ H w) {ro : Bool} (hg : H.get id = some (.seq ro e t xs)) : xs.length ≤ maxLen ∧ (∃ A c, (φ id).sl = .slice A xs.length c ∧ (A = none → c = 0) ∧ xs.length ≤ c ∧ c ≤ maxLen) := by
  obtain ⟨hl, hn, us, hr, ho⟩ := hR.blk _ _ hg
  rcases ho.2 with ⟨h, h0⟩ | ⟨g, cap, cur, h, -, -, h1, h2, -⟩
  · rw [h, h0]
    exact ⟨Nat.zero_le _, none, 0, rfl, fun _ => rfl, Nat.le_refl _, Nat.zero_le _⟩
  · rw [h]
    exact ⟨Nat.le_trans h1 h2, _, _, rfl, fun h => (by cases h), h1, h2⟩
theorem flat_of_ws {t : Ty} {xs : List t.den} {ws : Nat → List Value} (h : ∀ i (x : t.den), xs[i]? = some x → Reps C (enc t x) (ws i)) : ∃ us, Reps C (xs.flatMap (enc t)) us ∧ us.length = xs.length * t.sz ∧ ∀ i, i < xs.length → ∀ j, j < t.sz → us[i * t.sz + j]? = (ws i)[j]? := by
  induction xs generalizing ws with
  | nil => exact ⟨[], .nil, by simp, fun i hi => absurd hi (by simp)⟩
  | cons x xs ih =>
    obtain ⟨us, h1, h2, h3⟩ := ih (ws := fun i => ws (i + 1)) (fun i y hy => h (i + 1) y (by simpa using hy))
    have h0 := h 0 x rfl
    have hl : (ws 0).length = t.sz := by rw [h0.length, enc_cells]
    refine ⟨ws 0 ++ us, by rw [List.flatMap_cons]; exact Reps.append h0 h1, by rw [List.length_append, hl, h2, List.length_cons, Nat.succ_mul]; omega, fun i hi j hj => ?_⟩
    cases i with
    | zero => rw [Nat.zero_mul, Nat.zero_add, List.getElem?_append_left (by omega)]
    | succ i =>
      rw [Nat.succ_mul, List.getElem?_append_right (by omega), hl]
      rw [← h3 i (by simpa using hi) j hj]
      congr 1
      omega
end
end Go.Proofs.YtpkidbhpfohopaaDoor
