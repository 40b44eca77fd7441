/- The engine: the operations. No condition. -/
import Derived.Test.YtpjdicndjakeoaaE6
import Derived.Conc.MuLone
namespace Go.Proofs.Ytpjdicndjakeoaa
open Go.RowKit
set_option linter.unusedVariables false
set_option linter.unusedSimpArgs false
def okN (k : IntKind) (n : Int) : Prop :=
  match k with
  | .i64 => okI n
  | k => k.min ≤ n ∧ n ≤ k.max
theorem okN_iff {k : IntKind} {n : Int} : okN k n ↔ k.min ≤ n ∧ n ≤ k.max := by
  cases k <;> simp [okN, okI, IntKind.min, IntKind.max, IntKind.signed, IntKind.bits]
/-- What an operation comes to: what must hold, what is known then, the value, the memory. -/
structure Res where
  need : Prop
  know : Prop
  v : AV
  H : Heap
structure Env where
  T : Nat → Option TI
  Q : Nat → Option (List FK)
  K : Nat → List AV → Heap → Option Res
  V : Bool
def leavesOf : AV → Option (List AV)
  | .undef => none
  | .tup _ => none
  | .agg cs => some cs
  | .int k n => some [.int k n]
  | .bool b => some [.bool b]
  | .str s => some [.str s]
  | .nilp => some [.nilp]
  | .ptr id p => some [.ptr id p]
  | .nils => some [.nils]
  | .slc id => some [.slc id]
  | .nilm => some [.nilm]
  | .hdl k id => some [.hdl k id]
  | .vsl t xs => some [.vsl t xs]
  | .arr n t xs => some [.arr n t xs]
  | .fn f => some [.fn f]
  | .vptr t x k => some [.vptr t x k]
def ofL (g : Bool) (cs : List AV) : Option AV :=
  bif g then some (.agg cs) else match cs with
    | [.arr _ _ _] => none
    | [a] => some a
    | _ => none
def lenD (k : TK) (H : Heap) (x : AV) : Option (Prop × Nat) :=
  match k with
  | .slice _ => match x with
    | .slc id => match H.get id with
      | some (.seq _ _ _ xs) => some (xs.length ≤ 9223372036854775807, xs.length)
      | _ => none
    | .vsl _ xs => some (xs.length ≤ 9223372036854775807, xs.length)
    | .nils => some (True, 0)
    | .hdl (.osl n) _ => bif Nat.ble n 1000 then some (True, n) else none
    | _ => none
  | .str => match x with
    | .str s => some (s.size ≤ 9223372036854775807, s.size)
    | _ => none
  | .map _ _ => match x with
    | .hdl .mp id => match H.get id with
      | some (.map _ _ es) => some (es.length ≤ 9223372036854775807, es.length)
      | _ => none
    | _ => none
  | _ => none
def intB (op : BinOp) (k : IntKind) (a b : Int) : Option (Prop × AV) :=
  match op with
  | .add => some (True, .int k (k.wrap (a + b)))
  | .sub => some (True, .int k (k.wrap (a - b)))
  | .mul => some (True, .int k (k.wrap (a * b)))
  | .quo => some (b ≠ 0, .int k (k.wrap (a.tdiv b)))
  | .rem => some (b ≠ 0, .int k (k.wrap (a.tmod b)))
  | .eql => some (True, .bool (a == b))
  | .neq => some (True, .bool (a != b))
  | .lss => some (True, .bool (decide (a < b)))
  | .leq => some (True, .bool (decide (a ≤ b)))
  | .gtr => some (True, .bool (decide (b < a)))
  | .geq => some (True, .bool (decide (b ≤ a)))
  | _ => none
def eqB (E : Env) (t : Nat) (x y : AV) : Option Bool :=
  match x, y with
  | .str a, .str b => some (decide (a = b))
  | x, y => match E.T t with
    | some i => match i.k with
      | .bool => match x, y with
        | .bool a, .bool b => some (a == b)
        | _, _ => none
      | .ptr _ => match x, y with
        | .nilp, .nilp => some true
        | .nilp, .ptr _ _ => some false
        | .ptr _ _, .nilp => some false
        | _, _ => none
      | .slice _ => match x, y with
        | .nils, .nils => some true
        | _, _ => none
      | k => bif k.agg then (match x, y with
        | .agg as, .agg bs => match E.Q t with
          | some ks => eqL ks as bs
          | none => none
        | _, _ => none) else none
    | none => none
def binD (E : Env) (op : BinOp) (t : Nat) (x y : AV) : Option (Prop × Prop × AV) :=
  match x, y with
  | .int k a, .int k' b => bif decide (k = k') then (match intB op k a b with
      | some (p, v) => some (p, okN k a ∧ okN k b, v)
      | none => none) else none
  | x, y => match op with
    | .eql => match eqB E t x y with
      | some r => some (True, True, .bool r)
      | none => none
    | .neq => match eqB E t x y with
      | some r => some (True, True, .bool (!r))
      | none => none
    | _ => none
/-- A list's elements, to be read. -/
def srcL (ty : Ty) (H : Heap) : AV → Option (List ty.den)
  | .slc id => match H.get id with
    | some (.seq _ _ u xs) => if h : u = ty then some (h ▸ xs) else none
    | _ => none
  | .vsl u xs => if h : u = ty then some (h ▸ xs) else none
  | .nils => some []
  | .hdl (.tl lo sz) id => match H.get id with
    | some (.seq _ _ u xs) => bif Nat.beq sz ty.sz then (if h : u = ty then some ((h ▸ xs).drop lo) else none) else none
    | _ => none
  | _ => none
def fillD (E : Env) (fs : List (Nat × Nat)) : List AV → List (Nat × AV) → Option (List AV)
  | cs, [] => some cs
  | cs, (i, a) :: r => match fs[i]? with
    | some (off, ft) => match E.T ft with
      | some ti => match leavesOf a with
        | some bs => bif Nat.beq (cellsL bs) ti.n then (match putC cs off bs with
          | some ds => fillD E fs ds r
          | none => none) else none
        | none => none
      | none => none
    | none => none
/-- A literal's elements, from a given number on. -/
def elemsD (ty : Ty) : Heap → Nat → List (Nat × AV) → Option (List ty.den × Heap)
  | H, _, [] => some ([], H)
  | H, n, (i, a) :: r => bif Nat.beq i n then (match leavesOf a with
    | some bs => match frzL H bs with
      | (bs, H1) => match dec ty bs with
        | some x => match elemsD ty H1 (n + 1) r with
          | some (xs, H2) => some (x :: xs, H2)
          | none => none
        | none => none
    | none => none) else none
/-- A literal's elements that are pointers. -/
def ptrsD : Nat → List (Nat × AV) → Option (List AV)
  | _, [] => some []
  | n, (i, a) :: r => bif Nat.beq i n then (match a with
    | .ptr id p => match ptrsD (n + 1) r with
      | some as => some (.ptr id p :: as)
      | none => none
    | _ => none) else none
def storeD (H : Heap) (id : Nat) (p : Path) (bs : List AV) : Option (Prop × Heap) :=
  match H.get id with
  | some (.obj false cs) => bif Nat.beq p.s 0 then (match writeIn cs p bs with
    | some (q, ds) => some (q, H.put id (some (.obj false ds)))
    | none => none) else none
  | some (.seq false _ _ _) => match frzL H bs with
    | (bs, H1) => match H1.get id with
      | some (.seq false e t xs) => bif Nat.beq p.s t.sz then (match writeIn (enc t (xs.getD p.i t.dflt)) p bs with
        | some (q, ds) => match dec t ds with
          | some y => some (p.i < xs.length ∧ q, H1.put id (some (.seq false e t (xs.set p.i y))))
          | none => none
        | none => none) else none
      | _ => none
  | _ => none
/-- A slice of its own memory that is put where one stands that is but read: it is but read from now on. -/
def storeF (H : Heap) (id : Nat) (p : Path) (bs : List AV) : Option (Prop × Heap) :=
  match bs with
  | [.slc k] => match H.get id with
    | some (.obj false cs) => match dropC cs p.k with
      | some (.vsl _ _ :: _) => match H.get k with
        | some (.seq false _ t xs) => storeD (H.put k none) id p [.vsl t xs]
        | _ => storeD H id p [.slc k]
      | _ => storeD H id p [.slc k]
    | _ => storeD H id p [.slc k]
  | bs => storeD H id p bs
def indexD (E : Env) (H : Heap) (t : Nat) (x : AV) (n : Int) : Option (Prop × Prop × AV) :=
  match E.T t with
  | some ti => match ti.k with
    | .slice e => match E.T e with
      | some te => match x with
        | .slc id => match H.get id with
          | some (.seq _ _ ty xs) => bif Nat.beq te.n ty.sz then some (0 ≤ n ∧ n < xs.length, xs.length ≤ 9223372036854775807, .ptr id ⟨n.toNat, ty.sz, 0, none⟩) else none
          | _ => none
        | .vsl ty xs => bif Nat.beq te.n ty.sz then some (0 ≤ n ∧ n < xs.length, xs.length ≤ 9223372036854775807, .vptr ty (xs.getD n.toNat ty.dflt) 0) else none
        | .hdl (.osl m) id => bif Nat.beq te.n 1 then some (0 ≤ n ∧ n < m, True, .ptr id ⟨0, 0, n.toNat, none⟩) else none
        | _ => none
      | none => none
    | .array m e => match E.T e with
      | some te => match x with
        | .ptr id p => match p.j with
          | some _ => none
          | none => some (0 ≤ n ∧ n < m, True, .ptr id ⟨p.i, p.s, p.k, some (n.toNat, te.n)⟩)
        | _ => none
      | none => none
    | _ => none
  | none => none
/-- A type of maps whose keys are ints: the keys' type, the elements'. -/
def mapT (E : Env) (t : Nat) : Option (Nat × TI × Ty) :=
  match E.T t with
  | some i => match i.k with
    | .map k e => match E.T k with
      | some tk => match tk.k with
        | .int .i64 => match E.T e with
          | some te => match te.ty with
            | some ty => some (k, te, ty)
            | none => none
          | none => none
        | _ => none
      | none => none
    | _ => none
  | none => none
def isAggA : AV → Bool
  | .agg _ => true
  | _ => false
def noTup : AV → Bool
  | .tup _ => false
  | _ => true
def lookupD (E : Env) (H : Heap) (t : Nat) (m : AV) (n : Int) (ok : Bool) : Option AV :=
  match mapT E t with
  | some (_, te, _) => match m with
    | .hdl .mp id => match H.get id with
      | some (.map _ u es) => bif te.k.agg == u.agg then (match dec u te.zero with
        | some z => match ofL u.agg (enc u ((mGet es n).getD z)) with
          | some v => bif ok then (bif noTup v then some (.tup [v, .bool (mGet es n).isSome]) else none) else some v
          | none => none
        | none => none) else none
      | _ => none
    | _ => none
  | none => none
def mapUpdD (E : Env) (H : Heap) (t : Nat) (m : AV) (n : Int) (x : AV) : Option (Prop × Heap) :=
  match mapT E t with
  | some (_, te, _) => match m with
    | .hdl .mp id => match H.get id with
      | some (.map false u es) => match leavesOf x with
        | some bs => bif isAggA x == u.agg then (match dec u bs with
          | some y => some (es.length < 9223372036854775807, H.put id (some (.map false u (mPut es n y))))
          | none => none) else none
        | none => none
      | _ => none
    | _ => none
  | none => none
def delD (E : Env) (H : Heap) (t k : Nat) (m : AV) (n : Int) : Option Heap :=
  match mapT E t with
  | some (k', _, _) => match m with
    | .hdl .mp id => match H.get id with
      | some (.map false u es) => bif Nat.beq k k' then some (H.put id (some (.map false u (mDel es n)))) else none
      | _ => none
    | _ => none
  | none => none
/-- Are two pointers at whole objects one? -/
def ptrD (H : Heap) (op : BinOp) (x y : AV) : Option Bool :=
  match x, y with
  | .ptr id ⟨0, 0, 0, none⟩, .ptr id' ⟨0, 0, 0, none⟩ => match H.get id, H.get id' with
    | some (.obj _ _), some (.obj _ _) => match op with
      | .eql => some (Nat.beq id id')
      | .neq => some (!(Nat.beq id id'))
      | _ => none
    | _, _ => none
  | _, _ => none
def builtinD (E : Env) (b : Builtin) (ts : Array TypeId) (args : List AV) (H : Heap) : Option Res :=
  match b, args with
  | .len, [x] => match ts.toList with
    | [t] => match E.T t with
      | some ti => match lenD ti.k H x with
        | some (p, n) => some ⟨True, p, .int .i64 n, H⟩
        | none => none
      | none => none
    | _ => none
  | .min, [.int k a, .int k' b] => bif decide (k = k') then some ⟨True, True, .int k (if b < a then b else a), H⟩ else none
  | .max, [.int k a, .int k' b] => bif decide (k = k') then some ⟨True, True, .int k (if a < b then b else a), H⟩ else none
  | .append, [x, y] => match ts.toList with
    | [t, t'] => bif Nat.beq t t' then (match E.T t with
      | some ti => match ti.k with
        | .slice e => match E.T e with
          | some te => match x with
            | .nils => match te.ty with
              | some ty => match srcL ty H y with
                | some ys => bif Nat.beq te.n ty.sz && Nat.blt 0 ty.sz && Nat.blt 0 te.bytes then some ⟨ys.length * te.bytes ≤ 140737488355328, ys.length ≤ 9223372036854775807, .slc H.n, H.new (.seq false e ty ys)⟩ else none
                | none => none
              | none => none
            | .slc id => match H.get id with
              | some (.seq false e' ty xs) => match srcL ty H y with
                | some ys => bif Nat.beq e e' && Nat.beq te.n ty.sz && Nat.blt 0 ty.sz && Nat.blt 0 te.bytes then some ⟨(xs.length + ys.length) * te.bytes ≤ 140737488355328, xs.length + ys.length ≤ 9223372036854775807, .slc H.n, (H.put id none).new (.seq false e ty (xs ++ ys))⟩ else none
                | none => none
              | _ => none
            | _ => none
          | none => none
        | _ => none
      | none => none) else none
    | _ => none
  | .copy, [.slc id, y] => match ts.toList with
    | [t, _] => match E.T t with
      | some ti => match ti.k with
        | .slice e => match E.T e with
          | some te => match H.get id with
            | some (.seq false e' ty xs) => match srcL ty H y with
              | some ys => bif Nat.beq te.n ty.sz then some ⟨True, True, .int .i64 (min ys.length xs.length : Nat), H.put id (some (.seq false e' ty (ys.take xs.length ++ xs.drop ys.length)))⟩ else none
              | none => none
            | _ => none
          | none => none
        | _ => none
      | none => none
    | _ => none
  | .delete, [m, .int .i64 n] => match ts.toList with
    | [t, k] => match delD E H t k m n with
      | some H' => some ⟨True, True, .tup [], H'⟩
      | none => none
    | _ => none
  | _, _ => none
def sliceD (V : Bool) (H : Heap) (x : AV) (lo hi : Option AV) : Option Res :=
  match lo, hi with
  | some (.int _ l), none => match x with
    | .vsl ty xs => some ⟨0 ≤ l ∧ l ≤ xs.length, True, .vsl ty (xs.drop l.toNat), H⟩
    | .slc id => match H.get id with
      | some (.seq false e ty xs) => bif V then some ⟨0 ≤ l ∧ l ≤ xs.length, True, .hdl (.tl l.toNat ty.sz) id, H⟩ else some ⟨0 ≤ l ∧ l ≤ xs.length, True, .vsl ty (xs.drop l.toNat), H.put id none⟩
      | _ => none
    | _ => none
  | none, some (.int _ h) => match x with
    | .vsl ty xs => some ⟨0 ≤ h ∧ h ≤ xs.length, True, .vsl ty (xs.take h.toNat), H⟩
    | .slc id => match H.get id with
      | some (.seq false e ty xs) => bif V then some ⟨0 ≤ h ∧ h ≤ xs.length, True, .slc H.n, (H.put id none).new (.seq false e ty (xs.take h.toNat))⟩ else some ⟨0 ≤ h ∧ h ≤ xs.length, True, .vsl ty (xs.take h.toNat), H.put id none⟩
      | _ => none
    | _ => none
  | _, _ => none
def opD (E : Env) (op : Op) (ρ : Operand → AV) (H : Heap) : Option Res :=
  match op with
  | .move x => some ⟨True, True, ρ x, H⟩
  | .assign x => some ⟨True, True, ρ x, H⟩
  | .pick c a b => match ρ c with
    | .bool c => match ρ a, ρ b with
      | .bool x, .bool y => some ⟨True, True, .bool (bif c then x else y), H⟩
      | .bool x, .undef => some ⟨c = true, True, .bool x, H⟩
      | .bool x, .tup [] => some ⟨c = true, True, .bool x, H⟩
      | .undef, .bool y => some ⟨c = false, True, .bool y, H⟩
      | .tup [], .bool y => some ⟨c = false, True, .bool y, H⟩
      | _, _ => none
    | _ => none
  | .alloc t => match E.T t with
    | some i => some ⟨True, True, .ptr H.n ⟨0, 0, 0, none⟩, H.new (.obj false i.zero)⟩
    | none => none
  | .box _ x => match leavesOf (ρ x) with
    | some cs => some ⟨True, True, .ptr H.n ⟨0, 0, 0, none⟩, H.new (.obj false cs)⟩
    | none => none
  | .build t parts => match E.T t with
    | some i => match i.k with
      | .struct fs => bif fs.all (fun x => (E.T x.2).isSome) then (match fillD E fs i.zero (parts.toList.map fun (j, x) => (j, ρ x)) with
        | some cs => some ⟨True, True, .agg cs, H⟩
        | none => none) else none
      | .array _ e => match E.T e with
        | some _ => match parts.toList with
          | [] => some ⟨True, True, .agg i.zero, H⟩
          | _ => none
        | none => none
      | _ => none
    | none => none
  | .buildSlice t len parts => match E.T t with
    | some i => match i.k with
      | .slice e => match E.T e with
        | some te => match te.ty with
          | some ty => bif Nat.beq te.n ty.sz && Nat.blt 0 ty.sz && Nat.beq parts.size len && Nat.ble (len * ty.sz) 16777216 then (match elemsD ty H 0 (parts.toList.map fun (j, x) => (j, ρ x)) with
            | some (xs, H') => some ⟨True, True, .slc H'.n, H'.new (.seq false e ty xs)⟩
            | none => none) else none
          | none => bif Nat.beq te.n 1 && Nat.beq parts.size len && Nat.ble len 1000 then (match ptrsD 0 (parts.toList.map fun (j, x) => (j, ρ x)) with
            | some as => some ⟨True, True, .hdl (.osl len) H.n, H.new (.obj false as)⟩
            | none => none) else none
        | none => none
      | _ => none
    | none => none
  | .load t x => match E.T t with
    | some i => match ρ x with
      | .ptr id p => match readL H id p i.n with
        | some (q, cs) => match ofL i.k.agg cs with
          | some v => some ⟨q, True, v, H⟩
          | none => none
        | none => none
      | .vptr ty y k => match dropC (enc ty y) k with
        | some ds => match takeC ds i.n with
          | some cs => match ofL i.k.agg cs with
            | some v => some ⟨True, True, v, H⟩
            | none => none
          | none => none
        | none => none
      | _ => none
    | none => none
  | .store t a x => match E.T t with
    | some i => match ρ a with
      | .ptr id p => match leavesOf (ρ x) with
        | some bs => bif Nat.beq (cellsL bs) i.n then (match storeF H id p bs with
          | some (q, H') => some ⟨q, True, .undef, H'⟩
          | none => none) else none
        | none => none
      | _ => none
    | none => none
  | .nilCheck x => match ρ x with
    | .ptr id p => some ⟨True, True, .ptr id p, H⟩
    | _ => none
  | .binOp op t x y _ => match binD E op t (ρ x) (ρ y) with
    | some (p, q, v) => some ⟨p, q, v, H⟩
    | none => match E.T t with
      | some i => match i.k with
        | .ptr e => match E.T e with
          | some te => bif Nat.blt 0 te.n then (match ptrD H op (ρ x) (ρ y) with
            | some b => some ⟨True, True, .bool b, H⟩
            | none => none) else none
          | none => none
        | _ => none
      | none => none
  | .unOp op _ x => match op, ρ x with
    | .not, .bool b => some ⟨True, True, .bool (!b), H⟩
    | .neg, .int k n => some ⟨True, True, .int k (k.wrap (0 - n)), H⟩
    | _, _ => none
  | .fieldAddr s x f => match E.T s with
    | some i => match i.k with
      | .struct fs => match fs[f]? with
        | some (off, ft) => match E.T ft with
          | some ti => bif Nat.blt 0 ti.n then (match ρ x with
            | .ptr id p => match p.j with
              | none => some ⟨True, True, .ptr id ⟨p.i, p.s, p.k + off, none⟩, H⟩
              | some _ => none
            | .vptr ty y k => some ⟨True, True, .vptr ty y (k + off), H⟩
            | _ => none) else none
          | none => none
        | none => none
      | _ => none
    | none => none
  | .field s x f => match E.T s with
    | some i => match i.k with
      | .struct fs => match fs[f]? with
        | some (off, ft) => match E.T ft with
          | some ti => match ρ x with
            | .agg cs => match dropC cs off with
              | some ds => match takeC ds ti.n with
                | some es => match ofL ti.k.agg es with
                  | some v => bif Nat.blt 0 ti.n then some ⟨True, True, v, H⟩ else none
                  | none => none
                | none => none
              | none => none
            | _ => none
          | none => none
        | none => none
      | _ => none
    | none => none
  | .indexAddr t x ix => match ρ ix with
    | .int k n => match indexD E H t (ρ x) n with
      | some (p, q, v) => some ⟨p, q, v, H⟩
      | none => none
    | _ => none
  | .makeSlice t l c => match E.T t with
    | some i => match i.k with
      | .slice e => match E.T e with
        | some te => match te.ty with
          | some ty => match ρ l, ρ c with
            | .int _ n, .int _ m => match dec ty te.zero with
              | some z => bif Nat.beq te.n ty.sz && Nat.blt 0 ty.sz then some ⟨(m = n ∧ 0 ≤ n) ∧ n * te.bytes ≤ 140737488355328 ∧ n ≤ 9223372036854775807, True, .slc H.n, H.new (.seq false e ty (List.replicate n.toNat z))⟩ else none
              | none => none
            | _, _ => none
          | none => none
        | none => none
      | _ => none
    | none => none
  | .slice t x lo hi none => match E.T t with
    | some i => match i.k with
      | .slice e => match E.T e with
        | some te => match ρ x with
          | .vsl ty _ => bif Nat.beq te.n ty.sz then sliceD E.V H (ρ x) (lo.map ρ) (hi.map ρ) else none
          | .slc id => match H.get id with
            | some (.seq _ _ ty _) => bif Nat.beq te.n ty.sz then sliceD E.V H (ρ x) (lo.map ρ) (hi.map ρ) else none
            | _ => none
          | _ => none
        | none => none
      | _ => none
    | none => none
  | .extract x i => match ρ x with
    | .tup l => match l[i]? with
      | some v => some ⟨True, True, v, H⟩
      | none => none
    | _ => none
  | .convert src dst x => match ρ x with
    | .int _ n => match E.T dst, E.T src with
      | some i, some _ => match i.k with
        | .int k => some ⟨True, True, .int k (k.wrap n), H⟩
        | _ => none
      | _, _ => none
    | _ => none
  | .makeMap t none => match mapT E t with
    | some (_, _, ty) => some ⟨True, True, .hdl .mp H.n, H.new (.map false ty [])⟩
    | none => none
  | .lookup t m x ok => match ρ x with
    | .int .i64 n => match lookupD E H t (ρ m) n ok with
      | some v => some ⟨True, True, v, H⟩
      | none => none
    | _ => none
  | .mapUpdate t m x v => match ρ x with
    | .int .i64 n => match mapUpdD E H t (ρ m) n (ρ v) with
      | some (q, H') => some ⟨q, True, .undef, H'⟩
      | none => none
    | _ => none
  | .call c => match c.callee with
    | .value f => match ρ f with
      | .fn g => bif (c.args.toList.map ρ).all noTup then E.K g (c.args.toList.map ρ) H else none
      | _ => none
    | .builtin b => builtinD E b c.argTypes (c.args.toList.map ρ) H
    | .invoke _ _ => none
  | _ => none
end Go.Proofs.Ytpjdicndjakeoaa
