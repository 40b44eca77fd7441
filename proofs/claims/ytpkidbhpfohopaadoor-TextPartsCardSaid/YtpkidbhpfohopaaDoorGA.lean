/- The records that stand for the program's plain structs, and the plain functions that the layers compute. -/
import Derived.RowKit
import Derived.WalkKit
import Derived.ProofKit
import Derived.OpenShut
import Derived.ChangeOld
import Derived.Below
import Derived.Deep.Slices
import Derived.Deep.QuietTactic
import Derived.BigQuiet
import Derived.KernelRfl
import Derived.Orders
noncomputable section
namespace Go.Proofs.YtpkidbhpfohopaaDoor
open Go.RowKit
set_option linter.unusedVariables false
def okI (n : Int) : Prop := -9223372036854775808 ≤ n ∧ n ≤ 9223372036854775807
theorem okI_of {n : Int} (h : -9223372036854775808 ≤ n ∧ n ≤ 9223372036854775807) : okI n := h
def icell (n : Int) : List Value := [.int .i64 n]
structure Bun where
  c : Int
  o : Bool
  h : Bool
  d : Int
  deriving DecidableEq
def okBun (r : Bun) : Prop := okI r.c ∧ okI r.d
def Bun.cs (r : Bun) : List Value := [.int .i64 r.c, .bool r.o, .bool r.h, .int .i64 r.d]
structure Opr where
  b : Int
  w : Bool
  v : Int
  deriving DecidableEq
def okOpr (r : Opr) : Prop := okI r.b ∧ okI r.v
def Opr.cs (r : Opr) : List Value := [.int .i64 r.b, .bool r.w, .int .i64 r.v]
structure Cfg where
  nodes : Int
  blocks : Int
  tokens : Int
  sets : Int
  ways : Int
  cap : Int
  wait : Int
  tries : Int
  policy : Int
  deriving DecidableEq
def okCfg (r : Cfg) : Prop := okI r.nodes ∧ okI r.blocks ∧ okI r.tokens ∧ okI r.sets ∧ okI r.ways ∧ okI r.cap ∧ okI r.wait ∧ okI r.tries ∧ okI r.policy
def Cfg.cs (r : Cfg) : List Value := [.int .i64 r.nodes, .int .i64 r.blocks, .int .i64 r.tokens, .int .i64 r.sets, .int .i64 r.ways, .int .i64 r.cap, .int .i64 r.wait, .int .i64 r.tries, .int .i64 r.policy]
structure Ltr where
  kind : Int
  frm : Int
  to : Int
  block : Int
  seq : Int
  who : Int
  wr : Bool
  tok : Bun
  deriving DecidableEq
def okLtr (r : Ltr) : Prop := okI r.kind ∧ okI r.frm ∧ okI r.to ∧ okI r.block ∧ okI r.seq ∧ okI r.who ∧ okBun r.tok
def Ltr.cs (r : Ltr) : List Value := [.int .i64 r.kind, .int .i64 r.frm, .int .i64 r.to, .int .i64 r.block, .int .i64 r.seq, .int .i64 r.who, .bool r.wr, .int .i64 r.tok.c, .bool r.tok.o, .bool r.tok.h, .int .i64 r.tok.d]
structure Ent where
  kind : Int
  a : Int
  b : Int
  c : Int
  d : Int
  deriving DecidableEq
def okEnt (r : Ent) : Prop := okI r.kind ∧ okI r.a ∧ okI r.b ∧ okI r.c ∧ okI r.d
def Ent.cs (r : Ent) : List Value := [.int .i64 r.kind, .int .i64 r.a, .int .i64 r.b, .int .i64 r.c, .int .i64 r.d]
structure Don where
  node : Int
  num : Int
  op : Opr
  val : Int
  step : Int
  deriving DecidableEq
def okDon (r : Don) : Prop := okI r.node ∧ okI r.num ∧ okOpr r.op ∧ okI r.val ∧ okI r.step
def Don.cs (r : Don) : List Value := [.int .i64 r.node, .int .i64 r.num, .int .i64 r.op.b, .bool r.op.w, .int .i64 r.op.v, .int .i64 r.val, .int .i64 r.step]
structure Atv where
  block : Int
  node : Int
  seq : Int
  deriving DecidableEq
def okAtv (r : Atv) : Prop := okI r.block ∧ okI r.node ∧ okI r.seq
def Atv.cs (r : Atv) : List Value := [.int .i64 r.block, .int .i64 r.node, .int .i64 r.seq]
structure Lin where
  block : Int
  tok : Bun
  deriving DecidableEq
def okLin (r : Lin) : Prop := okI r.block ∧ okBun r.tok
def Lin.cs (r : Lin) : List Value := [.int .i64 r.block, .int .i64 r.tok.c, .bool r.tok.o, .bool r.tok.h, .int .i64 r.tok.d]
structure B2 where
  a : Bool
  b : Bool
  deriving DecidableEq
def okB2 (r : B2) : Prop := True
def B2.cs (r : B2) : List Value := [.bool r.a, .bool r.b]
structure I2 where
  a : Int
  b : Int
  deriving DecidableEq
def okI2 (r : I2) : Prop := okI r.a ∧ okI r.b
def I2.cs (r : I2) : List Value := [.int .i64 r.a, .int .i64 r.b]
structure I3 where
  a : Int
  b : Int
  c : Int
  deriving DecidableEq
def okI3 (r : I3) : Prop := okI r.a ∧ okI r.b ∧ okI r.c
def I3.cs (r : I3) : List Value := [.int .i64 r.a, .int .i64 r.b, .int .i64 r.c]
structure I4 where
  a : Int
  b : Int
  c : Int
  d : Int
  deriving DecidableEq
def okI4 (r : I4) : Prop := okI r.a ∧ okI r.b ∧ okI r.c ∧ okI r.d
def I4.cs (r : I4) : List Value := [.int .i64 r.a, .int .i64 r.b, .int .i64 r.c, .int .i64 r.d]
structure I32 where
  a : I3
  b : I3
  deriving DecidableEq
def okI32 (r : I32) : Prop := okI3 r.a ∧ okI3 r.b
def I32.cs (r : I32) : List Value := [.int .i64 r.a.a, .int .i64 r.a.b, .int .i64 r.a.c, .int .i64 r.b.a, .int .i64 r.b.b, .int .i64 r.b.c]
structure Act10 where
  kind : Int
  block : Int
  count : Int
  owner : Bool
  data : Bool
  tok : Bun
  deriving DecidableEq
def okAct10 (r : Act10) : Prop := okI r.kind ∧ okI r.block ∧ okI r.count ∧ okBun r.tok
def Act10.cs (r : Act10) : List Value := [.int .i64 r.kind, .int .i64 r.block, .int .i64 r.count, .bool r.owner, .bool r.data, .int .i64 r.tok.c, .bool r.tok.o, .bool r.tok.h, .int .i64 r.tok.d]
structure Act12 where
  kind : Int
  block : Int
  seq : Int
  node : Int
  deriving DecidableEq
def okAct12 (r : Act12) : Prop := okI r.kind ∧ okI r.block ∧ okI r.seq ∧ okI r.node
def Act12.cs (r : Act12) : List Value := [.int .i64 r.kind, .int .i64 r.block, .int .i64 r.seq, .int .i64 r.node]
structure Act11 where
  kind : Int
  a : Atv
  deriving DecidableEq
def okAct11 (r : Act11) : Prop := okI r.kind ∧ okAtv r.a
def Act11.cs (r : Act11) : List Value := [.int .i64 r.kind, .int .i64 r.a.block, .int .i64 r.a.node, .int .i64 r.a.seq]
structure Act16 where
  l : Ltr
  d : I3
  copy : Bool
  deriving DecidableEq
def okAct16 (r : Act16) : Prop := okLtr r.l ∧ okI3 r.d
def Act16.cs (r : Act16) : List Value := [.int .i64 r.l.kind, .int .i64 r.l.frm, .int .i64 r.l.to, .int .i64 r.l.block, .int .i64 r.l.seq, .int .i64 r.l.who, .bool r.l.wr, .int .i64 r.l.tok.c, .bool r.l.tok.o, .bool r.l.tok.h, .int .i64 r.l.tok.d, .int .i64 r.d.a, .int .i64 r.d.b, .int .i64 r.d.c, .bool r.copy]

/-! ### layer 1 -/
def clamp (n lo hi : Int) : Int := max (min n hi) lo
/-! ### layer 2 -/
def bun0 : Bun := ⟨0, false, false, 0⟩
def valued (c : Int) (o h : Bool) (d : Int) : Bun := ⟨c, o, h, if h then d else 0⟩
def splitW (h : Bun) (n0 : Int) (owner data : Bool) : Bun × Bun :=
  let own := owner && h.o && decide (0 < n0)
  let n := if h.o && !own then min n0 (wrap64 (h.c - 1)) else n0
  if n < 1 then (bun0, h) else
    (valued n own (h.h && (data || own)) h.d, if n < h.c then valued (wrap64 (h.c - n)) (h.o && !own) h.h h.d else bun0)
def split (h : Bun) (count : Int) (owner data : Bool) : Bun × Bun := splitW h (clamp count 0 (max h.c 0)) owner data
def join (h b : Bun) : Bun := valued (wrap64 (h.c + b.c)) (h.o || b.o) (h.h || b.h) (if b.h then b.d else h.d)
def bcheck (b : Bun) (t : Int) : Int :=
  if b.c < 0 ∨ t < b.c then 4 else if b.c = 0 ∧ (b.o = true ∨ b.h = true) then 5 else if (b.o = true ∧ b.h = false) ∨ (b.h = false ∧ b.d ≠ 0) then 6 else 0
def full (t d : Int) : Bun := if t < 1 then bun0 else ⟨t, true, true, d⟩
def rsplitN (h : Bun) (count : Int) (owner : Bool) : Int × Bool :=
  let n0 := if count < 0 then 0 else count
  let n := if h.c < n0 then h.c else n0
  if h.o = false then (n, false) else if owner = true ∧ 0 < n then (n, true) else if n = h.c then (wrap64 (n - 1), false) else (n, false)
def rsplit (h : Bun) (count : Int) (owner data : Bool) : Bun × Bun :=
  let n := (rsplitN h count owner).1
  let own := (rsplitN h count owner).2
  if h.c = 0 ∨ n ≤ 0 then (bun0, h) else
    (⟨n, own, h.h && (data || own), if h.h && (data || own) then h.d else 0⟩, if n = h.c then bun0 else ⟨wrap64 (h.c - n), h.o && !own, h.h, h.d⟩)
def rjoin (h b : Bun) : Bun := ⟨wrap64 (h.c + b.c), h.o || b.o, h.h || b.h, if b.h then b.d else h.d⟩
/-! ### layer 3 -/
def reads (b : Bun) : Bool := decide (1 ≤ b.c) && b.h
def writes (b : Bun) (t : Int) : Bool := reads b && decide (b.c = t)
def pdo (op : Opr) (b : Bun) (t : Int) : Bun × Int × Bool :=
  if op.w && writes b t then (⟨b.c, b.o, b.h, op.v⟩, op.v, true) else if !op.w && reads b then (b, b.d, true) else (b, 0, false)
theorem pdo_keeps (op : Opr) (b : Bun) (t : Int) : (pdo op b t).1.c = b.c ∧ (pdo op b t).1.o = b.o ∧ (pdo op b t).1.h = b.h ∧ (op.w = false → (pdo op b t).1.d = b.d) := by
  unfold pdo
  split
  · rename_i h
    simp at h
    simp [h]
  · split <;> simp
theorem pdo_idem (op : Opr) (b : Bun) (t : Int) : pdo op (pdo op b t).1 t = pdo op b t := by
  obtain ⟨ob, ow, ov⟩ := op
  obtain ⟨c, o, h, d⟩ := b
  rcases Classical.em (c = t) with rfl | h2 <;> by_cases h1 : 1 ≤ c <;> cases ow <;> cases h <;> simp [pdo, writes, reads, *]
def rmay (write : Bool) (h : Bun) (t : Int) : Bool := if write then writes h t else reads h
end Go.Proofs.YtpkidbhpfohopaaDoor

noncomputable section
namespace Go.Proofs.YtpkidbhpfohopaaDoor
open Go.ChangeShapes Go.WideShapes Go.ChangeAt Go.RowKit
set_option linter.unusedVariables false

theorem ret_int {k : IntKind} {a b : Int} (h : a = b) : Ending.returned (.int k a) = .returned (.int k b) := by rw [h]
theorem ret_bool {a b : Bool} (h : a = b) : Ending.returned (.bool a) = .returned (.bool b) := by rw [h]
theorem hide {p : Prop} (h : p) : Hid p := h
theorem bcell {W w1 : World} (hb : Below W.heap.size W w1) : (∀ b o, b < W.heap.size → w1.cell? ⟨b, o, none⟩ = W.cell? ⟨b, o, none⟩) ∧ (∀ b o, b < W.heap.size → w1.frozen? ⟨b, o, none⟩ = W.frozen? ⟨b, o, none⟩) :=
  ⟨fun b o h => hb.cell (p := ⟨b, o, none⟩) h, fun b o h => hb.frozen (p := ⟨b, o, none⟩) h⟩
theorem bl0 {w : World} : Below w.heap.size w w := Below.refl _ _
theorem bl1 {w w' : World} {o : Obj} (h : Below w.heap.size w w') : Below w.heap.size w (w'.alloc o) := h.alloc h.size o
theorem bl2 {w w' : World} {b o : Nat} {v : Value} (h : Below w.heap.size w w') (hp : w.heap.size ≤ b) : Below w.heap.size w (w'.setCell ⟨b, o, none⟩ v) := h.setCell hp v
theorem bl3 {w w' w2 : World} (hb : Below w'.heap.size w' w2) (h : Below w.heap.size w w') : Below w.heap.size w w2 := h.trans (hb.mono h.size)
theorem bl4 {w w' : World} (h : Below w.heap.size w w') : Below w.heap.size w w'.drew := h.drew
theorem bl5 {w w' : World} {n : Nat} (h : Below w.heap.size w w') : Below w.heap.size w (w'.drewN n) := ⟨h.os, h.tape, h.output, h.size, h.block⟩

theorem okWide_array' {P : Program} {w : World} {r : Reach} {base : Nat} {t : TypeId} {v : Value} {n : Nat} {e : TypeId} (ht : P.underlying t = some (.array n e)) (h : Value.okWide P w r base t v) : ∃ cs, v = .agg cs ∧ cs.size = P.cellsOf t := by
  simp only [Value.okWide, ht] at h
  obtain ⟨cs, h1, h2, _⟩ := h
  exact ⟨cs, h1, h2⟩

theorem blk_cell {w : World} {b : Nat} {cs : Array Value} {t : TypeId} {fr : Nat × Nat} (h : w.heap[b]? = some (.cells cs t fr)) (o : Nat) : w.cell? ⟨b, o, none⟩ = cs[o]? := by simp [World.cell?, h]
theorem blk_frozen {w : World} {b : Nat} {cs : Array Value} {t : TypeId} (h : w.heap[b]? = some (.cells cs t (0, 0))) (o : Nat) : w.frozen? ⟨b, o, none⟩ = false := by simp [World.frozen?, h]
/-- Four cells of a block, none of them frozen. -/
def C4 (w : World) (b : Nat) (v0 v1 v2 v3 : Value) : Prop := (w.cell? ⟨b, 0, none⟩ = some v0 ∧ w.cell? ⟨b, 1, none⟩ = some v1 ∧ w.cell? ⟨b, 2, none⟩ = some v2 ∧ w.cell? ⟨b, 3, none⟩ = some v3) ∧ (w.frozen? ⟨b, 0, none⟩ = false ∧ w.frozen? ⟨b, 1, none⟩ = false ∧ w.frozen? ⟨b, 2, none⟩ = false ∧ w.frozen? ⟨b, 3, none⟩ = false)

/-- A slice that came in: its elements' cells, each element by its record. -/
def Rd {α : Type} (enc : α → List Value) (sz : Nat) (w : World) (A : Option Addr) (n c : Nat) (xs : List α) : Prop :=
  xs.length = n ∧ n ≤ c ∧ c ≤ 9223372036854775807 ∧ (0 < n → ∃ b off, A = some ⟨b, off, none⟩ ∧ b < w.heap.size ∧ ∀ (i j : Nat) x v, xs[i]? = some x → (enc x)[j]? = some v → w.cell? ⟨b, off + i * sz + j, none⟩ = some v)

theorem exists_list {α : Type} (p : Nat → α → Prop) : ∀ n, (∀ i, i < n → ∃ a, p i a) → ∃ l : List α, l.length = n ∧ ∀ i a, l[i]? = some a → p i a
  | 0, _ => ⟨[], rfl, fun i a h => by simp at h⟩
  | n + 1, h => by
    obtain ⟨l, hl, hp⟩ := exists_list p n (fun i hi => h i (by omega))
    obtain ⟨a, ha⟩ := h n (by omega)
    refine ⟨l ++ [a], by simp [hl], fun i b hb => ?_⟩
    rcases Nat.lt_or_ge i n with hi | hi
    · rw [List.getElem?_append_left (by omega)] at hb
      exact hp i b hb
    · have hlt := (List.getElem?_eq_some_iff.1 hb).1
      simp [hl] at hlt
      have : i = n := by omega
      subst this
      rw [List.getElem?_append_right (by omega), hl] at hb
      simp at hb
      subst hb
      exact ha

theorem open_rd {H : Type} {enc0 : TypeId × Value → H} {P : Program} {w : World} {spare : Nat → Bool} {held : Bool} {α : Type} (enc : α → List Value) (sz : Nat) {ok : α → Prop} {t e : TypeId} {fuel : Nat} {A : Option Addr} {n c : Nat} {x : DataW H × List MemPlace}
    (hu : P.underlying t = some (.slice e)) (hc : P.cellsOf e = sz) (hsz : 0 < sz) (hlen : ∀ r, (enc r).length = sz)
    (hel : ∀ {fuel : Nat} {cs : List Value} {x : DataW H × List MemPlace}, DataW.trod enc0 P w 0 spare held fuel e cs = some x → ∃ r, cs = enc r ∧ ok r)
    (hf : DataW.trod enc0 P w 0 spare held fuel t [.slice A n c] = some x) : ∃ xs : List α, Rd enc sz w A n c xs ∧ ∀ r ∈ xs, ok r := by
  rcases Go.Deep.open_slice hu hf with ⟨hcs, _⟩ | ⟨a, len, cap, m, k, D, Pl, hcs, _, hl, hm, hmm, _, hi⟩
  · simp at hcs
    obtain ⟨rfl, rfl, rfl⟩ := hcs
    exact ⟨[], ⟨rfl, by omega, by omega, fun h => absurd h (by omega)⟩, fun r hr => by simp at hr⟩
  · simp only [List.cons.injEq, Value.slice.injEq, and_true] at hcs
    obtain ⟨rfl, rfl, rfl⟩ := hcs
    have hle : n ≤ m := by rw [hmm]; split <;> omega
    have hget : ∀ i, i < n → ∃ r, ok r ∧ ∀ j v, (enc r)[j]? = some v → w.cell? ((a.add (i * sz)).add j) = some v := by
      intro i hin
      obtain ⟨cs', h1, h2⟩ := hi i (by omega)
      obtain ⟨r, rfl, ho⟩ := hel h2
      rw [hc] at h1
      obtain ⟨_, _, hat⟩ := World.cells?_some h1
      refine ⟨r, ho, fun j v hv => ?_⟩
      have hj : j < sz := by rw [← hlen r]; exact (List.getElem?_eq_some_iff.1 hv).1
      rw [hat j hj, hv]
    obtain ⟨xs, hxl, hx⟩ := exists_list _ n hget
    refine ⟨xs, ⟨hxl, hl, by simpa [maxLen] using hm, fun h0 => ?_⟩, ?_⟩
    · have h00 : xs[0]? = some xs[0] := List.getElem?_eq_getElem (by omega)
      obtain ⟨_, hc0⟩ := hx 0 _ h00
      have hv0 : (enc xs[0])[0]? = some ((enc xs[0])[0]'(by rw [hlen]; exact hsz)) := List.getElem?_eq_getElem _
      have hcell := hc0 0 _ hv0
      have ha : ((a.add (0 * sz)).add 0) = a := by simp [Addr.add]
      rw [ha] at hcell
      obtain ⟨b, off, spot⟩ := a
      have hs : spot = none := by
        unfold World.cell? at hcell
        split at hcell
        · cases spot with
          | none => rfl
          | some s => simp at hcell
        · simp at hcell
      subst hs
      refine ⟨b, off, rfl, World.block_lt_of_cell? w _ hcell, fun i j x v hxi hv => ?_⟩
      obtain ⟨_, hci⟩ := hx i x hxi
      have := hci j v hv
      have e : ((⟨b, off, none⟩ : Addr).add (i * sz)).add j = ⟨b, off + i * sz + j, none⟩ := by
        unfold Addr.add
        by_cases h1 : i * sz = 0 <;> by_cases h2 : j = 0 <;> simp [h1, h2]
      rwa [e] at this
    · intro r hr
      obtain ⟨i, hi', he⟩ := List.getElem_of_mem hr
      exact (hx i r (by rw [← he]; exact List.getElem?_eq_getElem hi')).1
/-- The same, and a slice without memory has no room. -/
def Rdc {α : Type} (enc : α → List Value) (sz : Nat) (w : World) (A : Option Addr) (n c : Nat) (xs : List α) : Prop := Rd enc sz w A n c xs ∧ (A = none → c = 0)
theorem open_none {H : Type} {enc0 : TypeId × Value → H} {P : Program} {w : World} {spare : Nat → Bool} {held : Bool} {t e : TypeId} {fuel : Nat} {A : Option Addr} {n c : Nat} {x : DataW H × List MemPlace}
    (hu : P.underlying t = some (.slice e)) (hf : DataW.trod enc0 P w 0 spare held fuel t [.slice A n c] = some x) : A = none → c = 0 := by
  rcases Go.Deep.open_slice hu hf with ⟨hcs, _⟩ | ⟨a, len, cap, m, k, D, Pl, hcs, _, hl, hm, hmm, _, hi⟩
  · simp at hcs
    exact fun _ => hcs.2.2
  · simp only [List.cons.injEq, Value.slice.injEq, and_true] at hcs
    intro h
    rw [h] at hcs
    cases hcs.1
end Go.Proofs.YtpkidbhpfohopaaDoor

noncomputable section
namespace Go.Proofs.YtpkidbhpfohopaaDoor
set_option linter.unusedVariables false
/-- What an operation gives: its value, and the world behind it. -/
def Give (P : Program) (G : Value → World → Prop) : Result Next → Prop
  | .ok (.value v) w => G v w
  | .ok .skip w => G undef w
  | .ok (.enter f args) w => Calls P f args w fun e w' => ∃ v, e = .returned v ∧ G v w'
  | _ => False
theorem Give_value (P : Program) (G : Value → World → Prop) (v : Value) (w : World) : Give P G (.ok (.value v) w) = G v w := rfl
theorem Give_skip (P : Program) (G : Value → World → Prop) (w : World) : Give P G (.ok .skip w) = G undef w := rfl
theorem Give_enter (P : Program) (G : Value → World → Prop) (f : FuncId) (args : Array Value) (w : World) :
    Give P G (.ok (.enter f args) w) = Calls P f args w fun e w' => ∃ v, e = .returned v ∧ G v w' := rfl
theorem upon_of_give {P : Program} {o : Oper} {a : Act} {next : Act → World → Prop} {Q : Exit → Act → World → Prop} {G : Value → World → Prop} {r : Result Next}
    (h : Give P G r) (hn : ∀ v w, G v w → next (a.put o.dst v) w) : o.upon P a next Q r := by
  cases r with
  | ok n w =>
    cases n <;> simp only [Give] at h <;> first | exact hn _ _ h | (exact Calls.mono h fun e w' ⟨v, he, hg⟩ => by subst he; exact hn _ _ hg) | exact h.elim
  | halt x w => exact h.elim
/-- An operation under its guard. -/
def Does (P : Program) (ops : Array Oper) (o : Oper) (a : Act) (w : World) (G : Value → World → Prop) : Prop :=
  if Region.wanted o (yielded ops a.tmps) then Give P G ((execOp a.eval o).run P w) else G undef w
theorem Does.mono {P : Program} {ops : Array Oper} {o : Oper} {a : Act} {w : World} {G G' : Value → World → Prop} (h : Does P ops o a w G) (hg : ∀ v w, G v w → G' v w) : Does P ops o a w G' := by
  unfold Does at *
  split
  · rename_i hw
    rw [if_pos hw] at h
    revert h
    generalize (execOp a.eval o).run P w = r
    intro h
    cases r with
    | ok n w => cases n <;> simp only [Give] at h ⊢ <;> first | exact hg _ _ h | (exact Calls.mono h fun e w' ⟨v, he, hh⟩ => ⟨v, he, hg _ _ hh⟩) | exact h.elim
    | halt x w => exact h.elim
  · rename_i hw
    rw [if_neg hw] at h
    exact hg _ _ h
theorem Does.wpOp {P : Program} {ops : Array Oper} {Q : Exit → Act → World → Prop} {i : Nat} {o : Oper} {a : Act} {w : World} {K : Act → World → Prop} (ho : ops[i]? = some o) {G : Value → World → Prop}
    (h : Does P ops o a w G) (hk : ∀ v w, G v w → K (a.put o.dst v) w) : wpOp P ops Q i K a w := by
  unfold Go.wpOp
  simp only [ho]
  unfold Does at h
  split
  · rename_i hw
    rw [if_pos hw] at h
    exact .inl (upon_of_give h hk)
  · rename_i hw
    rw [if_neg hw] at h
    exact hk _ _ h
/-- The walk in the order of the text. -/
def Free (P : Program) (ops : Array Oper) (Q : Exit → Act → World → Prop) (S : World → Prop) : List Oper → List Oper → Act → Prop
  | [], suf, a => ∀ w, S w → wpList P ops Q suf a w
  | o :: rest, suf, a => ∃ v, (∀ w, S w → Does P ops o a w fun v' w' => v' = v ∧ S w') ∧ Free P ops Q S rest suf (a.put o.dst v)
theorem Free.nil {P : Program} {ops : Array Oper} {Q : Exit → Act → World → Prop} {S : World → Prop} {suf : List Oper} {a : Act} (h : ∀ w, S w → wpList P ops Q suf a w) : Free P ops Q S [] suf a := h
theorem Free.cons {P : Program} {ops : Array Oper} {Q : Exit → Act → World → Prop} {S : World → Prop} {o : Oper} {rest suf : List Oper} {a : Act} (v : Value)
    (h : ∀ w, S w → Does P ops o a w fun v' w' => v' = v ∧ S w') (hr : Free P ops Q S rest suf (a.put o.dst v)) : Free P ops Q S (o :: rest) suf a := ⟨v, h, hr⟩

theorem Free.next {P : Program} {ops : Array Oper} {Q : Exit → Act → World → Prop} {S : World → Prop} {o : Oper} {rest suf : List Oper} {a a2 : Act} {v : Value}
    (h : ∀ w, S w → Does P ops o a w fun v' w' => v' = v ∧ S w') (he : a.put o.dst v = a2) (hr : Free P ops Q S rest suf a2) : Free P ops Q S (o :: rest) suf a := ⟨v, h, he ▸ hr⟩

def depsOf (o : Oper) : List Nat := (o.after.toList.filter (Region.binds .any)).map (·.on)
def dstAt (ops : Array Oper) (i : Nat) : Option Tmp := (ops[i]?).bind (·.dst)
def noSelect : Op → Bool
  | .select .. => false
  | _ => true
/-- An operation waits for another one, through at most so many ones. -/
def reach (ops : Array Oper) : Nat → Nat → Nat → Bool
  | 0, _, _ => false
  | f + 1, i, k => (depsOf (ops.getD i default)).contains k || (depsOf (ops.getD i default)).any fun j => reach ops f j k
theorem reach_spec {ops : Array Oper} {L : Nat → Prop} (hL : ∀ j o, ops[j]? = some o → L j → ∀ k ∈ depsOf o, L k) : ∀ (f i k : Nat), reach ops f i k = true → (∀ d ∈ depsOf (ops.getD i default), L d) → L k
  | 0, i, k, h, hd => by cases h
  | f + 1, i, k, h, hd => by
    rw [reach, Bool.or_eq_true, List.any_eq_true] at h
    rcases h with h | ⟨j, hj, h⟩
    · exact hd k (List.contains_iff_mem.1 h)
    · refine reach_spec hL f j k h fun d hdj => ?_
      cases hj' : ops[j]? with
      | none =>
        rw [Array.getD_eq_getD_getElem?, hj'] at hdj
        exact absurd hdj (by show ¬ d ∈ ([] : List Nat); simp)
      | some o =>
        rw [Array.getD_eq_getD_getElem?, hj'] at hdj
        exact hL j o hj' (hd j hj) d hdj
/-- What is asked of the region's text. -/
def freeOk (ops : Array Oper) (m : Nat) : Bool :=
  decide (m ≤ ops.size) &&
  ((List.range ops.size).all fun i => (depsOf (ops.getD i default)).all fun k => decide (k < i)) &&
  ((List.range ops.size).all fun i => decide (i < m) || (List.range i).all fun k => reach ops 3 i k) &&
  ((List.range m).all fun i => noSelect (ops.getD i default).op &&
    ((List.range m).all fun j => i == j || (dstAt ops i).isNone || dstAt ops i != dstAt ops j) &&
    (((ops.getD i default).looksAt ops).all fun t => (List.range m).all fun d => dstAt ops d != some t || d == i || (depsOf (ops.getD i default)).contains d || (depsOf (ops.getD d default)).contains i))

section
variable {P : Program} {ops : Array Oper} {Q : Exit → Act → World → Prop} {S : World → Prop} {m : Nat}
structure FreeOk (ops : Array Oper) (m : Nat) : Prop where
  le : m ≤ ops.size
  back : ∀ i o, ops[i]? = some o → ∀ k ∈ depsOf o, k < i
  forced : ∀ i o, ops[i]? = some o → m ≤ i → ∀ L : Nat → Prop, (∀ j o, ops[j]? = some o → L j → ∀ k ∈ depsOf o, L k) → (∀ k ∈ depsOf o, L k) → ∀ k, k < i → L k
  nosel : ∀ i o, i < m → ops[i]? = some o → ∀ cs b, o.op ≠ .select cs b
  uniq : ∀ i j t, i < m → j < m → dstAt ops i = some t → dstAt ops j = some t → i = j
  apart : ∀ i o t d, i < m → ops[i]? = some o → t ∈ o.looksAt ops → d < m → dstAt ops d = some t → d = i ∨ d ∈ depsOf o ∨ ∃ o', ops[d]? = some o' ∧ i ∈ depsOf o'
theorem freeOk_spec (h : freeOk ops m = true) : FreeOk ops m := by
  unfold freeOk at h
  simp only [Bool.and_eq_true, decide_eq_true_eq, List.all_eq_true, List.mem_range, Bool.or_eq_true] at h
  obtain ⟨⟨⟨h1, h2⟩, h3⟩, h4⟩ := h
  have get : ∀ i o, ops[i]? = some o → i < ops.size ∧ ops.getD i default = o := fun i o ho => by
    have hi := (Array.getElem?_eq_some_iff.1 ho).1
    exact ⟨hi, by simp [Array.getD_eq_getD_getElem?, ho]⟩
  refine ⟨h1, fun i o ho k hk => ?_, fun i o ho hm L hL hd k hk => ?_, fun i o hi ho cs b hc => ?_, fun i j t hi hj h5 h6 => ?_, fun i o t d hi ho ht hd h5 => ?_⟩
  · obtain ⟨hi, e⟩ := get i o ho
    exact h2 i hi k (by rw [e]; exact hk)
  · obtain ⟨hi, e⟩ := get i o ho
    rcases h3 i hi with h | h
    · omega
    · exact reach_spec hL 3 i k (h k hk) (by rw [e]; exact hd)
  · obtain ⟨hi', e⟩ := get i o ho
    have := (h4 i hi).1.1
    rw [e, hc] at this
    simp [noSelect] at this
  · have := (h4 i hi).1.2 j hj
    rw [h5, h6] at this
    simpa using this
  · obtain ⟨hi', e⟩ := get i o ho
    have hdl : d < ops.size := by omega
    have := (h4 i hi).2 t (by rw [e]; exact ht) d hd
    rw [h5, e] at this
    simp only [bne_self_eq_false, Bool.false_eq_true, false_or, beq_iff_eq, List.contains_iff_mem] at this
    rcases this with (h | h) | h
    · exact .inl h
    · exact .inr (.inl h)
    · exact .inr (.inr ⟨ops[d], Array.getElem?_eq_getElem hdl, by rwa [Array.getD_eq_getD_getElem?, Array.getElem?_eq_getElem hdl] at h⟩)

/-- The state in which operation i stands in the order of the text. -/
def actAt (ops : Array Oper) (a : Act) (vs : Nat → Value) : Nat → Act
  | 0 => a
  | i + 1 => (actAt ops a vs i).put (dstAt ops i) (vs i)
structure Inv (ops : Array Oper) (m : Nat) (a : Act) (vs : Nat → Value) (L : Nat → Prop) (b : Act) : Prop where
  defers : b.defers = a.defers
  size : b.tmps.size = a.tmps.size
  told : ∀ i t, i < m → L i → dstAt ops i = some t → t < a.tmps.size → b.tmps[t]? = some (vs i)
  kept : ∀ t, (∀ i, i < m → L i → dstAt ops i ≠ some t) → b.tmps[t]? = a.tmps[t]?
theorem Inv.start {a : Act} {vs : Nat → Value} {L : Nat → Prop} (h : ∀ i, i < m → ¬ L i) : Inv ops m a vs L a :=
  ⟨rfl, rfl, fun i _ hi hL => (h i hi hL).elim, fun _ _ => rfl⟩
theorem Inv.put {a b : Act} {vs : Nat → Value} {L L' : Nat → Prop} (F : FreeOk ops m) (h : Inv ops m a vs L b) {i : Nat} (hi : i < m) (hn : ¬ L i) (hL : ∀ j, L' j ↔ L j ∨ j = i) :
    Inv ops m a vs L' (b.put (dstAt ops i) (vs i)) := by
  obtain ⟨h1, h2, h3, h4⟩ := h
  cases hd : dstAt ops i with
  | none =>
    refine ⟨h1, h2, fun j t hj hLj hdj ht => ?_, fun t ht => h4 t fun j hj hLj => ht j hj ((hL j).2 (.inl hLj))⟩
    rcases (hL j).1 hLj with h | rfl
    · exact h3 j t hj h hdj ht
    · rw [hd] at hdj; cases hdj
  | some d =>
    refine ⟨h1, by simp [Act.put, h2], fun j t hj hLj hdj ht => ?_, fun t ht => ?_⟩
    · rcases (hL j).1 hLj with h | rfl
      · have hne : d ≠ t := fun e => by
          subst e
          have := F.uniq i j d hi hj hd hdj
          subst this
          exact hn h
        simp only [Act.put]
        rw [Array.getElem?_setIfInBounds_ne hne]
        exact h3 j t hj h hdj ht
      · rw [hd] at hdj
        injection hdj with hdj
        subst hdj
        simp only [Act.put]
        rw [Array.getElem?_setIfInBounds_self_of_lt (h2 ▸ ht)]
    · have hne : d ≠ t := fun e => ht i hi ((hL i).2 (.inr rfl)) (by rw [hd, e])
      simp only [Act.put]
      rw [Array.getElem?_setIfInBounds_ne hne]
      exact h4 t fun j hj hLj => ht j hj ((hL j).2 (.inl hLj))
theorem Inv.at_ {a : Act} {vs : Nat → Value} (F : FreeOk ops m) : ∀ k, k ≤ m → Inv ops m a vs (· < k) (actAt ops a vs k)
  | 0, _ => .start fun i _ h => by omega
  | k + 1, hk => (Inv.at_ F k (by omega)).put F (i := k) (by omega) (by omega) fun j => by omega
theorem Inv.same {a b c : Act} {vs : Nat → Value} {L L' : Nat → Prop} (h : Inv ops m a vs L b) (h' : Inv ops m a vs L' c) {t : Tmp} (ht : ∀ d, d < m → dstAt ops d = some t → (L d ↔ L' d)) : b.tmps[t]? = c.tmps[t]? := by
  by_cases hx : ∃ d, d < m ∧ dstAt ops d = some t ∧ L d
  · obtain ⟨d, hd, hdt, hLd⟩ := hx
    by_cases hs : t < a.tmps.size
    · rw [h.told d t hd hLd hdt hs, h'.told d t hd ((ht d hd hdt).1 hLd) hdt hs]
    · have hs' : a.tmps.size ≤ t := Nat.le_of_not_lt hs
      rw [Array.getElem?_eq_none (by rw [h.size]; exact hs'), Array.getElem?_eq_none (by rw [h'.size]; exact hs')]
  · rw [h.kept t fun i hi hL hd => hx ⟨i, hi, hd, hL⟩, h'.kept t fun i hi hL hd => hx ⟨i, hi, hd, (ht i hi hd).2 hL⟩]
theorem Inv.whole {a b c : Act} {vs : Nat → Value} {L L' : Nat → Prop} (h : Inv ops m a vs L b) (h' : Inv ops m a vs L' c) (ht : ∀ d, d < m → (L d ↔ L' d)) : b = c := by
  obtain ⟨bt, bd⟩ := b
  obtain ⟨ct, cd⟩ := c
  have e1 : bt = ct := Array.ext_getElem? fun t => h.same h' fun d hd _ => ht d hd
  have e2 : bd = cd := h.defers.trans h'.defers.symm
  rw [e1, e2]
theorem Does.of_same {o : Oper} {a b : Act} {w : World} {G : Value → World → Prop} (hs : ∀ cs c, o.op ≠ .select cs c) (ht : ∀ t ∈ o.looksAt ops, b.tmps[t]? = a.tmps[t]?) (h : Does P ops o a w G) : Does P ops o b w G := by
  have e1 : execOp b.eval o = execOp a.eval o := execOp_congr o hs fun x hx => by
    cases x with
    | tmp t =>
      have := ht t (List.mem_append_left _ (List.mem_filterMap.2 ⟨.tmp t, by simpa using hx, rfl⟩))
      simp only [Act.eval, Array.getD_eq_getD_getElem?, this]
    | _ => rfl
  have e2 : Region.wanted o (yielded ops b.tmps) = Region.wanted o (yielded ops a.tmps) := by
    unfold Region.wanted
    cases hg : o.guard with
    | none => rfl
    | some gw =>
      obtain ⟨g, want⟩ := gw
      have : yielded ops b.tmps g = yielded ops a.tmps g := by
        unfold yielded
        cases hd : (ops[g]?).bind (·.dst) with
        | none => rfl
        | some t =>
          have := ht t (by simp [Oper.looksAt, hg, hd])
          simp only [Option.bind_some, this]
      simp only [this]
  unfold Does at *
  rw [e1, e2]
  exact h

theorem Free.out : ∀ (pre suf : List Oper) (k : Nat) (a : Act), (∀ j o, pre[j]? = some o → ops[k + j]? = some o) → Free P ops Q S pre suf a →
    ∃ vs : Nat → Value, (∀ j o, pre[j]? = some o → ∀ w, S w → Does P ops o (actAt (ops.extract k ops.size) a vs j) w fun v' w' => v' = vs j ∧ S w') ∧ ∀ w, S w → wpList P ops Q suf (actAt (ops.extract k ops.size) a vs pre.length) w
  | [], suf, k, a, _, h => ⟨fun _ => undef, fun j o hj => by simp at hj, h⟩
  | o :: rest, suf, k, a, hp, h => by
    obtain ⟨v, h1, h2⟩ := h
    have h0 := hp 0 o rfl
    obtain ⟨vs, h3, h4⟩ := Free.out rest suf (k + 1) _ (fun j o' hj => by have := hp (j + 1) o' hj; rwa [show k + 1 + j = k + (j + 1) from by omega]) h2
    have hd : ∀ j, dstAt (ops.extract k ops.size) (j + 1) = dstAt (ops.extract (k + 1) ops.size) j := fun j => by
      unfold dstAt
      rw [Array.getElem?_extract, Array.getElem?_extract]
      simp only [show k + (j + 1) = k + 1 + j from by omega]
      by_cases hlt : k + 1 + j < ops.size
      · rw [if_pos (by omega), if_pos (by omega)]
      · rw [if_neg (by omega), if_neg (by omega)]
    have hk : k < ops.size := by have := (Array.getElem?_eq_some_iff.1 h0).1; omega
    have hd0 : dstAt (ops.extract k ops.size) 0 = o.dst := by
      unfold dstAt
      rw [Array.getElem?_extract, if_pos (by omega)]
      rw [h0]; rfl
    let us : Nat → Value := fun j => match j with | 0 => v | j + 1 => vs j
    have ha : ∀ j, actAt (ops.extract k ops.size) a us (j + 1) = actAt (ops.extract (k + 1) ops.size) (a.put o.dst v) vs j := by
      intro j
      induction j with
      | zero => simp [actAt, us, hd0]
      | succ j ih => rw [actAt, ih, actAt, hd]
    refine ⟨us, fun j o' hj w hw => ?_, fun w hw => ?_⟩
    · cases j with
      | zero =>
        simp at hj
        subst hj
        exact h1 w hw
      | succ j =>
        have := h3 j o' (by simpa using hj) w hw
        rw [ha]
        exact this
    · rw [List.length_cons, ha]
      exact h4 w hw

theorem mem_ready {listed : Array Bool} (hs : listed.size = ops.size) {i : Nat} : i ∈ Region.ready .any ops listed ↔ i < ops.size ∧ listed.getD i false = false ∧ ∃ o, ops[i]? = some o ∧ ∀ k ∈ depsOf o, listed.getD k false = true := by
  unfold Region.ready
  simp only [List.mem_filter, List.mem_range, Bool.and_eq_true, Bool.not_eq_true']
  constructor
  · rintro ⟨h1, h2, h3⟩
    have e : ops[i]? = some ops[i] := Array.getElem?_eq_getElem h1
    rw [e] at h3
    simp only [Option.map_some, Option.getD_some, Array.all_eq_true_iff_forall_mem, Bool.or_eq_true, Bool.not_eq_true'] at h3
    refine ⟨h1, ?_, ops[i], e, fun k hk => ?_⟩
    · rw [Array.getD_eq_getD_getElem?, Array.getElem?_eq_getElem (by omega)] at h2 ⊢; exact h2
    · unfold depsOf at hk
      obtain ⟨ed, he, rfl⟩ := List.mem_map.1 hk
      obtain ⟨he1, he2⟩ := List.mem_filter.1 he
      rcases h3 ed (Array.mem_toList_iff.1 he1) with h | h
      · rw [he2] at h; cases h
      · exact h
  · rintro ⟨h1, h2, o, e, h3⟩
    refine ⟨h1, ?_, ?_⟩
    · rw [Array.getD_eq_getD_getElem?, Array.getElem?_eq_getElem (by omega)] at h2 ⊢; exact h2
    · rw [e]
      simp only [Option.map_some, Option.getD_some, Array.all_eq_true_iff_forall_mem, Bool.or_eq_true, Bool.not_eq_true']
      intro ed he
      by_cases hb : Region.binds .any ed = true
      · exact .inr (h3 _ (List.mem_map.2 ⟨ed, List.mem_filter.2 ⟨Array.mem_toList_iff.2 he, hb⟩, rfl⟩))
      · exact .inl (by simpa using hb)
theorem getD_set {listed : Array Bool} {i j : Nat} (hi : i < listed.size) : (listed.setIfInBounds i true).getD j false = true ↔ listed.getD j false = true ∨ j = i := by
  simp only [Array.getD_eq_getD_getElem?]
  by_cases h : i = j
  · subst h
    simp [Array.getElem?_setIfInBounds_self_of_lt hi]
  · rw [Array.getElem?_setIfInBounds_ne h]
    constructor
    · exact .inl
    · rintro (h' | h')
      · exact h'
      · exact absurd h'.symm h
theorem ready_none {listed : Array Bool} (hb : ∀ i o, ops[i]? = some o → ∀ k ∈ depsOf o, k < i) (hs : listed.size = ops.size) (h : Region.ready .any ops listed = []) : ∀ i, i < ops.size → listed.getD i false = true := by
  intro i
  induction i using Nat.strongRecOn with
  | _ i ih =>
    intro hi
    cases hl : listed.getD i false with
    | true => rfl
    | false =>
      have : i ∈ Region.ready .any ops listed := (mem_ready hs).2 ⟨hi, hl, ops[i], Array.getElem?_eq_getElem hi, fun k hk => by
        have hlt := hb i _ (Array.getElem?_eq_getElem hi) k hk
        exact ih k hlt (by omega)⟩
      rw [h] at this
      cases this
theorem wpList_cons_op {k : Nat} {o : Oper} {rest : List Oper} {a : Act} {w : World} (ho : ops[k]? = some o) (h : wpList P ops Q (o :: rest) a w) : wpOp P ops Q k (wpList P ops Q rest) a w := by
  unfold wpOp
  simp only [ho]
  unfold wpList at h
  exact h
theorem wpAny_tail (F : FreeOk ops m) : ∀ (fuel k : Nat) (listed : Array Bool) (b : Act) (w : World), m ≤ k → k ≤ ops.size → listed.size = ops.size → (∀ i, i < ops.size → (listed.getD i false = true ↔ i < k)) → ops.size - k ≤ fuel →
    wpList P ops Q (ops.toList.drop k) b w → wpAny P .any ops Q fuel listed b w := by
  intro fuel
  induction fuel with
  | zero =>
    intro k listed b w hm hk hs hL hf h
    have e : k = ops.size := by omega
    subst e
    rw [List.drop_of_length_le (by simp)] at h
    refine ⟨?_, h⟩
    apply List.eq_nil_iff_forall_not_mem.2
    intro i hi
    obtain ⟨h1, h2, _⟩ := (mem_ready hs).1 hi
    rw [(hL i h1).2 h1] at h2
    cases h2
  | succ fuel ih =>
    intro k listed b w hm hk hs hL hf h
    rcases Nat.lt_or_ge k ops.size with hlt | hge
    · have e : ops[k]? = some ops[k] := Array.getElem?_eq_getElem hlt
      have hd : ops.toList.drop k = ops[k] :: ops.toList.drop (k + 1) := by
        rw [List.drop_eq_getElem_cons (by simpa using hlt)]; rfl
      rw [hd] at h
      refine ⟨fun hr => ?_, fun i hi => ?_⟩
      · have := ready_none F.back hs hr k hlt
        have := (hL k hlt).1 this
        omega
      · obtain ⟨h1, h2, o, ho, h3⟩ := (mem_ready hs).1 hi
        have hik : k ≤ i := by
          rcases Nat.lt_or_ge i k with h' | h'
          · rw [(hL i h1).2 h'] at h2; cases h2
          · exact h'
        have : i = k := by
          rcases Nat.lt_or_ge k i with h' | h'
          · have := F.forced i o ho (by omega) (fun j => listed.getD j false = true) (fun j o' ho' hj d hd => by
              have hjs := (Array.getElem?_eq_some_iff.1 ho').1
              have hjk := (hL j hjs).1 hj
              have := F.back j o' ho' d hd
              exact (hL d (by omega)).2 (by omega)) h3 k h'
            have := (hL k hlt).1 this
            omega
          · omega
        subst this
        refine wpOp_mono (fun a' w' h' => ih (i + 1) _ a' w' (by omega) (by omega) (by simpa using hs) (fun j hj => ?_) (by omega) h') (wpList_cons_op e h)
        rw [getD_set (by omega), hL j hj]
        omega
    · have e : k = ops.size := by omega
      subst e
      rw [List.drop_of_length_le (by simp)] at h
      refine ⟨fun _ => h, fun i hi => ?_⟩
      obtain ⟨h1, h2, _⟩ := (mem_ready hs).1 hi
      rw [(hL i h1).2 h1] at h2
      cases h2
theorem countP_less {p q : Nat → Bool} {i : Nat} (hq : ∀ j, q j = true → p j = true) (hp : p i = true) (hi : q i = false) : ∀ l : List Nat, i ∈ l → l.countP q + 1 ≤ l.countP p
  | x :: l, h => by
    have hle : l.countP q ≤ l.countP p := List.countP_mono_left fun j _ => hq j
    rcases List.mem_cons.1 h with rfl | h
    · rw [List.countP_cons_of_neg (by simp [hi]), List.countP_cons_of_pos hp]
      omega
    · have := countP_less hq hp hi l h
      by_cases hx : q x = true
      · rw [List.countP_cons_of_pos hx, List.countP_cons_of_pos (hq x hx)]; omega
      · rw [List.countP_cons_of_neg hx]
        by_cases hy : p x = true
        · rw [List.countP_cons_of_pos hy]; omega
        · rw [List.countP_cons_of_neg hy]; omega
theorem wpAny_free (F : FreeOk ops m) {a : Act} {vs : Nat → Value} (hd : ∀ i o, i < m → ops[i]? = some o → ∀ w, S w → Does P ops o (actAt ops a vs i) w fun v' w' => v' = vs i ∧ S w') (hend : ∀ w, S w → wpList P ops Q (ops.toList.drop m) (actAt ops a vs m) w) :
    ∀ (fuel : Nat) (listed : Array Bool) (b : Act) (w : World), listed.size = ops.size → (∀ i o, ops[i]? = some o → listed.getD i false = true → ∀ k ∈ depsOf o, listed.getD k false = true) → (∀ i, m ≤ i → listed.getD i false = false) →
      Inv ops m a vs (fun i => listed.getD i false = true) b → S w → (List.range ops.size).countP (fun i => !listed.getD i false) ≤ fuel → wpAny P .any ops Q fuel listed b w := by
  intro fuel
  induction fuel with
  | zero =>
    intro listed b w hs hc hm hI hS hf
    have hall : ∀ i, i < ops.size → listed.getD i false = true := fun i hi => by
      cases hl : listed.getD i false with
      | true => rfl
      | false =>
        have : 0 < (List.range ops.size).countP (fun i => !listed.getD i false) := List.countP_pos_iff.2 ⟨i, List.mem_range.2 hi, by simp only [hl]; rfl⟩
        omega
    have hmn : ops.size ≤ m := by
      rcases Nat.lt_or_ge m ops.size with h | h
      · have := hall m h; rw [hm m (Nat.le_refl _)] at this; cases this
      · exact h
    have hle := F.le
    have e := Inv.whole hI (Inv.at_ F m (Nat.le_refl _)) fun d hd => ⟨fun _ => hd, fun _ => hall d (by omega)⟩
    subst e
    exact wpAny_tail F 0 m listed _ w (Nat.le_refl _) F.le hs (fun i hi => ⟨fun _ => by omega, fun _ => hall i hi⟩) (by omega) (hend w hS)
  | succ fuel ih =>
    intro listed b w hs hc hm hI hS hf
    have hle := F.le
    by_cases hall : ∀ i, i < m → listed.getD i false = true
    · have e := Inv.whole hI (Inv.at_ F m (Nat.le_refl _)) fun d hd => ⟨fun _ => hd, fun _ => hall d hd⟩
      subst e
      have hL : ∀ i, i < ops.size → (listed.getD i false = true ↔ i < m) := fun i hi => by
        refine ⟨fun h => ?_, hall i⟩
        rcases Nat.lt_or_ge i m with h' | h'
        · exact h'
        · rw [hm i h'] at h; cases h
      refine wpAny_tail F (fuel + 1) m listed _ w (Nat.le_refl _) F.le hs hL ?_ (hend w hS)
      have : (List.range ops.size).countP (fun i => !listed.getD i false) = ops.size - m := by
        have e1 : (List.range ops.size).countP (fun i => !listed.getD i false) = (List.range ops.size).countP (fun i => decide (m ≤ i)) := by
          apply List.countP_congr
          intro i hi
          have := hL i (List.mem_range.1 hi)
          cases hl : listed.getD i false
          · simp only [hl] at this ⊢; simp at this ⊢; omega
          · simp only [hl] at this ⊢; simp at this ⊢; omega
        rw [e1]
        have : ∀ n, (List.range n).countP (fun i => decide (m ≤ i)) = n - m := by
          intro n
          induction n with
          | zero => simp
          | succ n ihn =>
            rw [List.range_succ, List.countP_append, ihn]
            by_cases h : m ≤ n
            · simp [h]; omega
            · simp [h]; omega
        exact this _
      omega
    · refine ⟨fun hr => absurd (fun i hi => ready_none F.back hs hr i (by omega)) hall, fun i hi => ?_⟩
      obtain ⟨h1, h2, o, ho, h3⟩ := (mem_ready hs).1 hi
      have him : i < m := by
        rcases Nat.lt_or_ge i m with h' | h'
        · exact h'
        · exact absurd (fun k hk => F.forced i o ho h' (fun j => listed.getD j false = true) hc h3 k (by omega)) hall
      have hagree : ∀ t ∈ o.looksAt ops, b.tmps[t]? = (actAt ops a vs i).tmps[t]? := fun t ht =>
        hI.same (Inv.at_ F i (by omega)) fun d hd hdt => by
          rcases F.apart i o t d him ho ht hd hdt with rfl | h' | ⟨o', ho', h'⟩
          · exact ⟨fun h => (by rw [h2] at h; cases h), fun h => by omega⟩
          · exact ⟨fun _ => F.back i o ho d h', fun _ => h3 d h'⟩
          · have hlt := F.back d o' ho' i h'
            exact ⟨fun h => (by have := hc d o' ho' h i h'; rw [h2] at this; cases this), fun h => by omega⟩
      have hD := (hd i o him ho w hS).of_same (F.nosel i o him ho) hagree
      have hdst : dstAt ops i = o.dst := by simp [dstAt, ho]
      refine hD.wpOp ho fun v w' ⟨hv, hS'⟩ => ?_
      subst hv
      rw [← hdst]
      refine ih _ _ w' (by simpa using hs) (fun j o' ho' hj k hk => ?_) (fun j hj => ?_) (hI.put F him (by simp only [h2]; simp) fun j => getD_set (by omega)) hS' ?_
      · rw [getD_set (by omega)] at hj ⊢
        rcases hj with hj | rfl
        · exact .inl (hc j o' ho' hj k hk)
        · rw [ho] at ho'
          injection ho' with ho'
          subst ho'
          exact .inl (h3 k hk)
      · cases hl : (listed.setIfInBounds i true).getD j false with
        | false => rfl
        | true =>
          rcases (getD_set (by omega)).1 hl with h' | h'
          · rw [hm j hj] at h'; cases h'
          · omega
      · have := countP_less (p := fun i => !listed.getD i false) (q := fun j => !(listed.setIfInBounds i true).getD j false) (i := i)
          (fun j hj => by
            cases hl : listed.getD j false with
            | false => rfl
            | true =>
              have := (getD_set (listed := listed) (i := i) (j := j) (by omega)).2 (.inl hl)
              have hj' : (!(listed.setIfInBounds i true).getD j false) = true := hj
              rw [this] at hj'
              cases hj')
          (by show (!listed.getD i false) = true; rw [h2]; rfl) (by have := (getD_set (listed := listed) (i := i) (j := i) (by omega)).2 (.inr rfl); show (!(listed.setIfInBounds i true).getD i false) = false; rw [this]; rfl) (List.range ops.size) (List.mem_range.2 h1)
        omega
/-- THE RULE. -/
theorem wp_region_free {id : Nat} {a : Act} {w : World} (hmix : P.follows .mixedOrders = true) (S : World → Prop) (m : Nat) (hF : freeOk ops m = true) (hS : S w.drew) (h : Free P ops Q S (ops.toList.take m) (ops.toList.drop m) a) :
    (Code.region id ops true).wp P Q a w := by
  have F := freeOk_spec hF
  have hle := F.le
  obtain ⟨vs, h1, h2⟩ := Free.out (ops.toList.take m) (ops.toList.drop m) 0 a (fun j o hj => by
    rw [Nat.zero_add]
    rw [List.getElem?_take] at hj
    split at hj
    · rwa [Array.getElem?_toList] at hj
    · cases hj) h
  have e0 : ops.extract 0 ops.size = ops := by simp
  rw [e0] at h1 h2
  have hlen : (ops.toList.take m).length = m := by simp; omega
  rw [hlen] at h2
  refine wp_region_any hmix (wpAny_free (S := S) F (fun i o hi ho => h1 i o (by rw [List.getElem?_take, if_pos hi, Array.getElem?_toList]; exact ho)) h2 ops.size _ a _ (by simp) (fun i o _ hi => ?_) (fun i _ => ?_) (.start fun i _ => ?_) hS ?_)
  · simp [Array.getD_eq_getD_getElem?, Array.getElem?_replicate] at hi
    split at hi <;> cases hi
  · simp [Array.getD_eq_getD_getElem?, Array.getElem?_replicate]
    split <;> rfl
  · intro hi
    simp [Array.getD_eq_getD_getElem?, Array.getElem?_replicate] at hi
    split at hi <;> cases hi
  · exact Nat.le_trans List.countP_le_length (by simp)
theorem wp_region_free_lit {id : Nat} {l : List Oper} {a : Act} {w : World} (hmix : P.follows .mixedOrders = true) (S : World → Prop) (m : Nat) (hF : freeOk l.toArray m = true) (hS : S w.drew) (h : Free P l.toArray Q S (l.take m) (l.drop m) a) :
    (Code.region id l.toArray true).wp P Q a w := wp_region_free hmix S m hF hS (by simpa using h)
theorem wp_region_free_all {id : Nat} {l : List Oper} {a : Act} {w : World} (hmix : P.follows .mixedOrders = true) (S : World → Prop) (hF : freeOk l.toArray l.length = true) (hS : S w.drew) (h : Free P l.toArray Q S l [] a) :
    (Code.region id l.toArray true).wp P Q a w := wp_region_free hmix S l.length hF hS (by simpa using h)
end
end Go.Proofs.YtpkidbhpfohopaaDoor

noncomputable section
namespace Go.Proofs.YtpkidbhpfohopaaDoor
open Go.RowKit
set_option linter.unusedVariables false
/-- What is told of an operation's value. -/
inductive Spec where
  | exact (c : Value)
  | loose (T : Value → World → Prop)
def Spec.holds : Spec → Value → World → Prop
  | .exact c, v, _ => v = c
  | .loose T, v, w => T v w
def Spec.fact : Spec → Value → World → Prop
  | .exact _, _ => fun _ => True
  | .loose T, v => T v
def Spec.mono : Spec → Prop
  | .exact _ => True
  | .loose T => ∀ v w w', Below w.heap.size w w' → T v w → T v w'
def yes : World → Prop := fun _ => True
/-- The walk in the order of the text. -/
def Loose (P : Program) (ops : Array Oper) (Q : Exit → Act → World → Prop) (S : World → Prop) : List Spec → List Oper → List Oper → Act → List (World → Prop) → Prop
  | [], [], suf, a, H => ∀ w, S w → (∀ f ∈ H, f w) → wpList P ops Q suf a w
  | .exact c :: L, o :: rest, suf, a, H => (∀ w, S w → (∀ j ∈ depsOf o, (H.getD j yes) w) → Does P ops o a w fun v w' => v = c ∧ Below w.heap.size w w') ∧ Loose P ops Q S L rest suf (a.put o.dst c) (H ++ [yes])
  | .loose T :: L, o :: rest, suf, a, H => (∀ v w w', Below w.heap.size w w' → T v w → T v w') ∧ (∀ w, S w → (∀ j ∈ depsOf o, (H.getD j yes) w) → Does P ops o a w fun v w' => T v w' ∧ Below w.heap.size w w') ∧ ∀ v, Loose P ops Q S L rest suf (a.put o.dst v) (H ++ [T v])
  | _, _, _, _, _ => False
section
variable {P : Program} {ops : Array Oper} {Q : Exit → Act → World → Prop} {S : World → Prop} {m : Nat}
theorem Loose.nil {suf : List Oper} {a : Act} {H : List (World → Prop)} (h : ∀ w, S w → (∀ f ∈ H, f w) → wpList P ops Q suf a w) : Loose P ops Q S [] [] suf a H := h
theorem Loose.exact {L : List Spec} {o : Oper} {rest suf : List Oper} {a a2 : Act} {H : List (World → Prop)} {c : Value}
    (h : ∀ w, S w → (∀ j ∈ depsOf o, (H.getD j yes) w) → Does P ops o a w fun v w' => v = c ∧ Below w.heap.size w w') (he : a.put o.dst c = a2) (hr : Loose P ops Q S L rest suf a2 (H ++ [yes])) :
    Loose P ops Q S (.exact c :: L) (o :: rest) suf a H := ⟨h, he ▸ hr⟩
theorem Loose.loose {L : List Spec} {o : Oper} {rest suf : List Oper} {a : Act} {a2 : Value → Act} {H : List (World → Prop)} (T : Value → World → Prop) (hm : ∀ v w w', Below w.heap.size w w' → T v w → T v w')
    (h : ∀ w, S w → (∀ j ∈ depsOf o, (H.getD j yes) w) → Does P ops o a w fun v w' => T v w' ∧ Below w.heap.size w w') (he : ∀ v, a.put o.dst v = a2 v) (hr : ∀ v, Loose P ops Q S L rest suf (a2 v) (H ++ [T v])) :
    Loose P ops Q S (.loose T :: L) (o :: rest) suf a H := ⟨hm, h, fun v => by rw [he v]; exact hr v⟩

def factsOf (vs : Nat → Value) : List Spec → Nat → List (World → Prop)
  | [], _ => []
  | s :: L, k => (match s with | .exact _ => yes | .loose T => T (vs k)) :: factsOf vs L (k + 1)
theorem getD_factsOf (vs : Nat → Value) : ∀ (L : List Spec) (k j : Nat) (s : Spec), L[j]? = some s → (factsOf vs L k).getD j yes = (match s with | .exact _ => yes | .loose T => T (vs (k + j)))
  | s :: L, k, 0, s', h => by
    simp at h
    subst h
    cases s <;> rfl
  | s :: L, k, j + 1, s', h => by
    have := getD_factsOf vs L (k + 1) j s' (by simpa using h)
    rw [show k + 1 + j = k + (j + 1) from by omega] at this
    rw [← this]
    simp [factsOf]
theorem length_factsOf (vs : Nat → Value) : ∀ (L : List Spec) (k : Nat), (factsOf vs L k).length = L.length
  | [], _ => rfl
  | s :: L, k => by simp [factsOf, length_factsOf vs L (k + 1)]
theorem getD_left {α : Type} (H G : List α) (d : α) {i : Nat} (h : i < H.length) : (H ++ G).getD i d = H.getD i d := by
  simp only [List.getD_eq_getElem?_getD, List.getElem?_append_left h]
theorem Loose.out {a0 : Act} (vs : Nat → Value) : ∀ (L : List Spec) (pre suf : List Oper) (k : Nat) (a : Act) (H : List (World → Prop)), H.length = k → a = actAt ops a0 vs k →
    (∀ j o, pre[j]? = some o → ops[k + j]? = some o) → (∀ j o, pre[j]? = some o → ∀ i ∈ depsOf o, i < k + j) → (∀ j c, L[j]? = some (.exact c) → vs (k + j) = c) → Loose P ops Q S L pre suf a H →
    L.length = pre.length ∧ (∀ (j : Nat) (s : Spec), L[j]? = some s → s.mono) ∧
    (∀ (j : Nat) (o : Oper) (s : Spec), pre[j]? = some o → L[j]? = some s → ∀ w, S w → (∀ i ∈ depsOf o, ((H ++ factsOf vs L k).getD i yes) w) → Does P ops o (actAt ops a0 vs (k + j)) w fun v w' => s.holds v w' ∧ Below w.heap.size w w') ∧
    ∀ w, S w → (∀ f ∈ H ++ factsOf vs L k, f w) → wpList P ops Q suf (actAt ops a0 vs (k + pre.length)) w
  | [], [], suf, k, a, H, hH, ha, hp, hb, he, h => by
    subst ha
    refine ⟨rfl, fun j s h => by simp at h, fun j o s h => by simp at h, fun w hS hf => ?_⟩
    exact h w hS fun f hf' => hf f (by simp [hf'])
  | [], o :: rest, suf, k, a, H, hH, ha, hp, hb, he, h => h.elim
  | .exact c :: L, [], suf, k, a, H, hH, ha, hp, hb, he, h => h.elim
  | .loose T :: L, [], suf, k, a, H, hH, ha, hp, hb, he, h => h.elim
  | .exact c :: L, o :: rest, suf, k, a, H, hH, ha, hp, hb, he, h => by
    obtain ⟨h1, h2⟩ := h
    have h0 := hp 0 o rfl
    have hd : dstAt ops k = o.dst := by unfold dstAt; rw [Nat.add_zero] at h0; rw [h0]; rfl
    have hc := he 0 c rfl
    obtain ⟨i1, i2, i3, i4⟩ := Loose.out vs L rest suf (k + 1) (a.put o.dst c) (H ++ [yes]) (by simp [hH]) (by rw [actAt, ha, hd, ← hc]; rfl)
      (fun j o' hj => by have := hp (j + 1) o' (by simpa using hj); rwa [show k + 1 + j = k + (j + 1) from by omega])
      (fun j o' hj i hi => by have := hb (j + 1) o' (by simpa using hj) i hi; omega)
      (fun j c' hj => by have := he (j + 1) c' (by simpa using hj); rwa [show k + 1 + j = k + (j + 1) from by omega]) h2
    have e : H ++ [yes] ++ factsOf vs L (k + 1) = H ++ factsOf vs (.exact c :: L) k := by simp [factsOf]
    rw [e] at i3 i4
    refine ⟨by simp [i1], fun j s hj => ?_, fun j o' s hj hs w hw hf => ?_, fun w hw hf => ?_⟩
    · cases j with
      | zero => simp at hj; subst hj; trivial
      | succ j => exact i2 j s (by simpa using hj)
    · cases j with
      | zero =>
        simp at hj hs
        subst hj hs
        subst ha
        refine h1 w hw fun i hi => ?_
        have := hf i hi
        rwa [getD_left _ _ _ (by have := hb 0 o rfl i hi; omega)] at this
      | succ j =>
        have := i3 j o' s (by simpa using hj) (by simpa using hs) w hw hf
        rwa [show k + 1 + j = k + (j + 1) from by omega] at this
    · have := i4 w hw hf
      rw [List.length_cons]
      rwa [show k + 1 + rest.length = k + (rest.length + 1) from by omega] at this
  | .loose T :: L, o :: rest, suf, k, a, H, hH, ha, hp, hb, he, h => by
    obtain ⟨hm, h1, h2⟩ := h
    have h0 := hp 0 o rfl
    have hd : dstAt ops k = o.dst := by unfold dstAt; rw [Nat.add_zero] at h0; rw [h0]; rfl
    obtain ⟨i1, i2, i3, i4⟩ := Loose.out vs L rest suf (k + 1) (a.put o.dst (vs k)) (H ++ [T (vs k)]) (by simp [hH]) (by rw [actAt, ha, hd])
      (fun j o' hj => by have := hp (j + 1) o' (by simpa using hj); rwa [show k + 1 + j = k + (j + 1) from by omega])
      (fun j o' hj i hi => by have := hb (j + 1) o' (by simpa using hj) i hi; omega)
      (fun j c' hj => by have := he (j + 1) c' (by simpa using hj); rwa [show k + 1 + j = k + (j + 1) from by omega]) (h2 (vs k))
    have e : H ++ [T (vs k)] ++ factsOf vs L (k + 1) = H ++ factsOf vs (.loose T :: L) k := by simp [factsOf]
    rw [e] at i3 i4
    refine ⟨by simp [i1], fun j s hj => ?_, fun j o' s hj hs w hw hf => ?_, fun w hw hf => ?_⟩
    · cases j with
      | zero => simp at hj; subst hj; exact hm
      | succ j => exact i2 j s (by simpa using hj)
    · cases j with
      | zero =>
        simp at hj hs
        subst hj hs
        subst ha
        refine h1 w hw fun i hi => ?_
        have := hf i hi
        rwa [getD_left _ _ _ (by have := hb 0 o rfl i hi; omega)] at this
      | succ j =>
        have := i3 j o' s (by simpa using hj) (by simpa using hs) w hw hf
        rwa [show k + 1 + j = k + (j + 1) from by omega] at this
    · have := i4 w hw hf
      rw [List.length_cons]
      rwa [show k + 1 + rest.length = k + (rest.length + 1) from by omega] at this
theorem Inv.turn {a b : Act} {vs us : Nat → Value} {L : Nat → Prop} (h : Inv ops m a vs L b) (he : ∀ j, L j → us j = vs j) : Inv ops m a us L b :=
  ⟨h.defers, h.size, fun i t hi hL hd ht => by rw [he i hL]; exact h.told i t hi hL hd ht, h.kept⟩
/-- What the rule asks of the walk, for whatever values. -/
structure LooseOut (P : Program) (ops : Array Oper) (Q : Exit → Act → World → Prop) (S : World → Prop) (m : Nat) (a : Act) (L : List Spec) (vs : Nat → Value) : Prop where
  step : ∀ i o s, i < m → ops[i]? = some o → L[i]? = some s → ∀ w, S w → (∀ j ∈ depsOf o, ((factsOf vs L 0).getD j yes) w) → Does P ops o (actAt ops a vs i) w fun v w' => s.holds v w' ∧ Below w.heap.size w w'
  last : ∀ w, S w → (∀ f ∈ factsOf vs L 0, f w) → wpList P ops Q (ops.toList.drop m) (actAt ops a vs m) w
theorem wpAny_loose (F : FreeOk ops m) {a : Act} {L : List Spec} (hlen : L.length = m) (hmono : ∀ (j : Nat) (s : Spec), L[j]? = some s → s.mono) (hSm : ∀ w w', Below w.heap.size w w' → S w → S w')
    (hd : ∀ vs : Nat → Value, (∀ j c, L[j]? = some (.exact c) → vs j = c) → LooseOut P ops Q S m a L vs) :
    ∀ (fuel : Nat) (listed : Array Bool) (b : Act) (w : World) (vs : Nat → Value), listed.size = ops.size → (∀ i o, ops[i]? = some o → listed.getD i false = true → ∀ k ∈ depsOf o, listed.getD k false = true) → (∀ i, m ≤ i → listed.getD i false = false) →
      (∀ j c, L[j]? = some (.exact c) → vs j = c) → (∀ j, listed.getD j false = true → ((factsOf vs L 0).getD j yes) w) →
      Inv ops m a vs (fun i => listed.getD i false = true) b → S w → (List.range ops.size).countP (fun i => !listed.getD i false) ≤ fuel → wpAny P .any ops Q fuel listed b w := by
  have spec : ∀ i, i < m → ∃ s, L[i]? = some s := fun i hi => ⟨_, List.getElem?_eq_getElem (by omega)⟩
  have allf : ∀ (vs : Nat → Value) (w : World), (∀ j, j < m → ((factsOf vs L 0).getD j yes) w) → ∀ f ∈ factsOf vs L 0, f w := fun vs w h f hf => by
    obtain ⟨j, hj, e⟩ := List.getElem_of_mem hf
    rw [length_factsOf] at hj
    have := h j (by omega)
    rw [List.getD_eq_getElem?_getD, List.getElem?_eq_getElem (by rw [length_factsOf]; exact hj), e] at this
    exact this
  intro fuel
  induction fuel with
  | zero =>
    intro listed b w vs hs hc hm hx hf hI hS hfu
    have hall : ∀ i, i < ops.size → listed.getD i false = true := fun i hi => by
      cases hl : listed.getD i false with
      | true => rfl
      | false =>
        have : 0 < (List.range ops.size).countP (fun i => !listed.getD i false) := List.countP_pos_iff.2 ⟨i, List.mem_range.2 hi, by simp only [hl]; rfl⟩
        omega
    have hmn : ops.size ≤ m := by
      rcases Nat.lt_or_ge m ops.size with h | h
      · have := hall m h; rw [hm m (Nat.le_refl _)] at this; cases this
      · exact h
    have hle := F.le
    have e := Inv.whole hI (Inv.at_ F m (Nat.le_refl _)) fun d hd => ⟨fun _ => hd, fun _ => hall d (by omega)⟩
    subst e
    exact wpAny_tail F 0 m listed _ w (Nat.le_refl _) F.le hs (fun i hi => ⟨fun _ => by omega, fun _ => hall i hi⟩) (by omega) ((hd vs hx).last w hS (allf vs w fun j hj => hf j (hall j (by omega))))
  | succ fuel ih =>
    intro listed b w vs hs hc hm hx hf hI hS hfu
    have hle := F.le
    by_cases hall : ∀ i, i < m → listed.getD i false = true
    · have e := Inv.whole hI (Inv.at_ F m (Nat.le_refl _)) fun d hd => ⟨fun _ => hd, fun _ => hall d hd⟩
      subst e
      have hL : ∀ i, i < ops.size → (listed.getD i false = true ↔ i < m) := fun i hi => by
        refine ⟨fun h => ?_, hall i⟩
        rcases Nat.lt_or_ge i m with h' | h'
        · exact h'
        · rw [hm i h'] at h; cases h
      refine wpAny_tail F (fuel + 1) m listed _ w (Nat.le_refl _) F.le hs hL ?_ ((hd vs hx).last w hS (allf vs w fun j hj => hf j (hall j hj)))
      have : (List.range ops.size).countP (fun i => !listed.getD i false) = ops.size - m := by
        have e1 : (List.range ops.size).countP (fun i => !listed.getD i false) = (List.range ops.size).countP (fun i => decide (m ≤ i)) := by
          apply List.countP_congr
          intro i hi
          have := hL i (List.mem_range.1 hi)
          cases hl : listed.getD i false
          · simp only [hl] at this ⊢; simp at this ⊢; omega
          · simp only [hl] at this ⊢; simp at this ⊢; omega
        rw [e1]
        have : ∀ n, (List.range n).countP (fun i => decide (m ≤ i)) = n - m := by
          intro n
          induction n with
          | zero => simp
          | succ n ihn =>
            rw [List.range_succ, List.countP_append, ihn]
            by_cases h : m ≤ n
            · simp [h]; omega
            · simp [h]; omega
        exact this _
      omega
    · refine ⟨fun hr => absurd (fun i hi => ready_none F.back hs hr i (by omega)) hall, fun i hi => ?_⟩
      obtain ⟨h1, h2, o, ho, h3⟩ := (mem_ready hs).1 hi
      have him : i < m := by
        rcases Nat.lt_or_ge i m with h' | h'
        · exact h'
        · exact absurd (fun k hk => F.forced i o ho h' (fun j => listed.getD j false = true) hc h3 k (by omega)) hall
      have hagree : ∀ t ∈ o.looksAt ops, b.tmps[t]? = (actAt ops a vs i).tmps[t]? := fun t ht =>
        hI.same (Inv.at_ F i (by omega)) fun d hd hdt => by
          rcases F.apart i o t d him ho ht hd hdt with rfl | h' | ⟨o', ho', h'⟩
          · exact ⟨fun h => (by rw [h2] at h; cases h), fun h => by omega⟩
          · exact ⟨fun _ => F.back i o ho d h', fun _ => h3 d h'⟩
          · have hlt := F.back d o' ho' i h'
            exact ⟨fun h => (by have := hc d o' ho' h i h'; rw [h2] at this; cases this), fun h => by omega⟩
      obtain ⟨s, hsp⟩ := spec i him
      have hD := ((hd vs hx).step i o s him ho hsp w hS fun k hk => hf k (h3 k hk)).of_same (F.nosel i o him ho) hagree
      have hdst : dstAt ops i = o.dst := by simp [dstAt, ho]
      refine hD.wpOp ho fun v w' ⟨hv, hB⟩ => ?_
      obtain ⟨us, hus⟩ : ∃ us : Nat → Value, us = fun j => if j = i then v else vs j := ⟨_, rfl⟩
      have ui : us i = v := by rw [hus]; simp
      have uj : ∀ j, j ≠ i → us j = vs j := fun j hj => by rw [hus]; simp [hj]
      rw [← hdst, ← ui]
      have hfact : ∀ j, listed.getD j false = true → ((factsOf us L 0).getD j yes) w' := fun j hj => by
        have hne : j ≠ i := fun e => by subst e; rw [h2] at hj; cases hj
        have hjm : j < m := by
          rcases Nat.lt_or_ge j m with h' | h'
          · exact h'
          · rw [hm j h'] at hj; cases hj
        obtain ⟨sj, hsj⟩ := spec j hjm
        have := hf j hj
        rw [getD_factsOf vs L 0 j sj hsj] at this
        rw [getD_factsOf us L 0 j sj hsj]
        cases sj with
        | exact c => trivial
        | loose T =>
          simp only [Nat.zero_add] at this ⊢
          rw [uj j hne]
          exact hmono j _ hsj _ _ _ hB this
      refine ih _ _ w' us (by simpa using hs) (fun j o' ho' hj k hk => ?_) (fun j hj => ?_) (fun j c hj => ?_) (fun j hj => ?_) ((hI.turn fun j hj => uj j fun e => by subst e; rw [h2] at hj; cases hj).put F him (by simp only [h2]; simp) fun j => getD_set (by omega)) (hSm _ _ hB hS) ?_
      · rw [getD_set (by omega)] at hj ⊢
        rcases hj with hj | rfl
        · exact .inl (hc j o' ho' hj k hk)
        · rw [ho] at ho'
          injection ho' with ho'
          subst ho'
          exact .inl (h3 k hk)
      · cases hl : (listed.setIfInBounds i true).getD j false with
        | false => rfl
        | true =>
          rcases (getD_set (by omega)).1 hl with h' | h'
          · rw [hm j hj] at h'; cases h'
          · omega
      · by_cases e : j = i
        · subst e
          rw [hsp] at hj
          injection hj with hj
          subst hj
          rw [ui]
          exact hv
        · rw [uj j e]
          exact hx j c hj
      · rcases (getD_set (by omega)).1 hj with h' | rfl
        · exact hfact j h'
        · rw [getD_factsOf us L 0 j s hsp]
          cases s with
          | exact c => trivial
          | loose T =>
            simp only [Nat.zero_add]
            rw [ui]
            exact hv
      · have := countP_less (p := fun i => !listed.getD i false) (q := fun j => !(listed.setIfInBounds i true).getD j false) (i := i)
          (fun j hj => by
            cases hl : listed.getD j false with
            | false => rfl
            | true =>
              have := (getD_set (listed := listed) (i := i) (j := j) (by omega)).2 (.inl hl)
              have hj' : (!(listed.setIfInBounds i true).getD j false) = true := hj
              rw [this] at hj'
              cases hj')
          (by show (!listed.getD i false) = true; rw [h2]; rfl) (by have := (getD_set (listed := listed) (i := i) (j := i) (by omega)).2 (.inr rfl); show (!(listed.setIfInBounds i true).getD i false) = false; rw [this]; rfl) (List.range ops.size) (List.mem_range.2 h1)
        omega
/-- THE RULE. -/
theorem wp_region_loose {id : Nat} {a : Act} {w : World} (hmix : P.follows .mixedOrders = true) (S : World → Prop) (m : Nat) (hF : freeOk ops m = true) (hSm : ∀ w w', Below w.heap.size w w' → S w → S w') (hS : S w.drew) {L : List Spec}
    (h : Loose P ops Q S L (ops.toList.take m) (ops.toList.drop m) a []) : (Code.region id ops true).wp P Q a w := by
  have F := freeOk_spec hF
  have hle := F.le
  have hlen : (ops.toList.take m).length = m := by simp; omega
  have hp : ∀ j o, (ops.toList.take m)[j]? = some o → ops[0 + j]? = some o := fun j o hj => by
    rw [Nat.zero_add]
    rw [List.getElem?_take] at hj
    split at hj
    · rwa [Array.getElem?_toList] at hj
    · cases hj
  have hb : ∀ j o, (ops.toList.take m)[j]? = some o → ∀ i ∈ depsOf o, i < 0 + j := fun j o hj i hi => F.back _ o (hp j o hj) i hi
  have get := fun (vs : Nat → Value) (hx : ∀ j c, L[j]? = some (.exact c) → vs j = c) => Loose.out (a0 := a) vs L (ops.toList.take m) (ops.toList.drop m) 0 a [] rfl rfl hp hb (fun j c hj => by rw [Nat.zero_add]; exact hx j c hj) h
  obtain ⟨v0, h0⟩ : ∃ v0 : Nat → Value, ∀ j c, L[j]? = some (.exact c) → v0 j = c := ⟨fun j => match L[j]? with | some (.exact c) => c | _ => undef, fun j c hj => by simp only [hj]⟩
  obtain ⟨g1, g2, -, -⟩ := get v0 h0
  rw [hlen] at g1
  refine wp_region_any hmix (wpAny_loose (S := S) F g1 g2 hSm (fun vs hx => ?_) ops.size _ a _ v0 (by simp) (fun i o _ hi => ?_) (fun i _ => ?_) h0 (fun i hi => ?_) (.start fun i _ => ?_) hS ?_)
  · obtain ⟨-, -, g3, g4⟩ := get vs hx
    rw [hlen] at g4
    refine ⟨fun i o s hi ho hs w hw hf => ?_, fun w hw hf => ?_⟩
    · have := g3 i o s (by rw [List.getElem?_take, if_pos hi, Array.getElem?_toList]; exact ho) hs w hw (by simpa using hf)
      rwa [Nat.zero_add] at this
    · have := g4 w hw (by simpa using hf)
      rwa [Nat.zero_add] at this
  · simp [Array.getD_eq_getD_getElem?, Array.getElem?_replicate] at hi
    split at hi <;> cases hi
  · simp [Array.getD_eq_getD_getElem?, Array.getElem?_replicate]
    split <;> rfl
  · simp [Array.getD_eq_getD_getElem?, Array.getElem?_replicate] at hi
    split at hi <;> cases hi
  · intro hi
    simp [Array.getD_eq_getD_getElem?, Array.getElem?_replicate] at hi
    split at hi <;> cases hi
  · exact Nat.le_trans List.countP_le_length (by simp)
theorem wp_region_loose_all {id : Nat} {l : List Oper} {a : Act} {w : World} (hmix : P.follows .mixedOrders = true) (S : World → Prop) (hF : freeOk l.toArray l.length = true) (hSm : ∀ w w', Below w.heap.size w w' → S w → S w') (hS : S w.drew) {L : List Spec}
    (h : Loose P l.toArray Q S L l [] a []) : (Code.region id l.toArray true).wp P Q a w := wp_region_loose hmix S l.length hF hSm hS (by simpa using h)
end
end Go.Proofs.YtpkidbhpfohopaaDoor

noncomputable section
namespace Go.Proofs.YtpkidbhpfohopaaDoor
open Go.RowKit
set_option linter.unusedVariables false
section
variable {P : Program} {ops : Array Oper} {Q : Exit → Act → World → Prop} {m : Nat}
theorem wpAny_ghost (F : FreeOk ops m) {a : Act} {J : (Nat → Prop) → (Nat → Value) → World → Prop} (hJ : ∀ L L' vs us w, (∀ i, i < m → (L i ↔ L' i)) → (∀ i, i < m → L i → us i = vs i) → J L vs w → J L' us w)
    (step : ∀ i o L vs w, i < m → ops[i]? = some o → ¬ L i → (∀ k ∈ depsOf o, L k) → J L vs w → Does P ops o (actAt ops a vs i) w fun v w' => J (fun j => L j ∨ j = i) (fun j => if j = i then v else vs j) w')
    (last : ∀ vs w, J (fun i => i < m) vs w → wpList P ops Q (ops.toList.drop m) (actAt ops a vs m) w) :
    ∀ (fuel : Nat) (listed : Array Bool) (b : Act) (w : World) (vs : Nat → Value), listed.size = ops.size → (∀ i o, ops[i]? = some o → listed.getD i false = true → ∀ k ∈ depsOf o, listed.getD k false = true) → (∀ i, m ≤ i → listed.getD i false = false) →
      Inv ops m a vs (fun i => listed.getD i false = true) b → J (fun i => listed.getD i false = true) vs w → (List.range ops.size).countP (fun i => !listed.getD i false) ≤ fuel → wpAny P .any ops Q fuel listed b w := by
  intro fuel
  induction fuel with
  | zero =>
    intro listed b w vs hs hc hm hI hS hfu
    have hall : ∀ i, i < ops.size → listed.getD i false = true := fun i hi => by
      cases hl : listed.getD i false with
      | true => rfl
      | false =>
        have : 0 < (List.range ops.size).countP (fun i => !listed.getD i false) := List.countP_pos_iff.2 ⟨i, List.mem_range.2 hi, by simp only [hl]; rfl⟩
        omega
    have hmn : ops.size ≤ m := by
      rcases Nat.lt_or_ge m ops.size with h | h
      · have := hall m h; rw [hm m (Nat.le_refl _)] at this; cases this
      · exact h
    have hle := F.le
    have e := Inv.whole hI (Inv.at_ F m (Nat.le_refl _)) fun d hd => ⟨fun _ => hd, fun _ => hall d (by omega)⟩
    subst e
    exact wpAny_tail F 0 m listed _ w (Nat.le_refl _) F.le hs (fun i hi => ⟨fun _ => by omega, fun _ => hall i hi⟩) (by omega) (last vs w (hJ _ _ _ _ _ (fun k hk => ⟨fun _ => hk, fun _ => hall k (by omega)⟩) (fun _ _ _ => rfl) hS))
  | succ fuel ih =>
    intro listed b w vs hs hc hm hI hS hfu
    have hle := F.le
    by_cases hall : ∀ i, i < m → listed.getD i false = true
    · have e := Inv.whole hI (Inv.at_ F m (Nat.le_refl _)) fun d hd => ⟨fun _ => hd, fun _ => hall d hd⟩
      subst e
      have hL : ∀ i, i < ops.size → (listed.getD i false = true ↔ i < m) := fun i hi => by
        refine ⟨fun h => ?_, hall i⟩
        rcases Nat.lt_or_ge i m with h' | h'
        · exact h'
        · rw [hm i h'] at h; cases h
      refine wpAny_tail F (fuel + 1) m listed _ w (Nat.le_refl _) F.le hs hL ?_ (last vs w (hJ _ _ _ _ _ (fun k hk => ⟨fun _ => hk, fun _ => hall k hk⟩) (fun _ _ _ => rfl) hS))
      have : (List.range ops.size).countP (fun i => !listed.getD i false) = ops.size - m := by
        have e1 : (List.range ops.size).countP (fun i => !listed.getD i false) = (List.range ops.size).countP (fun i => decide (m ≤ i)) := by
          apply List.countP_congr
          intro i hi
          have := hL i (List.mem_range.1 hi)
          cases hl : listed.getD i false
          · simp only [hl] at this ⊢; simp at this ⊢; omega
          · simp only [hl] at this ⊢; simp at this ⊢; omega
        rw [e1]
        have : ∀ n, (List.range n).countP (fun i => decide (m ≤ i)) = n - m := by
          intro n
          induction n with
          | zero => simp
          | succ n ihn =>
            rw [List.range_succ, List.countP_append, ihn]
            by_cases h : m ≤ n
            · simp [h]; omega
            · simp [h]; omega
        exact this _
      omega
    · refine ⟨fun hr => absurd (fun i hi => ready_none F.back hs hr i (by omega)) hall, fun i hi => ?_⟩
      obtain ⟨h1, h2, o, ho, h3⟩ := (mem_ready hs).1 hi
      have him : i < m := by
        rcases Nat.lt_or_ge i m with h' | h'
        · exact h'
        · exact absurd (fun k hk => F.forced i o ho h' (fun j => listed.getD j false = true) hc h3 k (by omega)) hall
      have hagree : ∀ t ∈ o.looksAt ops, b.tmps[t]? = (actAt ops a vs i).tmps[t]? := fun t ht =>
        hI.same (Inv.at_ F i (by omega)) fun d hd hdt => by
          rcases F.apart i o t d him ho ht hd hdt with rfl | h' | ⟨o', ho', h'⟩
          · exact ⟨fun h => (by rw [h2] at h; cases h), fun h => by omega⟩
          · exact ⟨fun _ => F.back i o ho d h', fun _ => h3 d h'⟩
          · have hlt := F.back d o' ho' i h'
            exact ⟨fun h => (by have := hc d o' ho' h i h'; rw [h2] at this; cases this), fun h => by omega⟩
      have hD := (step i o _ vs w him ho (by rw [h2]; exact Bool.false_ne_true) h3 hS).of_same (F.nosel i o him ho) hagree
      have hdst : dstAt ops i = o.dst := by simp [dstAt, ho]
      refine hD.wpOp ho fun v w' hv => ?_
      obtain ⟨us, hus⟩ : ∃ us : Nat → Value, us = fun j => if j = i then v else vs j := ⟨_, rfl⟩
      have ui : us i = v := by rw [hus]; simp
      have uj : ∀ j, j ≠ i → us j = vs j := fun j hj => by rw [hus]; simp [hj]
      rw [← hus] at hv
      rw [← hdst, ← ui]
      refine ih _ _ w' us (by simpa using hs) (fun j o' ho' hj k hk => ?_) (fun j hj => ?_) ((hI.turn fun j hj => uj j fun e => by subst e; rw [h2] at hj; cases hj).put F him (by simp only [h2]; simp) fun j => getD_set (by omega)) (hJ _ _ _ _ _ (fun k hk => (getD_set (by omega)).symm) (fun _ _ _ => rfl) hv) ?_
      · rw [getD_set (by omega)] at hj ⊢
        rcases hj with hj | rfl
        · exact .inl (hc j o' ho' hj k hk)
        · rw [ho] at ho'
          injection ho' with ho'
          subst ho'
          exact .inl (h3 k hk)
      · cases hl : (listed.setIfInBounds i true).getD j false with
        | false => rfl
        | true =>
          rcases (getD_set (by omega)).1 hl with h' | h'
          · rw [hm j hj] at h'; cases h'
          · omega
      · have := countP_less (p := fun i => !listed.getD i false) (q := fun j => !(listed.setIfInBounds i true).getD j false) (i := i)
          (fun j hj => by
            cases hl : listed.getD j false with
            | false => rfl
            | true =>
              have := (getD_set (listed := listed) (i := i) (j := j) (by omega)).2 (.inl hl)
              have hj' : (!(listed.setIfInBounds i true).getD j false) = true := hj
              rw [this] at hj'
              cases hj')
          (by show (!listed.getD i false) = true; rw [h2]; rfl) (by have := (getD_set (listed := listed) (i := i) (j := i) (by omega)).2 (.inr rfl); show (!(listed.setIfInBounds i true).getD i false) = false; rw [this]; rfl) (List.range ops.size) (List.mem_range.2 h1)
        omega
/-- THE RULE, with what holds told of what has been done. -/
theorem wp_region_ghost {id : Nat} {a : Act} {w : World} (hmix : P.follows .mixedOrders = true) (m : Nat) (hF : freeOk ops m = true) {J : (Nat → Prop) → (Nat → Value) → World → Prop} (hJ : ∀ L L' vs us w, (∀ i, i < m → (L i ↔ L' i)) → (∀ i, i < m → L i → us i = vs i) → J L vs w → J L' us w)
    (start : J (fun _ => False) (fun _ => undef) w.drew)
    (step : ∀ i o L vs w, i < m → ops[i]? = some o → ¬ L i → (∀ k ∈ depsOf o, L k) → J L vs w → Does P ops o (actAt ops a vs i) w fun v w' => J (fun j => L j ∨ j = i) (fun j => if j = i then v else vs j) w')
    (last : ∀ vs w, J (fun i => i < m) vs w → wpList P ops Q (ops.toList.drop m) (actAt ops a vs m) w) : (Code.region id ops true).wp P Q a w := by
  have F := freeOk_spec hF
  have none : ∀ i, (Array.replicate ops.size false).getD i false = false := fun i => by
    simp [Array.getD_eq_getD_getElem?, Array.getElem?_replicate]
    split <;> rfl
  refine wp_region_any hmix (wpAny_ghost F hJ step last ops.size _ a _ (fun _ => undef) (by simp) (fun i o _ hi => ?_) (fun i _ => none i) (.start fun i _ => ?_) (hJ _ _ _ _ _ (fun i _ => ⟨fun h => h.elim, fun h => ?_⟩) (fun _ _ h => h.elim) start) ?_)
  · rw [none] at hi; cases hi
  · rw [none]; exact Bool.false_ne_true
  · rw [none] at h; cases h
  · exact Nat.le_trans List.countP_le_length (by simp)
end
end Go.Proofs.YtpkidbhpfohopaaDoor
