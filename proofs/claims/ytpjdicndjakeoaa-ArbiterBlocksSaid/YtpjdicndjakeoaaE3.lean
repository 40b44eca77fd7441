/- The engine: numbered blocks, and what keeps them to memory. No condition. -/
import Derived.Test.YtpjdicndjakeoaaE2m
namespace Go.Proofs.Ytpjdicndjakeoaa
open Go.RowKit
set_option linter.unusedVariables false
set_option linter.unusedSimpArgs false
inductive Blk where
  | obj (ro : Bool) (cs : List AV)
  | seq (ro : Bool) (e : Nat) (t : Ty) (xs : List t.den)
  | map (ro : Bool) (t : Ty) (es : List (Int × t.den))
def Blk.ro : Blk → Bool
  | .obj r _ => r
  | .seq r _ _ _ => r
  | .map r _ _ => r
structure Heap where
  n : Nat
  l : List (Nat × Option Blk)
def lookH : List (Nat × Option Blk) → Nat → Option Blk
  | [], _ => none
  | (i, b) :: r, k => bif Nat.beq i k then b else lookH r k
def Heap.get (H : Heap) (id : Nat) : Option Blk := lookH H.l id
def Heap.put (H : Heap) (id : Nat) (b : Option Blk) : Heap := ⟨H.n, (id, b) :: H.l⟩
def Heap.new (H : Heap) (b : Blk) : Heap := ⟨H.n + 1, (H.n, some b) :: H.l⟩
theorem Heap.get_put_same (H : Heap) (id : Nat) (b : Option Blk) : (H.put id b).get id = b := by
  simp [Heap.get, Heap.put, lookH]
theorem Heap.get_put_ne (H : Heap) {id j : Nat} (b : Option Blk) (h : j ≠ id) : (H.put id b).get j = H.get j := by
  have : Nat.beq id j = false := by cases e : Nat.beq id j with | false => rfl | true => exact absurd (Nat.eq_of_beq_eq_true e).symm h
  simp [Heap.get, Heap.put, lookH, this]
theorem Heap.get_new_same (H : Heap) (b : Blk) : (H.new b).get H.n = some b := by
  simp [Heap.get, Heap.new, lookH]
theorem Heap.get_new_ne (H : Heap) {j : Nat} (b : Blk) (h : j ≠ H.n) : (H.new b).get j = H.get j := by
  have : Nat.beq H.n j = false := by cases e : Nat.beq H.n j with | false => rfl | true => exact absurd (Nat.eq_of_beq_eq_true e).symm h
  simp [Heap.get, Heap.new, lookH, this]
def Mut (φ : Nat → RS) (H : Heap) (b : Nat) : Prop := ∃ id k, H.get id = some k ∧ (φ id).nil = false ∧ (φ id).blk = b
def Wr (φ : Nat → RS) (H : Heap) (b : Nat) : Prop := ∃ id k, H.get id = some k ∧ k.ro = false ∧ (φ id).nil = false ∧ (φ id).blk = b
theorem Wr.mut {φ : Nat → RS} {H : Heap} {b : Nat} (h : Wr φ H b) : Mut φ H b := by
  obtain ⟨id, k, h1, -, h2, h3⟩ := h
  exact ⟨id, k, h1, h2, h3⟩
def cx (F : Nat → Prop) (φ : Nat → RS) (H : Heap) (w : World) : Cx := ⟨φ, H.n, fun b => Mut φ H b ∨ F b, Wr φ H, fun _ h => .inl h.mut, w⟩
def BRel (C : Cx) (r : RS) : Blk → Prop
  | .obj _ cs => r.nil = false ∧ ∃ vs e, C.w.heap[r.blk]? = some (.cells vs e (0, 0)) ∧ Reps C cs vs.toList
  | .seq _ e t xs => r.len = xs.length ∧ (r.nil = true → xs = []) ∧ ∃ us, Reps C (xs.flatMap (enc t)) us ∧ C.w.ownsRow 0 e t.sz r.sl xs.length us
  | .map _ t es => r.nil = false ∧ ∃ vs, All2 (RE C t) es vs ∧ OMap C.w r.blk es.length (vdat vs)
structure Rel (F : Nat → Prop) (φ : Nat → RS) (H : Heap) (w : World) : Prop where
  lt : ∀ id k, H.get id = some k → id < H.n
  blk : ∀ id k, H.get id = some k → BRel (cx F φ H w) (φ id) k
  inj : ∀ id id' k k', H.get id = some k → H.get id' = some k' → (φ id).nil = false → (φ id').nil = false → (φ id).blk = (φ id').blk → id = id'
  forb : ∀ id k, H.get id = some k → (φ id).nil = false → ¬ F (φ id).blk
  flt : ∀ b, F b → b < w.heap.size
structure Ext (F : Nat → Prop) (φ : Nat → RS) (H : Heap) (w : World) (φ' : Nat → RS) (H' : Heap) (w' : World) : Prop where
  le : (cx F φ H w).Le (cx F φ' H' w')
  ro : ∀ id k, H.get id = some k → k.ro = true → H'.get id = some k
  os : w'.os = w.os
  tape : w'.tape = w.tape
  output : w'.output = w.output
theorem Ext.refl (F : Nat → Prop) (φ : Nat → RS) (H : Heap) (w : World) : Ext F φ H w φ H w := ⟨Cx.Le.refl _, fun _ _ h _ => h, rfl, rfl, rfl⟩
theorem Ext.trans {F : Nat → Prop} {φ1 φ2 φ3 : Nat → RS} {H1 H2 H3 : Heap} {w1 w2 w3 : World} (h : Ext F φ1 H1 w1 φ2 H2 w2) (g : Ext F φ2 H2 w2 φ3 H3 w3) : Ext F φ1 H1 w1 φ3 H3 w3 :=
  ⟨h.le.trans g.le, fun id k hg hr => g.ro id k (h.ro id k hg hr) hr, g.os.trans h.os, g.tape.trans h.tape, g.output.trans h.output⟩
theorem BRel.lt {C : Cx} {r : RS} {k : Blk} (h : BRel C r k) (hn : r.nil = false) : r.blk < C.w.heap.size := by
  cases k with
  | obj ro cs =>
    obtain ⟨_, vs, e, hb, _⟩ := h
    exact (Array.getElem?_eq_some_iff.1 hb).1
  | seq ro e t xs =>
    obtain ⟨_, _, us, _, ho⟩ := h
    exact (ho.lt r.blk (by simp [RS.sl, hn, Value.ownBlock])).2
  | map ro t es =>
    obtain ⟨_, vs, _, ho⟩ := h
    exact ho.lt
theorem Rel.mut_lt {F : Nat → Prop} {φ : Nat → RS} {H : Heap} {w : World} (h : Rel F φ H w) {b : Nat} (hb : Mut φ H b) : b < w.heap.size := by
  obtain ⟨id, k, hk, hn, rfl⟩ := hb
  exact (h.blk id k hk).lt hn
theorem ownsRow_of_block {w w' : World} {e : Nat} {sz : Nat} {r : RS} {n : Nat} {us : List Value} (h : w.ownsRow 0 e sz r.sl n us) (hb : r.nil = false → w'.heap[r.blk]? = w.heap[r.blk]?) : w'.ownsRow 0 e sz r.sl n us := by
  refine ⟨h.1, ?_⟩
  rcases h.2 with hn | ⟨g, cap, cur, hv, hg, hh, rest⟩
  · exact .inl hn
  · refine .inr ⟨g, cap, cur, hv, hg, ?_, rest⟩
    cases hn : r.nil with
    | true => simp [RS.sl, hn] at hv
    | false =>
      simp only [RS.sl, hn, Bool.false_eq_true, if_false, Value.slice.injEq, Option.some.injEq, Addr.mk.injEq, and_true] at hv
      obtain ⟨rfl, -, -⟩ := hv
      rw [hb hn]
      exact hh
theorem BRel.mono {C C' : Cx} {r : RS} {k : Blk} (hle : C.Le C') (hb : r.nil = false → C'.w.heap[r.blk]? = C.w.heap[r.blk]?) (h : BRel C r k) : BRel C' r k := by
  cases k with
  | obj ro cs =>
    obtain ⟨hn, vs, e, h1, h2⟩ := h
    exact ⟨hn, vs, e, by rw [hb hn]; exact h1, h2.mono hle⟩
  | seq ro e t xs =>
    obtain ⟨h1, h2, us, h3, h4⟩ := h
    exact ⟨h1, h2, us, h3.mono hle, ownsRow_of_block h4 hb⟩
  | map ro t es =>
    obtain ⟨hn, vs, h1, h2⟩ := h
    exact ⟨hn, vs, h1.imp fun _ _ h => h.mono hle, h2.of_block (hb hn)⟩
section
variable {F : Nat → Prop} {φ φ' : Nat → RS} {H H' : Heap} {w w' : World}
/-- How memory goes on. -/
theorem Rel.gen (h : Rel F φ H w) (h1 : ∀ id k, H'.get id = some k → id < H'.n) (h2 : H.n ≤ H'.n) (h2' : ∀ id, id < H.n → φ' id = φ id)
    (h3 : w.heap.size ≤ w'.heap.size) (h3' : ∀ b, b < w.heap.size → ¬ Wr φ H b → w'.heap[b]? = w.heap[b]?) (h4 : ∀ b, b < w.heap.size → ¬ Mut φ H b → ¬ Mut φ' H' b) (h4' : ∀ b, b < w.heap.size → ¬ Wr φ H b → ¬ Wr φ' H' b)
    (hro : ∀ id k, H.get id = some k → k.ro = true → H'.get id = some k)
    (h5 : (cx F φ H w).Le (cx F φ' H' w') → ∀ id k, H'.get id = some k → (H.get id = some k ∧ ((φ id).nil = false → w'.heap[(φ id).blk]? = w.heap[(φ id).blk]?)) ∨ BRel (cx F φ' H' w') (φ' id) k)
    (h6 : ∀ id id' k k', H'.get id = some k → H'.get id' = some k' → (φ' id).nil = false → (φ' id').nil = false → (φ' id).blk = (φ' id').blk → id = id')
    (h7 : ∀ id k, H'.get id = some k → (φ' id).nil = false → ¬ F (φ' id).blk) (ho : w'.os = w.os) (ht : w'.tape = w.tape) (hp : w'.output = w.output) : Rel F φ' H' w' ∧ Ext F φ H w φ' H' w' := by
  have le : (cx F φ H w).Le (cx F φ' H' w') := ⟨h2', h2, fun b hb hm => fun h => h.elim (h4 b hb (fun x => hm (.inl x))) (fun x => hm (.inr x)), h3, h3', h4'⟩
  refine ⟨⟨h1, fun id k hk => ?_, h6, h7, fun b hb => Nat.lt_of_lt_of_le (h.flt b hb) h3⟩, ⟨le, hro, ho, ht, hp⟩⟩
  rcases h5 le id k hk with ⟨h7, h8⟩ | h7
  · rw [h2' id (h.lt id k h7)]
    exact (h.blk id k h7).mono le h8
  · exact h7
def upd (φ : Nat → RS) (id : Nat) (r : RS) : Nat → RS := fun j => if j = id then r else φ j
theorem upd_same (φ : Nat → RS) (id : Nat) (r : RS) : upd φ id r id = r := by simp [upd]
theorem upd_ne (φ : Nat → RS) {id j : Nat} (r : RS) (h : j ≠ id) : upd φ id r j = φ j := by simp [upd, h]
/-- A new block. -/
theorem Rel.new (h : Rel F φ H w) (r : RS) (k : Blk) (hkr : k.ro = false) (h3 : w.heap.size ≤ w'.heap.size) (h3' : ∀ b, b < w.heap.size → w'.heap[b]? = w.heap[b]?) (hr : r.nil = false → w.heap.size ≤ r.blk)
    (hk : (cx F φ H w).Le (cx F (upd φ H.n r) (H.new k) w') → BRel (cx F (upd φ H.n r) (H.new k) w') r k)
    (ho : w'.os = w.os) (ht : w'.tape = w.tape) (hp : w'.output = w.output) : Rel F (upd φ H.n r) (H.new k) w' ∧ Ext F φ H w (upd φ H.n r) (H.new k) w' := by
  have key : ∀ id k', (H.new k).get id = some k' → (id = H.n ∧ k' = k) ∨ (id ≠ H.n ∧ H.get id = some k') := fun id k' hg => by
    by_cases e : id = H.n
    · subst e
      rw [Heap.get_new_same] at hg
      injection hg with hg
      exact .inl ⟨rfl, hg.symm⟩
    · rw [Heap.get_new_ne _ _ e] at hg
      exact .inr ⟨e, hg⟩
  refine Rel.gen h (fun id k' hg => ?_) (Nat.le_succ _) (fun id hi => upd_ne _ _ (Nat.ne_of_lt hi)) h3 (fun b hb _ => h3' b hb) (fun b hb hm => ?_) (fun b hb hm => ?_) (fun id k' hg hro => ?_) (fun le id k' hg => ?_) (fun id id' k1 k2 hg hg' hn hn' he => ?_) (fun id k' hg hn => ?_) ho ht hp
  · rcases key id k' hg with ⟨rfl, -⟩ | ⟨-, hg⟩
    · exact Nat.lt_succ_self _
    · exact Nat.lt_succ_of_lt (h.lt _ _ hg)
  · rintro ⟨id, k', hg, hn, he⟩
    rcases key id k' hg with ⟨rfl, -⟩ | ⟨hne, hg⟩
    · rw [upd_same] at hn he
      have := hr hn
      omega
    · rw [upd_ne _ _ hne] at hn he
      exact hm ⟨id, k', hg, hn, he⟩
  · rintro ⟨id, k', hg, hro, hn, he⟩
    rcases key id k' hg with ⟨rfl, -⟩ | ⟨hne, hg⟩
    · rw [upd_same] at hn he
      have := hr hn
      omega
    · rw [upd_ne _ _ hne] at hn he
      exact hm ⟨id, k', hg, hro, hn, he⟩
  · rw [Heap.get_new_ne _ _ (Nat.ne_of_lt (h.lt _ _ hg))]
    exact hg
  · rcases key id k' hg with ⟨rfl, rfl⟩ | ⟨hne, hg⟩
    · right
      rw [upd_same]
      exact hk le
    · exact .inl ⟨hg, fun hn => h3' _ ((h.blk _ _ hg).lt hn)⟩
  · rcases key id k1 hg with ⟨rfl, -⟩ | ⟨hne, hg⟩ <;> rcases key id' k2 hg' with ⟨rfl, -⟩ | ⟨hne', hg'⟩
    · rfl
    · rw [upd_same] at hn he
      rw [upd_ne _ _ hne'] at hn' he
      have := (h.blk _ _ hg').lt hn'
      have := hr hn
      simp only [cx] at *
      omega
    · rw [upd_same] at hn' he
      rw [upd_ne _ _ hne] at hn he
      have := (h.blk _ _ hg).lt hn
      have := hr hn'
      simp only [cx] at *
      omega
    · rw [upd_ne _ _ hne] at hn he
      rw [upd_ne _ _ hne'] at hn' he
      exact h.inj _ _ _ _ hg hg' hn hn' he
  · rcases key id k' hg with ⟨rfl, -⟩ | ⟨hne, hg⟩
    · rw [upd_same] at hn ⊢
      exact fun hf => absurd (h.flt _ hf) (by have := hr hn; omega)
    · rw [upd_ne _ _ hne] at hn ⊢
      exact h.forb _ _ hg hn
/-- A block that is there gets other cells. -/
theorem Rel.upd (h : Rel F φ H w) {id : Nat} {k0 : Blk} (k : Blk) (hg : H.get id = some k0) (hk0 : k0.ro = false) (hkr : k.ro = false) (hn : (φ id).nil = false) (h3 : w.heap.size ≤ w'.heap.size) (h3' : ∀ b, b < w.heap.size → b ≠ (φ id).blk → w'.heap[b]? = w.heap[b]?)
    (hk : (cx F φ H w).Le (cx F φ (H.put id (some k)) w') → BRel (cx F φ (H.put id (some k)) w') (φ id) k)
    (ho : w'.os = w.os) (ht : w'.tape = w.tape) (hp : w'.output = w.output) : Rel F φ (H.put id (some k)) w' ∧ Ext F φ H w φ (H.put id (some k)) w' := by
  have key : ∀ j k', (H.put id (some k)).get j = some k' → (j = id ∧ k' = k) ∨ (j ≠ id ∧ H.get j = some k') := fun j k' hg' => by
    by_cases e : j = id
    · subst e
      rw [Heap.get_put_same] at hg'
      injection hg' with hg'
      exact .inl ⟨rfl, hg'.symm⟩
    · rw [Heap.get_put_ne _ _ e] at hg'
      exact .inr ⟨e, hg'⟩
  have old : ∀ j k', (H.put id (some k)).get j = some k' → ∃ k2, H.get j = some k2 ∧ k2.ro = k'.ro := fun j k' hg' => by
    rcases key j k' hg' with ⟨rfl, rfl⟩ | ⟨-, hg'⟩
    · exact ⟨_, hg, by rw [hk0, hkr]⟩
    · exact ⟨_, hg', rfl⟩
  refine Rel.gen h (fun j k' hg' => ?_) (Nat.le_refl _) (fun _ _ => rfl) h3 (fun b hb hm => h3' b hb (fun e => hm ⟨id, k0, hg, hk0, hn, e.symm⟩)) (fun b hb hm => ?_) (fun b hb hm => ?_) (fun j k' hj hro => ?_) (fun le j k' hg' => ?_) (fun j j' k1 k2 hj hj' => ?_) (fun j k' hj hn' => ?_) ho ht hp
  · obtain ⟨k2, h2, -⟩ := old j k' hg'
    exact h.lt _ _ h2
  · rintro ⟨j, k', hg', hnn, he⟩
    obtain ⟨k2, h2, -⟩ := old j k' hg'
    exact hm ⟨j, k2, h2, hnn, he⟩
  · rintro ⟨j, k', hg', hro, hnn, he⟩
    obtain ⟨k2, h2, h2r⟩ := old j k' hg'
    exact hm ⟨j, k2, h2, h2r.trans hro, hnn, he⟩
  · have hne : j ≠ id := fun e => by
      subst e
      rw [hg] at hj
      injection hj with hj
      subst hj
      rw [hk0] at hro
      cases hro
    rw [Heap.get_put_ne _ _ hne]
    exact hj
  · rcases key j k' hg' with ⟨rfl, rfl⟩ | ⟨hne, hg'⟩
    · exact .inr (hk le)
    · exact .inl ⟨hg', fun hnn => h3' _ ((h.blk _ _ hg').lt hnn) (fun e => hne (h.inj _ _ _ _ hg hg' hn hnn e.symm).symm)⟩
  · obtain ⟨k3, h3, h3r⟩ := old j k1 hj
    obtain ⟨k4, h4, -⟩ := old j' k2 hj'
    exact h.inj _ _ _ _ h3 h4
  · obtain ⟨k2, h2, -⟩ := old j k' hj
    exact h.forb _ _ h2 hn'
/-- A block is written no more. -/
theorem Rel.drop (h : Rel F φ H w) (id : Nat) (hro : ∀ k, H.get id = some k → k.ro = false) : Rel F φ (H.put id none) w ∧ Ext F φ H w φ (H.put id none) w := by
  have old : ∀ j k', (H.put id none).get j = some k' → H.get j = some k' := fun j k' hg' => by
    by_cases e : j = id
    · subst e
      rw [Heap.get_put_same] at hg'
      cases hg'
    · rwa [Heap.get_put_ne _ _ e] at hg'
  refine Rel.gen h (fun j k' hg' => h.lt _ _ (old j k' hg')) (Nat.le_refl _) (fun _ _ => rfl) (Nat.le_refl _) (fun b hb hm => rfl) (fun b hb hm => ?_) (fun b hb hm => ?_) (fun j k' hj hr => ?_) (fun le j k' hg' => .inl ⟨old j k' hg', fun _ => rfl⟩) (fun j j' k1 k2 hj hj' => h.inj _ _ _ _ (old _ _ hj) (old _ _ hj')) (fun j k' hj hn => h.forb _ _ (old _ _ hj) hn) rfl rfl rfl
  · rintro ⟨j, k', hg', hnn, he⟩
    exact hm ⟨j, k', old j k' hg', hnn, he⟩
  · rintro ⟨j, k', hg', hr, hnn, he⟩
    exact hm ⟨j, k', old j k' hg', hr, hnn, he⟩
  · have hne : j ≠ id := fun e => by
      subst e
      rw [hro _ hj] at hr
      cases hr
    rw [Heap.get_put_ne _ _ hne]
    exact hj
theorem Rel.noop (h : Rel F φ H w) {id : Nat} {k : Blk} (hg : H.get id = some k) : Rel F φ (H.put id (some k)) w ∧ Ext F φ H w φ (H.put id (some k)) w := by
  have hget : ∀ j, (H.put id (some k)).get j = H.get j := fun j => by
    by_cases e : j = id
    · subst e
      rw [Heap.get_put_same, hg]
    · rw [Heap.get_put_ne _ _ e]
  refine Rel.gen h (fun j k' hj => ?_) (Nat.le_refl _) (fun _ _ => rfl) (Nat.le_refl _) (fun _ _ _ => rfl) (fun b hb hm => ?_) (fun b hb hm => ?_) (fun j k' hj hr => ?_) (fun le j k' hj => ?_) (fun j j' k1 k2 hj hj' => ?_) (fun j k' hj hn => ?_) rfl rfl rfl
  · rw [hget] at hj; exact h.lt _ _ hj
  · rintro ⟨j, k', hj, r⟩; rw [hget] at hj; exact hm ⟨j, k', hj, r⟩
  · rintro ⟨j, k', hj, r⟩; rw [hget] at hj; exact hm ⟨j, k', hj, r⟩
  · rw [hget]; exact hj
  · rw [hget] at hj; exact .inl ⟨hj, fun _ => rfl⟩
  · rw [hget] at hj hj'; exact h.inj _ _ _ _ hj hj'
  · rw [hget] at hj; exact h.forb _ _ hj hn
/-- A block goes on under a new number, there or elsewhere. -/
theorem Rel.move (h : Rel F φ H w) {id : Nat} {k0 : Blk} (r : RS) (k : Blk) (hg : H.get id = some k0) (hk0 : k0.ro = false) (hkr : k.ro = false) (h3 : w.heap.size ≤ w'.heap.size)
    (h3' : ∀ b, b < w.heap.size → ((φ id).nil = false → b ≠ (φ id).blk) → w'.heap[b]? = w.heap[b]?) (hr : r.nil = false → w.heap.size ≤ r.blk ∨ ((φ id).nil = false ∧ r.blk = (φ id).blk))
    (hk : (cx F φ H w).Le (cx F (Go.Proofs.Ytpjdicndjakeoaa.upd φ H.n r) ((H.put id none).new k) w') → BRel (cx F (Go.Proofs.Ytpjdicndjakeoaa.upd φ H.n r) ((H.put id none).new k) w') r k)
    (ho : w'.os = w.os) (ht : w'.tape = w.tape) (hp : w'.output = w.output) : Rel F (Go.Proofs.Ytpjdicndjakeoaa.upd φ H.n r) ((H.put id none).new k) w' ∧ Ext F φ H w (Go.Proofs.Ytpjdicndjakeoaa.upd φ H.n r) ((H.put id none).new k) w' := by
  have hid : id < H.n := h.lt _ _ hg
  have key : ∀ j k', ((H.put id none).new k).get j = some k' → (j = H.n ∧ k' = k) ∨ (j ≠ H.n ∧ j ≠ id ∧ H.get j = some k') := fun j k' hg' => by
    by_cases e : j = H.n
    · subst e
      rw [show H.n = (H.put id none).n from rfl, Heap.get_new_same] at hg'
      injection hg' with hg'
      exact .inl ⟨rfl, hg'.symm⟩
    · rw [Heap.get_new_ne (H.put id none) _ (show j ≠ (H.put id none).n from e)] at hg'
      by_cases e2 : j = id
      · subst e2
        rw [Heap.get_put_same] at hg'
        cases hg'
      · rw [Heap.get_put_ne _ _ e2] at hg'
        exact .inr ⟨e, e2, hg'⟩
  have other : ∀ j k', H.get j = some k' → j ≠ id → (φ j).nil = false → r.nil = false → (φ j).blk ≠ r.blk := fun j k' hj hne hn hrn he => by
    rcases hr hrn with h1 | ⟨h1, h2⟩
    · have := (h.blk _ _ hj).lt hn
      simp only [cx] at this
      omega
    · exact hne (h.inj _ _ _ _ hg hj h1 hn (he.trans h2).symm).symm
  refine Rel.gen h (fun j k' hg' => ?_) (Nat.le_succ _) (fun j hj => upd_ne _ _ (Nat.ne_of_lt hj)) h3 (fun b hb hm => h3' b hb (fun hn e => hm ⟨id, k0, hg, hk0, hn, e.symm⟩)) (fun b hb hm => ?_) (fun b hb hm => ?_) (fun j k' hj hro => ?_) (fun le j k' hg' => ?_) (fun j j' k1 k2 hj hj' hn hn' he => ?_) (fun j k' hj hn => ?_) ho ht hp
  · rcases key j k' hg' with ⟨rfl, -⟩ | ⟨-, -, hg'⟩
    · exact Nat.lt_succ_self _
    · exact Nat.lt_succ_of_lt (h.lt _ _ hg')
  · rintro ⟨j, k', hg', hn, he⟩
    rcases key j k' hg' with ⟨rfl, -⟩ | ⟨hne, hne2, hg'⟩
    · rw [upd_same] at hn he
      rcases hr hn with h1 | ⟨h1, h2⟩
      · omega
      · exact hm ⟨id, k0, hg, h1, h2.symm.trans he⟩
    · rw [upd_ne _ _ hne] at hn he
      exact hm ⟨j, k', hg', hn, he⟩
  · rintro ⟨j, k', hg', hro, hn, he⟩
    rcases key j k' hg' with ⟨rfl, -⟩ | ⟨hne, hne2, hg'⟩
    · rw [upd_same] at hn he
      rcases hr hn with h1 | ⟨h1, h2⟩
      · omega
      · exact hm ⟨id, k0, hg, hk0, h1, h2.symm.trans he⟩
    · rw [upd_ne _ _ hne] at hn he
      exact hm ⟨j, k', hg', hro, hn, he⟩
  · have hne : j ≠ id := fun e => by
      subst e
      rw [hg] at hj
      injection hj with hj
      subst hj
      rw [hk0] at hro
      cases hro
    rw [Heap.get_new_ne (H.put id none) _ (show j ≠ (H.put id none).n from Nat.ne_of_lt (h.lt _ _ hj)), Heap.get_put_ne _ _ hne]
    exact hj
  · rcases key j k' hg' with ⟨rfl, rfl⟩ | ⟨hne, hne2, hg'⟩
    · right
      rw [upd_same]
      exact hk le
    · exact .inl ⟨hg', fun hnn => h3' _ ((h.blk _ _ hg').lt hnn) (fun hn e => hne2 (h.inj _ _ _ _ hg hg' hn hnn e.symm).symm)⟩
  · rcases key j k1 hj with ⟨rfl, -⟩ | ⟨hne, hne2, hj⟩ <;> rcases key j' k2 hj' with ⟨rfl, -⟩ | ⟨hne', hne2', hj'⟩
    · rfl
    · rw [upd_same] at hn he
      rw [upd_ne _ _ hne'] at hn' he
      exact absurd he.symm (other _ _ hj' hne2' hn' hn)
    · rw [upd_same] at hn' he
      rw [upd_ne _ _ hne] at hn he
      exact absurd he (other _ _ hj hne2 hn hn')
    · rw [upd_ne _ _ hne] at hn he
      rw [upd_ne _ _ hne'] at hn' he
      exact h.inj _ _ _ _ hj hj' hn hn' he
  · rcases key j k' hj with ⟨rfl, -⟩ | ⟨hne, hne2, hj⟩
    · rw [upd_same] at hn ⊢
      rcases hr hn with h1 | ⟨h1, h2⟩
      · exact fun hf => absurd (h.flt _ hf) (by omega)
      · rw [h2]
        exact h.forb _ _ hg h1
    · rw [upd_ne _ _ hne] at hn ⊢
      exact h.forb _ _ hj hn
end
/-! ### values of temporaries -/
def RV1 (C : Cx) : AV → Value → Prop
  | .undef, _ => True
  | .agg cs, v => ∃ vs : List Value, v = .agg vs.toArray ∧ Reps C cs vs
  | .tup _, _ => False
  | a, v => Reps C [a] [v]
def RVs (C : Cx) : List AV → List Value → Prop
  | [], [] => True
  | a :: as, v :: vs => RV1 C a v ∧ RVs C as vs
  | _, _ => False
def RV (C : Cx) : AV → Value → Prop
  | .tup l, v => ∃ vs : List Value, v = .tuple vs.toArray ∧ RVs C l vs
  | a, v => RV1 C a v
theorem RV1.mono {C C' : Cx} (hle : C.Le C') {a : AV} {v : Value} (h : RV1 C a v) : RV1 C' a v := by
  cases a <;> simp only [RV1] at h ⊢ <;> first | trivial | exact h.mono hle | (obtain ⟨vs, e, hr⟩ := h; exact ⟨vs, e, hr.mono hle⟩)
theorem RVs.mono {C C' : Cx} (hle : C.Le C') : ∀ {as : List AV} {vs : List Value}, RVs C as vs → RVs C' as vs
  | [], [], _ => trivial
  | a :: as, v :: vs, h => ⟨h.1.mono hle, RVs.mono hle h.2⟩
  | [], _ :: _, h => h.elim
  | _ :: _, [], h => h.elim
theorem RV.mono {C C' : Cx} (hle : C.Le C') {a : AV} {v : Value} (h : RV C a v) : RV C' a v := by
  cases a with
  | tup l => obtain ⟨vs, e, hr⟩ := h; exact ⟨vs, e, hr.mono hle⟩
  | _ => simp only [RV] at h ⊢; exact RV1.mono hle h
end Go.Proofs.Ytpjdicndjakeoaa
