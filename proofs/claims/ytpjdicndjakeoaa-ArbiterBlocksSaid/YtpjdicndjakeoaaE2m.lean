/- The engine: maps with whole numbers for keys. No condition. -/
import Derived.Test.YtpjdicndjakeoaaE2
import Derived.Maps.RangeWalk
namespace Go.Proofs.Ytpjdicndjakeoaa
open Go.RowKit Go.Maps
set_option linter.unusedVariables false
set_option linter.unusedSimpArgs false
def RVv (v : Value) : Option (DataW Value × List MemPlace) := some (.held v, [])
theorem keyOf_same {P P' : Program} {k k' : TypeId} {q : IntKind} (h : P.underlying k = some (.int q)) (h' : P'.underlying k' = some (.int q)) : keyOf P k = keyOf P' k' := by
  funext v
  cases e : keyOf P k v with
  | some l =>
    obtain ⟨x, rfl, rfl, hw⟩ := Maps.keyOf_int_inv h e
    exact (keyOf_int_mk h' hw).symm
  | none =>
    cases e' : keyOf P' k' v with
    | none => rfl
    | some l =>
      obtain ⟨x, rfl, rfl, hw⟩ := Maps.keyOf_int_inv h' e'
      rw [keyOf_int_mk h hw] at e
      cases e
/-- Block b is a map with whole numbers for keys that reads as D. -/
def OMap (w : World) (b n : Nat) (D : DataW Value) : Prop := ∃ P k, P.underlying k = some (.int .i64) ∧ w.ownsMap P k RVv b n D
theorem OMap.owns {w : World} {b n : Nat} {D : DataW Value} (h : OMap w b n D) {P : Program} {k : TypeId} (hk : P.underlying k = some (.int .i64)) : w.ownsMap P k RVv b n D := by
  obtain ⟨P', k', hk', es, clock, hb, F, hs, hD⟩ := h
  have e := keyOf_same hk' hk
  have e1 : WideElems.rd P' k' RVv = WideElems.rd P k RVv := by funext x; unfold WideElems.rd; rw [e]
  have e2 : WideElems.rg P' k' RVv = WideElems.rg P k RVv := by funext x; unfold WideElems.rg; rw [e1]
  exact ⟨es, clock, hb, ⟨F.size, F.stamped, fun x hx => by rw [← e1]; exact F.reads x hx⟩, hs, by rw [← e2]; exact hD⟩
theorem OMap.lt {w : World} {b n : Nat} {D : DataW Value} (h : OMap w b n D) : b < w.heap.size := by
  obtain ⟨P, k, _, h⟩ := h
  exact h.lt
theorem OMap.of_block {w w' : World} {b n : Nat} {D : DataW Value} (h : OMap w b n D) (hb : w'.heap[b]? = w.heap[b]?) : OMap w' b n D := by
  obtain ⟨P, k, hk, es, clock, h1, h2⟩ := h
  exact ⟨P, k, hk, es, clock, hb.trans h1, h2⟩
theorem owns_tight {H : Type} {w : World} {P : Program} {k : TypeId} {R : Value → Option (DataW H × List MemPlace)} {b n : Nat} {l : List (Lit × DataW H)} (h : w.ownsMap P k R b n (.map l)) : w.ownsMap P k R b l.length (.map l) := by
  obtain ⟨es, clock, h1, F, hs, hD⟩ := h
  refine ⟨es, clock, h1, F, ?_, hD⟩
  injection hD with hD
  rw [hD, length_read]
  exact Nat.le_refl _
theorem owns_len {H : Type} {w : World} {P : Program} {k : TypeId} {R : Value → Option (DataW H × List MemPlace)} {b n : Nat} {l : List (Lit × DataW H)} (h : w.ownsMap P k R b n (.map l)) : l.length ≤ maxLen := by
  obtain ⟨es, clock, h1, F, hs, hD⟩ := h
  injection hD with hD
  rw [hD, length_read]
  exact F.size
theorem owns_sorted {H : Type} {w : World} {P : Program} {k : TypeId} {R : Value → Option (DataW H × List MemPlace)} {b n : Nat} {l : List (Lit × DataW H)} (K : Keyed P k) (h : w.ownsMap P k R b n (.map l)) : l.Pairwise (fun p q => p.1.before q.1 = true) := by
  obtain ⟨es, clock, h1, F, hs, hD⟩ := h
  injection hD with hD
  rw [hD]
  exact sorted_sorted K.one _ (fit_keys F) (fit_apart K F)
/-! ### lists by keys -/
def mGet {α : Type} : List (Int × α) → Int → Option α
  | [], _ => none
  | (a, x) :: r, k => if a = k then some x else mGet r k
def mIns {α : Type} (k : Int) (x : α) : List (Int × α) → List (Int × α)
  | [] => [(k, x)]
  | (a, y) :: r => if k < a then (k, x) :: (a, y) :: r else (a, y) :: mIns k x r
def mDel {α : Type} (l : List (Int × α)) (k : Int) : List (Int × α) := l.filter fun p => decide (p.1 ≠ k)
def mPut {α : Type} (l : List (Int × α)) (k : Int) (x : α) : List (Int × α) := mIns k x (mDel l k)
def vdL (vs : List (Int × Value)) : List (Lit × DataW Value) := vs.map fun v => (.int .i64 v.1, .held v.2)
def vdat (vs : List (Int × Value)) : DataW Value := .map (vdL vs)
theorem same_int (a k : Int) : (Lit.int .i64 a).sameKey (.int .i64 k) = decide (a = k) := by simp [Lit.sameKey]
theorem vdat_del (vs : List (Int × Value)) (k : Int) : (vdat vs).del (.int .i64 k) = vdat (mDel vs k) := by
  simp only [vdat, DataW.del, vdL, mDel, List.filter_map]
  congr 2
  apply List.filter_congr
  intro x _
  simp [Function.comp, same_int]
theorem vdat_ins (k : Int) (v : Value) : ∀ vs : List (Int × Value), DataW.insert (.int .i64 k, .held v) (vdL vs) = vdL (mIns k v vs)
  | [] => rfl
  | (a, y) :: r => by
    have ih := vdat_ins k v r
    simp only [vdL, List.map_cons] at ih ⊢
    rw [DataW.insert, mIns]
    simp only [Lit.before, decide_eq_true_eq]
    split
    · rfl
    · rw [ih]; rfl
theorem vdat_put (vs : List (Int × Value)) (k : Int) (v : Value) : (vdat vs).put (.int .i64 k) (.held v) = vdat (mPut vs k v) := by
  have h := vdat_del vs k
  simp only [vdat, DataW.del, DataW.map.injEq] at h
  simp only [vdat, DataW.put, DataW.map.injEq]
  rw [h, vdat_ins]
  rfl
theorem vdat_get (k : Int) (z : Value) : ∀ vs : List (Int × Value), (vdat vs).atKey (.int .i64 k) (.held z) = .held ((mGet vs k).getD z)
  | [] => rfl
  | (a, y) :: r => by
    have ih := vdat_get k z r
    simp only [vdat, vdL, DataW.atKey, List.map_cons, List.find?_cons, same_int] at ih ⊢
    rw [mGet]
    by_cases e : a = k
    · simp [e]
    · rw [if_neg e]
      simp only [e, decide_false]
      exact ih
theorem vdat_has (k : Int) : ∀ vs : List (Int × Value), has (vdat vs) (.int .i64 k) = (mGet vs k).isSome
  | [] => rfl
  | (a, y) :: r => by
    have ih := vdat_has k r
    simp only [vdat, vdL, has, List.map_cons, List.any_cons, same_int] at ih ⊢
    rw [mGet, ih]
    by_cases e : a = k
    · simp [e]
    · simp [e]
theorem vdat_size (vs : List (Int × Value)) : Maps.size (vdat vs) = vs.length := by simp [vdat, vdL, Maps.size]
theorem OMap.sorted {w : World} {b n : Nat} {vs : List (Int × Value)} (h : OMap w b n (vdat vs)) : vs.Pairwise (fun p q => p.1 < q.1) := by
  obtain ⟨P, k, hk, h⟩ := h
  have h2 := owns_sorted (int_keyed hk) h
  rw [vdL, List.pairwise_map] at h2
  refine h2.imp fun {a b} hab => ?_
  simpa [Lit.before] using hab
theorem OMap.len {w : World} {b n : Nat} {vs : List (Int × Value)} (h : OMap w b n (vdat vs)) : vs.length ≤ maxLen := by
  obtain ⟨P, k, hk, h⟩ := h
  have := owns_len h
  simpa [vdL] using this
/-! ### values of elements -/
def Ty.agg : Ty → Bool
  | .int | .bool | .str | .sl _ => false
  | _ => true
/-- A value that stands for an element. -/
def RX (C : Cx) (t : Ty) (x : t.den) (v : Value) : Prop := if t.agg then ∃ us : List Value, v = .agg us.toArray ∧ Reps C (enc t x) us else Reps C (enc t x) [v]
structure RE (C : Cx) (t : Ty) (e : Int × t.den) (v : Int × Value) : Prop where
  key : v.1 = e.1
  wf : (Lit.int .i64 e.1).wf = true
  val : RX C t e.2 v.2
theorem RX.mono {C C' : Cx} (hle : C.Le C') {t : Ty} {x : t.den} {v : Value} (h : RX C t x v) : RX C' t x v := by
  unfold RX at h ⊢
  by_cases ha : t.agg = true
  · rw [if_pos ha] at h ⊢
    obtain ⟨us, e, h⟩ := h
    exact ⟨us, e, h.mono hle⟩
  · rw [if_neg ha] at h ⊢
    exact h.mono hle
theorem RE.mono {C C' : Cx} (hle : C.Le C') {t : Ty} {e : Int × t.den} {v : Int × Value} (h : RE C t e v) : RE C' t e v := ⟨h.key, h.wf, h.val.mono hle⟩
inductive All2 {α β : Type} (R : α → β → Prop) : List α → List β → Prop
  | nil : All2 R [] []
  | cons {a b as bs} : R a b → All2 R as bs → All2 R (a :: as) (b :: bs)
theorem All2.imp {α β : Type} {R R' : α → β → Prop} (hi : ∀ a b, R a b → R' a b) {as : List α} {bs : List β} (h : All2 R as bs) : All2 R' as bs := by
  induction h with
  | nil => exact .nil
  | cons h _ ih => exact .cons (hi _ _ h) ih
theorem All2.length {α β : Type} {R : α → β → Prop} {as : List α} {bs : List β} (h : All2 R as bs) : bs.length = as.length := by
  induction h with
  | nil => rfl
  | cons h _ ih => simp [ih]
section
variable {C : Cx} {t : Ty} {es : List (Int × t.den)} {vs : List (Int × Value)}
theorem RE.del (h : All2 (RE C t) es vs) (k : Int) : All2 (RE C t) (mDel es k) (mDel vs k) := by
  induction h with
  | nil => exact .nil
  | @cons a b as bs h _ ih =>
    unfold mDel at ih ⊢
    have hk := h.key
    by_cases e : a.1 = k
    · rw [List.filter_cons_of_neg (by simp [e]), List.filter_cons_of_neg (by simp [hk, e])]
      exact ih
    · rw [List.filter_cons_of_pos (by simp [e]), List.filter_cons_of_pos (by simp [hk, e])]
      exact .cons h ih
theorem RE.ins {k : Int} {x : t.den} {v : Value} (hx : RE C t (k, x) (k, v)) (h : All2 (RE C t) es vs) : All2 (RE C t) (mIns k x es) (mIns k v vs) := by
  induction h with
  | nil => exact .cons hx .nil
  | @cons a b as bs h hr ih =>
    obtain ⟨a1, a2⟩ := a
    obtain ⟨b1, b2⟩ := b
    have hk := h.key
    simp only at hk
    subst hk
    rw [mIns, mIns]
    split
    · exact .cons hx (.cons h hr)
    · exact .cons h ih
theorem RE.put {k : Int} {x : t.den} {v : Value} (hx : RE C t (k, x) (k, v)) (h : All2 (RE C t) es vs) : All2 (RE C t) (mPut es k x) (mPut vs k v) := RE.ins hx (RE.del h k)
theorem RE.get (h : All2 (RE C t) es vs) (k : Int) {z : t.den} {zv : Value} (hz : RX C t z zv) : RX C t ((mGet es k).getD z) ((mGet vs k).getD zv) ∧ (mGet vs k).isSome = (mGet es k).isSome := by
  induction h with
  | nil => exact ⟨hz, rfl⟩
  | @cons a b as bs h hr ih =>
    obtain ⟨a1, a2⟩ := a
    obtain ⟨b1, b2⟩ := b
    have hk := h.key
    simp only at hk
    subst hk
    rw [mGet, mGet]
    split
    · exact ⟨h.val, rfl⟩
    · exact ih
end
theorem RE.sorted {C : Cx} {t : Ty} {es : List (Int × t.den)} {vs : List (Int × Value)} (h : All2 (RE C t) es vs) (hs : vs.Pairwise (fun p q => p.1 < q.1)) : es.Pairwise (fun p q => p.1 < q.1) := by
  have mem : ∀ {es : List (Int × t.den)} {vs : List (Int × Value)}, All2 (RE C t) es vs → ∀ e ∈ es, ∃ v ∈ vs, v.1 = e.1 := fun h => by
    induction h with
    | nil => exact fun e he => absurd he (by simp)
    | cons h _ ih =>
      intro e he
      rcases List.mem_cons.1 he with rfl | he
      · exact ⟨_, List.mem_cons_self .., h.key⟩
      · obtain ⟨v, hv, e1⟩ := ih e he
        exact ⟨v, List.mem_cons_of_mem _ hv, e1⟩
  induction h with
  | nil => exact .nil
  | cons h hr ih =>
    rw [List.pairwise_cons] at hs ⊢
    refine ⟨fun e he => ?_, ih hs.2⟩
    obtain ⟨v, hv, e1⟩ := mem hr e he
    have := hs.1 v hv
    rw [h.key, e1] at this
    exact this
theorem RE.all {C : Cx} {t : Ty} {es : List (Int × t.den)} {vs : List (Int × Value)} (h : All2 (RE C t) es vs) : ∀ e ∈ es, ∃ v, RE C t e v := by
  induction h with
  | nil => exact fun e he => absurd he (by simp)
  | cons h _ ih =>
    intro e he
    rcases List.mem_cons.1 he with rfl | he
    · exact ⟨_, h⟩
    · exact ih e he
theorem mIns_len {α : Type} (k : Int) (x : α) : ∀ l : List (Int × α), (mIns k x l).length = l.length + 1
  | [] => rfl
  | (a, y) :: r => by
    rw [mIns]
    split
    · rfl
    · simp [mIns_len k x r]
end Go.Proofs.Ytpjdicndjakeoaa
