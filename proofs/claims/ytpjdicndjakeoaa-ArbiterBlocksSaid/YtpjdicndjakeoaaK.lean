/- Small words that all texts of this seat use: what a call leaves as it was, slices that are read, integers' bounds. -/
import Derived.WalkKit
import Derived.ProofKit
import Derived.OpenShut
import Derived.ChangeOld
import Derived.Below
import Derived.Deep.Slices
import Derived.Deep.QuietTactic
import Derived.BigQuiet
import Derived.KernelRfl
import Derived.Test.YtpjdicndjakeoaaD
namespace Go.Proofs.Ytpjdicndjakeoaa
open Go.ChangeShapes Go.WideShapes Go.ChangeAt Go.RowKit
set_option linter.unusedVariables false

theorem ret_int {k : IntKind} {a b : Int} (h : a = b) : Ending.returned (.int k a) = .returned (.int k b) := by rw [h]
theorem ret_bool {a b : Bool} (h : a = b) : Ending.returned (.bool a) = .returned (.bool b) := by rw [h]
theorem hide {p : Prop} (h : p) : Hid p := h
theorem bcell {W w1 : World} (hb : Below W.heap.size W w1) : (∀ b o, b < W.heap.size → w1.cell? ⟨b, o, none⟩ = W.cell? ⟨b, o, none⟩) ∧ (∀ b o, b < W.heap.size → w1.frozen? ⟨b, o, none⟩ = W.frozen? ⟨b, o, none⟩) :=
  ⟨fun b o h => hb.cell (p := ⟨b, o, none⟩) h, fun b o h => hb.frozen (p := ⟨b, o, none⟩) h⟩
theorem bl0 {w : World} : Below w.heap.size w w := Below.refl _ _
theorem bl1 {w w' : World} {o : Obj} (h : Below w.heap.size w w') : Below w.heap.size w (w'.alloc o) := h.alloc h.size o
theorem bl2 {w w' : World} {b o : Nat} {v : Value} (h : Below w.heap.size w w') (hp : w.heap.size ≤ b) : Below w.heap.size w (w'.setCell ⟨b, o, none⟩ v) := h.setCell hp v
theorem bl3 {w w' w2 : World} (hb : Below w'.heap.size w' w2) (h : Below w.heap.size w w') : Below w.heap.size w w2 := h.trans (hb.mono h.size)
theorem bl4 {w w' : World} (h : Below w.heap.size w w') : Below w.heap.size w w'.drew := h.drew
theorem bl5 {w w' : World} {n : Nat} (h : Below w.heap.size w w') : Below w.heap.size w (w'.drewN n) := ⟨h.os, h.tape, h.output, h.size, h.block⟩

theorem okWide_array' {P : Program} {w : World} {r : Reach} {base : Nat} {t : TypeId} {v : Value} {n : Nat} {e : TypeId} (ht : P.underlying t = some (.array n e)) (h : Value.okWide P w r base t v) : ∃ cs, v = .agg cs ∧ cs.size = P.cellsOf t := by
  simp only [Value.okWide, ht] at h
  obtain ⟨cs, h1, h2, _⟩ := h
  exact ⟨cs, h1, h2⟩

theorem blk_cell {w : World} {b : Nat} {cs : Array Value} {t : TypeId} {fr : Nat × Nat} (h : w.heap[b]? = some (.cells cs t fr)) (o : Nat) : w.cell? ⟨b, o, none⟩ = cs[o]? := by simp [World.cell?, h]
theorem blk_frozen {w : World} {b : Nat} {cs : Array Value} {t : TypeId} (h : w.heap[b]? = some (.cells cs t (0, 0))) (o : Nat) : w.frozen? ⟨b, o, none⟩ = false := by simp [World.frozen?, h]
/-- Four cells of a block, none of them frozen. -/
def C4 (w : World) (b : Nat) (v0 v1 v2 v3 : Value) : Prop := (w.cell? ⟨b, 0, none⟩ = some v0 ∧ w.cell? ⟨b, 1, none⟩ = some v1 ∧ w.cell? ⟨b, 2, none⟩ = some v2 ∧ w.cell? ⟨b, 3, none⟩ = some v3) ∧ (w.frozen? ⟨b, 0, none⟩ = false ∧ w.frozen? ⟨b, 1, none⟩ = false ∧ w.frozen? ⟨b, 2, none⟩ = false ∧ w.frozen? ⟨b, 3, none⟩ = false)

/-- A slice that came in: its elements' cells, each element by its record. -/
def Rd {α : Type} (enc : α → List Value) (sz : Nat) (w : World) (A : Option Addr) (n c : Nat) (xs : List α) : Prop :=
  xs.length = n ∧ n ≤ c ∧ c ≤ 9223372036854775807 ∧ (0 < n → ∃ b off, A = some ⟨b, off, none⟩ ∧ b < w.heap.size ∧ ∀ (i j : Nat) x v, xs[i]? = some x → (enc x)[j]? = some v → w.cell? ⟨b, off + i * sz + j, none⟩ = some v)

theorem exists_list {α : Type} (p : Nat → α → Prop) : ∀ n, (∀ i, i < n → ∃ a, p i a) → ∃ l : List α, l.length = n ∧ ∀ i a, l[i]? = some a → p i a
  | 0, _ => ⟨[], rfl, fun i a h => by simp at h⟩
  | n + 1, h => by
    obtain ⟨l, hl, hp⟩ := exists_list p n (fun i hi => h i (by omega))
    obtain ⟨a, ha⟩ := h n (by omega)
    refine ⟨l ++ [a], by simp [hl], fun i b hb => ?_⟩
    rcases Nat.lt_or_ge i n with hi | hi
    · rw [List.getElem?_append_left (by omega)] at hb
      exact hp i b hb
    · have hlt := (List.getElem?_eq_some_iff.1 hb).1
      simp [hl] at hlt
      have : i = n := by omega
      subst this
      rw [List.getElem?_append_right (by omega), hl] at hb
      simp at hb
      subst hb
      exact ha

theorem open_rd {H : Type} {enc0 : TypeId × Value → H} {P : Program} {w : World} {spare : Nat → Bool} {held : Bool} {α : Type} (enc : α → List Value) (sz : Nat) {ok : α → Prop} {t e : TypeId} {fuel : Nat} {A : Option Addr} {n c : Nat} {x : DataW H × List MemPlace}
    (hu : P.underlying t = some (.slice e)) (hc : P.cellsOf e = sz) (hsz : 0 < sz) (hlen : ∀ r, (enc r).length = sz)
    (hel : ∀ {fuel : Nat} {cs : List Value} {x : DataW H × List MemPlace}, DataW.trod enc0 P w 0 spare held fuel e cs = some x → ∃ r, cs = enc r ∧ ok r)
    (hf : DataW.trod enc0 P w 0 spare held fuel t [.slice A n c] = some x) : ∃ xs : List α, Rd enc sz w A n c xs ∧ ∀ r ∈ xs, ok r := by
  rcases Go.Deep.open_slice hu hf with ⟨hcs, _⟩ | ⟨a, len, cap, m, k, D, Pl, hcs, _, hl, hm, hmm, _, hi⟩
  · simp at hcs
    obtain ⟨rfl, rfl, rfl⟩ := hcs
    exact ⟨[], ⟨rfl, by omega, by omega, fun h => absurd h (by omega)⟩, fun r hr => by simp at hr⟩
  · simp only [List.cons.injEq, Value.slice.injEq, and_true] at hcs
    obtain ⟨rfl, rfl, rfl⟩ := hcs
    have hle : n ≤ m := by rw [hmm]; split <;> omega
    have hget : ∀ i, i < n → ∃ r, ok r ∧ ∀ j v, (enc r)[j]? = some v → w.cell? ((a.add (i * sz)).add j) = some v := by
      intro i hin
      obtain ⟨cs', h1, h2⟩ := hi i (by omega)
      obtain ⟨r, rfl, ho⟩ := hel h2
      rw [hc] at h1
      obtain ⟨_, _, hat⟩ := World.cells?_some h1
      refine ⟨r, ho, fun j v hv => ?_⟩
      have hj : j < sz := by rw [← hlen r]; exact (List.getElem?_eq_some_iff.1 hv).1
      rw [hat j hj, hv]
    obtain ⟨xs, hxl, hx⟩ := exists_list _ n hget
    refine ⟨xs, ⟨hxl, hl, by simpa [maxLen] using hm, fun h0 => ?_⟩, ?_⟩
    · have h00 : xs[0]? = some xs[0] := List.getElem?_eq_getElem (by omega)
      obtain ⟨_, hc0⟩ := hx 0 _ h00
      have hv0 : (enc xs[0])[0]? = some ((enc xs[0])[0]'(by rw [hlen]; exact hsz)) := List.getElem?_eq_getElem _
      have hcell := hc0 0 _ hv0
      have ha : ((a.add (0 * sz)).add 0) = a := by simp [Addr.add]
      rw [ha] at hcell
      obtain ⟨b, off, spot⟩ := a
      have hs : spot = none := by
        unfold World.cell? at hcell
        split at hcell
        · cases spot with
          | none => rfl
          | some s => simp at hcell
        · simp at hcell
      subst hs
      refine ⟨b, off, rfl, World.block_lt_of_cell? w _ hcell, fun i j x v hxi hv => ?_⟩
      obtain ⟨_, hci⟩ := hx i x hxi
      have := hci j v hv
      have e : ((⟨b, off, none⟩ : Addr).add (i * sz)).add j = ⟨b, off + i * sz + j, none⟩ := by
        unfold Addr.add
        by_cases h1 : i * sz = 0 <;> by_cases h2 : j = 0 <;> simp [h1, h2]
      rwa [e] at this
    · intro r hr
      obtain ⟨i, hi', he⟩ := List.getElem_of_mem hr
      exact (hx i r (by rw [← he]; exact List.getElem?_eq_getElem hi')).1
/-- The same, and a slice without memory has no room. -/
def Rdc {α : Type} (enc : α → List Value) (sz : Nat) (w : World) (A : Option Addr) (n c : Nat) (xs : List α) : Prop := Rd enc sz w A n c xs ∧ (A = none → c = 0)
theorem open_none {H : Type} {enc0 : TypeId × Value → H} {P : Program} {w : World} {spare : Nat → Bool} {held : Bool} {t e : TypeId} {fuel : Nat} {A : Option Addr} {n c : Nat} {x : DataW H × List MemPlace}
    (hu : P.underlying t = some (.slice e)) (hf : DataW.trod enc0 P w 0 spare held fuel t [.slice A n c] = some x) : A = none → c = 0 := by
  rcases Go.Deep.open_slice hu hf with ⟨hcs, _⟩ | ⟨a, len, cap, m, k, D, Pl, hcs, _, hl, hm, hmm, _, hi⟩
  · simp at hcs
    exact fun _ => hcs.2.2
  · simp only [List.cons.injEq, Value.slice.injEq, and_true] at hcs
    intro h
    rw [h] at hcs
    cases hcs.1
end Go.Proofs.Ytpjdicndjakeoaa
