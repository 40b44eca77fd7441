/- The engine: how abstract values stand to memory. No condition. -/
import Derived.Test.YtpjdicndjakeoaaE1
namespace Go.Proofs.Ytpjdicndjakeoaa
open Go.RowKit
set_option linter.unusedVariables false
set_option linter.unusedSimpArgs false
/-- Where a numbered block lies. -/
structure RS where
  blk : Nat
  len : Nat
  cap : Nat
  nil : Bool
def RS.sl (r : RS) : Value := if r.nil then .slice none 0 0 else .slice (some ⟨r.blk, 0, none⟩) r.len r.cap
/-- A handle at a block: a map, an iterator over what lies there, a slice of it all, the part of a slice from a number on. -/
def HK.val : HK → RS → Value
  | .mp, r => .map (some r.blk)
  | .itr g, r => .func (.func g) #[] #[.pointer (some ⟨r.blk, 0, none⟩)]
  | .osl n, r => .slice (some ⟨r.blk, 0, none⟩) n n
  | .tl lo sz, r => .slice (if r.nil then none else some ⟨r.blk, if r.cap = lo then 0 else lo * sz, none⟩) ((if r.nil then 0 else r.len) - lo) ((if r.nil then 0 else r.cap) - lo)
structure Cx where
  φ : Nat → RS
  n : Nat
  mt : Nat → Prop
  wr : Nat → Prop
  sub : ∀ b, wr b → mt b
  w : World
inductive Reps (C : Cx) : List AV → List Value → Prop
  | nil : Reps C [] []
  | int {k n as vs} : k.min ≤ n → n ≤ k.max → Reps C as vs → Reps C (.int k n :: as) (.int k n :: vs)
  | bool {b as vs} : Reps C as vs → Reps C (.bool b :: as) (.bool b :: vs)
  | str {s as vs} : s.size ≤ maxLen → Reps C as vs → Reps C (.str s :: as) (.string s :: vs)
  | nilp {as vs} : Reps C as vs → Reps C (.nilp :: as) (.pointer none :: vs)
  | ptr {id p as vs} : id < C.n → Reps C as vs → Reps C (.ptr id p :: as) (.pointer (some ⟨(C.φ id).blk, p.off, none⟩) :: vs)
  | nils {as vs} : Reps C as vs → Reps C (.nils :: as) (.slice none 0 0 :: vs)
  | nilm {as vs} : Reps C as vs → Reps C (.nilm :: as) (.map none :: vs)
  | hdl {k id as vs} : id < C.n → Reps C as vs → Reps C (.hdl k id :: as) (k.val (C.φ id) :: vs)
  | slc {id as vs} : id < C.n → Reps C as vs → Reps C (.slc id :: as) ((C.φ id).sl :: vs)
  | vsl {t xs A c as vs} (ws : Nat → List Value) : xs.length ≤ c → (c ≤ maxLen ∧ (A = none → c = 0)) →
      (0 < xs.length → ∃ b off, A = some ⟨b, off, none⟩ ∧ ¬ C.mt b ∧ b < C.w.heap.size ∧ ∀ i, i < xs.length → ∀ j v, (ws i)[j]? = some v → C.w.cell? ⟨b, off + i * t.sz + j, none⟩ = some v) →
      (∀ i (x : t.den), xs[i]? = some x → Reps C (enc t x) (ws i)) → Reps C as vs → Reps C (.vsl t xs :: as) (.slice A xs.length c :: vs)
  | arr {k t xs us as vs} : Reps C (xs.flatMap (enc t)) us → xs.length = k → Reps C as vs → Reps C (.arr k t xs :: as) (us ++ vs)
  | fn {f as vs} : Reps C as vs → Reps C (.fn f :: as) (.func (.func f) #[] #[] :: vs)
  | vptr {t x k b o as vs} (ws : List Value) : Reps C (enc t x) ws → ¬ C.mt b → b < C.w.heap.size → (∀ j v, ws[j]? = some v → C.w.cell? ⟨b, o + j, none⟩ = some v) → Reps C as vs → Reps C (.vptr t x k :: as) (.pointer (some ⟨b, o + k, none⟩) :: vs)

def cellsL (as : List AV) : Nat := (as.map AV.lsz).sum
theorem cellsL_cons (a : AV) (as : List AV) : cellsL (a :: as) = a.lsz + cellsL as := by simp [cellsL]
theorem cellsL_append (as bs : List AV) : cellsL (as ++ bs) = cellsL as + cellsL bs := by simp [cellsL]
theorem cellsL_one (a : AV) : cellsL [a] = a.lsz := by simp [cellsL]
theorem enc_cells (t : Ty) (x : t.den) : cellsL (enc t x) = t.sz := by cases t <;> rfl
theorem flat_cells (t : Ty) (xs : List t.den) : cellsL (xs.flatMap (enc t)) = xs.length * t.sz := by
  induction xs with
  | nil => simp [cellsL]
  | cons x xs ih => rw [List.flatMap_cons, cellsL_append, ih, enc_cells, List.length_cons, Nat.succ_mul]; omega
section
variable {C C' : Cx}
theorem Reps.length {as : List AV} {vs : List Value} (h : Reps C as vs) : vs.length = cellsL as := by
  induction h with
  | nil => rfl
  | arr h hk h2 ih1 ih2 => rw [List.length_append, ih1, ih2, flat_cells, cellsL_cons, hk]; rfl
  | vsl ws h1 h2 h3 h4 h5 ih1 ih2 => rw [List.length_cons, ih2, cellsL_cons]; simp only [AV.lsz]; omega
  | vptr ws h1 h2 h3 h4 h5 ih1 ih2 => rw [List.length_cons, ih2, cellsL_cons]; simp only [AV.lsz]; omega
  | _ => rename_i ih; rw [List.length_cons, ih, cellsL_cons]; simp only [AV.lsz]; omega
theorem Reps.nil_inv {vs : List Value} (h : Reps C [] vs) : vs = [] := by cases h; rfl
theorem Reps.cons_inv {a : AV} {as : List AV} {vs : List Value} (h : Reps C (a :: as) vs) : ∃ us ws, vs = us ++ ws ∧ Reps C [a] us ∧ Reps C as ws := by
  cases h with
  | int a b h => exact ⟨[_], _, rfl, .int a b .nil, h⟩
  | bool h => exact ⟨[_], _, rfl, .bool .nil, h⟩
  | str a h => exact ⟨[_], _, rfl, .str a .nil, h⟩
  | nilp h => exact ⟨[_], _, rfl, .nilp .nil, h⟩
  | ptr a h => exact ⟨[_], _, rfl, .ptr a .nil, h⟩
  | nils h => exact ⟨[_], _, rfl, .nils .nil, h⟩
  | slc a h => exact ⟨[_], _, rfl, .slc a .nil, h⟩
  | nilm h => exact ⟨[_], _, rfl, .nilm .nil, h⟩
  | hdl a h => exact ⟨[_], _, rfl, .hdl a .nil, h⟩
  | vsl ws a b c d h => exact ⟨[_], _, rfl, .vsl ws a b c d .nil, h⟩
  | arr a b h => exact ⟨_, _, rfl, by have := Reps.arr a b Reps.nil; rwa [List.append_nil] at this, h⟩
  | fn h => exact ⟨[_], _, rfl, .fn .nil, h⟩
  | vptr ws a b c d h => exact ⟨[_], _, rfl, .vptr ws a b c d .nil, h⟩
theorem Reps.append {as bs : List AV} {us vs : List Value} (h : Reps C as us) (h2 : Reps C bs vs) : Reps C (as ++ bs) (us ++ vs) := by
  induction h with
  | nil => exact h2
  | int a b h ih => exact .int a b ih
  | bool h ih => exact .bool ih
  | str a h ih => exact .str a ih
  | nilp h ih => exact .nilp ih
  | ptr a h ih => exact .ptr a ih
  | nils h ih => exact .nils ih
  | slc a h ih => exact .slc a ih
  | nilm h ih => exact .nilm ih
  | hdl a h ih => exact .hdl a ih
  | vsl ws a b c d h ih1 ih2 => exact .vsl ws a b c d ih2
  | arr a b h ih1 ih2 => rw [List.append_assoc]; exact .arr a b ih2
  | fn h ih => exact .fn ih
  | vptr ws a b c d h ih1 ih2 => exact .vptr ws a b c d ih2
theorem Reps.append_inv {as bs : List AV} {vs : List Value} (h : Reps C (as ++ bs) vs) : ∃ us ws, vs = us ++ ws ∧ Reps C as us ∧ Reps C bs ws := by
  induction as generalizing vs with
  | nil => exact ⟨[], vs, rfl, .nil, h⟩
  | cons a as ih =>
    obtain ⟨u1, w1, rfl, h1, h2⟩ := Reps.cons_inv h
    obtain ⟨u2, w2, rfl, h3, h4⟩ := ih h2
    exact ⟨u1 ++ u2, w2, by rw [List.append_assoc], Reps.append h1 h3, h4⟩
/-- What stays as memory goes on. -/
structure Cx.Le (C C' : Cx) : Prop where
  φ : ∀ id, id < C.n → C'.φ id = C.φ id
  n : C.n ≤ C'.n
  mt : ∀ b, b < C.w.heap.size → ¬ C.mt b → ¬ C'.mt b
  size : C.w.heap.size ≤ C'.w.heap.size
  blk : ∀ b, b < C.w.heap.size → ¬ C.wr b → C'.w.heap[b]? = C.w.heap[b]?
  wr : ∀ b, b < C.w.heap.size → ¬ C.wr b → ¬ C'.wr b
theorem Cx.Le.refl (C : Cx) : C.Le C := ⟨fun _ _ => rfl, Nat.le_refl _, fun _ _ h => h, Nat.le_refl _, fun _ _ _ => rfl, fun _ _ h => h⟩
theorem Cx.Le.trans {C1 C2 C3 : Cx} (h : C1.Le C2) (g : C2.Le C3) : C1.Le C3 :=
  ⟨fun id hi => (g.φ id (Nat.lt_of_lt_of_le hi h.n)).trans (h.φ id hi), Nat.le_trans h.n g.n, fun b hb hm => g.mt b (Nat.lt_of_lt_of_le hb h.size) (h.mt b hb hm), Nat.le_trans h.size g.size,
    fun b hb hm => (g.blk b (Nat.lt_of_lt_of_le hb h.size) (h.wr b hb hm)).trans (h.blk b hb hm), fun b hb hm => g.wr b (Nat.lt_of_lt_of_le hb h.size) (h.wr b hb hm)⟩
theorem Reps.mono {as : List AV} {vs : List Value} (hle : C.Le C') (h : Reps C as vs) : Reps C' as vs := by
  induction h with
  | nil => exact .nil
  | int a b h ih => exact .int a b ih
  | bool h ih => exact .bool ih
  | str a h ih => exact .str a ih
  | nilp h ih => exact .nilp ih
  | ptr a h ih => rw [← hle.φ _ a]; exact .ptr (Nat.lt_of_lt_of_le a hle.n) ih
  | nils h ih => exact .nils ih
  | slc a h ih => rw [← hle.φ _ a]; exact .slc (Nat.lt_of_lt_of_le a hle.n) ih
  | nilm h ih => exact .nilm ih
  | hdl a h ih => rw [← hle.φ _ a]; exact .hdl (Nat.lt_of_lt_of_le a hle.n) ih
  | vsl ws a b c d h ih1 ih2 =>
    refine .vsl ws a b (fun h0 => ?_) ih1 ih2
    obtain ⟨bb, off, hA, hm, hlt, hc⟩ := c h0
    exact ⟨bb, off, hA, hle.mt _ hlt hm, Nat.lt_of_lt_of_le hlt hle.size, fun i hi j v hv => (World.cell?_of_block (w := C.w) (a := ⟨bb, _, none⟩) (hle.blk bb hlt (fun h => hm (C.sub _ h)))).trans (hc i hi j v hv)⟩
  | arr a b h ih1 ih2 => exact .arr ih1 b ih2
  | fn h ih => exact .fn ih
  | vptr ws a b c d h ih1 ih2 => exact .vptr ws ih1 (hle.mt _ c b) (Nat.lt_of_lt_of_le c hle.size) (fun j v hv => (World.cell?_of_block (w := C.w) (a := ⟨_, _, none⟩) (hle.blk _ c (fun h => b (C.sub _ h)))).trans (d j v hv)) ih2
end
/-! ### parts of a list of cells -/
def dropC : List AV → Nat → Option (List AV)
  | as, 0 => some as
  | [], _ + 1 => none
  | a :: as, n + 1 => bif Nat.ble a.lsz (n + 1) then dropC as (n + 1 - a.lsz) else none
def takeC : List AV → Nat → Option (List AV)
  | _, 0 => some []
  | [], _ + 1 => none
  | a :: as, n + 1 => bif Nat.ble a.lsz (n + 1) then (match takeC as (n + 1 - a.lsz) with | some bs => some (a :: bs) | none => none) else none
theorem dropC_spec {C : Cx} : ∀ (as : List AV) (n : Nat) (bs : List AV) (vs : List Value), dropC as n = some bs → Reps C as vs → Reps C bs (vs.drop n)
  | as, 0, bs, vs, h, hr => by
    cases as <;> (simp [dropC] at h; subst h; simpa using hr)
  | [], n + 1, bs, vs, h, hr => by simp [dropC] at h
  | a :: as, n + 1, bs, vs, h, hr => by
    rw [dropC] at h
    cases hb : Nat.ble a.lsz (n + 1) with
    | false => rw [hb] at h; cases h
    | true =>
      rw [hb] at h
      obtain ⟨us, ws, rfl, h1, h2⟩ := hr.cons_inv
      have hl := h1.length
      rw [cellsL_one] at hl
      have := dropC_spec as (n + 1 - a.lsz) bs ws h h2
      have hle := Nat.le_of_ble_eq_true hb
      rw [List.drop_append, List.drop_of_length_le (by omega), List.nil_append, hl]
      exact this
theorem takeC_spec {C : Cx} : ∀ (as : List AV) (n : Nat) (bs : List AV) (vs : List Value), takeC as n = some bs → Reps C as vs → Reps C bs (vs.take n) ∧ cellsL bs = n ∧ n ≤ vs.length
  | as, 0, bs, vs, h, hr => by
    cases as <;> (simp [takeC] at h; subst h; exact ⟨by simpa using Reps.nil, rfl, Nat.zero_le _⟩)
  | [], n + 1, bs, vs, h, hr => by simp [takeC] at h
  | a :: as, n + 1, bs, vs, h, hr => by
    rw [takeC] at h
    cases hb : Nat.ble a.lsz (n + 1) with
    | false => rw [hb] at h; cases h
    | true =>
      rw [hb] at h
      simp only [cond_true] at h
      cases ht : takeC as (n + 1 - a.lsz) with
      | none => rw [ht] at h; cases h
      | some cs =>
        rw [ht] at h
        simp only [Option.some.injEq] at h
        subst h
        obtain ⟨us, ws, rfl, h1, h2⟩ := hr.cons_inv
        have hl := h1.length
        rw [cellsL_one] at hl
        obtain ⟨h3, h4, h5⟩ := takeC_spec as _ cs ws ht h2
        have hle := Nat.le_of_ble_eq_true hb
        refine ⟨?_, by rw [cellsL_cons, h4]; omega, by rw [List.length_append]; omega⟩
        rw [List.take_append, List.take_of_length_le (by omega), hl]
        exact Reps.append h1 h3
/-- A list with others in the place of some. -/
def spl {α : Type} (l : List α) (o : Nat) (ws : List α) : List α := l.take o ++ ws ++ l.drop (o + ws.length)
theorem spl_get {α : Type} (l : List α) (o : Nat) (ws : List α) (h : o + ws.length ≤ l.length) (j : Nat) : (spl l o ws)[j]? = if j < o then l[j]? else if j < o + ws.length then ws[j - o]? else l[j]? := by
  unfold spl
  by_cases h1 : j < o
  · rw [if_pos h1, List.append_assoc, List.getElem?_append_left (by rw [List.length_take]; omega), List.getElem?_take, if_pos h1]
  · rw [if_neg h1, List.append_assoc, List.getElem?_append_right (by rw [List.length_take]; omega), List.length_take, Nat.min_eq_left (by omega)]
    by_cases h2 : j < o + ws.length
    · rw [if_pos h2, List.getElem?_append_left (by omega)]
    · rw [if_neg h2, List.getElem?_append_right (by omega), List.getElem?_drop]
      congr 1
      omega
theorem spl_length {α : Type} (l : List α) (o : Nat) (ws : List α) (h : o + ws.length ≤ l.length) : (spl l o ws).length = l.length := by
  unfold spl
  simp only [List.length_append, List.length_take, List.length_drop]
  omega
theorem spl_take {α : Type} (l : List α) (o n : Nat) (ws : List α) (h : o + ws.length ≤ n) (hn : n ≤ l.length) : (spl l o ws).take n = spl (l.take n) o ws := by
  apply List.ext_getElem?
  intro j
  rw [spl_get _ _ _ (by rw [List.length_take]; omega), List.getElem?_take, spl_get _ _ _ (by omega), List.getElem?_take]
  by_cases h1 : j < n
  · simp only [if_pos h1]
  · rw [if_neg h1, if_neg (by omega), if_neg (by omega), if_neg h1]
theorem spl_nest {α : Type} (l : List α) (a s b : Nat) (ws : List α) (h : b + ws.length ≤ s) (hn : a + s ≤ l.length) : spl l a (spl ((l.drop a).take s) b ws) = spl l (a + b) ws := by
  have hl : (spl ((l.drop a).take s) b ws).length = s := by rw [spl_length _ _ _ (by rw [List.length_take, List.length_drop]; omega), List.length_take, List.length_drop]; omega
  apply List.ext_getElem?
  intro j
  rw [spl_get l a _ (by omega), spl_get l (a + b) ws (by omega), hl]
  by_cases h1 : j < a
  · rw [if_pos h1, if_pos (by omega)]
  · rw [if_neg h1]
    by_cases h2 : j < a + s
    · rw [if_pos h2, spl_get ((l.drop a).take s) b ws (by rw [List.length_take, List.length_drop]; omega)]
      by_cases h3 : j < a + b
      · rw [if_pos (by omega), if_pos h3, List.getElem?_take, if_pos (by omega), List.getElem?_drop]
        congr 1
        omega
      · rw [if_neg (by omega), if_neg h3]
        by_cases h4 : j < a + b + ws.length
        · rw [if_pos (by omega), if_pos h4]
          congr 1
          omega
        · rw [if_neg (by omega), if_neg h4, List.getElem?_take, if_pos (by omega), List.getElem?_drop]
          congr 1
          omega
    · rw [if_neg h2, if_neg (by omega), if_neg (by omega)]
/-- The cells with others in the place of some. -/
def putC (as : List AV) (k : Nat) (bs : List AV) : Option (List AV) :=
  match takeC as k, dropC as (k + cellsL bs) with
  | some x, some y => some (x ++ (bs ++ y))
  | _, _ => none
theorem putC_spec {C : Cx} {as : List AV} {k : Nat} {bs cs : List AV} {vs us : List Value} (h : putC as k bs = some cs) (h1 : Reps C as vs) (h2 : Reps C bs us) : Reps C cs (spl vs k us) ∧ k + us.length ≤ vs.length ∧ cellsL cs = cellsL as := by
  unfold putC at h
  cases hx : takeC as k with
  | none => rw [hx] at h; cases h
  | some x =>
    rw [hx] at h
    cases hy : dropC as (k + cellsL bs) with
    | none => rw [hy] at h; cases h
    | some y =>
      rw [hy] at h
      simp only [Option.some.injEq] at h
      subst h
      obtain ⟨h3, h4, h5⟩ := takeC_spec as k x vs hx h1
      have h6 := dropC_spec as _ y vs hy h1
      unfold spl
      rw [h2.length]
      have h7 := h1.length
      have h8 := h6.length
      have hle : k + cellsL bs ≤ vs.length := by
        rw [h7]
        clear h8 h6 h3 h2 hx h1 h7
        exact dropC_le as _ y hy
      refine ⟨by rw [List.append_assoc]; exact Reps.append h3 (Reps.append h2 h6), hle, ?_⟩
      rw [cellsL_append, cellsL_append, h4, ← h8, ← h7, List.length_drop]
      omega
where
  dropC_le : ∀ (as : List AV) (n : Nat) (bs : List AV), dropC as n = some bs → n ≤ cellsL as
    | as, 0, bs, h => Nat.zero_le _
    | [], n + 1, bs, h => by simp [dropC] at h
    | a :: as, n + 1, bs, h => by
      rw [dropC] at h
      cases hb : Nat.ble a.lsz (n + 1) with
      | false => rw [hb] at h; cases h
      | true =>
        rw [hb] at h
        have := dropC_le as _ bs h
        have hle := Nat.le_of_ble_eq_true hb
        rw [cellsL_cons]
        omega
/-! ### an element from its cells -/
theorem asSl_spec {C : Cx} {t : Ty} {a : AV} {xs : List t.den} {vs : List Value} (h : asSl t a = some xs) (hr : Reps C [a] vs) : Reps C [.vsl t xs] vs := by
  cases a <;> simp only [asSl, reduceCtorEq] at h
  · injection h with h
    subst h
    cases hr with
    | nils h2 => exact .vsl (t := t) (xs := []) (fun _ => []) (Nat.le_refl _) ⟨Nat.zero_le _, fun _ => rfl⟩ (fun h => absurd h (by simp)) (fun i x hx => by simp at hx) h2
  · split at h
    · rename_i t' xs' e
      cases e
      injection h with h
      subst h
      exact hr
    · cases h
theorem asArr_spec {C : Cx} {n : Nat} {t : Ty} {a : AV} {xs : List t.den} {vs : List Value} (h : asArr n t a = some xs) (hr : Reps C [a] vs) : Reps C [.arr n t xs] vs := by
  cases a <;> simp only [asArr, reduceCtorEq] at h
  split at h
  · rename_i m t' xs' e
    cases e
    split at h
    · rename_i e2
      subst e2
      injection h with h
      subst h
      exact hr
    · cases h
  · cases h
theorem Reps.sub {C : Cx} {a b : AV} {as bs : List AV} {vs : List Value} (h : ∀ us, Reps C [a] us → Reps C [b] us) (hr : Reps C (as ++ a :: bs) vs) : Reps C (as ++ b :: bs) vs := by
  obtain ⟨u1, w1, rfl, h1, h2⟩ := Reps.append_inv hr
  obtain ⟨u2, w2, rfl, h3, h4⟩ := Reps.cons_inv h2
  exact Reps.append h1 (Reps.append (h _ h3) h4)
theorem dec_spec {C : Cx} {t : Ty} {as : List AV} {x : t.den} {vs : List Value} (h : dec t as = some x) (hr : Reps C as vs) : Reps C (enc t x) vs := by
  unfold dec at h
  split at h
  all_goals first | (cases h; exact hr) | (cases h; done) | exact asSl_spec h hr | skip
  · obtain ⟨k, hk, h⟩ := Option.bind_eq_some_iff.1 h
    obtain ⟨q, hq, h⟩ := Option.bind_eq_some_iff.1 h
    cases h
    exact Reps.sub (as := [_, _, _, _, _, _]) (bs := [_]) (fun us h => asArr_spec hk h) (Reps.sub (as := [_, _, _, _, _, _, _]) (bs := []) (fun us h => asSl_spec hq h) hr)
  · obtain ⟨k, hk, h⟩ := Option.bind_eq_some_iff.1 h
    obtain ⟨q, hq, h⟩ := Option.bind_eq_some_iff.1 h
    cases h
    exact Reps.sub (as := []) (bs := [_, _, _]) (fun us h => asSl_spec hk h) (Reps.sub (as := [_, _, _]) (bs := []) (fun us h => asSl_spec hq h) hr)
end Go.Proofs.Ytpjdicndjakeoaa
