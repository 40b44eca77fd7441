/- The engine: contracts, and calls that write nothing. No condition. -/
import Derived.Test.YtpjdicndjakeoaaE15
namespace Go.Proofs.Ytpjdicndjakeoaa
open Go.RowKit
set_option linter.unusedVariables false
set_option linter.unusedSimpArgs false
/-- What a function comes to: for each datum its arguments, the memory that it is lent, what must hold, the result, the memory then. -/
structure Con where
  X : Type
  args : X → List AV
  heap : X → Heap
  pre : X → Prop
  res : X → AV
  heap' : X → Heap
  pure : Bool
  find : List AV → Heap → Option X
structure Con.Ok (P : Program) (f : FuncId) (c : Con) : Prop where
  enter : ∀ args w, (callFunc f args).run P w = .ok (.enter f args) w
  lt : ∀ x id k, (c.heap x).get id = some k → id < (c.heap x).n
  pure : c.pure = true → ∀ x, c.heap' x = c.heap x ∧ ∀ id k, (c.heap x).get id = some k → k.ro = true
  calls : ∀ x, c.pre x → ∀ F φ w (vs : List Value), Rel F φ (c.heap x) w → RVs (cx F φ (c.heap x) w) (c.args x) vs →
    Calls P f vs.toArray w fun e w' => ∃ v, e = .returned v ∧ Post F φ (c.heap x) w ⟨True, True, c.res x, c.heap' x⟩ v w'
/-! ### values under other numbers -/
def ren1 (ρ : List Nat) : AV → AV
  | .ptr id p => match ρ[id]? with
    | some j => .ptr j p
    | none => .undef
  | .slc id => match ρ[id]? with
    | some j => .slc j
    | none => .undef
  | .hdl k id => match ρ[id]? with
    | some j => .hdl k j
    | none => .undef
  | a => a
def renA (ρ : List Nat) : AV → AV
  | .agg cs => .agg (cs.map (ren1 ρ))
  | a => ren1 ρ a
def renV (ρ : List Nat) : AV → AV
  | .tup l => .tup (l.map (renA ρ))
  | a => renA ρ a
theorem ren_enc (ρ : List Nat) (t : Ty) (x : t.den) : (enc t x).map (ren1 ρ) = enc t x := by cases t <;> rfl
theorem ren_flat (ρ : List Nat) (t : Ty) (xs : List t.den) : (xs.flatMap (enc t)).map (ren1 ρ) = xs.flatMap (enc t) := by
  induction xs with
  | nil => rfl
  | cons x xs ih => rw [List.flatMap_cons, List.map_append, ren_enc, ih]
theorem Reps.ren {C C' : Cx} {ρ : List Nat} (hn : C.n ≤ ρ.length) (hφ : ∀ id j, id < C.n → ρ[id]? = some j → C'.φ j = C.φ id ∧ j < C'.n) (hm : ∀ b, b < C.w.heap.size → ¬ C.mt b → ¬ C'.mt b) (hw : C'.w = C.w) {as : List AV} {vs : List Value} (h : Reps C as vs) : Reps C' (as.map (ren1 ρ)) vs := by
  induction h with
  | nil => exact .nil
  | int a b h ih => exact .int a b ih
  | bool h ih => exact .bool ih
  | str a h ih => exact .str a ih
  | nilp h ih => exact .nilp ih
  | @ptr id p as vs a h ih =>
    have hj : ρ[id]? = some ρ[id] := List.getElem?_eq_getElem (by omega)
    obtain ⟨h1, h2⟩ := hφ id _ a hj
    rw [← h1]
    simp only [List.map_cons, ren1, hj]
    exact .ptr h2 ih
  | nils h ih => exact .nils ih
  | @slc id as vs a h ih =>
    have hj : ρ[id]? = some ρ[id] := List.getElem?_eq_getElem (by omega)
    obtain ⟨h1, h2⟩ := hφ id _ a hj
    rw [← h1]
    simp only [List.map_cons, ren1, hj]
    exact .slc h2 ih
  | nilm h ih => exact .nilm ih
  | @hdl k id as vs a h ih =>
    have hj : ρ[id]? = some ρ[id] := List.getElem?_eq_getElem (by omega)
    obtain ⟨h1, h2⟩ := hφ id _ a hj
    rw [← h1]
    simp only [List.map_cons, ren1, hj]
    exact .hdl h2 ih
  | vsl ws a b c d h ih1 ih2 =>
    refine .vsl ws a b (fun h0 => ?_) (fun i x hx => by have := ih1 i x hx; rwa [ren_enc] at this) ih2
    obtain ⟨bb, off, hA, hmm, hlt, hc⟩ := c h0
    exact ⟨bb, off, hA, hm _ hlt hmm, by rw [hw]; exact hlt, by rw [hw]; exact hc⟩
  | arr a b h ih1 ih2 =>
    rw [ren_flat] at ih1
    exact .arr ih1 b ih2
  | fn h ih => exact .fn ih
  | vptr ws a b c d h ih1 ih2 =>
    rw [ren_enc] at ih1
    exact .vptr ws ih1 (hm _ c b) (by rw [hw]; exact c) (by rw [hw]; exact d) ih2
section
variable {C C' : Cx} {ρ : List Nat}
theorem RV1.ren (hn : C.n ≤ ρ.length) (hφ : ∀ id j, id < C.n → ρ[id]? = some j → C'.φ j = C.φ id ∧ j < C'.n) (hm : ∀ b, b < C.w.heap.size → ¬ C.mt b → ¬ C'.mt b) (hw : C'.w = C.w) {a : AV} {v : Value} (h : RV1 C a v) : RV1 C' (renA ρ a) v := by
  cases a with
  | undef => trivial
  | agg cs =>
    obtain ⟨vs, e, hr⟩ := h
    exact ⟨vs, e, hr.ren hn hφ hm hw⟩
  | tup l => exact h.elim
  | ptr id p =>
    have h' : Reps C [.ptr id p] [v] := h
    have h2 := h'.ren hn hφ hm hw
    simp only [List.map_cons, List.map_nil, renA, ren1] at h2 ⊢
    split at h2
    · exact h2
    · trivial
  | slc id =>
    have h' : Reps C [.slc id] [v] := h
    have h2 := h'.ren hn hφ hm hw
    simp only [List.map_cons, List.map_nil, renA, ren1] at h2 ⊢
    split at h2
    · exact h2
    · trivial
  | hdl k id =>
    have h' : Reps C [.hdl k id] [v] := h
    have h2 := h'.ren hn hφ hm hw
    simp only [List.map_cons, List.map_nil, renA, ren1] at h2 ⊢
    split at h2
    · exact h2
    · trivial
  | _ => exact Reps.ren hn hφ hm hw h
theorem RVs.ren (hn : C.n ≤ ρ.length) (hφ : ∀ id j, id < C.n → ρ[id]? = some j → C'.φ j = C.φ id ∧ j < C'.n) (hm : ∀ b, b < C.w.heap.size → ¬ C.mt b → ¬ C'.mt b) (hw : C'.w = C.w) : ∀ {as : List AV} {vs : List Value}, RVs C as vs → RVs C' (as.map (renA ρ)) vs
  | [], [], _ => trivial
  | a :: as, v :: vs, h => ⟨h.1.ren hn hφ hm hw, RVs.ren hn hφ hm hw h.2⟩
  | [], _ :: _, h => h.elim
  | _ :: _, [], h => h.elim
theorem RV.ren (hn : C.n ≤ ρ.length) (hφ : ∀ id j, id < C.n → ρ[id]? = some j → C'.φ j = C.φ id ∧ j < C'.n) (hm : ∀ b, b < C.w.heap.size → ¬ C.mt b → ¬ C'.mt b) (hw : C'.w = C.w) {a : AV} {v : Value} (h : RV C a v) : RV C' (renV ρ a) v := by
  cases a with
  | tup l =>
    obtain ⟨vs, e, hr⟩ := h
    exact ⟨vs, e, hr.ren hn hφ hm hw⟩
  | _ =>
    simp only [RV] at h
    exact rv_of_rv1 (RV1.ren hn hφ hm hw h)
end
/-! ### which numbers are meant -/
universe u
def fN {α : Sort u} (n : Nat) (K : Nat → α) : α :=
  Nat.casesOn n (K 0) fun n => Nat.casesOn n (K 1) fun n => Nat.casesOn n (K 2) fun n => Nat.casesOn n (K 3) fun n => Nat.casesOn n (K 4) fun n => Nat.casesOn n (K 5) fun n => Nat.casesOn n (K 6) fun n => Nat.casesOn n (K 7) fun n => 
  Nat.casesOn n (K 8) fun n => Nat.casesOn n (K 9) fun n => Nat.casesOn n (K 10) fun n => Nat.casesOn n (K 11) fun n => Nat.casesOn n (K 12) fun n => Nat.casesOn n (K 13) fun n => Nat.casesOn n (K 14) fun n => Nat.casesOn n (K 15) fun n => 
  Nat.casesOn n (K 16) fun n => Nat.casesOn n (K 17) fun n => Nat.casesOn n (K 18) fun n => Nat.casesOn n (K 19) fun n => Nat.casesOn n (K 20) fun n => Nat.casesOn n (K 21) fun n => Nat.casesOn n (K 22) fun n => Nat.casesOn n (K 23) fun n => 
  K (n + 24)
theorem fN_eq {α : Sort u} (n : Nat) (K : Nat → α) : fN n K = K n := by
  iterate 24 (cases n with
    | zero => rfl
    | succ n => ?_)
  rfl
def fQ {α : Sort u} : List (Nat × Nat) → List (Nat × Nat) → (List (Nat × Nat) → α) → α
  | [], q, K => K q
  | (i, j) :: r, q, K => fN i fun i => fN j fun j => fQ r ((i, j) :: q) K
def fI {α : Sort u} : List Nat → (List Nat → α) → α
  | [], K => K []
  | i :: r, K => fN i fun i => fI r fun r => K (i :: r)
theorem fI_eq {α : Sort u} : ∀ (l : List Nat) (K : List Nat → α), fI l K = K l
  | [], K => rfl
  | i :: r, K => by simp only [fI, fN_eq, fI_eq r]
def pairs1 : AV → AV → List (Nat × Nat)
  | .ptr id _, .ptr id' _ => [(id', id)]
  | .slc id, .slc id' => [(id', id)]
  | .hdl _ id, .hdl _ id' => [(id', id)]
  | _, _ => []
def pairsL : List AV → List AV → List (Nat × Nat)
  | a :: as, p :: ps => pairs1 a p ++ pairsL as ps
  | _, _ => []
def pairsA : AV → AV → List (Nat × Nat)
  | .agg cs, .agg ps => pairsL cs ps
  | a, p => pairs1 a p
def pairsAs : List AV → List AV → List (Nat × Nat)
  | a :: as, p :: ps => pairsA a p ++ pairsAs as ps
  | _, _ => []
def lookP : List (Nat × Nat) → Nat → Option Nat
  | [], _ => none
  | (i, a) :: r, k => bif Nat.beq i k then some a else lookP r k
/-- The numbers that follow from the objects, one behind the other; each is computed once. -/
def growK (H Hc : Heap) : Nat → Nat → List (Nat × Nat) → (List (Nat × Nat) → List Nat) → List Nat
  | 0, _, q, K => K q
  | f + 1, j, q, K => match lookP q j with
    | some id => match Hc.get j with
      | some (.obj _ ps) => match H.get id with
        | some (.obj _ cs) => fQ (pairsL cs ps) q fun q => growK H Hc f (j + 1) q K
        | _ => growK H Hc f (j + 1) q K
      | _ => growK H Hc f (j + 1) q K
    | none => growK H Hc f (j + 1) q K
def tabP (p : List (Nat × Nat)) : Nat → List Nat → List Nat
  | 0, l => l
  | j + 1, l => match lookP p j with
    | some id => tabP p j (id :: l)
    | none => tabP p j (0 :: l)
def idP : Nat → List (Nat × Nat)
  | 0 => []
  | n + 1 => (n, n) :: idP n
/-- The numbers, read off what is there. -/
def matchI (n0 : Nat) (p : List (Nat × Nat)) (H Hc : Heap) : List Nat := fQ (idP n0 ++ p) [] fun q => growK H Hc Hc.n 0 q fun q => tabP q Hc.n []
/-! ### what is there against what is asked for -/
def leA1 (ι : List Nat) : AV → AV → Prop
  | _, .undef => True
  | .int k n, .int k' n' => k = k' ∧ n = n'
  | .bool b, .bool b' => b = b'
  | .str s, .str s' => s = s'
  | .nilp, .nilp => True
  | .ptr id p, .ptr id' p' => ι[id']? = some id ∧ p = p'
  | .nils, .nils => True
  | .nils, .vsl t xs => xs = []
  | .slc id, .slc id' => ι[id']? = some id
  | .nilm, .nilm => True
  | .hdl k id, .hdl k' id' => ι[id']? = some id ∧ k = k'
  | .vsl t xs, .vsl t' xs' => t = t' ∧ xs ≍ xs'
  | .arr n t xs, .arr n' t' xs' => n = n' ∧ t = t' ∧ xs ≍ xs'
  | .fn f, .fn f' => f = f'
  | _, _ => False
def AV.isU : AV → Bool
  | .undef => true
  | _ => false
def leL (ι : List Nat) : List AV → List AV → Prop
  | [], [] => True
  | a :: as, p :: ps => (p.isU = false ∧ leA1 ι a p) ∧ leL ι as ps
  | _, _ => False
def leA (ι : List Nat) : AV → AV → Prop
  | .agg cs, .agg ps => leL ι cs ps
  | a, p => leA1 ι a p
def leAs (ι : List Nat) : List AV → List AV → Prop
  | [], [] => True
  | a :: as, p :: ps => leA ι a p ∧ leAs ι as ps
  | _, _ => False
def leB (ι : List Nat) : Blk → Blk → Prop
  | .obj ro cs, .obj ro' cs' => (ro' || !ro) = true ∧ leL ι cs cs'
  | .seq ro e t xs, .seq ro' e' t' xs' => (ro' || !ro) = true ∧ e = e' ∧ t = t' ∧ xs ≍ xs'
  | .map ro t es, .map ro' t' es' => (ro' || !ro) = true ∧ t = t' ∧ es ≍ es'
  | _, _ => False
def leHn (ι : List Nat) (H Hc : Heap) : Nat → Prop
  | 0 => True
  | j + 1 => leHn ι H Hc j ∧ match Hc.get j with
    | none => True
    | some pb => match ι[j]? with
      | some id => match H.get id with
        | some b => leB ι b pb
        | none => False
      | none => False
def memB (a : Nat) : List Nat → Bool
  | [] => false
  | b :: l => Nat.beq a b || memB a l
def nodupB : List Nat → Bool
  | [] => true
  | a :: l => !memB a l && nodupB l
theorem memB_get {a : Nat} : ∀ {l : List Nat} {j : Nat}, l[j]? = some a → memB a l = true
  | b :: l, 0, h => by simp at h; simp [memB, h, Nat.beq_refl]
  | b :: l, j + 1, h => by simp [memB, memB_get (l := l) (j := j) (by simpa using h)]
theorem nodupB_inj : ∀ {l : List Nat} {j j' a : Nat}, nodupB l = true → l[j]? = some a → l[j']? = some a → j = j'
  | b :: l, 0, 0, a, _, _, _ => rfl
  | b :: l, 0, j' + 1, a, h, h1, h2 => by
    simp only [nodupB, Bool.and_eq_true, Bool.not_eq_true'] at h
    simp at h1 h2
    subst h1
    have := memB_get h2
    rw [h.1] at this
    cases this
  | b :: l, j + 1, 0, a, h, h1, h2 => by
    simp only [nodupB, Bool.and_eq_true, Bool.not_eq_true'] at h
    simp at h1 h2
    subst h2
    have := memB_get h1
    rw [h.1] at this
    cases this
  | b :: l, j + 1, j' + 1, a, h, h1, h2 => by
    simp only [nodupB, Bool.and_eq_true] at h
    have := nodupB_inj (j := j) (j' := j') (a := a) h.2 (by simpa using h1) (by simpa using h2)
    omega
theorem leHn_get {ι : List Nat} {H Hc : Heap} : ∀ {n : Nat}, leHn ι H Hc n → ∀ j pb, j < n → Hc.get j = some pb → ∃ id b, ι[j]? = some id ∧ H.get id = some b ∧ leB ι b pb
  | n + 1, h, j, pb, hj, hg => by
    by_cases e : j = n
    · subst e
      have := h.2
      rw [hg] at this
      simp only at this
      split at this
      · rename_i id hid
        split at this
        · rename_i b hb
          exact ⟨id, b, hid, hb, this⟩
        · exact this.elim
      · exact this.elim
    · exact leHn_get h.1 j pb (by omega) hg
section
variable {C C' : Cx} {ι : List Nat}
/-- The places under the numbers of a contract. -/
structure Sub (ι : List Nat) (C C' : Cx) : Prop where
  φ : ∀ id' id, ι[id']? = some id → id' < C'.n ∧ C'.φ id' = C.φ id
  mt : ∀ b, b < C.w.heap.size → ¬ C.mt b → ¬ C'.mt b
  w : C'.w = C.w
theorem Reps.typed (hm : ∀ b, b < C.w.heap.size → ¬ C.mt b → ¬ C'.mt b) (hw : C'.w = C.w) {as : List AV} {vs : List Value} (h : Reps C as vs) (ht : ∀ a ∈ as, (match a with | .ptr _ _ => false | .slc _ => false | .hdl _ _ => false | _ => true) = true) : Reps C' as vs := by
  have henc : ∀ (t : Ty) (x : t.den), ∀ a ∈ enc t x, (match a with | .ptr _ _ => false | .slc _ => false | .hdl _ _ => false | _ => true) = true := fun t x a ha => by
    cases t <;> simp only [enc, List.mem_cons, List.not_mem_nil, or_false] at ha <;> (repeat' (rcases ha with rfl | ha)) <;> first | rfl | (subst ha; rfl)
  induction h with
  | nil => exact .nil
  | int a b h ih => exact .int a b (ih fun a ha => ht a (by simp [ha]))
  | bool h ih => exact .bool (ih fun a ha => ht a (by simp [ha]))
  | str a h ih => exact .str a (ih fun a ha => ht a (by simp [ha]))
  | nilp h ih => exact .nilp (ih fun a ha => ht a (by simp [ha]))
  | ptr a h ih => exact absurd (ht _ (List.mem_cons_self ..)) (by simp)
  | nils h ih => exact .nils (ih fun a ha => ht a (by simp [ha]))
  | slc a h ih => exact absurd (ht _ (List.mem_cons_self ..)) (by simp)
  | nilm h ih => exact .nilm (ih fun a ha => ht a (by simp [ha]))
  | hdl a h ih => exact absurd (ht _ (List.mem_cons_self ..)) (by simp)
  | vsl ws a b c d h ih1 ih2 =>
    refine .vsl ws a b (fun h0 => ?_) (fun i x hx => ih1 i x hx (henc _ x)) (ih2 fun a ha => ht a (by simp [ha]))
    obtain ⟨bb, off, hA, hmm, hlt, hc⟩ := c h0
    exact ⟨bb, off, hA, hm _ hlt hmm, by rw [hw]; exact hlt, by rw [hw]; exact hc⟩
  | arr a b h ih1 ih2 =>
    refine .arr (ih1 fun a ha => ?_) b (ih2 fun a ha => ht a (by simp [ha]))
    obtain ⟨x, -, hx⟩ := List.mem_flatMap.1 ha
    exact henc _ x a hx
  | fn h ih => exact .fn (ih fun a ha => ht a (by simp [ha]))
  | vptr ws a b c d h ih1 ih2 => exact .vptr ws (ih1 (henc _ _)) (hm _ c b) (by rw [hw]; exact c) (by rw [hw]; exact d) (ih2 fun a ha => ht a (by simp [ha]))
theorem leA1_ok (hS : Sub ι C C') {a p : AV} {vs : List Value} (hp : p ≠ .undef) (h : leA1 ι a p) (hr : Reps C [a] vs) : Reps C' [p] vs := by
  cases p
  case undef => exact absurd rfl hp
  all_goals cases a <;> simp only [leA1] at h
  case int.int => obtain ⟨rfl, rfl⟩ := h; exact hr.typed hS.mt hS.w (by simp)
  case bool.bool => subst h; exact hr.typed hS.mt hS.w (by simp)
  case str.str => subst h; exact hr.typed hS.mt hS.w (by simp)
  case nilp.nilp => exact hr.typed hS.mt hS.w (by simp)
  case nils.nils => exact hr.typed hS.mt hS.w (by simp)
  case nilm.nilm => exact hr.typed hS.mt hS.w (by simp)
  case fn.fn => subst h; exact hr.typed hS.mt hS.w (by simp)
  case ptr.ptr =>
    obtain ⟨h1, rfl⟩ := h
    cases hr with
    | ptr a hr =>
      have := hr.nil_inv
      subst this
      obtain ⟨h2, h3⟩ := hS.φ _ _ h1
      rw [← h3]
      exact .ptr h2 .nil
  case slc.slc =>
    cases hr with
    | slc a hr =>
      have := hr.nil_inv
      subst this
      obtain ⟨h2, h3⟩ := hS.φ _ _ h
      rw [← h3]
      exact .slc h2 .nil
  case hdl.hdl =>
    obtain ⟨h1, rfl⟩ := h
    cases hr with
    | hdl a hr =>
      have := hr.nil_inv
      subst this
      obtain ⟨h2, h3⟩ := hS.φ _ _ h1
      rw [← h3]
      exact .hdl h2 .nil
  case vsl.nils =>
    subst h
    exact (asSl_spec (C := C) (by rfl) hr).typed hS.mt hS.w (by simp)
  case vsl.vsl =>
    obtain ⟨rfl, h⟩ := h
    have := eq_of_heq h
    subst this
    exact hr.typed hS.mt hS.w (by simp)
  case arr.arr =>
    obtain ⟨rfl, rfl, h⟩ := h
    have := eq_of_heq h
    subst this
    exact hr.typed hS.mt hS.w (by simp)
theorem leL_ok (hS : Sub ι C C') : ∀ {as ps : List AV} {vs : List Value}, leL ι as ps → Reps C as vs → Reps C' ps vs
  | [], [], vs, _, hr => by have := hr.nil_inv; subst this; exact .nil
  | a :: as, p :: ps, vs, h, hr => by
    obtain ⟨u1, u2, rfl, h1, h2⟩ := hr.cons_inv
    exact Reps.append (as := [p]) (leA1_ok hS (fun e => by rw [e] at h; exact absurd h.1.1 (by simp [AV.isU])) h.1.2 h1) (leL_ok hS h.2 h2)
  | [], _ :: _, _, h, _ => h.elim
  | _ :: _, [], _, h, _ => h.elim
theorem leA_ok (hS : Sub ι C C') {a p : AV} {v : Value} (h : leA ι a p) (hr : RV1 C a v) : RV1 C' p v := by
  by_cases hp : p = .undef
  · subst hp; trivial
  · cases a with
    | agg cs =>
      cases p with
      | agg ps =>
        obtain ⟨vs, e, hr⟩ := hr
        exact ⟨vs, e, leL_ok hS h hr⟩
      | undef => exact absurd rfl hp
      | _ => exact h.elim
    | undef => cases p <;> first | exact absurd rfl hp | exact h.elim
    | tup l => cases p <;> first | exact absurd rfl hp | exact h.elim
    | _ =>
      have h' : leA1 ι _ p := h
      have h2 := leA1_ok hS hp h' hr
      cases p <;> first | exact h2 | exact absurd rfl hp | exact h'.elim
theorem leAs_ok (hS : Sub ι C C') : ∀ {as ps : List AV} {vs : List Value}, leAs ι as ps → RVs C as vs → RVs C' ps vs
  | [], [], [], _, _ => trivial
  | [], [], _ :: _, _, hr => hr.elim
  | a :: as, p :: ps, [], h, hr => hr.elim
  | a :: as, p :: ps, v :: vs, h, hr => ⟨leA_ok hS h.1 hr.1, leAs_ok hS h.2 hr.2⟩
  | [], _ :: _, _, h, _ => h.elim
  | _ :: _, [], _, h, _ => h.elim
end
end Go.Proofs.Ytpjdicndjakeoaa
