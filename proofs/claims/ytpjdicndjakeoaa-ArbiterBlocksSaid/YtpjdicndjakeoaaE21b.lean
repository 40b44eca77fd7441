/- The engine: regions that draw their order, in which memory for a variable is made beside what is written. No condition. -/
import Derived.Test.YtpjdicndjakeoaaE21
namespace Go.Proofs.Ytpjdicndjakeoaa
open Go.RowKit
set_option linter.unusedVariables false
set_option linter.unusedSimpArgs false
/-- What stays, as far as values tell it. -/
structure Cx.Mo (C C' : Cx) : Prop where
  φ : ∀ id, id < C.n → C'.φ id = C.φ id
  n : C.n ≤ C'.n
  mt : ∀ b, b < C.w.heap.size → ¬ C.mt b → ¬ C'.mt b
  size : C.w.heap.size ≤ C'.w.heap.size
  blk : ∀ b, b < C.w.heap.size → ¬ C.mt b → C'.w.heap[b]? = C.w.heap[b]?
theorem Reps.mo {C C' : Cx} {as : List AV} {vs : List Value} (hle : C.Mo C') (h : Reps C as vs) : Reps C' as vs := by
  induction h with
  | nil => exact .nil
  | int a b h ih => exact .int a b ih
  | bool h ih => exact .bool ih
  | str a h ih => exact .str a ih
  | nilp h ih => exact .nilp ih
  | ptr a h ih => rw [← hle.φ _ a]; exact .ptr (Nat.lt_of_lt_of_le a hle.n) ih
  | nils h ih => exact .nils ih
  | slc a h ih => rw [← hle.φ _ a]; exact .slc (Nat.lt_of_lt_of_le a hle.n) ih
  | nilm h ih => exact .nilm ih
  | hdl a h ih => rw [← hle.φ _ a]; exact .hdl (Nat.lt_of_lt_of_le a hle.n) ih
  | vsl ws a b c d h ih1 ih2 =>
    refine .vsl ws a b (fun h0 => ?_) ih1 ih2
    obtain ⟨bb, off, hA, hm, hlt, hc⟩ := c h0
    exact ⟨bb, off, hA, hle.mt _ hlt hm, Nat.lt_of_lt_of_le hlt hle.size, fun i hi j v hv => (World.cell?_of_block (w := C.w) (a := ⟨bb, _, none⟩) (hle.blk bb hlt hm)).trans (hc i hi j v hv)⟩
  | arr a b h ih1 ih2 => exact .arr ih1 b ih2
  | fn h ih => exact .fn ih
  | vptr ws a b c d h ih1 ih2 => exact .vptr ws ih1 (hle.mt _ c b) (Nat.lt_of_lt_of_le c hle.size) (fun j v hv => (World.cell?_of_block (w := C.w) (a := ⟨_, _, none⟩) (hle.blk _ c b)).trans (d j v hv)) ih2
theorem RV1.mo {C C' : Cx} (hle : C.Mo C') {a : AV} {v : Value} (h : RV1 C a v) : RV1 C' a v := by
  cases a <;> simp only [RV1] at h ⊢ <;> first | trivial | exact h.mo hle | (obtain ⟨vs, e, hr⟩ := h; exact ⟨vs, e, hr.mo hle⟩)
theorem RVs.mo {C C' : Cx} (hle : C.Mo C') : ∀ {as : List AV} {vs : List Value}, RVs C as vs → RVs C' as vs
  | [], [], _ => trivial
  | a :: as, v :: vs, h => ⟨h.1.mo hle, RVs.mo hle h.2⟩
  | [], _ :: _, h => h.elim
  | _ :: _, [], h => h.elim
theorem RV.mo {C C' : Cx} (hle : C.Mo C') {a : AV} {v : Value} (h : RV C a v) : RV C' a v := by
  cases a with
  | tup l => obtain ⟨vs, e, hr⟩ := h; exact ⟨vs, e, hr.mo hle⟩
  | _ => simp only [RV] at h ⊢; exact RV1.mo hle h
theorem BRel.mo {C C' : Cx} {r : RS} {k : Blk} (hle : C.Mo C') (hw : C'.w = C.w) (h : BRel C r k) : BRel C' r k := by
  cases k with
  | obj ro cs =>
    obtain ⟨hn, vs, e, h1, h2⟩ := h
    exact ⟨hn, vs, e, by rw [hw]; exact h1, h2.mo hle⟩
  | seq ro e t xs =>
    obtain ⟨h1, h2, us, h3, h4⟩ := h
    exact ⟨h1, h2, us, h3.mo hle, by rw [hw]; exact h4⟩
  | map ro t es =>
    obtain ⟨hn, vs, h1, h2⟩ := h
    refine ⟨hn, vs, h1.imp fun e v h => ⟨h.key, h.wf, ?_⟩, by rw [hw]; exact h2⟩
    have h4 := h.val
    unfold RX at h4 ⊢
    by_cases ha : t.agg = true
    · rw [if_pos ha] at h4 ⊢
      obtain ⟨us, e1, h5⟩ := h4
      exact ⟨us, e1, h5.mo hle⟩
    · rw [if_neg ha] at h4 ⊢
      exact h4.mo hle
def addF (F : Nat → Prop) (b : Nat) : Nat → Prop := fun x => F x ∨ x = b
section
variable {P : Program} {E : Env} {F G : Nat → Prop} {φ φ' φ0 : Nat → RS} {H H' H0 : Heap} {w w' w0 x y : World} {N : Nat} {T : Tmps} {a : Act}
/-- What is foreign may be another one, as far as it was not there at first. -/
theorem ext_turn (hG : ∀ b, b < w.heap.size → (G b ↔ F b)) (hF : ∀ b, b < w.heap.size → (F b → G b)) (h : Ext F φ H w φ' H' w') : Ext G φ H w φ' H' w' := by
  refine ⟨⟨h.le.φ, h.le.n, fun b hb hm hm' => ?_, h.le.size, h.le.blk, h.le.wr⟩, h.ro, h.os, h.tape, h.output⟩
  have h1 : ¬ (Mut φ H b ∨ F b) := fun hh => hm (hh.elim .inl fun hh => .inr ((hG b hb).2 hh))
  have h2 : ¬ (Mut φ' H' b ∨ F b) := h.le.mt b hb h1
  exact h2 (hm'.elim .inl fun hh => .inr ((hG b hb).1 hh))
theorem below_ext (hb : Below w.heap.size w w') : Ext G φ H w φ H w' := ⟨below_le hb, fun _ _ h _ => h, hb.os, hb.tape, hb.output⟩
theorem cx_turn (hG : ∀ b, b < w.heap.size → (G b → F b)) : (cx F φ H w).Le (cx G φ H w) :=
  ⟨fun _ _ => rfl, Nat.le_refl _, fun b hb hm hm' => hm (hm'.elim .inl fun hh => .inr (hG b hb hh)), Nat.le_refl _, fun _ _ _ => rfl, fun _ _ h => h⟩
/-- A block is made, and nobody knows it yet. -/
theorem rel_enter (h : Rel F φ H x) (hb : Below x.heap.size x y) (hs : x.heap.size < y.heap.size) : Rel (addF F x.heap.size) φ H y ∧ (cx F φ H x).Le (cx (addF F x.heap.size) φ H y) := by
  have le : (cx F φ H x).Le (cx (addF F x.heap.size) φ H y) :=
    ⟨fun _ _ => rfl, Nat.le_refl _, fun b hbx hm hm' => hm (hm'.elim .inl fun hh => hh.elim .inr fun e => absurd e (Nat.ne_of_lt hbx)), hb.size, fun b hbx _ => hb.block b hbx, fun _ _ h => h⟩
  refine ⟨⟨h.lt, fun id k hg => (h.blk id k hg).mono le fun hn => hb.block _ ((h.blk id k hg).lt hn), h.inj, fun id k hg hn hf => ?_, fun b hf => ?_⟩, le⟩
  · rcases hf with hf | e
    · exact h.forb id k hg hn hf
    · have := (h.blk id k hg).lt hn
      have h2 : (φ id).blk < x.heap.size := this
      rw [e] at h2
      exact absurd h2 (Nat.lt_irrefl _)
  · rcases hf with hf | e
    · exact Nat.lt_of_lt_of_le (h.flt b hf) hb.size
    · rw [e]; exact hs
/-- It gets its number. -/
theorem rel_leave {b : Nat} (h : Rel (addF F b) φ H x) (hFb : ¬ F b) {cs : List AV} {vs : Array Value} {t : TypeId} (hblk : x.heap[b]? = some (.cells vs t (0, 0))) (hr : ∀ C, Reps C cs vs.toList) :
    Rel F (upd φ H.n ⟨b, 0, 0, false⟩) (H.new (.obj false cs)) x ∧ (cx (addF F b) φ H x).Mo (cx F (upd φ H.n ⟨b, 0, 0, false⟩) (H.new (.obj false cs)) x) ∧ (∀ b', b' ≠ b → Mut (upd φ H.n ⟨b, 0, 0, false⟩) (H.new (.obj false cs)) b' → Mut φ H b') ∧ (∀ b', b' ≠ b → Wr (upd φ H.n ⟨b, 0, 0, false⟩) (H.new (.obj false cs)) b' → Wr φ H b') := by
  have key : ∀ id k', (H.new (.obj false cs)).get id = some k' → (id = H.n ∧ k' = .obj false cs) ∨ (id ≠ H.n ∧ H.get id = some k') := fun id k' hg => by
    by_cases e : id = H.n
    · subst e
      rw [Heap.get_new_same] at hg
      injection hg with hg
      exact .inl ⟨rfl, hg.symm⟩
    · rw [Heap.get_new_ne _ _ e] at hg
      exact .inr ⟨e, hg⟩
  have hmut : ∀ b', b' ≠ b → Mut (upd φ H.n ⟨b, 0, 0, false⟩) (H.new (.obj false cs)) b' → Mut φ H b' := fun b' hb' ⟨id, k, hg, hn, he⟩ => by
    rcases key id k hg with ⟨rfl, -⟩ | ⟨hne, hg'⟩
    · rw [upd_same] at he
      exact absurd he.symm hb'
    · rw [upd_ne _ _ hne] at hn he
      exact ⟨id, k, hg', hn, he⟩
  have hwr : ∀ b', b' ≠ b → Wr (upd φ H.n ⟨b, 0, 0, false⟩) (H.new (.obj false cs)) b' → Wr φ H b' := fun b' hb' ⟨id, k, hg, hro, hn, he⟩ => by
    rcases key id k hg with ⟨rfl, -⟩ | ⟨hne, hg'⟩
    · rw [upd_same] at he
      exact absurd he.symm hb'
    · rw [upd_ne _ _ hne] at hn he
      exact ⟨id, k, hg', hro, hn, he⟩
  have mo : (cx (addF F b) φ H x).Mo (cx F (upd φ H.n ⟨b, 0, 0, false⟩) (H.new (.obj false cs)) x) := by
    refine ⟨fun id hi => upd_ne _ _ (Nat.ne_of_lt hi), Nat.le_succ _, fun b' hb' hm hm' => ?_, Nat.le_refl _, fun _ _ _ => rfl⟩
    have hne : b' ≠ b := fun e => hm (.inr (.inr e))
    exact hm (hm'.elim (fun hh => .inl (hmut b' hne hh)) fun hh => .inr (.inl hh))
  refine ⟨⟨fun id k hg => ?_, fun id k hg => ?_, fun id id' k k' hg hg' hn hn' he => ?_, fun id k hg hn => ?_, fun b' hf => h.flt b' (.inl hf)⟩, mo, hmut, hwr⟩
  · rcases key id k hg with ⟨rfl, -⟩ | ⟨-, hg⟩
    · exact Nat.lt_succ_self _
    · exact Nat.lt_succ_of_lt (h.lt _ _ hg)
  · rcases key id k hg with ⟨rfl, rfl⟩ | ⟨hne, hg'⟩
    · rw [upd_same]
      exact ⟨rfl, vs, t, hblk, hr _⟩
    · rw [upd_ne _ _ hne]
      exact (h.blk id k hg').mo mo rfl
  · rcases key id k hg with ⟨rfl, -⟩ | ⟨hne, h1⟩ <;> rcases key id' k' hg' with ⟨rfl, -⟩ | ⟨hne', h2⟩
    · rfl
    · rw [upd_same, upd_ne _ _ hne'] at he
      rw [upd_ne _ _ hne'] at hn'
      exact absurd (.inr he.symm) (h.forb id' k' h2 hn')
    · rw [upd_same, upd_ne _ _ hne] at he
      rw [upd_ne _ _ hne] at hn
      exact absurd (.inr he) (h.forb id k h1 hn)
    · rw [upd_ne _ _ hne] at hn he
      rw [upd_ne _ _ hne'] at hn' he
      exact h.inj id id' k k' h1 h2 hn hn' he
  · rcases key id k hg with ⟨rfl, -⟩ | ⟨hne, hg'⟩
    · rw [upd_same]; exact hFb
    · rw [upd_ne _ _ hne] at hn ⊢
      exact fun hf => h.forb id k hg' hn (.inl hf)
theorem ext_leave {b : Nat} (h : Ext (addF F b) φ0 H0 w0 φ H x) (hb : w0.heap.size ≤ b) (hlt : ∀ id k, H.get id = some k → id < H.n) {cs : List AV} (hmut : ∀ b', b' ≠ b → Mut (upd φ H.n ⟨b, 0, 0, false⟩) (H.new (.obj false cs)) b' → Mut φ H b') (hwr : ∀ b', b' ≠ b → Wr (upd φ H.n ⟨b, 0, 0, false⟩) (H.new (.obj false cs)) b' → Wr φ H b') :
    Ext F φ0 H0 w0 (upd φ H.n ⟨b, 0, 0, false⟩) (H.new (.obj false cs)) x := by
  have ne : ∀ b', b' < w0.heap.size → b' ≠ b := fun b' h e => by omega
  refine ⟨⟨fun id hi => (upd_ne _ _ (Nat.ne_of_lt (Nat.lt_of_lt_of_le hi h.le.n))).trans (h.le.φ id hi), Nat.le_trans h.le.n (Nat.le_succ _), fun b' hb' hm hm' => ?_, h.le.size, h.le.blk, fun b' hb' hm hm' => h.le.wr b' hb' hm (hwr b' (ne b' hb') hm')⟩, fun id k hg hro => ?_, h.os, h.tape, h.output⟩
  · have h1 : ¬ (Mut φ0 H0 b' ∨ addF F b b') := fun hh => hm (hh.elim .inl fun hh => hh.elim .inr fun e => absurd e (ne b' hb'))
    have h2 : ¬ (Mut φ H b' ∨ addF F b b') := h.le.mt b' hb' h1
    exact h2 (hm'.elim (fun hh => .inl (hmut b' (ne b' hb') hh)) fun hh => .inr (.inl hh))
  · have h1 := h.ro id k hg hro
    rw [Heap.get_new_ne _ _ (Nat.ne_of_lt (hlt id k h1))]
    exact h1
/-! ### the rule -/
def wrOkA (N : Nat) (ops : Array Oper) (m : Nat) (W : List Nat) (Z : List (Nat × Nat)) (q : Nat) : Bool :=
  ((List.range m).all fun i => match dstAt ops i with | none => true | some d => Nat.blt d N) &&
  ((List.range m).all fun e => !memN e W || Nat.beq e q || (List.range e).all fun f => !memN f W || reach ops 6 e f) &&
  ((List.range m).all fun i => memN i W || (List.range (cntW W m + 1)).all fun j => Nat.beq j (cntW W i) || !possB ops m W i j || memP i j Z) &&
  (memN q W && Nat.blt q m && ((List.range m).all fun i => !reach ops 6 i q || (List.range q).all fun f => !memN f W || reach ops 6 i f))
/-- What has been made is new, and zero. -/
def allocD (E : Env) (ops : List Oper) (T : Tmps) (Hs : List Heap) (c q : Nat) : Prop :=
  match ops[q]? with
  | some o => match o.guard with
    | none => match o.op with
      | .alloc t => match E.T t with
        | some i => match stAt Hs c with
          | some Hc => match stAt Hs (c + 1) with
            | some Hk => Hk = Hc.new (.obj false i.zero) ∧ valOf o T = .ptr Hc.n ⟨0, 0, 0, none⟩
            | none => False
          | none => False
        | none => False
      | _ => False
    | some _ => False
  | none => False
def drawA (E : Env) (N : Nat) (ops : List Oper) (m : Nat) (W : List Nat) (Z : List (Nat × Nat)) (q : Nat) (T : Tmps) (H : Heap) (K : Tmps → Heap → Prop) : Prop :=
  freeOk ops.toArray m = true ∧ wrOkA N ops.toArray m W Z q = true ∧ planD E N ops m W (ops.take m) 0 T H [] fun T' H' Hs => checkD E N ops m T' (H' :: Hs) Z ∧ allocD E ops T' (H' :: Hs) (cntW W q) q ∧ regD E N ops (ops.drop m) T' H' K
theorem cntW_inj {W : List Nat} {e q : Nat} (he : memN e W = true) (hq : memN q W = true) (h : cntW W e = cntW W q) : e = q := by
  rcases Nat.lt_trichotomy e q with h1 | h1 | h1
  · have := cntW_lt h1 he; omega
  · exact h1
  · have := cntW_lt h1 hq; omega
theorem reach_dep {ops : Array Oper} {i k : Nat} {o : Oper} (ho : ops[i]? = some o) (h : k ∈ depsOf o) : reach ops 6 i k = true := by
  rw [reach, Bool.or_eq_true]
  left
  rw [Array.getD_eq_getD_getElem?, ho]
  exact List.contains_iff_mem.2 h
theorem alloc_run (hE : E.Ok P) {t : TypeId} {i : TI} (hT : E.T t = some i) {o : Oper} (hop : o.op = .alloc t) {G : Value → World → Prop} (hG : ∀ z : Value, (∀ C, Reps C i.zero z.cells.toList) → G (.pointer (some ⟨x.heap.size, 0, none⟩)) (x.alloc (.cells z.cells t))) :
    Give P G ((execOp a.eval o).run P x) := by
  obtain ⟨z, hz, hzr⟩ := (hE.T _ _ hT).zeroV (w := x)
  unfold execOp
  rw [hop]
  refine give_v (v := .pointer (some ⟨x.heap.size, 0, none⟩)) (w' := x.alloc (.cells z.cells t)) ?_ (hG z hzr)
  simp [Instr.alloc, hz, newVar, newRow]
end
end Go.Proofs.Ytpjdicndjakeoaa
