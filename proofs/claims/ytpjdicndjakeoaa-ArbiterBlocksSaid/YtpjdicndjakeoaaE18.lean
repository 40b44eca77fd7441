/- The engine: calls by contract, second part. No condition. -/
import Derived.Test.YtpjdicndjakeoaaE17
namespace Go.Proofs.Ytpjdicndjakeoaa
open Go.RowKit
set_option linter.unusedVariables false
set_option linter.unusedSimpArgs false
def scal1 : AV → Bool
  | .vsl _ _ => false
  | .vptr _ _ _ => false
  | .arr _ .int _ => true
  | .arr _ .bool _ => true
  | .arr _ _ _ => false
  | _ => true
def scalA : AV → Bool
  | .agg cs => cs.all scal1
  | a => scal1 a
def scalV : AV → Bool
  | .tup l => l.all scalA
  | a => scalA a
def renB (ρ : List Nat) : Blk → Blk
  | .obj ro cs => .obj ro (cs.map (ren1 ρ))
  | b => b
def renO (ρ : List Nat) : Option Blk → Option Blk
  | some b => some (renB ρ b)
  | none => none
def putOld (ι ρ : List Nat) (Hc Hc' : Heap) : Nat → Heap → Heap
  | 0, H => H
  | j + 1, H => match Hc.get j with
    | some pb => bif pb.ro then putOld ι ρ Hc Hc' j H else (putOld ι ρ Hc Hc' j H).put (ι.getD j 0) (renO ρ (Hc'.get j))
    | none => putOld ι ρ Hc Hc' j H
def putNew (ρ : List Nat) (Hc' : Heap) (k : Nat) : Nat → Heap → Heap
  | 0, H => H
  | i + 1, H => match putNew ρ Hc' k i H with
    | ⟨n, l⟩ => ⟨n + 1, (n, renO ρ (Hc'.get (k + i))) :: l⟩
def ltAll (n : Nat) : List Nat → Bool
  | [] => true
  | a :: l => Nat.blt a n && ltAll n l
def conX (c : Con) (x : c.X) (ι : List Nat) (args : List AV) (H : Heap) : Option Res :=
  bif c.pure then (match lendL (scalV (renV ι (c.res x))) (c.args x) args H with
    | some (args1, H1) => some ⟨leAs ι args1 (c.args x) ∧ leHn ι H1 (c.heap x) (c.heap x).n ∧ (nodupB ι && Nat.beq ι.length (c.heap x).n && ltAll H.n ι) = true ∧ c.pre x, True, renV ι (c.res x), bif scalV (renV ι (c.res x)) then H else H1⟩
    | none => none)
  else (match lendL false (c.args x) args H with
    | some (args1, H1) =>
      some ⟨leAs ι args1 (c.args x) ∧ leHn ι H1 (c.heap x) (c.heap x).n ∧ (nodupB ι && Nat.beq ι.length (c.heap x).n && ltAll H.n ι && Nat.ble (c.heap x).n (c.heap' x).n) = true ∧ c.pre x, True,
        renV (ι ++ List.range' H1.n ((c.heap' x).n - (c.heap x).n)) (c.res x),
        putNew (ι ++ List.range' H1.n ((c.heap' x).n - (c.heap x).n)) (c.heap' x) (c.heap x).n ((c.heap' x).n - (c.heap x).n) (putOld ι (ι ++ List.range' H1.n ((c.heap' x).n - (c.heap x).n)) (c.heap x) (c.heap' x) (c.heap x).n H1)⟩
    | none => none)
/-- A call by contract. -/
def conD (c : Con) (args : List AV) (H : Heap) : Option Res :=
  match c.find args H with
  | none => none
  | some x => fI (matchI 0 (pairsAs args (c.args x)) H (c.heap x)) fun ι => conX c x ι args H
theorem ltAll_get {n : Nat} : ∀ {l : List Nat} {j a : Nat}, ltAll n l = true → l[j]? = some a → a < n
  | b :: l, 0, a, h, h1 => by
    simp only [ltAll, Bool.and_eq_true] at h
    simp at h1
    subst h1
    simpa using h.1
  | b :: l, j + 1, a, h, h1 => by
    simp only [ltAll, Bool.and_eq_true] at h
    exact ltAll_get h.2 (by simpa using h1)
section
variable {P : Program} {F : Nat → Prop} {φ : Nat → RS} {H : Heap} {w : World}
theorem Reps.scal {C C' : Cx} (hφ : ∀ id, id < C.n → C'.φ id = C.φ id ∧ id < C'.n) {as : List AV} {vs : List Value} (h : Reps C as vs) (hs : as.all scal1 = true) : Reps C' as vs := by
  induction h with
  | nil => exact .nil
  | int a b h ih => simp only [List.all_cons, Bool.and_eq_true] at hs; exact .int a b (ih hs.2)
  | bool h ih => simp only [List.all_cons, Bool.and_eq_true] at hs; exact .bool (ih hs.2)
  | str a h ih => simp only [List.all_cons, Bool.and_eq_true] at hs; exact .str a (ih hs.2)
  | nilp h ih => simp only [List.all_cons, Bool.and_eq_true] at hs; exact .nilp (ih hs.2)
  | ptr a h ih =>
    simp only [List.all_cons, Bool.and_eq_true] at hs
    rw [← (hφ _ a).1]
    exact .ptr (hφ _ a).2 (ih hs.2)
  | nils h ih => simp only [List.all_cons, Bool.and_eq_true] at hs; exact .nils (ih hs.2)
  | slc a h ih =>
    simp only [List.all_cons, Bool.and_eq_true] at hs
    rw [← (hφ _ a).1]
    exact .slc (hφ _ a).2 (ih hs.2)
  | nilm h ih => simp only [List.all_cons, Bool.and_eq_true] at hs; exact .nilm (ih hs.2)
  | hdl a h ih =>
    simp only [List.all_cons, Bool.and_eq_true] at hs
    rw [← (hφ _ a).1]
    exact .hdl (hφ _ a).2 (ih hs.2)
  | vsl ws a b c d h ih1 ih2 => simp [scal1] at hs
  | @arr k t xs us as vs a b h ih1 ih2 =>
    simp only [List.all_cons, Bool.and_eq_true] at hs
    refine .arr (ih1 ?_) b (ih2 hs.2)
    rw [List.all_eq_true]
    intro x hx
    obtain ⟨y, -, hy⟩ := List.mem_flatMap.1 hx
    cases t <;> first | (simp [scal1] at hs; done) | (simp only [enc, List.mem_cons, List.not_mem_nil, or_false] at hy; subst hy; rfl)
  | fn h ih => simp only [List.all_cons, Bool.and_eq_true] at hs; exact .fn (ih hs.2)
  | vptr ws a b c d h ih1 ih2 => simp [scal1] at hs
theorem RV1.scal {C C' : Cx} (hφ : ∀ id, id < C.n → C'.φ id = C.φ id ∧ id < C'.n) {a : AV} {v : Value} (h : RV1 C a v) (hs : scalA a = true) : RV1 C' a v := by
  cases a with
  | undef => trivial
  | agg cs =>
    obtain ⟨vs, e, hr⟩ := h
    exact ⟨vs, e, hr.scal hφ hs⟩
  | tup l => exact h.elim
  | _ => exact Reps.scal hφ (as := [_]) h (by simpa [scalA] using hs)
theorem RVs.scal {C C' : Cx} (hφ : ∀ id, id < C.n → C'.φ id = C.φ id ∧ id < C'.n) : ∀ {as : List AV} {vs : List Value}, RVs C as vs → as.all scalA = true → RVs C' as vs
  | [], [], _, _ => trivial
  | a :: as, v :: vs, h, hs => by
    simp only [List.all_cons, Bool.and_eq_true] at hs
    exact ⟨h.1.scal hφ hs.1, RVs.scal hφ h.2 hs.2⟩
  | [], _ :: _, h, _ => h.elim
  | _ :: _, [], h, _ => h.elim
theorem RV.scal {C C' : Cx} (hφ : ∀ id, id < C.n → C'.φ id = C.φ id ∧ id < C'.n) {a : AV} {v : Value} (h : RV C a v) (hs : scalV a = true) : RV C' a v := by
  cases a with
  | tup l =>
    obtain ⟨vs, e, hr⟩ := h
    exact ⟨vs, e, hr.scal hφ hs⟩
  | _ =>
    simp only [RV] at h
    exact rv_of_rv1 (RV1.scal hφ h hs)
/-- A call that writes nothing. -/
theorem pure_ok {c : Con} {f : FuncId} (hc : c.Ok P f) (hlt : ∀ x id k, (c.heap x).get id = some k → id < (c.heap x).n) (hp : c.pure = true) {x : c.X} {ι : List Nat} {args args1 : List AV} {H1 : Heap} {vs : List Value} (hl : lendL (scalV (renV ι (c.res x))) (c.args x) args H = some (args1, H1))
    (hA : leAs ι args1 (c.args x)) (hH : leHn ι H1 (c.heap x) (c.heap x).n) (hb : (nodupB ι && Nat.beq ι.length (c.heap x).n && ltAll H.n ι) = true) (hpre : c.pre x) (hR : Rel F φ H w) (hv : RVs (cx F φ H w) args vs) :
    Calls P f vs.toArray w fun e w' => ∃ v, e = .returned v ∧ Post F φ H w ⟨True, True, renV ι (c.res x), bif scalV (renV ι (c.res x)) then H else H1⟩ v w' := by
  simp only [Bool.and_eq_true] at hb
  obtain ⟨⟨hnd, hlen⟩, hltA⟩ := hb
  have hlen := Nat.eq_of_beq_eq_true hlen
  obtain ⟨hR1, hle, hv1, hn1, hext⟩ := lend_ok _ _ _ _ _ vs hl hR hv
  have hS := sub_ok hR1 (hlt x) hlen hH
  have hRc := sub_rel hR1 (hlt x) hlen hH hnd
  have hvc := leAs_ok hS hA hv1
  refine (hc.calls x hpre _ _ w vs hRc hvc).mono ?_
  rintro e w' ⟨v, rfl, φ2, hrv, hR2, hE2⟩
  refine ⟨v, rfl, ?_⟩
  obtain ⟨hpe, hro⟩ := hc.pure hp x
  simp only [hpe] at hrv hR2 hE2
  have hbel : Below w.heap.size w w' := ⟨hE2.os, hE2.tape, hE2.output, hE2.le.size, fun b hb => hE2.le.blk b hb (by
    rintro ⟨j, k, hj, hr, -⟩
    rw [hro j k hj] at hr
    cases hr)⟩
  have hφ2 : ∀ id j, id < (c.heap x).n → ι[id]? = some j → φ j = φ2 id ∧ j < H.n := fun id j hid hj => by
    have h1 : φ2 id = φc φ ι id := hE2.le.φ id hid
    rw [h1, φc_get hj]
    exact ⟨rfl, ltAll_get hltA hj⟩
  cases hs : scalV (renV ι (c.res x)) with
  | true =>
    obtain ⟨g1, g2⟩ := hR.below hbel
    refine ⟨φ, ?_, g1, g2⟩
    have h1 := RV.ren (C := cx (Fc F φ ι H1 (c.heap x)) φ2 (c.heap x) w') (C' := ⟨φ, H.n, (cx (Fc F φ ι H1 (c.heap x)) φ2 (c.heap x) w').mt, (cx (Fc F φ ι H1 (c.heap x)) φ2 (c.heap x) w').wr, (cx (Fc F φ ι H1 (c.heap x)) φ2 (c.heap x) w').sub, w'⟩) (ρ := ι) (by simp only [cx]; omega) hφ2 (fun _ _ h => h) rfl hrv
    exact RV.scal (C' := cx F φ H w') (by exact fun id hid => ⟨rfl, hid⟩) h1 hs
  | false =>
    rw [hs] at hext
    obtain ⟨g1, g2⟩ := hR1.below hbel
    refine ⟨φ, ?_, g1, (hext rfl).trans g2⟩
    refine RV.ren (C := cx (Fc F φ ι H1 (c.heap x)) φ2 (c.heap x) w') (C' := cx F φ H1 w') (ρ := ι) (by simp only [cx]; omega) (fun id j hid hj => by obtain ⟨a1, a2⟩ := hφ2 id j hid hj; exact ⟨a1, by simp only [cx]; show j < H1.n; omega⟩) (fun b hb hm => ?_) rfl hrv
    rintro (⟨id, k, hid, hn, he⟩ | hf)
    · by_cases hex : ∃ j pb, (c.heap x).get j = some pb ∧ ι[j]? = some id
      · obtain ⟨j, pb, hj, hji⟩ := hex
        have hjl := hlt x _ _ hj
        have h1 := hφ2 j id hjl hji
        exact hm (.inl ⟨j, pb, hj, by rw [← h1.1]; exact hn, by rw [← h1.1]; exact he⟩)
      · exact hm (.inr (.inr ⟨id, k, hid, hex, hn, he⟩))
    · exact hm (.inr (.inl hf))
end
/-! ### lookups -/
section
variable {ι ρ : List Nat} {Hc Hc' : Heap}
theorem putOld_n : ∀ (j : Nat) (H : Heap), (putOld ι ρ Hc Hc' j H).n = H.n
  | 0, H => rfl
  | j + 1, H => by
    rw [putOld]
    split
    · rename_i pb _
      cases pb.ro
      · exact putOld_n j H
      · exact putOld_n j H
    · exact putOld_n j H
theorem putOld_get (hnd : nodupB ι = true) : ∀ (J : Nat) (H : Heap) (id : Nat), J ≤ ι.length →
    (∀ j pb, j < J → Hc.get j = some pb → pb.ro = false → ι[j]? = some id → (putOld ι ρ Hc Hc' J H).get id = renO ρ (Hc'.get j)) ∧
    ((¬ ∃ j pb, j < J ∧ Hc.get j = some pb ∧ pb.ro = false ∧ ι[j]? = some id) → (putOld ι ρ Hc Hc' J H).get id = H.get id)
  | 0, H, id, _ => ⟨fun j pb hj => absurd hj (Nat.not_lt_zero _), fun _ => rfl⟩
  | J + 1, H, id, hJ => by
    obtain ⟨i1, i2⟩ := putOld_get hnd J H id (by omega)
    have hJi : ι[J]? = some (ι.getD J 0) := by rw [List.getD_eq_getElem?_getD, List.getElem?_eq_getElem (by omega)]; rfl
    rw [putOld]
    cases hg : Hc.get J with
    | none =>
      simp only
      refine ⟨fun j pb hj hjg hr hji => ?_, fun hne => i2 fun ⟨j, pb, h1, h2⟩ => hne ⟨j, pb, by omega, h2⟩⟩
      have : j ≠ J := fun e => by subst e; rw [hg] at hjg; cases hjg
      exact i1 j pb (by omega) hjg hr hji
    | some pb0 =>
      simp only
      cases hro : pb0.ro with
      | true =>
        simp only [cond_true]
        refine ⟨fun j pb hj hjg hr hji => ?_, fun hne => i2 fun ⟨j, pb, h1, h2⟩ => hne ⟨j, pb, by omega, h2⟩⟩
        have : j ≠ J := fun e => by subst e; rw [hg] at hjg; injection hjg with hjg; subst hjg; rw [hro] at hr; cases hr
        exact i1 j pb (by omega) hjg hr hji
      | false =>
        simp only [cond_false]
        refine ⟨fun j pb hj hjg hr hji => ?_, fun hne => ?_⟩
        · by_cases e : j = J
          · subst e
            rw [hJi] at hji
            injection hji with hji
            rw [hji, Heap.get_put_same]
          · have hne : id ≠ ι.getD J 0 := fun h => e (nodupB_inj hnd hji (by rw [hJi, h]))
            rw [Heap.get_put_ne _ _ hne]
            exact i1 j pb (by omega) hjg hr hji
        · have hne2 : id ≠ ι.getD J 0 := fun h => hne ⟨J, pb0, by omega, hg, hro, by rw [hJi, h]⟩
          rw [Heap.get_put_ne _ _ hne2]
          exact i2 fun ⟨j, pb, h1, h2⟩ => hne ⟨j, pb, by omega, h2⟩
theorem putNew_n {k : Nat} : ∀ (i : Nat) (H : Heap), (putNew ρ Hc' k i H).n = H.n + i
  | 0, H => rfl
  | i + 1, H => by
    have := putNew_n (k := k) i H
    rw [putNew]
    show (putNew ρ Hc' k i H).n + 1 = _
    omega
theorem putNew_get {k : Nat} : ∀ (i : Nat) (H : Heap) (id : Nat), (id < H.n → (putNew ρ Hc' k i H).get id = H.get id) ∧ (∀ i', i' < i → id = H.n + i' → (putNew ρ Hc' k i H).get id = renO ρ (Hc'.get (k + i')))
  | 0, H, id => ⟨fun _ => rfl, fun i' h => absurd h (Nat.not_lt_zero _)⟩
  | i + 1, H, id => by
    obtain ⟨h1, h2⟩ := putNew_get (k := k) i H id
    have hn := putNew_n (ρ := ρ) (Hc' := Hc') (k := k) i H
    have step : ∀ id, (putNew ρ Hc' k (i + 1) H).get id = if id = (putNew ρ Hc' k i H).n then renO ρ (Hc'.get (k + i)) else (putNew ρ Hc' k i H).get id := fun id => by
      rw [putNew]
      show lookH (((putNew ρ Hc' k i H).n, renO ρ (Hc'.get (k + i))) :: (putNew ρ Hc' k i H).l) id = _
      rw [lookH]
      by_cases e : id = (putNew ρ Hc' k i H).n
      · rw [if_pos e, e, Nat.beq_refl]; rfl
      · rw [if_neg e]
        have : Nat.beq (putNew ρ Hc' k i H).n id = false := by cases hb : Nat.beq (putNew ρ Hc' k i H).n id with | false => rfl | true => exact absurd (Nat.eq_of_beq_eq_true hb).symm e
        rw [this]; rfl
    refine ⟨fun h => ?_, fun i' hi' he => ?_⟩
    · rw [step, if_neg (by omega)]
      exact h1 h
    · rw [step]
      by_cases e : i' = i
      · subst e
        rw [if_pos (by omega)]
      · rw [if_neg (by omega)]
        exact h2 i' (by omega) he
end
end Go.Proofs.Ytpjdicndjakeoaa
