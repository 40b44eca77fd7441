/- The engine: code and functions. No condition. -/
import Derived.Test.YtpjdicndjakeoaaE21c
namespace Go.Proofs.Ytpjdicndjakeoaa
open Go.RowKit
set_option linter.unusedVariables false
set_option linter.unusedSimpArgs false
inductive Ex where
  | normal
  | exit (id : Nat)
  | ret
def Ex.to : Ex → Exit
  | .normal => .normal
  | .exit i => .exit i
  | .ret => .ret
structure LInv where
  X : Type
  T : X → Tmps
  H : X → Heap
  μ : X → Nat
def leT (ι : List Nat) (T : Tmps) : Tmps → Prop
  | [] => True
  | (t, p) :: r => leA ι (lookT T t) p ∧ leT ι T r
def roKeep (H H2 : Heap) : Nat → Prop
  | 0 => True
  | id + 1 => roKeep H H2 id ∧ match H.get id with
    | some b => bif b.ro then H2.get id = some b else True
    | none => True
def wfL (n : Nat) : List (Nat × Option Blk) → Bool
  | [] => true
  | (i, _) :: r => Nat.blt i n && wfL n r
def idPre : Nat → List Nat → Bool
  | 0, _ => true
  | n + 1, ι => idPre n ι && (match ι[n]? with | some j => Nat.beq j n | none => false)
/-- What is there may be told as this. -/
def wkD (n0 : Nat) (ι : List Nat) (H H2 : Heap) : Prop :=
  leHn ι H H2 H2.n ∧ (nodupB ι && Nat.beq ι.length H2.n && ltAll H.n ι && idPre n0 ι && wfL H2.n H2.l) = true ∧ roKeep H H2 n0
def zAdd : List (Nat × Nat × Ty) → Tmps → Heap → Option (Tmps × Heap)
  | [], T, H => some (T, H)
  | (t, e, ty) :: Z, T, H => match lookT T t with
    | .nils => zAdd Z ((t, .slc H.n) :: T) (H.new (.seq false e ty []))
    | _ => none
def pairsT (T : Tmps) : Tmps → List (Nat × Nat)
  | [] => []
  | (t, p) :: r => pairsA (lookT T t) p ++ pairsT T r
def leS (n0 : Nat) (Z : List (Nat × Nat × Ty)) (T : Tmps) (H : Heap) (T2 : Tmps) (H2 : Heap) : Prop :=
  match zAdd Z T H with
  | some (T1, H1) => fI (matchI n0 (pairsT T1 T2) H1 H2) fun ι => leT ι T1 T2 ∧ wkD n0 ι H1 H2
  | none => False
def lookM : List (Nat × Nat) → Nat → Nat
  | [], _ => 0
  | (i, m) :: r, k => bif Nat.beq i k then m else lookM r k
def lookAll : List (Nat × Nat) → Nat → List Nat
  | [], _ => []
  | (i, m) :: r, k => bif Nat.beq i k then m :: lookAll r k else lookAll r k
def pairZ (j : Nat) (Z : List (Nat × Nat)) : List Nat → List (Nat × Nat)
  | [] => Z
  | i :: r => (i, j) :: pairZ j Z r
def zOf (ms : List (Nat × Nat)) (id : Nat) : Nat → List (Nat × Nat)
  | 0 => []
  | j + 1 => pairZ j (zOf ms id j) (lookAll ms (id + 3000000 + 1000000 * j))
/-- The region that a piece of code begins with: where paths may be joined. -/
def firstR : Code → Nat
  | .region id _ _ => id
  | .seq a _ => firstR a
  | .block _ c => firstR c
  | .loop c => firstR c
  | _ => 999999
def codeD (E : Env) (N n0 : Nat) (ms : List (Nat × Nat)) : Code → Tmps → Heap → (Ex → Tmps → Heap → Prop) → Prop
  | .skip, T, H, K => K .normal T H
  | .region id ops draw, T, H, K => bif draw then (match lookAll ms (id + 2000000) with
    | [] => drawD E N ops.toList (lookM ms id) T H (K .normal)
    | e :: W => match lookAll ms (id + 90000000) with
      | [] => drawE E N ops.toList (lookM ms id) (e :: W) (zOf ms id 6) T H (K .normal)
      | q :: _ => drawA E N ops.toList (lookM ms id) (e :: W) (zOf ms id 6) q T H (K .normal)) else regD E N ops.toList ops.toList T H (K .normal)
  | .seq a b, T, H, K => bif Nat.beq (lookM ms (firstR b + 1000000)) 1 then (∃ I : LInv, (codeD E N n0 ms a T H fun e T H => match e with
    | .normal => ∃ x Z, leS n0 Z T H (I.T x) (I.H x)
    | e => K e T H) ∧ ∀ x, codeD E N n0 ms b (I.T x) (I.H x) K) else codeD E N n0 ms a T H fun e T H => match e with
    | .normal => codeD E N n0 ms b T H K
    | e => K e T H
  | .cond c a b, T, H, K => match rho T c with
    | .bool x => (x = true → codeD E N n0 ms a T H K) ∧ (x = false → codeD E N n0 ms b T H K)
    | _ => False
  | .block id c, T, H, K => codeD E N n0 ms c T H fun e T H => match e with
    | .exit i => bif Nat.beq i id then K .normal T H else K (.exit i) T H
    | e => K e T H
  | .loop c, T, H, K => ∃ I : LInv, (∃ x Z, leS n0 Z T H (I.T x) (I.H x)) ∧ ∀ x, codeD E N n0 ms c (I.T x) (I.H x) fun e T' H' => match e with
    | .normal => ∃ x', I.μ x' < I.μ x ∧ leS n0 [] T' H' (I.T x') (I.H x')
    | e => K e T' H'
  | .exit id, T, H, K => K (.exit id) T H
  | .ret, T, H, K => K .ret T H
  | _, _, _, _ => False
section
variable {P : Program} {E : Env} {F : Nat → Prop} {φ : Nat → RS} {H : Heap} {w : World} {N : Nat} {T : Tmps} {a : Act} {φ0 : Nat → RS} {H0 : Heap} {w0 : World}
theorem wfL_get {n : Nat} : ∀ {l : List (Nat × Option Blk)} {id : Nat} {k : Blk}, wfL n l = true → lookH l id = some k → id < n
  | [], id, k, h, hk => by cases hk
  | (i, b) :: l, id, k, h, hk => by
    simp only [wfL, Bool.and_eq_true] at h
    rw [lookH, Bool.cond_eq_ite] at hk
    split at hk
    · rename_i e
      rw [← Nat.eq_of_beq_eq_true e]
      simpa using h.1
    · exact wfL_get h.2 hk
theorem idPre_get : ∀ {n : Nat} {ι : List Nat} {j : Nat}, idPre n ι = true → j < n → ι[j]? = some j
  | n + 1, ι, j, h, hj => by
    simp only [idPre, Bool.and_eq_true] at h
    by_cases e : j = n
    · subst e
      have := h.2
      split at this
      · rename_i i hi
        rw [hi, Nat.eq_of_beq_eq_true this]
      · cases this
    · exact idPre_get h.1 (by omega)
theorem roKeep_get {H2 : Heap} : ∀ {n : Nat} {id : Nat} {k : Blk}, roKeep H H2 n → id < n → H.get id = some k → k.ro = true → H2.get id = some k
  | n + 1, id, k, h, hid, hk, hro => by
    by_cases e : id = n
    · subst e
      have := h.2
      rw [hk] at this
      simpa [hro] using this
    · exact roKeep_get h.1 (by omega) hk hro
theorem wk_ok {H2 : Heap} {ι : List Nat} (hB : Base F φ0 H0 w0 φ H w) (h : wkD H0.n ι H H2) : Base F φ0 H0 w0 (φc φ ι) H2 w ∧ Sub ι (cx F φ H w) (cx F (φc φ ι) H2 w) := by
  obtain ⟨h1, h2, h3⟩ := h
  simp only [Bool.and_eq_true] at h2
  obtain ⟨⟨⟨⟨hnd, hlen⟩, hltA⟩, hpre⟩, hwf⟩ := h2
  have hlen := Nat.eq_of_beq_eq_true hlen
  have hlt : ∀ id k, H2.get id = some k → id < H2.n := fun id k hk => wfL_get hwf hk
  have hS := sub_ok hB.rel hlt hlen h1
  have hR := sub_rel hB.rel hlt hlen h1 hnd
  have le : (cx (Fc F φ ι H H2) (φc φ ι) H2 w).Le (cx F (φc φ ι) H2 w) := ⟨fun _ _ => rfl, Nat.le_refl _, fun b _ hm h => hm (h.elim .inl (fun h => .inr (.inl h))), Nat.le_refl _, fun _ _ _ => rfl, fun _ _ h => h⟩
  have hR' : Rel F (φc φ ι) H2 w := ⟨hR.lt, fun id k hk => (hR.blk id k hk).mono le (fun _ => rfl), hR.inj, fun id k hk hn hf => hR.forb id k hk hn (.inl hf), hB.rel.flt⟩
  have hmut : ∀ b, Mut (φc φ ι) H2 b → Mut φ H b := fun b ⟨j, pb, hj, hn, he⟩ => by
    obtain ⟨id, b', g1, g2, -⟩ := leHn_get h1 j pb (hlt _ _ hj) hj
    rw [φc_get g1] at hn he
    exact ⟨id, b', g2, hn, he⟩
  have hwr : ∀ b, Wr (φc φ ι) H2 b → Wr φ H b := fun b ⟨j, pb, hj, hro, hn, he⟩ => by
    obtain ⟨id, b', g1, g2, g3⟩ := leHn_get h1 j pb (hlt _ _ hj) hj
    rw [φc_get g1] at hn he
    refine ⟨id, b', g2, ?_, hn, he⟩
    cases b' <;> cases pb <;> first | exact g3.elim | (have g4 := g3.1; simp only [Blk.ro] at hro ⊢; rw [hro] at g4; simpa using g4)
  have hn0 : H0.n ≤ H2.n := by
    rcases Nat.eq_zero_or_pos H0.n with h | h
    · omega
    · have := (List.getElem?_eq_some_iff.1 (idPre_get hpre (j := H0.n - 1) (by omega))).1
      omega
  refine ⟨⟨hR', ⟨⟨fun id hid => ?_, hn0, fun b hb hm => ?_, hB.ext.le.size, hB.ext.le.blk, fun b hb hm h => hB.ext.le.wr b hb hm (hwr b h)⟩, fun id k hk hro => ?_, hB.ext.os, hB.ext.tape, hB.ext.output⟩, hB.lt0⟩, ⟨hS.φ, fun b hb hm h => ?_, rfl⟩⟩
  · show φc φ ι id = φ0 id
    rw [φc_get (idPre_get hpre hid)]
    exact hB.ext.le.φ id hid
  · rintro (h | h)
    · exact hB.ext.le.mt b hb hm (.inl (hmut b h))
    · exact hm (.inr h)
  · exact roKeep_get h3 (hB.lt0 id k hk) (hB.ext.ro id k hk hro) hro
  · rcases h with h | h
    · exact hm (.inl (hmut b h))
    · exact hm (.inr h)
theorem leT_ok {H2 : Heap} {φ2 : Nat → RS} {ι : List Nat} (hT : TRel F φ H w N T a) (hS : Sub ι (cx F φ H w) (cx F φ2 H2 w)) : ∀ {T2 : Tmps}, leT ι T T2 → TRel F φ2 H2 w N T2 a
  | [], _ => ⟨hT.size, fun t => trivial, hT.defers⟩
  | (d, p) :: r, h => by
    obtain ⟨h1, h2⟩ := h
    have ih := leT_ok hT hS h2
    refine ⟨hT.size, fun t => ?_, hT.defers⟩
    rw [lookT_cons]
    split
    · rename_i e
      subst e
      have := hT.get t
      by_cases hu : p = .undef
      · subst hu; trivial
      · have h3 : RV1 (cx F φ H w) (lookT T t) (a.tmps.getD t undef) := by
          cases hl : lookT T t <;> rw [hl] at this h1 <;> simp only [RV] at this <;> first | exact this | (cases p <;> first | exact absurd rfl hu | exact h1.elim)
        exact rv_of_rv1 (leA_ok hS h1 h3)
    · exact ih.get t
theorem zAdd_ok : ∀ (Z : List (Nat × Nat × Ty)) (T : Tmps) (H : Heap) (φ : Nat → RS) (T1 : Tmps) (H1 : Heap), zAdd Z T H = some (T1, H1) → Base F φ0 H0 w0 φ H w → TRel F φ H w N T a → ∃ φ1, Base F φ0 H0 w0 φ1 H1 w ∧ TRel F φ1 H1 w N T1 a
  | [], T, H, φ, T1, H1, h, hB, hT => by cases h; exact ⟨φ, hB, hT⟩
  | (t, e, ty) :: Z, T, H, φ, T1, H1, h, hB, hT => by
    rw [zAdd] at h
    split at h
    · rename_i hl
      obtain ⟨r1, r2⟩ := new_nil hB.rel e ty
      refine zAdd_ok Z _ _ _ T1 H1 h ⟨r1, hB.ext.trans r2, hB.lt0⟩ ?_
      have hT' := hT.mono r2.le
      refine ⟨hT'.size, fun t' => ?_, hT'.defers⟩
      rw [lookT_cons]
      split
      · rename_i e
        subst e
        have h1 := hT.get t'
        rw [hl] at h1
        have h2 := rv_nils_inv h1
        rw [h2]
        have := Reps.slc (C := cx F (upd φ H.n ⟨0, 0, 0, true⟩) (H.new (.seq false e ty [])) w) (id := H.n) (Nat.lt_succ_self _) Reps.nil
        simpa [RV, RV1, cx, upd_same, RS.sl] using this
      · exact hT'.get t'
    · cases h
theorem leS_ok {Z : List (Nat × Nat × Ty)} {T2 : Tmps} {H2 : Heap} (h : leS H0.n Z T H T2 H2) (hB : Base F φ0 H0 w0 φ H w) (hT : TRel F φ H w N T a) : ∃ φ2, Base F φ0 H0 w0 φ2 H2 w ∧ TRel F φ2 H2 w N T2 a := by
  unfold leS at h
  split at h
  · rename_i T1 H1 hz
    rw [fI_eq] at h
    obtain ⟨φ1, hB1, hT1⟩ := zAdd_ok Z T H φ T1 H1 hz hB hT
    obtain ⟨g1, g2⟩ := wk_ok hB1 h.2
    exact ⟨_, g1, leT_ok hT1 g2 h.1⟩
  · exact h.elim
theorem code_ok (hE : E.Ok P) (hmix : P.follows .mixedOrders = true) {ms : List (Nat × Nat)} : ∀ (c : Code) (T : Tmps) (H : Heap) (φ : Nat → RS) (w : World) (a : Act) (K : Ex → Tmps → Heap → Prop) (Q : Exit → Act → World → Prop), codeD E N H0.n ms c T H K → Base F φ0 H0 w0 φ H w → TRel F φ H w N T a →
    (∀ e T' H' φ' w' a', K e T' H' → Base F φ0 H0 w0 φ' H' w' → TRel F φ' H' w' N T' a' → Q e.to a' w') → c.wp P Q a w := by
  intro c
  induction c with
  | skip => exact fun T H φ w a K Q h hB hT hQ => wp_skip (hQ .normal T H φ w a h hB hT)
  | region id ops draw =>
    intro T H φ w a K Q h hB hT hQ
    cases draw with
    | true =>
      have h2 : (match lookAll ms (id + 2000000) with
        | [] => drawD E N ops.toList (lookM ms id) T H (K .normal)
        | e :: W => match lookAll ms (id + 90000000) with
          | [] => drawE E N ops.toList (lookM ms id) (e :: W) (zOf ms id 6) T H (K .normal)
          | q :: _ => drawA E N ops.toList (lookM ms id) (e :: W) (zOf ms id 6) q T H (K .normal)) := h
      split at h2
      · exact draw_ok hE hmix h2 hB hT (fun T' H' φ' w' a' hk hB' hT' => hQ .normal T' H' φ' w' a' hk hB' hT')
      · split at h2
        · exact drawE_ok hE hmix h2 hB hT (fun T' H' φ' w' a' hk hB' hT' => hQ .normal T' H' φ' w' a' hk hB' hT')
        · exact drawA_ok hE hmix h2 hB hT (fun T' H' φ' w' a' hk hB' hT' => hQ .normal T' H' φ' w' a' hk hB' hT')
    | false => exact wp_region_list (reg_ok hE ops.toList T H φ w a _ h hB hT (fun T' H' φ' w' a' hk hB' hT' => hQ .normal T' H' φ' w' a' hk hB' hT'))
  | seq x y ihx ihy =>
    intro T H φ w a K Q h hB hT hQ
    rw [codeD, Bool.cond_eq_ite] at h
    split at h
    · obtain ⟨I, h1, h2⟩ := h
      refine wp_seq (ihx T H φ w a _ _ h1 hB hT fun e T' H' φ' w' a' hk hB' hT' => ?_)
      cases e with
      | normal =>
        obtain ⟨x, Z, hs⟩ := hk
        obtain ⟨φ1, hB1, hT1⟩ := leS_ok hs hB' hT'
        exact ihy _ _ φ1 w' a' K Q (h2 x) hB1 hT1 hQ
      | exit i => exact hQ (.exit i) T' H' φ' w' a' hk hB' hT'
      | ret => exact hQ .ret T' H' φ' w' a' hk hB' hT'
    · refine wp_seq (ihx T H φ w a _ _ h hB hT fun e T' H' φ' w' a' hk hB' hT' => ?_)
      cases e with
      | normal => exact ihy T' H' φ' w' a' K Q hk hB' hT' hQ
      | exit i => exact hQ (.exit i) T' H' φ' w' a' hk hB' hT'
      | ret => exact hQ .ret T' H' φ' w' a' hk hB' hT'
  | cond c x y ihx ihy =>
    intro T H φ w a K Q h hB hT hQ
    rw [codeD] at h
    split at h
    · rename_i b hb
      have hv := rv_bool_inv (by have := rho_ok hT c; rwa [hb] at this)
      exact wp_cond_split hv (fun e => ihx T H φ w a K Q (h.1 e) hB hT hQ) (fun e => ihy T H φ w a K Q (h.2 e) hB hT hQ)
    · exact h.elim
  | block id c ih =>
    intro T H φ w a K Q h hB hT hQ
    refine wp_block (ih T H φ w a _ _ h hB hT fun e T' H' φ' w' a' hk hB' hT' => ?_)
    cases e with
    | normal => exact hQ .normal T' H' φ' w' a' hk hB' hT'
    | exit i =>
      simp only [Bool.cond_eq_ite] at hk
      show if i = id then Q .normal a' w' else Q (.exit i) a' w'
      split at hk
      · rename_i e
        rw [if_pos (Nat.eq_of_beq_eq_true e)]
        exact hQ .normal T' H' φ' w' a' hk hB' hT'
      · rename_i e
        rw [if_neg (fun e' => e (by rw [e', Nat.beq_refl]))]
        exact hQ (.exit i) T' H' φ' w' a' hk hB' hT'
    | ret => exact hQ .ret T' H' φ' w' a' hk hB' hT'
  | loop c ih =>
    intro T H φ w a K Q h hB hT hQ
    obtain ⟨I, ⟨x0, Z, h0⟩, hr⟩ := h
    obtain ⟨φ1, hB1, hT1⟩ := leS_ok h0 hB hT
    refine wp_loop_ghost (fun n a w => ∃ x φ, I.μ x = n ∧ Base F φ0 H0 w0 φ (I.H x) w ∧ TRel F φ (I.H x) w N (I.T x) a) (I.μ x0) ⟨x0, φ1, rfl, hB1, hT1⟩ ?_
    rintro n a1 w1 ⟨x, φ2, rfl, hB2, hT2⟩
    refine ih _ _ φ2 w1 a1 _ _ (hr x) hB2 hT2 fun e T' H' φ' w' a' hk hB' hT' => ?_
    cases e with
    | normal =>
      obtain ⟨x', hμ, hs⟩ := hk
      obtain ⟨φ3, hB3, hT3⟩ := leS_ok hs hB' hT'
      exact ⟨I.μ x', hμ, x', φ3, rfl, hB3, hT3⟩
    | exit i => exact hQ (.exit i) T' H' φ' w' a' hk hB' hT'
    | ret => exact hQ .ret T' H' φ' w' a' hk hB' hT'
  | exit id => exact fun T H φ w a K Q h hB hT hQ => wp_exit (hQ (.exit id) T H φ w a h hB hT)
  | ret => exact fun T H φ w a K Q h hB hT hQ => wp_ret (hQ .ret T H φ w a h hB hT)
  | _ => exact fun T H φ w a K Q h => h.elim
end
end Go.Proofs.Ytpjdicndjakeoaa
