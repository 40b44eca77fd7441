/- The engine: functions. No condition. -/
import Derived.Test.YtpjdicndjakeoaaE22
namespace Go.Proofs.Ytpjdicndjakeoaa
open Go.RowKit
set_option linter.unusedVariables false
set_option linter.unusedSimpArgs false
def resD (E : Env) (T : Tmps) (H : Heap) : List ResultVar → Option (Prop × List AV)
  | [] => some (True, [])
  | .tmp t :: r => match resD E T H r with
    | some (q, as) => bif noTup (lookT T t) then some (q, lookT T t :: as) else none
    | none => none
  | .cell a ty :: r => match E.T ty with
    | some i => match lookT T a with
      | .ptr id p => match readL H id p i.n with
        | some (q1, cs) => match ofL i.k.agg cs with
          | some v => match resD E T H r with
            | some (q, as) => bif noTup v then some (q1 ∧ q, v :: as) else none
            | none => none
          | none => none
        | none => none
      | _ => none
    | none => none
def pats : AV → List AV
  | .tup l => l
  | a => [a]
def shapeOk (n : Nat) : AV → Bool
  | .tup _ => !Nat.beq n 1
  | _ => Nat.beq n 1
/-- A nil slice where a slice of its own memory is wanted: one without elements. -/
def retFix (H' : Heap) : List AV → List AV → Heap → List AV × Heap
  | p :: ps, a :: as, H => match p with
    | .slc j => match a with
      | .nils => match H'.get j with
        | some (.seq _ e t _) => match retFix H' ps as (H.new (.seq false e t [])) with
          | (bs, H2) => (.slc H.n :: bs, H2)
        | _ => match retFix H' ps as H with
          | (bs, H2) => (a :: bs, H2)
      | a => match retFix H' ps as H with
        | (bs, H2) => (a :: bs, H2)
    | _ => match retFix H' ps as H with
      | (bs, H2) => (a :: bs, H2)
  | _, as, H => (as, H)
def retD (E : Env) (n0 : Nat) (rs : List ResultVar) (res : AV) (H' : Heap) (T : Tmps) (H : Heap) : Prop :=
  match resD E T H rs with
  | some (q, as) => q ∧ shapeOk rs.length res = true ∧ match retFix H' (pats res) as H with | (as0, Hx) => match lendL false (pats res) as0 Hx with
    | some (as1, H1) => fI (matchI n0 (pairsAs as1 (pats res)) H1 H') fun ι => leAs ι as1 (pats res) ∧ wkD n0 ι H1 H'
    | none => False
  | none => False
def argT : Nat → List AV → Tmps
  | _, [] => []
  | n, a :: as => (n, a) :: argT (n + 1) as
def okInts : List AV → Prop
  | [] => True
  | .int k n :: r => okN k n ∧ okInts r
  | .vsl _ xs :: r => xs.length ≤ 9223372036854775807 ∧ okInts r
  | .arr n _ xs :: r => xs.length = n ∧ okInts r
  | _ :: r => okInts r
def okT (t : Ty) (x : t.den) : Prop := okInts (enc t x)
def okLs : List AV → Prop
  | [] => True
  | .int k n :: r => okN k n ∧ okLs r
  | .vsl t xs :: r => (xs.length ≤ 9223372036854775807 ∧ ∀ x ∈ xs, okT t x) ∧ okLs r
  | .arr n t xs :: r => (xs.length = n ∧ ∀ x ∈ xs, okT t x) ∧ okLs r
  | _ :: r => okLs r
def okA : AV → Prop
  | .agg cs => okLs cs
  | a => okLs [a]
def okAs : List AV → Prop
  | [] => True
  | a :: r => okA a ∧ okAs r
def okBlk : Blk → Prop
  | .obj _ cs => okLs cs
  | .seq _ _ t xs => xs.length ≤ 9223372036854775807 ∧ ∀ x ∈ xs, okT t x
  | .map _ t es => es.length ≤ 9223372036854775807 ∧ (∀ e ∈ es, okN .i64 e.1 ∧ okT t e.2) ∧ es.Pairwise (fun p q => p.1 < q.1)
def okH (H : Heap) : Nat → Prop
  | 0 => True
  | j + 1 => okH H j ∧ match H.get j with
    | some b => okBlk b
    | none => True
section
variable {C : Cx}
theorem okInts_of {as : List AV} {vs : List Value} (h : Reps C as vs) : okInts as := by
  induction h with
  | nil => trivial
  | int a b h ih => exact ⟨okN_iff.2 ⟨a, b⟩, ih⟩
  | vsl ws a b c d h ih1 ih2 => exact ⟨by have := Nat.le_trans a b.1; simpa [maxLen] using this, ih2⟩
  | arr a b h ih1 ih2 => exact ⟨b, ih2⟩
  | _ => assumption
theorem okFlat {t : Ty} : ∀ {xs : List t.den} {us : List Value}, Reps C (xs.flatMap (enc t)) us → ∀ x ∈ xs, okT t x
  | x :: xs, us, h, y, hy => by
    rw [List.flatMap_cons] at h
    obtain ⟨u1, u2, rfl, h1, h2⟩ := Reps.append_inv h
    rcases List.mem_cons.1 hy with rfl | hy
    · exact okInts_of h1
    · exact okFlat h2 y hy
theorem okLs_of {as : List AV} {vs : List Value} (h : Reps C as vs) : okLs as := by
  induction h with
  | nil => trivial
  | int a b h ih => exact ⟨okN_iff.2 ⟨a, b⟩, ih⟩
  | vsl ws a b c d h ih1 ih2 =>
    refine ⟨⟨by have := Nat.le_trans a b.1; simpa [maxLen] using this, fun x hx => ?_⟩, ih2⟩
    obtain ⟨i, hi, rfl⟩ := List.getElem_of_mem hx
    exact okInts_of (d i _ (List.getElem?_eq_getElem hi))
  | arr a b h ih1 ih2 => exact ⟨⟨b, okFlat a⟩, ih2⟩
  | _ => assumption
theorem okA_of {a : AV} {v : Value} (h : RV1 C a v) : okA a := by
  cases a with
  | undef => trivial
  | agg cs => obtain ⟨vs, -, hr⟩ := h; exact okLs_of hr
  | tup l => exact h.elim
  | _ => exact okLs_of (as := [_]) h
theorem okAs_of : ∀ {as : List AV} {vs : List Value}, RVs C as vs → okAs as
  | [], _, _ => trivial
  | a :: as, v :: vs, h => ⟨okA_of h.1, okAs_of h.2⟩
  | _ :: _, [], h => h.elim
end
section
variable {P : Program} {E : Env} {F : Nat → Prop} {φ : Nat → RS} {H : Heap} {w : World} {N : Nat} {T : Tmps} {a : Act} {φ0 : Nat → RS} {H0 : Heap} {w0 : World}
theorem okH_of (hR : Rel F φ H w) : ∀ n, okH H n
  | 0 => trivial
  | j + 1 => by
    refine ⟨okH_of hR j, ?_⟩
    split
    · rename_i b hb
      have := hR.blk _ _ hb
      cases b with
      | obj ro cs => obtain ⟨-, vs, e, -, hr⟩ := this; exact okLs_of hr
      | seq ro e t xs =>
        obtain ⟨-, -, us, hr, -⟩ := this
        exact ⟨by have := (seq_len hR hb).1; simpa [maxLen] using this, okFlat hr⟩
      | map ro t es =>
        obtain ⟨-, vs, h1, h2⟩ := this
        have hl := h2.len
        rw [h1.length] at hl
        refine ⟨by simpa [maxLen] using hl, fun e he => ?_, RE.sorted h1 h2.sorted⟩
        obtain ⟨v, hv⟩ := RE.all h1 e he
        refine ⟨okN_iff.2 (by simpa [Lit.wf] using hv.wf), ?_⟩
        have h4 := hv.val
        unfold RX at h4
        by_cases ha : t.agg = true
        · rw [if_pos ha] at h4
          obtain ⟨us, -, h5⟩ := h4
          exact okInts_of h5
        · rw [if_neg ha] at h4
          exact okInts_of h4
    · trivial
theorem argT_look {T : Tmps} : ∀ (as : List AV) (n t : Nat), lookT (argT n as) t = if n ≤ t ∧ t < n + as.length then as.getD (t - n) .undef else .undef
  | [], n, t => by simp [argT, lookT]
  | a :: as, n, t => by
    rw [argT, lookT_cons, argT_look (T := T) as (n + 1) t]
    by_cases e : t = n
    · subst e
      simp
    · rw [if_neg e]
      by_cases h : n ≤ t ∧ t < n + (a :: as).length
      · rw [if_pos h, if_pos (by simp at h ⊢; omega)]
        obtain ⟨m, hm⟩ : ∃ m, t - n = m + 1 := ⟨t - n - 1, by omega⟩
        rw [hm, show t - (n + 1) = m from by omega]
        rfl
      · rw [if_neg h, if_neg (by simp at h ⊢; omega)]
def resRun (tmps : Array Value) : ResultVar → Sem Value
  | .tmp t => pure (tmps.getD t undef)
  | .cell a t => do loadVar t (← asAddr (tmps.getD a undef))
theorem results_eq (fn : Func) (tmps : Array Value) : results fn tmps = (do
    let vs ← fn.results.mapM (resRun tmps)
    pure (if h : vs.size = 1 then vs[0] else .tuple vs)) := rfl
theorem mapM_run {f : ResultVar → Sem Value} {w : World} : ∀ (rs : List ResultVar) (vs : List Value), rs.length = vs.length → (∀ (j : Nat) r v, rs[j]? = some r → vs[j]? = some v → (f r).run P w = .ok v w) → (rs.mapM f).run P w = .ok vs w
  | [], [], _, _ => by simp
  | r :: rs, v :: vs, hl, h => by
    simp [List.mapM_cons, h 0 r v rfl rfl, mapM_run rs vs (by simpa using hl) (fun j r v hr hv => h (j + 1) r v hr hv)]
theorem resD_ok (hE : E.Ok P) (hR : Rel F φ H w) (hT : TRel F φ H w N T a) : ∀ (rs : List ResultVar) (q : Prop) (as : List AV), resD E T H rs = some (q, as) → q → ∃ vs, RVs (cx F φ H w) as vs ∧ rs.length = vs.length ∧ ∀ (j : Nat) r v, rs[j]? = some r → vs[j]? = some v → (resRun a.tmps r).run P w = .ok v w
  | [], q, as, h, hq => by
    cases h
    exact ⟨[], trivial, rfl, fun j r v hr => by simp at hr⟩
  | .tmp t :: rs, q, as, h, hq => by
    rw [resD] at h
    split at h
    · rename_i q' as' hr
      rw [Bool.cond_eq_ite] at h
      split at h
      · rename_i hnt
        cases h
        obtain ⟨vs, h1, h2, h3⟩ := resD_ok hE hR hT rs q as' hr hq
        have hv := hT.get t
        have hv1 : RV1 (cx F φ H w) (lookT T t) (a.tmps.getD t undef) := by
          cases hl : lookT T t <;> rw [hl] at hv hnt <;> simp only [RV] at hv <;> first | exact hv | cases hnt
        refine ⟨a.tmps.getD t undef :: vs, ⟨hv1, h1⟩, by simp [h2], fun j r v hr hvv => ?_⟩
        cases j with
        | zero =>
          simp at hr hvv
          subst hr hvv
          simp [resRun]
        | succ j => exact h3 j r v (by simpa using hr) (by simpa using hvv)
      · cases h
    · cases h
  | .cell c ty :: rs, q, as, h, hq => by
    rw [resD] at h
    split at h
    · rename_i i hTi
      split at h
      · rename_i id p hl
        split at h
        · rename_i q1 cs hrd
          split at h
          · rename_i av ho
            split at h
            · rename_i q2 as' hr
              rw [Bool.cond_eq_ite] at h
              split at h
              · rename_i hnt
                cases h
                obtain ⟨vs, h1, h2, h3⟩ := resD_ok hE hR hT rs q2 as' hr hq.2
                obtain ⟨u, h5, h6⟩ := load_ok hE hR hTi hrd ho hq.1
                have hp := hT.get c
                rw [hl] at hp
                obtain ⟨hpv, -⟩ := rv_ptr_inv hp
                have hv1 : RV1 (cx F φ H w) av u := by
                  cases av <;> simp only [RV] at h6 <;> first | exact h6 | cases hnt
                refine ⟨u :: vs, ⟨hv1, h1⟩, by simp [h2], fun j r v hr hvv => ?_⟩
                cases j with
                | zero =>
                  simp at hr hvv
                  subst hr hvv
                  simp only [resRun, hpv, asAddr, Sem.run_bind, Sem.run_pure, Result.andThen_ok]
                  exact h5
                | succ j => exact h3 j r v (by simpa using hr) (by simpa using hvv)
              · cases h
            · cases h
          · cases h
        · cases h
      · cases h
    · cases h
theorem RVs_length {C : Cx} : ∀ {as : List AV} {vs : List Value}, RVs C as vs → as.length = vs.length
  | [], [], _ => rfl
  | a :: as, v :: vs, h => by simp [RVs_length h.2]
  | [], _ :: _, h => h.elim
  | _ :: _, [], h => h.elim
theorem retFix_ok {H' : Heap} : ∀ (ps as : List AV) (H : Heap) (φ : Nat → RS) (vs : List Value), Base F φ0 H0 w0 φ H w → RVs (cx F φ H w) as vs → ∃ φ1, Base F φ0 H0 w0 φ1 (retFix H' ps as H).2 w ∧ RVs (cx F φ1 (retFix H' ps as H).2 w) (retFix H' ps as H).1 vs ∧ (cx F φ H w).Le (cx F φ1 (retFix H' ps as H).2 w)
  | [], as, H, φ, vs, hB, hv => by
    have : retFix H' [] as H = (as, H) := by cases as <;> rfl
    rw [this]
    exact ⟨φ, hB, hv, Cx.Le.refl _⟩
  | p :: ps, [], H, φ, vs, hB, hv => ⟨φ, hB, hv, Cx.Le.refl _⟩
  | p :: ps, a :: as, H, φ, [], hB, hv => hv.elim
  | p :: ps, a :: as, H, φ, v :: vs, hB, hv => by
    have keep : retFix H' (p :: ps) (a :: as) H = (a :: (retFix H' ps as H).1, (retFix H' ps as H).2) → ∃ φ1, Base F φ0 H0 w0 φ1 (retFix H' (p :: ps) (a :: as) H).2 w ∧ RVs (cx F φ1 (retFix H' (p :: ps) (a :: as) H).2 w) (retFix H' (p :: ps) (a :: as) H).1 (v :: vs) ∧ (cx F φ H w).Le (cx F φ1 (retFix H' (p :: ps) (a :: as) H).2 w) := fun e => by
      obtain ⟨φ1, h1, h2, h3⟩ := retFix_ok ps as H φ vs hB hv.2
      rw [e]
      exact ⟨φ1, h1, ⟨hv.1.mono h3, h2⟩, h3⟩
    cases p with
    | slc j =>
      cases a with
      | nils =>
        cases hg : H'.get j with
        | none => exact keep (by simp only [retFix, hg])
        | some b =>
          cases b with
          | obj ro cs => exact keep (by simp only [retFix, hg])
          | map ro t es => exact keep (by simp only [retFix, hg])
          | seq ro e t xs =>
            obtain ⟨r1, r2⟩ := new_nil hB.rel e t
            have hB1 : Base F φ0 H0 w0 (upd φ H.n ⟨0, 0, 0, true⟩) (H.new (.seq false e t [])) w := ⟨r1, hB.ext.trans r2, hB.lt0⟩
            have hvs : RVs (cx F (upd φ H.n ⟨0, 0, 0, true⟩) (H.new (.seq false e t [])) w) as vs := hv.2.mono r2.le
            obtain ⟨φ1, h1, h2, h3⟩ := retFix_ok ps as _ _ vs hB1 hvs
            have e1 : retFix H' (.slc j :: ps) (.nils :: as) H = (.slc H.n :: (retFix H' ps as (H.new (.seq false e t []))).1, (retFix H' ps as (H.new (.seq false e t []))).2) := by simp only [retFix, hg]
            rw [e1]
            refine ⟨φ1, h1, ⟨?_, h2⟩, r2.le.trans h3⟩
            have h4 : RV1 (cx F (upd φ H.n ⟨0, 0, 0, true⟩) (H.new (.seq false e t [])) w) (.slc H.n) v := by
              have := rv_nils_inv (rv_of_rv1 hv.1)
              subst this
              have := Reps.slc (C := cx F (upd φ H.n ⟨0, 0, 0, true⟩) (H.new (.seq false e t [])) w) (id := H.n) (Nat.lt_succ_self _) Reps.nil
              simpa [RV1, cx, upd_same, RS.sl] using this
            exact h4.mono h3
      | _ => exact keep (by simp only [retFix])
    | _ => exact keep (by simp only [retFix])
theorem ret_ok (hE : E.Ok P) {fn : Func} {res : AV} {H' : Heap} (h : retD E H0.n fn.results.toList res H' T H) (hB : Base F φ0 H0 w0 φ H w) (hT : TRel F φ H w N T a) : ∃ v, (results fn a.tmps).run P w = .ok v w ∧ Post F φ0 H0 w0 ⟨True, True, res, H'⟩ v w := by
  unfold retD at h
  split at h
  · rename_i q as hr
    obtain ⟨hq, hs, h⟩ := h
    obtain ⟨vs, h1, h2, h3⟩ := resD_ok hE hB.rel hT _ q as hr hq
    obtain ⟨φx, hBx, h1, -⟩ := retFix_ok (H' := H') (pats res) as H φ vs hB h1
    obtain ⟨as0, Hx, hfix⟩ : ∃ as0 Hx, retFix H' (pats res) as H = (as0, Hx) := ⟨_, _, rfl⟩
    rw [hfix] at h hBx h1
    simp only at h hBx h1
    split at h
    · rename_i as1 H1 hl
      rw [fI_eq] at h
      obtain ⟨h4, h5⟩ := h
      obtain ⟨l1, l2, l3, l4, l5⟩ := lend_ok _ _ _ _ _ vs hl hBx.rel h1
      have hB1 : Base F φ0 H0 w0 φx H1 w := ⟨l1, hBx.ext.trans (l5 rfl), hBx.lt0⟩
      obtain ⟨g1, g2⟩ := wk_ok hB1 h5
      have g3 := leAs_ok g2 h4 l3
      have hrun : (fn.results.mapM (resRun a.tmps)).run P w = .ok vs.toArray w := by
        rw [Array.mapM_eq_mapM_toList]
        simp [mapM_run fn.results.toList vs h2 h3]
      rw [results_eq]
      simp only [Sem.run_bind, hrun, Result.andThen_ok, Sem.run_pure]
      refine ⟨_, rfl, _, ?_, g1.rel, g1.ext⟩
      have hlen : vs.toArray.size = fn.results.toList.length := by simp [h2]
      cases res with
      | tup l =>
        simp only [shapeOk, Bool.not_eq_true'] at hs
        have hne : ¬ vs.toArray.size = 1 := fun e => by rw [hlen] at e; rw [e] at hs; cases hs
        rw [dif_neg hne]
        exact ⟨vs, rfl, g3⟩
      | _ =>
        have he : vs.toArray.size = 1 := by rw [hlen]; exact Nat.eq_of_beq_eq_true hs
        rw [dif_pos he]
        match vs, he, g3 with
        | [v], _, g3 => exact rv_of_rv1 g3.1
    · exact h.elim
  · exact h.elim
/-- A function is what its contract says. -/
theorem fun_ok (hE : E.Ok P) (hmix : P.follows .mixedOrders = true) {f : FuncId} {fn : Func} {code : Code} (hf : P.funcs[f]? = some fn) (hname : (fn.name == "runtime.NumGoroutine") = false) (hb : fn.body = some code) (c : Con) (ms : List (Nat × Nat))
    (hlt : ∀ x, wfL (c.heap x).n (c.heap x).l = true) (hpure : c.pure = true → ∀ x, c.heap' x = c.heap x ∧ ∀ id k, (c.heap x).get id = some k → k.ro = true) (hN : ∀ x, (c.args x).length ≤ fn.ntmps)
    (hVC : ∀ x, c.pre x → okAs (c.args x) → okH (c.heap x) (c.heap x).n → forceT (argT 0 (c.args x)) fun T0 => forceH (c.heap x) fun H0 => codeD E fn.ntmps (c.heap x).n ms code T0 H0 fun e T H => match e with
      | .exit _ => False
      | _ => retD E (c.heap x).n fn.results.toList (c.res x) (c.heap' x) T H) : c.Ok P f := by
  refine ⟨fun args w => Go.MuLone.run_callFunc_enter hf hname hb args w, fun x id k hk => wfL_get (hlt x) hk, hpure, fun x hpre F φ w vs hR hv => ?_⟩
  have hvl := RVs_length hv
  have hVC := hVC x hpre (okAs_of hv) (okH_of hR _)
  simp only [forceT_eq, forceH_eq] at hVC
  have hNx := hN x
  refine calls_of_wp hf hb ?_
  refine code_ok (N := fn.ntmps) (F := F) (φ0 := φ) (H0 := c.heap x) (w0 := w) hE hmix code _ _ φ w _ _ _ hVC ⟨hR, Ext.refl _ _ _ _, fun id k hk => wfL_get (hlt x) hk⟩ ⟨?_, fun t => ?_, rfl⟩ ?_
  · simp
    omega
  · rw [argT_look (T := [])]
    by_cases ht : t < (c.args x).length
    · rw [if_pos ⟨Nat.zero_le _, by omega⟩, Nat.sub_zero]
      obtain ⟨v, g1, g2⟩ := hv.get t _ (List.getElem?_eq_getElem ht)
      have e1 : (c.args x).getD t .undef = (c.args x)[t] := by rw [List.getD_eq_getElem?_getD, List.getElem?_eq_getElem ht]; rfl
      have e2 : (vs.toArray ++ Array.replicate (fn.ntmps - vs.toArray.size) undef).getD t undef = v := by
        rw [Array.getD_eq_getD_getElem?, Array.getElem?_append_left (by simp; omega)]
        simp [g1]
      rw [e1, e2]
      exact rv_of_rv1 g2
    · rw [if_neg (by omega)]
      trivial
  · intro e T' H' φ' w' a' hk hB hT
    cases e with
    | exit i => exact hk.elim
    | normal =>
      obtain ⟨v, h1, h2⟩ := ret_ok hE hk hB hT
      exact ⟨hT.defers, v, h1, v, rfl, h2⟩
    | ret =>
      obtain ⟨v, h1, h2⟩ := ret_ok hE hk hB hT
      exact ⟨hT.defers, v, h1, v, rfl, h2⟩
end
end Go.Proofs.Ytpjdicndjakeoaa
