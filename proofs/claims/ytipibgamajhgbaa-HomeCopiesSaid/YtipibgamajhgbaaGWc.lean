/- What a map of bound functions comes to: home's Take. No condition. -/
import Derived.Test.YtipibgamajhgbaaGWb
import Derived.Maps.OwnSet
namespace Go.Proofs.Ytipibgamajhgbaa
open Go.RowKit
set_option linter.unusedVariables false
set_option linter.unusedSimpArgs false
/-- How a bound function reads: its number, and where its receiver lies. -/
def Rc : Value → Option (DataW Unit × List MemPlace)
  | .func (.func f) fs cs => match fs.toList, cs.toList with
    | [.pointer (some ⟨b, o, none⟩)], [] => some (.agg [.lit (.int .i64 f), .lit (.int .i64 b), .lit (.int .i64 o)], [])
    | _, _ => none
  | .nilFunc => some (.agg [], [])
  | _ => none
def clo (b o f : Nat) : Value := .func (.func f) #[.pointer (some ⟨b, o, none⟩)] #[]
theorem Rc_clo (b o f : Nat) : Rc (clo b o f) = some (.agg [.lit (.int .i64 f), .lit (.int .i64 b), .lit (.int .i64 o)], []) := rfl
theorem Rc_inv {v : Value} {b o f : Nat} {ps : List MemPlace} (h : Rc v = some (.agg [.lit (.int .i64 f), .lit (.int .i64 b), .lit (.int .i64 o)], ps)) : v = clo b o f := by
  unfold Rc at h
  split at h
  · rename_i f' fs cs
    split at h
    · rename_i b' o' h1 h2
      simp only [Option.some.injEq, Prod.mk.injEq, DataW.agg.injEq, List.cons.injEq, DataW.lit.injEq, Lit.int.injEq, true_and, and_true, Int.natCast_inj] at h
      obtain ⟨⟨rfl, rfl, rfl⟩, -⟩ := h
      have e1 : fs = #[.pointer (some ⟨b', o', none⟩)] := by apply Array.ext'; simpa using h1
      have e2 : cs = #[] := by apply Array.ext'; simpa using h2
      subst e1 e2
      rfl
    · cases h
  · simp at h
  · cases h
section
variable {P : Program} {ops : Array Oper} {Q : Exit → Act → World → Prop}
theorem st {o : Oper} {rest : List Oper} {a : Act} {w w' : World} {v : Value} (hg : o.guard = none) (h : (execOp a.eval o).run P w = .ok (.value v) w' ∨ ((execOp a.eval o).run P w = .ok .skip w' ∧ v = undef)) (k : wpList P ops Q rest (a.put o.dst v) w') : wpList P ops Q (o :: rest) a w := by
  unfold wpList
  have hw : Region.wanted o (yielded ops a.tmps) = true := by simp [Region.wanted, hg]
  rw [if_pos hw]
  refine .inl (upon_of_give (G := fun u x => u = v ∧ x = w') ?_ fun u x ⟨e1, e2⟩ => by subst e1 e2; exact k)
  rcases h with h | ⟨h, rfl⟩ <;> rw [h] <;> exact ⟨rfl, rfl⟩
theorem eval_put {a : Act} {t t' : Nat} {v : Value} (h : t < a.tmps.size) : (a.put (some t) v).eval (.tmp t') = if t' = t then v else a.eval (.tmp t') := by
  simp only [Act.put, Act.eval, Array.getD_eq_getD_getElem?]
  by_cases e : t' = t
  · subst e
    simp [h]
  · rw [if_neg e, Array.getElem?_setIfInBounds_ne (Ne.symm e)]
theorem size_put {a : Act} {t : Nat} {v : Value} : (a.put (some t) v).tmps.size = a.tmps.size := by simp [Act.put]
theorem run_makeMap (t : TypeId) (w : World) : (Instr.makeMap t none).run P w = .ok (.map (some w.heap.size)) (w.alloc (.map #[] 0)) := by
  simp [Instr.makeMap]
theorem run_insert {t k e : TypeId} {w : World} {b n : Nat} {D : DataW Unit} (hown : w.ownsMap P k Rc b n D) (K : Go.Maps.Keyed P k) (hk : P.underlying k = some (.int .i64)) (ht : P.underlying t = some (.map k e)) (hn : n < 100) {o : Oper} {a : Act} {m v : Operand} {j : Int} (hop : o.op = .insert t m (.const (.int .i64 j)) v) (hm : a.eval m = .map (some b)) {hb ho f : Nat} (hv : a.eval v = clo hb ho f) (hj : (Lit.int .i64 j).wf = true) :
    ∃ w', (execOp a.eval o).run P w = .ok .skip w' ∧ w'.ownsMap P k Rc b (n + 1) (D.put (.int .i64 j) (.agg [.lit (.int .i64 f), .lit (.int .i64 hb), .lit (.int .i64 ho)])) ∧ w.grownBy w' (some b) := by
  have hkey : keyOf P k (.int .i64 j) = some (.int .i64 j) := Go.Maps.keyOf_int_mk hk hj
  obtain ⟨w', h1, h2, h3⟩ := hown.update K ht (Nat.lt_trans hn (by decide)) (val := clo hb ho f) hkey (Rc_clo hb ho f)
  refine ⟨w', ?_, h2, h3⟩
  unfold execOp
  rw [hop]
  have hc : a.eval (.const (.int .i64 j)) = .int .i64 j := rfl
  simp only [hm, hv, hc, Sem.run_bind, h1, Result.andThen_ok, Sem.run_pure]
end
def D5 (b o : Nat) : DataW Unit := .map [(.int .i64 1, .agg [.lit (.int .i64 31), .lit (.int .i64 b), .lit (.int .i64 o)]), (.int .i64 2, .agg [.lit (.int .i64 32), .lit (.int .i64 b), .lit (.int .i64 o)]), (.int .i64 3, .agg [.lit (.int .i64 33), .lit (.int .i64 b), .lit (.int .i64 o)]), (.int .i64 5, .agg [.lit (.int .i64 34), .lit (.int .i64 b), .lit (.int .i64 o)]), (.int .i64 7, .agg [.lit (.int .i64 35), .lit (.int .i64 b), .lit (.int .i64 o)])]
theorem grown_below {B : Nat} {w w' w'' : World} {b : Nat} (h : Below B w w') (hb : B ≤ b) (hw : B ≤ w.heap.size) (hg : w'.grownBy w'' (some b)) : Below B w w'' :=
  ⟨hg.os.trans h.os, hg.tape.trans h.tape, hg.output.trans h.output, Nat.le_trans h.size hg.size, fun k hk => by
    have h3 := h.size
    rw [hg.block k (by omega) (fun e => by injection e with e; omega)]
    exact h.block k hk⟩
theorem eval_puts {a : Act} (hs : a.tmps.size = 51) {t t' : Nat} {v : Value} (h : t < 51) : (a.put (some t) v).eval (.tmp t') = if t' = t then v else a.eval (.tmp t') := eval_put (by omega)
theorem eval_ne {a : Act} (hs : a.tmps.size = 51) {t t' : Nat} {v : Value} (h : t < 51) (e : (t' : Nat) ≠ t) : (a.put (some t) v).eval (.tmp t') = a.eval (.tmp t') := by
  rw [eval_puts hs h]; exact if_neg e
theorem eval_self {a : Act} (hs : a.tmps.size = 51) {t : Nat} {v : Value} (h : t < 51) : (a.put (some t) v).eval (.tmp t) = v := by
  rw [eval_puts hs h]; exact if_pos rfl
theorem put_none {a : Act} {v : Value} : a.put none v = a := rfl
/-- What is known while the map is filled. -/
structure Fill (P : Program) (k : TypeId) (w0 : World) (a0 : Act) (B hb ho n : Nat) (D : DataW Unit) (a : Act) (w : World) : Prop where
  size : a.tmps.size = 51
  defers : a.defers = a0.defers
  old : ∀ t : Nat, t < 27 → a.eval (.tmp t) = a0.eval (.tmp t)
  m : a.eval (.tmp 27) = .map (some B)
  own : w.ownsMap P k Rc B n D
  bel : Below B w0 w
theorem fill {P : Program} {ops : Array Oper} {Q : Exit → Act → World → Prop} {k t e : TypeId} (K : Go.Maps.Keyed P k) (hk : P.underlying k = some (.int .i64)) (ht : P.underlying t = some (.map k e)) {w0 : World} {a0 : Act} {B hb ho n : Nat} {D : DataW Unit} (hB : B = w0.heap.size) (h0 : a0.eval (.tmp 0) = .pointer (some ⟨hb, ho, none⟩)) (hn : n < 100)
    {o1 o2 o3 : Oper} {rest : List Oper} (t1 t2 f : Nat) (j : Int) (D' : DataW Unit) (h1 : o1.guard = none ∧ o1.dst = some t1 ∧ o1.op = .move (.tmp 0)) (h2 : o2.guard = none ∧ o2.dst = some t2 ∧ o2.op = .makeFunc (.func f) #[.tmp t1] #[]) (h3 : o3.guard = none ∧ o3.dst = none ∧ o3.op = .insert t (.tmp 27) (.const (.int .i64 j)) (.tmp t2))
    (hj : (Lit.int .i64 j).wf = true) (b1 : 27 < t1 ∧ t1 < 51) (b2 : 27 < t2 ∧ t2 < 51) (hD : D.put (.int .i64 j) (.agg [.lit (.int .i64 f), .lit (.int .i64 hb), .lit (.int .i64 ho)]) = D')
    {a : Act} {w : World} (F : Fill P k w0 a0 B hb ho n D a w) (next : ∀ a' w', Fill P k w0 a0 B hb ho (n + 1) D' a' w' → wpList P ops Q rest a' w') : wpList P ops Q (o1 :: o2 :: o3 :: rest) a w := by
  obtain ⟨g1, d1, p1⟩ := h1
  obtain ⟨g2, d2, p2⟩ := h2
  obtain ⟨g3, d3, p3⟩ := h3
  have hs := F.size
  refine st (v := .pointer (some ⟨hb, ho, none⟩)) (w' := w) g1 (.inl ?_) ?_
  · unfold execOp
    rw [p1]
    show Result.ok (Next.value (a.eval (.tmp 0))) w = _
    rw [F.old 0 (by decide), h0]
  rw [d1]
  have s1 : (a.put (some t1) (.pointer (some ⟨hb, ho, none⟩))).tmps.size = 51 := by rw [size_put]; exact hs
  refine st (v := clo hb ho f) (w' := w) g2 (.inl ?_) ?_
  · unfold execOp
    rw [p2]
    show Result.ok (Next.value (.func (.func f) (Array.map (a.put (some t1) _).eval #[.tmp t1]) (Array.map (a.put (some t1) _).eval #[]))) w = _
    simp only [List.map_toArray, List.map_cons, List.map_nil]
    rw [eval_self hs b1.2]
    rfl
  rw [d2]
  have s2 : ((a.put (some t1) (.pointer (some ⟨hb, ho, none⟩))).put (some t2) (clo hb ho f)).tmps.size = 51 := by rw [size_put]; exact s1
  have ev : ∀ u : Nat, u ≤ 27 → ((a.put (some t1) (.pointer (some ⟨hb, ho, none⟩))).put (some t2) (clo hb ho f)).eval (.tmp u) = a.eval (.tmp u) := fun u hu => by
    rw [eval_ne s1 b2.2 (by omega), eval_ne hs b1.2 (by omega)]
  obtain ⟨w', r1, r2, r3⟩ := run_insert (o := o3) (a := (a.put (some t1) (.pointer (some ⟨hb, ho, none⟩))).put (some t2) (clo hb ho f)) F.own K hk ht hn p3 (by rw [ev 27 (by decide)]; exact F.m) (hv := eval_self s1 b2.2) hj
  refine st (v := undef) (w' := w') g3 (.inr ⟨r1, rfl⟩) ?_
  rw [d3, put_none]
  rw [hD] at r2
  exact next _ _ ⟨s2, F.defers, fun u hu => (ev u (by omega)).trans (F.old u hu), (ev 27 (by decide)).trans F.m, r2, grown_below F.bel (Nat.le_refl _) (by omega) r3⟩
noncomputable def take3ops : Array Oper := match (Try.f12).body with
  | some (.seq _ (.seq _ (.seq (.region _ ops _) _))) => ops
  | _ => #[]
set_option maxRecDepth 100000 in
set_option maxHeartbeats 8000000 in
theorem take3 : ∀ {Q : Exit → Act → World → Prop} {a : Act} {w : World} {hb ho : Nat}, a.tmps.size = 51 → a.eval (.tmp 0) = .pointer (some ⟨hb, ho, none⟩) →
    (∀ a' w' m, a'.tmps.size = 51 → a'.defers = a.defers → (∀ t : Nat, t < 27 → t ≠ 7 → a'.eval (.tmp t) = a.eval (.tmp t)) → a'.eval (.tmp 7) = .map (some m) → w.heap.size ≤ m → w'.ownsMap Try.prog 3 Rc m 5 (D5 hb ho) → Below w.heap.size w w' → Q .normal a' w') → wpList Try.prog take3ops Q take3ops.toList a w := by
  intro Q a w hb ho hs h0 k
  have hk := Try.underlying3
  have ht := Try.underlying76
  have K : Go.Maps.Keyed Try.prog 3 := Go.Maps.int_keyed hk
  have hown0 := World.ownsMap_made w Try.prog 3 Rc
  have hbel0 : Below w.heap.size w (w.alloc (.map #[] 0)) := bl1 bl0
  obtain ⟨B, hB⟩ : ∃ B, B = w.heap.size := ⟨_, rfl⟩
  rw [← hB] at hown0 hbel0
  refine st (v := .map (some B)) (w' := w.alloc (.map #[] 0)) rfl (.inl (by unfold execOp; simp only [Option.map, Sem.run_bind, run_makeMap, Result.andThen_ok, Sem.run_pure, hB])) ?_
  have F0 : Fill Try.prog 3 w a B hb ho 0 (.map []) (a.put (some 27) (.map (some B))) (w.alloc (.map #[] 0)) :=
    ⟨by rw [size_put]; exact hs, rfl, fun t h => eval_ne hs (by decide) (by omega), eval_self hs (by decide), hown0, hbel0⟩
  refine fill K hk ht hB h0 (by decide) 28 29 31 1 _ ⟨rfl, rfl, rfl⟩ ⟨rfl, rfl, rfl⟩ ⟨rfl, rfl, rfl⟩ (by decide) (by decide) (by decide) rfl F0 fun a1 w1 F1 => ?_
  refine fill K hk ht hB h0 (by decide) 30 31 32 2 _ ⟨rfl, rfl, rfl⟩ ⟨rfl, rfl, rfl⟩ ⟨rfl, rfl, rfl⟩ (by decide) (by decide) (by decide) rfl F1 fun a2 w2 F2 => ?_
  refine fill K hk ht hB h0 (by decide) 32 33 33 3 _ ⟨rfl, rfl, rfl⟩ ⟨rfl, rfl, rfl⟩ ⟨rfl, rfl, rfl⟩ (by decide) (by decide) (by decide) rfl F2 fun a3 w3 F3 => ?_
  refine fill K hk ht hB h0 (by decide) 34 35 34 5 _ ⟨rfl, rfl, rfl⟩ ⟨rfl, rfl, rfl⟩ ⟨rfl, rfl, rfl⟩ (by decide) (by decide) (by decide) rfl F3 fun a4 w4 F4 => ?_
  refine fill K hk ht hB h0 (by decide) 36 37 35 7 (D5 hb ho) ⟨rfl, rfl, rfl⟩ ⟨rfl, rfl, rfl⟩ ⟨rfl, rfl, rfl⟩ (by decide) (by decide) (by decide) ?_ F4 fun a5 w5 F5 => ?_
  · rfl
  have s5 := F5.size
  refine st (v := .map (some B)) (w' := w5) rfl (.inl (congrArg (fun v => Result.ok (Next.value v) w5) F5.m)) ?_
  have s6 : (a5.put (some 38) (.map (some B))).tmps.size = 51 := by rw [size_put]; exact s5
  refine st (v := .map (some B)) (w' := w5) rfl (.inl (congrArg (fun v => Result.ok (Next.value v) w5) (show (a5.put (some 38) (.map (some B))).eval (.tmp 38) = _ from eval_self s5 (by decide)))) ?_
  refine k _ w5 B (by rw [size_put]; exact s6) F5.defers (fun t ht ht7 => ?_) ?_ (by rw [← hB]; exact Nat.le_refl _) F5.own (by rw [← hB]; exact F5.bel)
  · rw [eval_ne s6 (by decide) (by omega), eval_ne s5 (by decide) (by omega)]
    exact F5.old t ht
  · exact eval_self s6 (by decide)
end Go.Proofs.Ytipibgamajhgbaa

namespace Go.Proofs.Ytipibgamajhgbaa
open Go.RowKit
set_option linter.unusedVariables false
set_option linter.unusedSimpArgs false
section
variable {P : Program} {E : Env} {F : Nat → Prop} {φ : Nat → RS} {H : Heap} {w : World} {N : Nat} {T : Tmps} {a : Act} {φ0 : Nat → RS} {H0 : Heap} {w0 : World}
/-- Only values that are not spoken of are other ones. -/
theorem TRel.other (hT : TRel F φ H w N T a) {φ' : Nat → RS} {H' : Heap} {w' : World} (le : (cx F φ H w).Le (cx F φ' H' w')) {a' : Act} (hs : a'.tmps.size = N) (hd : a'.defers = a.defers) (h : ∀ t, t < N → lookT T t = .undef ∨ a'.eval (.tmp t) = a.eval (.tmp t)) : TRel F φ' H' w' N T a' := by
  refine ⟨hs, fun t => ?_, hd.trans hT.defers⟩
  by_cases ht : t < N
  · rcases h t ht with e | e
    · rw [e]; trivial
    · have e' : a'.tmps.getD t undef = a.tmps.getD t undef := e
      rw [e']
      exact (hT.get t).mono le
  · have e1 : a'.tmps.getD t undef = undef := by rw [Array.getD_eq_getD_getElem?, Array.getElem?_eq_none (by omega)]; rfl
    have e2 : a.tmps.getD t undef = undef := by rw [Array.getD_eq_getD_getElem?, Array.getElem?_eq_none (by have := hT.size; omega)]; rfl
    have := (hT.get t).mono le
    rw [e2] at this
    rw [e1]
    exact this
theorem TRel.putU (hT : TRel F φ H w N T a) {t : Nat} (ht : t < N) (hu : lookT T t = .undef) (v : Value) : TRel F φ H w N T (a.put (some t) v) := by
  refine hT.other (Cx.Le.refl _) (by rw [size_put]; exact hT.size) rfl fun t' _ => ?_
  by_cases e : t' = t
  · exact .inl (e ▸ hu)
  · exact .inr ((eval_put (by rw [hT.size]; exact ht)).trans (if_neg e))
def mkO (d : Nat) (op : Op) : Oper := { dst := some d, op := op, type := 0, pos := "", after := #[], guard := none }
/-- One step by the engine. -/
theorem stepE (hE : E.Ok P) {ops : Array Oper} {Q : Exit → Act → World → Prop} {o : Oper} {rest : List Oper} {d : Nat} {op : Op} (hg : o.guard = none) (hd : o.dst = some d) (he : (execOp a.eval o).run P w = (execOp a.eval (mkO d op)).run P w) {K : Tmps → Heap → Prop} (hk : opK E N (mkO d op) T H K) (hB : Base F φ0 H0 w0 φ H w) (hT : TRel F φ H w N T a)
    (next : ∀ v w' φ' T' H', K T' H' → Base F φ0 H0 w0 φ' H' w' → Ext F φ H w φ' H' w' → TRel F φ' H' w' N T' (a.put (some d) v) → wpList P ops Q rest (a.put (some d) v) w') : wpList P ops Q (o :: rest) a w := by
  obtain ⟨r, h1, h2⟩ := opK_ok hE hB.rel hT hk
  unfold wpList
  have hw : Region.wanted o (yielded ops a.tmps) = true := by simp [Region.wanted, hg]
  rw [if_pos hw]
  refine .inl (upon_of_give (G := Post F φ H w r) (by rw [he]; exact h1) fun v w' ⟨φ', hv, hR', hX'⟩ => ?_)
  obtain ⟨T', h3, h4⟩ := putK_ok (hT.mono hX'.le) hv h2
  rw [hd]
  exact next v w' φ' T' r.H h3 ⟨hR', hB.ext.trans hX', hB.lt0⟩ hX' h4
/-- A bound function's call is the function's. -/
theorem exec_clo {o : Oper} {d hb ho f tf t0 : Nat} {xs : Array Operand} {ats : Array TypeId} (h : o.op = .call ⟨.value (.tmp tf), xs, ats⟩) (hf : a.eval (.tmp tf) = clo hb ho f) (h0 : a.eval (.tmp t0) = .pointer (some ⟨hb, ho, none⟩)) :
    (execOp a.eval o).run P w = (execOp a.eval (mkO d (.call ⟨.value (.func f), #[.tmp t0] ++ xs, ats⟩))).run P w := by
  unfold execOp
  rw [h]
  have e : a.eval (.func f) = .func (.func f) #[] #[] := rfl
  simp only [mkO, resolve, hf, e, clo, Deferred.ofValue, invoke, Sem.run_bind, Sem.run_pure, Result.andThen_ok, Array.map_append, Array.empty_append, Array.append_empty]
  simp only [List.map_toArray, List.map_cons, List.map_nil, h0]
/-- A function is what its contract says; the walk is given. -/
theorem fun_ok_of {f : FuncId} {fn : Func} {code : Code} (hf : P.funcs[f]? = some fn) (hname : (fn.name == "runtime.NumGoroutine") = false) (hb : fn.body = some code) (hE : E.Ok P) (c : Con)
    (hlt : ∀ x, wfL (c.heap x).n (c.heap x).l = true) (hpure : c.pure = true → ∀ x, c.heap' x = c.heap x ∧ ∀ id k, (c.heap x).get id = some k → k.ro = true) (hN : ∀ x, (c.args x).length ≤ fn.ntmps)
    (hC : ∀ x, c.pre x → okAs (c.args x) → okH (c.heap x) (c.heap x).n → ∀ F φ w a Q, Base F φ (c.heap x) w φ (c.heap x) w → TRel F φ (c.heap x) w fn.ntmps (argT 0 (c.args x)) a →
      (∀ e T' H' φ' w' a', (match e with | Ex.exit _ => False | _ => retD E (c.heap x).n fn.results.toList (c.res x) (c.heap' x) T' H') → Base F φ (c.heap x) w φ' H' w' → TRel F φ' H' w' fn.ntmps T' a' → Q e.to a' w') → code.wp P Q a w) : c.Ok P f := by
  refine ⟨fun args w => Go.MuLone.run_callFunc_enter hf hname hb args w, fun x id k hk => wfL_get (hlt x) hk, hpure, fun x hpre F φ w vs hR hv => ?_⟩
  have hvl := RVs_length hv
  have hNx := hN x
  refine calls_of_wp hf hb ?_
  refine hC x hpre (okAs_of hv) (okH_of hR _) F φ w _ _ ⟨hR, Ext.refl _ _ _ _, fun id k hk => wfL_get (hlt x) hk⟩ ⟨?_, fun t => ?_, rfl⟩ ?_
  · simp
    omega
  · rw [argT_look (T := [])]
    by_cases ht : t < (c.args x).length
    · rw [if_pos ⟨Nat.zero_le _, by omega⟩, Nat.sub_zero]
      obtain ⟨v, g1, g2⟩ := hv.get t _ (List.getElem?_eq_getElem ht)
      have e1 : (c.args x).getD t .undef = (c.args x)[t] := by rw [List.getD_eq_getElem?_getD, List.getElem?_eq_getElem ht]; rfl
      have e2 : (vs.toArray ++ Array.replicate (fn.ntmps - vs.toArray.size) undef).getD t undef = v := by
        rw [Array.getD_eq_getD_getElem?, Array.getElem?_append_left (by simp; omega)]
        simp [g1]
      rw [e1, e2]
      exact rv_of_rv1 g2
    · rw [if_neg (by omega)]
      trivial
  · intro e T' H' φ' w' a' hk hB hT
    cases e with
    | exit i => exact hk.elim
    | normal =>
      obtain ⟨v, h1, h2⟩ := ret_ok hE hk hB hT
      exact ⟨hT.defers, v, h1, v, rfl, h2⟩
    | ret =>
      obtain ⟨v, h1, h2⟩ := ret_ok hE hk hB hT
      exact ⟨hT.defers, v, h1, v, rfl, h2⟩
end
end Go.Proofs.Ytipibgamajhgbaa

namespace Go.Proofs.Ytipibgamajhgbaa
open Go.RowKit
set_option linter.unusedVariables false
set_option linter.unusedSimpArgs false
noncomputable def takeX : Code := match (Try.f12).body with
  | some (.seq x _) => x
  | _ => .skip
noncomputable def takeY : Code := match (Try.f12).body with
  | some (.seq _ (.seq y _)) => y
  | _ => .skip
noncomputable def takeR : Code := match (Try.f12).body with
  | some (.seq _ (.seq _ r)) => r
  | _ => .skip
noncomputable def takeT : Code := match (Try.f12).body with
  | some (.seq _ (.seq _ (.seq _ (.seq _ r)))) => r
  | _ => .skip
abbrev KT := Ex → Tmps → Heap → Prop
/-- The call of one of the five, by its number. -/
def callVC (E : Env) (f : Nat) (T : Tmps) (H : Heap) (K : KT) : Prop :=
  opK E 51 (mkO 48 (.load 34 (.tmp 4))) T H fun T H => opK E 51 (mkO 49 (.load 45 (.tmp 5))) T H fun T H =>
    opK E 51 (mkO 50 (.call ⟨.value (.func f), #[.tmp 0] ++ #[.tmp 48, .tmp 49], #[34, 45]⟩)) T H fun T H => opK E 51 (mkO 6 (.assign (.tmp 50))) T H fun T H => K .ret T H
def cntU (T : Tmps) : List Nat → Nat
  | [] => 0
  | t :: r => match lookT T t with
    | .undef => cntU T r
    | _ => 1
def slots1 : List Nat := [7, 27, 28, 29, 30, 31, 32, 33, 34, 35, 36, 37, 38, 39, 40, 41, 42, 43, 44, 45, 46, 47, 48, 49, 50]
def slots2 : List Nat := [8, 9, 39, 43, 44, 45, 46, 47]
def isP : AV → Nat
  | .ptr _ _ => 0
  | _ => 1
structure Hy (p : Prop) : Prop where
  h : p
def oneOf (k : Int) : Prop := k = 1 ∨ k = 2 ∨ k = 3 ∨ k = 5 ∨ k = 7
def restVC (E : Env) (n0 : Nat) (tail : Code) (K : KT) (T : Tmps) (H : Heap) : Prop :=
  Nat.beq (cntU T slots1) 0 = true ∧ Nat.beq (isP (lookT T 0)) 0 = true ∧
  opK E 51 (mkO 41 (.fieldAddr 34 (.tmp 4) 0)) T H fun T H => opK E 51 (mkO 42 (.load 3 (.tmp 41))) T H fun T H =>
    Nat.beq (cntU T slots2) 0 = true ∧ match lookT T 42 with
    | .int .i64 k => (Hy (k = 1) → callVC E 31 T H K) ∧ (Hy (k = 2) → callVC E 32 T H K) ∧ (Hy (k = 3) → callVC E 33 T H K) ∧ (Hy (k = 5) → callVC E 34 T H K) ∧ (Hy (k = 7) → callVC E 35 T H K) ∧ (Hy (¬ oneOf k) → codeD E 51 n0 [] tail T H K)
    | _ => False
theorem cntU_mem {T : Tmps} : ∀ {l : List Nat}, Nat.beq (cntU T l) 0 = true → ∀ t ∈ l, lookT T t = .undef
  | x :: l, h, t, ht => by
    have h' := Nat.eq_of_beq_eq_true h
    rw [cntU] at h'
    split at h'
    · rename_i e
      rcases List.mem_cons.1 ht with rfl | ht
      · exact e
      · exact cntU_mem (by rw [h']; rfl) t ht
    · cases h'
section
variable {E : Env} {F : Nat → Prop} {φ : Nat → RS} {H : Heap} {w : World} {T : Tmps} {a : Act} {φ0 : Nat → RS} {H0 : Heap} {w0 : World}
/-- The map that is filled is not of the engine's memory. -/
structure MapIn (F : Nat → Prop) (φ : Nat → RS) (H : Heap) (w : World) (m hb ho : Nat) : Prop where
  own : w.ownsMap Try.prog 3 Rc m 5 (D5 hb ho)
  nw : ¬ (cx F φ H w).wr m
theorem MapIn.mono {m hb ho : Nat} (h : MapIn F φ H w m hb ho) {φ' : Nat → RS} {H' : Heap} {w' : World} (x : Ext F φ H w φ' H' w') : MapIn F φ' H' w' m hb ho := by
  have hl := h.own.lt
  refine ⟨?_, x.le.wr m hl h.nw⟩
  obtain ⟨es, clock, hb', r⟩ := h.own
  exact ⟨es, clock, (x.le.blk m hl h.nw).trans hb', r⟩
theorem zero_func (w : World) : (zeroValue 40).run Try.prog w = .ok .nilFunc w := by
  have h := Try.underlying40
  simp [zeroValue, h]
  rfl
set_option maxRecDepth 100000 in
theorem callVC_ok (hE : E.Ok Try.prog) {f : Nat} {K : KT} {Q : Exit → Act → World → Prop} (h : callVC E f T H K) (hB : Base F φ0 H0 w0 φ H w) (hT : TRel F φ H w 51 T a) {hb ho : Nat} (h8 : a.eval (.tmp 8) = clo hb ho f) (h0 : a.eval (.tmp 0) = .pointer (some ⟨hb, ho, none⟩)) (hu : lookT T 47 = .undef)
    (hQ : ∀ T' H' φ' w' a', K .ret T' H' → Base F φ0 H0 w0 φ' H' w' → TRel F φ' H' w' 51 T' a' → Q .ret a' w') {id : Nat} {ops : Array Oper} {o1 o2 o3 o4 o5 : Oper} (hops : ops.toList = [o1, o2, o3, o4, o5])
    (h1 : o1.guard = none ∧ o1.dst = some 47 ∧ o1.op = .move (.tmp 8)) (h2 : o2.guard = none ∧ o2.dst = some 48 ∧ o2.op = .load 34 (.tmp 4)) (h3 : o3.guard = none ∧ o3.dst = some 49 ∧ o3.op = .load 45 (.tmp 5))
    (h4 : o4.guard = none ∧ o4.dst = some 50 ∧ o4.op = .call ⟨.value (.tmp 47), #[.tmp 48, .tmp 49], #[34, 45]⟩) (h5 : o5.guard = none ∧ o5.dst = some 6 ∧ o5.op = .assign (.tmp 50)) : ((Code.region id ops false).seq .ret).wp Try.prog Q a w := by
  refine wp_seq (wp_region_list ?_)
  rw [hops]
  have hs := hT.size
  refine st (v := clo hb ho f) (w' := w) h1.1 (.inl (by unfold execOp; rw [h1.2.2]; exact congrArg (fun v => Result.ok (Next.value v) w) h8)) ?_
  rw [h1.2.1]
  have hT0 := hT.putU (t := 47) (by decide) hu (clo hb ho f)
  have s0 : (a.put (some 47) (clo hb ho f)).tmps.size = 51 := hT0.size
  refine stepE hE h2.1 h2.2.1 (by unfold execOp; rw [h2.2.2]; rfl) h hB hT0 fun v1 w1 φ1 T1 H1 k1 hB1 x1 hT1 => ?_
  refine stepE hE h3.1 h3.2.1 (by unfold execOp; rw [h3.2.2]; rfl) k1 hB1 hT1 fun v2 w2 φ2 T2 H2 k2 hB2 x2 hT2 => ?_
  have e47 : (((a.put (some 47) (clo hb ho f)).put (some 48) v1).put (some 49) v2).eval (.tmp 47) = clo hb ho f := by
    rw [eval_ne hT1.size (by decide) (by decide), eval_ne s0 (by decide) (by decide), eval_self hs (by decide)]
  have e0 : (((a.put (some 47) (clo hb ho f)).put (some 48) v1).put (some 49) v2).eval (.tmp 0) = .pointer (some ⟨hb, ho, none⟩) := by
    rw [eval_ne hT1.size (by decide) (by decide), eval_ne s0 (by decide) (by decide), eval_ne hs (by decide) (by decide), h0]
  refine stepE hE h4.1 h4.2.1 (exec_clo h4.2.2 e47 e0) k2 hB2 hT2 fun v3 w3 φ3 T3 H3 k3 hB3 x3 hT3 => ?_
  refine stepE hE h5.1 h5.2.1 (by unfold execOp; rw [h5.2.2]; rfl) k3 hB3 hT3 fun v4 w4 φ4 T4 H4 k4 hB4 x4 hT4 => ?_
  exact wp_ret (hQ T4 H4 φ4 w4 _ k4 hB4 hT4)
theorem has5 {b o : Nat} {k : Int} (h : Maps.has (D5 b o) (.int .i64 k) = true) : oneOf k := by
  have e : ∀ a b : Int, (Lit.int IntKind.i64 a).sameKey (Lit.int IntKind.i64 b) = decide (a = b) := fun a b => by simp [Lit.sameKey]
  simp [D5, Maps.has, e] at h
  unfold oneOf
  omega
theorem act_cond {c : Operand} {b : Bool} (h : a.eval c = .bool b) : a.eval c = .bool b := h
set_option maxRecDepth 100000 in
set_option maxHeartbeats 8000000 in
theorem rest_ok (hE : E.Ok Try.prog) {K : KT} {Q : Exit → Act → World → Prop} (h : restVC E H0.n takeT K T H) (hB : Base F φ0 H0 w0 φ H w) (hT : TRel F φ H w 51 T a) (hmix : Try.prog.follows .mixedOrders = true)
    (hQ : ∀ e T' H' φ' w' a', K e T' H' → Base F φ0 H0 w0 φ' H' w' → TRel F φ' H' w' 51 T' a' → Q e.to a' w') : takeR.wp Try.prog Q a w := by
  show Code.wp _ (Code.seq (Code.region _ _ _) (Code.seq (Code.seq (Code.region _ _ _) (Code.seq (Code.region _ _ _) (Code.cond _ (Code.seq (Code.region _ _ _) Code.ret) Code.skip))) (Code.seq (Code.region _ _ _) Code.ret))) Q a w
  obtain ⟨hu, hp, h⟩ := h
  have hs := hT.size
  obtain ⟨idh, ph, hl0⟩ : ∃ id p, lookT T 0 = .ptr id p := by
    cases hl : lookT T 0 <;> rw [hl] at hp <;> first | exact ⟨_, _, rfl⟩ | cases hp
  obtain ⟨hb, ho, h0⟩ : ∃ hb ho, a.eval (.tmp 0) = .pointer (some ⟨hb, ho, none⟩) := by
    have := hT.get 0
    rw [hl0] at this
    exact ⟨_, _, (rv_ptr_inv this).1⟩
  have hu' := fun t ht => cntU_mem hu t ht
  refine wp_seq (wp_region_list (take3 hs h0 fun a1 w1 m hs1 hd1 hold h7 hm hown hbel => ?_))
  obtain ⟨hR1, hX1⟩ := hB.rel.below hbel
  have hB1 : Base F φ0 H0 w0 φ H w1 := ⟨hR1, hB.ext.trans hX1, hB.lt0⟩
  have hT1 : TRel F φ H w1 51 T a1 := by
    refine hT.other hX1.le hs1 hd1 fun t ht => ?_
    by_cases ht7 : t = 7
    · exact .inl (hu' t (by rw [ht7]; decide))
    · by_cases ht27 : t < 27
      · exact .inr (hold t ht27 ht7)
      · exact .inl (hu' t (by
          simp only [slots1, List.mem_cons, List.not_mem_nil, or_false]
          omega))
  have hM1 : MapIn F φ H w1 m hb ho := ⟨hown, fun hw => by
    have := hB.rel.mut_lt hw.mut
    omega⟩
  have h01 : a1.eval (.tmp 0) = .pointer (some ⟨hb, ho, none⟩) := by rw [hold 0 (by decide) (by decide)]; exact h0
  clear hold hown hbel hu
  refine wp_seq (wp_seq (wp_region_list ?_))
  refine st (v := .map (some m)) (w' := w1) rfl (.inl (congrArg (fun v => Result.ok (Next.value v) w1) h7)) ?_
  have hT2 := hT1.putU (t := 40) (by decide) (hu' 40 (by decide)) (.map (some m))
  have h02 : (a1.put (some 40) (.map (some m))).eval (.tmp 0) = .pointer (some ⟨hb, ho, none⟩) := by rw [eval_ne hs1 (by decide) (by decide)]; exact h01
  have h40 : (a1.put (some 40) (.map (some m))).eval (.tmp 40) = .map (some m) := eval_self hs1 (by decide)
  revert hT2 h02 h40
  generalize a1.put (some 40) (.map (some m)) = a2
  intro hT2 h02 h40
  refine stepE (d := 41) (op := .fieldAddr 34 (.tmp 4) 0) hE rfl rfl rfl h hB1 hT2 fun v3 w3 φ3 T3 H3 h hB3 hX3 hT3 => ?_
  have hM3 := hM1.mono hX3
  have h03 : (a2.put (some 41) v3).eval (.tmp 0) = .pointer (some ⟨hb, ho, none⟩) := by rw [eval_ne hT2.size (by decide) (by decide)]; exact h02
  have h403 : (a2.put (some 41) v3).eval (.tmp 40) = .map (some m) := by rw [eval_ne hT2.size (by decide) (by decide)]; exact h40
  revert hT3 h03 h403
  generalize a2.put (some 41) v3 = a3
  intro hT3 h03 h403
  refine stepE (d := 42) (op := .load 3 (.tmp 41)) hE rfl rfl rfl h hB3 hT3 fun v4 w4 φ4 T4 H4 h hB4 hX4 hT4 => ?_
  have hM4 := hM3.mono hX4
  have h04 : (a3.put (some 42) v4).eval (.tmp 0) = .pointer (some ⟨hb, ho, none⟩) := by rw [eval_ne hT3.size (by decide) (by decide)]; exact h03
  have h404 : (a3.put (some 42) v4).eval (.tmp 40) = .map (some m) := by rw [eval_ne hT3.size (by decide) (by decide)]; exact h403
  revert hT4 h04 h404
  generalize a3.put (some 42) v4 = a4
  intro hT4 h04 h404
  obtain ⟨hu4, h⟩ := h
  have hu4' := fun t ht => cntU_mem hu4 t ht
  split at h
  · rename_i k hl42
    have hk := hT4.get 42
    rw [hl42] at hk
    obtain ⟨h42, hin⟩ := rv_int_inv hk
    have hlit : (Lit.int .i64 k).wf = true := by
      simp only [Lit.wf, Bool.and_eq_true, decide_eq_true_eq]
      exact hin
    have hkey : keyOf Try.prog 3 (.int .i64 k) = some (.int .i64 k) := Go.Maps.keyOf_int_mk Try.underlying3 hlit
    obtain ⟨v, ps, hrun, hRc⟩ := hM4.own.look_ok (Go.Maps.int_keyed Try.underlying3) Try.underlying76 (zero_func w4) (zd := .agg []) (zp := []) rfl hkey
    have e42 : a4.eval (.tmp 42) = .int .i64 k := h42
    refine st (v := .tuple #[v, .bool (Maps.has (D5 hb ho) (.int .i64 k))]) (w' := w4) rfl (.inl ?_) ?_
    · unfold execOp
      simp only [h404, e42, Sem.run_bind, hrun, Result.andThen_ok, Sem.run_pure]
    generalize hbb : Maps.has (D5 hb ho) (.int .i64 k) = b
    have hT5 := hT4.putU (t := 43) (by decide) (hu4' 43 (by decide)) (.tuple #[v, .bool b])
    have h05 : (a4.put (some 43) (.tuple #[v, .bool b])).eval (.tmp 0) = .pointer (some ⟨hb, ho, none⟩) := by rw [eval_ne hT4.size (by decide) (by decide)]; exact h04
    have h43 : (a4.put (some 43) (.tuple #[v, .bool b])).eval (.tmp 43) = .tuple #[v, .bool b] := eval_self hT4.size (by decide)
    revert hT5 h05 h43
    generalize a4.put (some 43) (.tuple #[v, .bool b]) = a5
    intro hT5 h05 h43
    refine st (v := .tuple #[v, .bool b]) (w' := w4) rfl (.inl (congrArg (fun v => Result.ok (Next.value v) w4) h43)) ?_
    have hT6 := hT5.putU (t := 39) (by decide) (hu4' 39 (by decide)) (.tuple #[v, .bool b])
    have h06 : (a5.put (some 39) (.tuple #[v, .bool b])).eval (.tmp 0) = .pointer (some ⟨hb, ho, none⟩) := by rw [eval_ne hT5.size (by decide) (by decide)]; exact h05
    have h39 : (a5.put (some 39) (.tuple #[v, .bool b])).eval (.tmp 39) = .tuple #[v, .bool b] := eval_self hT5.size (by decide)
    revert hT6 h06 h39
    generalize a5.put (some 39) (.tuple #[v, .bool b]) = a6
    intro hT6 h06 h39
    refine st (v := v) (w' := w4) rfl (.inl ?_) ?_
    · unfold execOp
      simp only [h39]
      simp [Instr.extract]
    have hT7 := hT6.putU (t := 44) (by decide) (hu4' 44 (by decide)) v
    have h07 : (a6.put (some 44) v).eval (.tmp 0) = .pointer (some ⟨hb, ho, none⟩) := by rw [eval_ne hT6.size (by decide) (by decide)]; exact h06
    have h397 : (a6.put (some 44) v).eval (.tmp 39) = .tuple #[v, .bool b] := by rw [eval_ne hT6.size (by decide) (by decide)]; exact h39
    have h44 : (a6.put (some 44) v).eval (.tmp 44) = v := eval_self hT6.size (by decide)
    revert hT7 h07 h397 h44
    generalize a6.put (some 44) v = a7
    intro hT7 h07 h397 h44
    refine st (v := .bool b) (w' := w4) rfl (.inl ?_) ?_
    · unfold execOp
      simp only [h397]
      simp [Instr.extract]
    have hT8 := hT7.putU (t := 45) (by decide) (hu4' 45 (by decide)) (.bool b)
    have h08 : (a7.put (some 45) (.bool b)).eval (.tmp 0) = .pointer (some ⟨hb, ho, none⟩) := by rw [eval_ne hT7.size (by decide) (by decide)]; exact h07
    have h448 : (a7.put (some 45) (.bool b)).eval (.tmp 44) = v := by rw [eval_ne hT7.size (by decide) (by decide)]; exact h44
    have h45 : (a7.put (some 45) (.bool b)).eval (.tmp 45) = .bool b := eval_self hT7.size (by decide)
    revert hT8 h08 h448 h45
    generalize a7.put (some 45) (.bool b) = a8
    intro hT8 h08 h448 h45
    refine st (v := v) (w' := w4) rfl (.inl (congrArg (fun v => Result.ok (Next.value v) w4) h448)) ?_
    have hT9 := hT8.putU (t := 8) (by decide) (hu4' 8 (by decide)) v
    have h09 : (a8.put (some 8) v).eval (.tmp 0) = .pointer (some ⟨hb, ho, none⟩) := by rw [eval_ne hT8.size (by decide) (by decide)]; exact h08
    have h459 : (a8.put (some 8) v).eval (.tmp 45) = .bool b := by rw [eval_ne hT8.size (by decide) (by decide)]; exact h45
    have h8 : (a8.put (some 8) v).eval (.tmp 8) = v := eval_self hT8.size (by decide)
    revert hT9 h09 h459 h8
    generalize a8.put (some 8) v = a9
    intro hT9 h09 h459 h8
    refine st (v := .bool b) (w' := w4) rfl (.inl (congrArg (fun v => Result.ok (Next.value v) w4) h459)) ?_
    have hT10 := hT9.putU (t := 9) (by decide) (hu4' 9 (by decide)) (.bool b)
    have h010 : (a9.put (some 9) (.bool b)).eval (.tmp 0) = .pointer (some ⟨hb, ho, none⟩) := by rw [eval_ne hT9.size (by decide) (by decide)]; exact h09
    have h810 : (a9.put (some 9) (.bool b)).eval (.tmp 8) = v := by rw [eval_ne hT9.size (by decide) (by decide)]; exact h8
    have h9 : (a9.put (some 9) (.bool b)).eval (.tmp 9) = .bool b := eval_self hT9.size (by decide)
    revert hT10 h010 h810 h9
    generalize a9.put (some 9) (.bool b) = a10
    intro hT10 h010 h810 h9
    refine wp_seq (wp_region_list ?_)
    refine st (v := .bool b) (w' := w4) rfl (.inl (congrArg (fun v => Result.ok (Next.value v) w4) h9)) ?_
    have hT11 := hT10.putU (t := 46) (by decide) (hu4' 46 (by decide)) (.bool b)
    have h011 : (a10.put (some 46) (.bool b)).eval (.tmp 0) = .pointer (some ⟨hb, ho, none⟩) := by rw [eval_ne hT10.size (by decide) (by decide)]; exact h010
    have h811 : (a10.put (some 46) (.bool b)).eval (.tmp 8) = v := by rw [eval_ne hT10.size (by decide) (by decide)]; exact h810
    have h46 : (a10.put (some 46) (.bool b)).eval (.tmp 46) = .bool b := eval_self hT10.size (by decide)
    revert hT11 h011 h811 h46
    generalize a10.put (some 46) (.bool b) = a11
    intro hT11 h011 h811 h46
    obtain ⟨c1, c2, c3, c5, c7, c0⟩ := h
    have u47 := hu4' 47 (by decide)
    refine wp_cond_split h46 (fun e => ?_) (fun e => ?_)
    · rw [e] at hbb
      rcases has5 hbb with rfl | rfl | rfl | rfl | rfl
      · refine callVC_ok hE (c1 ⟨rfl⟩) hB4 hT11 (h811.trans (Rc_inv hRc)) h011 u47 ?_ (ops := _) (hops := rfl) ?_ ?_ ?_ ?_ ?_; (exact fun T' H' φ' w' a' k b t => hQ .ret T' H' φ' w' a' k b t); all_goals exact ⟨rfl, rfl, rfl⟩
      · refine callVC_ok hE (c2 ⟨rfl⟩) hB4 hT11 (h811.trans (Rc_inv hRc)) h011 u47 ?_ (ops := _) (hops := rfl) ?_ ?_ ?_ ?_ ?_; (exact fun T' H' φ' w' a' k b t => hQ .ret T' H' φ' w' a' k b t); all_goals exact ⟨rfl, rfl, rfl⟩
      · refine callVC_ok hE (c3 ⟨rfl⟩) hB4 hT11 (h811.trans (Rc_inv hRc)) h011 u47 ?_ (ops := _) (hops := rfl) ?_ ?_ ?_ ?_ ?_; (exact fun T' H' φ' w' a' k b t => hQ .ret T' H' φ' w' a' k b t); all_goals exact ⟨rfl, rfl, rfl⟩
      · refine callVC_ok hE (c5 ⟨rfl⟩) hB4 hT11 (h811.trans (Rc_inv hRc)) h011 u47 ?_ (ops := _) (hops := rfl) ?_ ?_ ?_ ?_ ?_; (exact fun T' H' φ' w' a' k b t => hQ .ret T' H' φ' w' a' k b t); all_goals exact ⟨rfl, rfl, rfl⟩
      · refine callVC_ok hE (c7 ⟨rfl⟩) hB4 hT11 (h811.trans (Rc_inv hRc)) h011 u47 ?_ (ops := _) (hops := rfl) ?_ ?_ ?_ ?_ ?_; (exact fun T' H' φ' w' a' k b t => hQ .ret T' H' φ' w' a' k b t); all_goals exact ⟨rfl, rfl, rfl⟩
    · refine wp_skip ?_
      have hno : ¬ oneOf k := fun ho1 => by
        rw [e] at hbb
        rcases ho1 with rfl | rfl | rfl | rfl | rfl <;> cases hbb
      exact code_ok hE hmix _ _ _ _ _ _ _ _ (c0 ⟨hno⟩) hB4 hT11 hQ
  · exact h.elim
end
end Go.Proofs.Ytipibgamajhgbaa

namespace Go.Proofs.Ytipibgamajhgbaa
open Go.RowKit
set_option linter.unusedVariables false
set_option linter.unusedSimpArgs false
structure Sk1 (c : Cfg) (l : Ltr) : Prop where
  ok : lcheck c l = 0
  dest : l.to = c.nodes
instance (c : Cfg) (l : Ltr) : Decidable (Sk1 c l) := decidable_of_iff (lcheck c l = 0 ∧ l.to = c.nodes) ⟨fun h => ⟨h.1, h.2⟩, fun h => ⟨h.1, h.2⟩⟩
def kindO (h : HS) (l : Ltr) (d : I3) : HO :=
  if l.kind = 1 then comeO h l else if l.kind = 2 then askO h l d else if l.kind = 3 then persO h l else if l.kind = 5 then doneO h l else if l.kind = 7 then acksO h l else ⟨h.xs, h.rows, []⟩
def takeO (h : HS) (l : Ltr) (d : I3) : HO := if Sk1 h.c l then kindO h l d else ⟨h.xs, h.rows, []⟩
theorem tk_eq {h : HS} {l : Ltr} (h1 : (lcheck h.c l != 0) = false) (h2 : (bif false then true else l.to != h.c.nodes) = false) : Sk1 h.c l := ⟨bne_eq_false_iff_eq.1 h1, bne_eq_false_iff_eq.1 h2⟩
theorem tkn1 {h : HS} {l : Ltr} {d : I3} (h1 : (lcheck h.c l != 0) = true) : takeO h l d = ⟨h.xs, h.rows, []⟩ := if_neg fun k => by rw [k.ok] at h1; cases h1
theorem tkn2 {h : HS} {l : Ltr} {d : I3} (h1 : (bif false then true else l.to != h.c.nodes) = true) : takeO h l d = ⟨h.xs, h.rows, []⟩ := if_neg fun k => by
  have : (l.to != h.c.nodes) = true := h1
  rw [k.dest] at this
  simp at this
theorem tk1 {h : HS} {l : Ltr} {d : I3} (s : Sk1 h.c l) (k : Hy (l.kind = 1)) : takeO h l d = comeO h l := by
  unfold takeO kindO
  rw [if_pos s, if_pos k.h]
theorem tk2 {h : HS} {l : Ltr} {d : I3} (s : Sk1 h.c l) (k : Hy (l.kind = 2)) : takeO h l d = askO h l d := by
  unfold takeO kindO
  rw [if_pos s, k.h]; rfl
theorem tk3 {h : HS} {l : Ltr} {d : I3} (s : Sk1 h.c l) (k : Hy (l.kind = 3)) : takeO h l d = persO h l := by
  unfold takeO kindO
  rw [if_pos s, k.h]; rfl
theorem tk5 {h : HS} {l : Ltr} {d : I3} (s : Sk1 h.c l) (k : Hy (l.kind = 5)) : takeO h l d = doneO h l := by
  unfold takeO kindO
  rw [if_pos s, k.h]; rfl
theorem tk7 {h : HS} {l : Ltr} {d : I3} (s : Sk1 h.c l) (k : Hy (l.kind = 7)) : takeO h l d = acksO h l := by
  unfold takeO kindO
  rw [if_pos s, k.h]; rfl
theorem tk0 {h : HS} {l : Ltr} {d : I3} (s : Sk1 h.c l) (k : Hy (¬ oneOf l.kind)) : takeO h l d = ⟨h.xs, h.rows, []⟩ := by
  have k := k.h
  unfold oneOf at k
  unfold takeO kindO
  rw [if_pos s, if_neg (fun e => k (by omega)), if_neg (fun e => k (by omega)), if_neg (fun e => k (by omega)), if_neg (fun e => k (by omega)), if_neg (fun e => k (by omega))]
structure PTH (h : HS) (l : Ltr) : Prop where
  nn : NN h.xs
  le : h.n ≤ 64
  ask : Sk1 h.c l → l.kind = 3 → PAsk h.n h.rows l.block l.frm
def cTakeH : Con where
  X := HS × Ltr × I3
  args := fun ⟨h, l, d⟩ => [pH, ALtr l, AI3 d]
  heap := fun ⟨h, l, d⟩ => hH false h.c h.n h.xs h.rows
  pre := fun ⟨h, l, d⟩ => PTH h l
  res := fun _ => .slc 5
  heap' := fun ⟨h, l, d⟩ => hHL false h.c h.n (takeO h l d).xs (takeO h l d).rows (takeO h l d).out
  pure := false
  find := findL
abbrev takeL : List (Nat × Con) := [(30, cCheck), (31, cCome), (32, cAskH), (33, cPersH), (34, cDoneH), (35, cAckH)]
theorem takeCons : Cons takeL :=
  Cons.cons cCheck_ok (Cons.cons cCome_ok (Cons.cons cAskH_ok (Cons.cons cPersH_ok (Cons.cons cDoneH_ok (Cons.cons cAckH_ok Cons.nil)))))
noncomputable abbrev takeRes (x : HS × Ltr × I3) : KT := fun e T H => match e with
  | .exit _ => False
  | _ => retD (env takeL) (cTakeH.heap x).n (Try.f12).results.toList (cTakeH.res x) (cTakeH.heap' x) T H
set_option maxRecDepth 100000 in
set_option maxHeartbeats 8000000 in
theorem takeVC (x : HS × Ltr × I3) (hp : cTakeH.pre x) : forceT (argT 0 (cTakeH.args x)) fun T0 => forceH (cTakeH.heap x) fun H0 => codeD (env takeL) 51 (cTakeH.heap x).n [(1, 17)] takeX T0 H0 fun e T H => match e with
    | .normal => codeD (env takeL) 51 (cTakeH.heap x).n [(1, 17)] takeY T H fun e T H => match e with
      | .exit _ => False
      | .ret => takeRes x .ret T H
      | .normal => restVC (env takeL) (cTakeH.heap x).n takeT (takeRes x) T H
    | _ => False := by
  obtain ⟨⟨c, n, xs, rows⟩, l, ⟨d1, d2, d3⟩⟩ := x
  replace hp : PTH ⟨c, n, xs, rows⟩ l := hp
  all_goals (repeat' (first
    | with_reducible refine iTr ?_
    | with_reducible refine iB ?_
    | intro _
    | exact True.intro
    | (show _ ∧ _
       first
        | refine aTT ?_
        | refine aTB ?_
        | refine aT ?_
        | refine aB ?_
        | refine a11 ?_
        | refine a01 ?_
        | refine a00 ?_
        | refine a10 ?_
        | (with_reducible refine And.intro rfl ?_)
        | refine And.intro ?_ ?_)
    | with_reducible exact rfl
    | with_reducible exact HEq.rfl
    | (show (_ : Option Nat) = _; exact rfl)
    | (show (_ : Option Blk) = _; exact rfl)
    | (with_reducible show (nodupB _ && _ && _ && _ && _) = true; exact (Eq.refl true))
    | (with_reducible show (nodupB _ && _ && _ && _) = true; exact (Eq.refl true))
    | (with_reducible show (nodupB _ && _ && _) = true; exact (Eq.refl true))
    | (with_reducible show freeOk _ _ = true; exact (Eq.refl true))
    | (with_reducible show wrOk _ _ _ _ _ = true; exact (Eq.refl true))
    | (show (_ : AV) = _; exact rfl)
    | (show (_ : Heap) = _; exact rfl)
    | (with_reducible show (_ || !_) = true; exact (Eq.refl true))
    | (with_reducible show Nat.beq _ _ = true; exact (Eq.refl true))))
  all_goals (first | (show (_ : Int) = _) | (show (_ : Bool) = _) | (show HEq _ _) | (show ∃ _ : LInv, _) | skip)
  all_goals (try (with_reducible exact rfl))
  all_goals (try dsimp only at *)
  all_goals (try (with_reducible exact HEq.rfl))
  all_goals (try exact hp.nn)
  all_goals (try exact ⟨hp.nn, hp.le⟩)
  all_goals (try exact ⟨hp.nn⟩)
  all_goals (first
    | exact heq_of_eq (congrArg HO.xs (tkn1 (h := ⟨c, n, xs, rows⟩) (by assumption))).symm
    | exact heq_of_eq (congrArg HO.rows (tkn1 (h := ⟨c, n, xs, rows⟩) (by assumption))).symm
    | exact heq_of_eq (congrArg HO.out (tkn1 (h := ⟨c, n, xs, rows⟩) (by assumption))).symm
    | exact heq_of_eq (congrArg HO.xs (tkn2 (h := ⟨c, n, xs, rows⟩) (by assumption))).symm
    | exact heq_of_eq (congrArg HO.rows (tkn2 (h := ⟨c, n, xs, rows⟩) (by assumption))).symm
    | exact heq_of_eq (congrArg HO.out (tkn2 (h := ⟨c, n, xs, rows⟩) (by assumption))).symm
    | exact heq_of_eq (congrArg HO.xs (tk1 (tk_eq (by assumption) (by assumption)) (by assumption))).symm
    | exact heq_of_eq (congrArg HO.rows (tk1 (tk_eq (by assumption) (by assumption)) (by assumption))).symm
    | exact heq_of_eq (congrArg HO.out (tk1 (tk_eq (by assumption) (by assumption)) (by assumption))).symm
    | exact heq_of_eq (congrArg HO.xs (tk2 (tk_eq (by assumption) (by assumption)) (by assumption))).symm
    | exact heq_of_eq (congrArg HO.rows (tk2 (tk_eq (by assumption) (by assumption)) (by assumption))).symm
    | exact heq_of_eq (congrArg HO.out (tk2 (tk_eq (by assumption) (by assumption)) (by assumption))).symm
    | exact heq_of_eq (congrArg HO.xs (tk3 (tk_eq (by assumption) (by assumption)) (by assumption))).symm
    | exact heq_of_eq (congrArg HO.rows (tk3 (tk_eq (by assumption) (by assumption)) (by assumption))).symm
    | exact heq_of_eq (congrArg HO.out (tk3 (tk_eq (by assumption) (by assumption)) (by assumption))).symm
    | exact heq_of_eq (congrArg HO.xs (tk5 (tk_eq (by assumption) (by assumption)) (by assumption))).symm
    | exact heq_of_eq (congrArg HO.rows (tk5 (tk_eq (by assumption) (by assumption)) (by assumption))).symm
    | exact heq_of_eq (congrArg HO.out (tk5 (tk_eq (by assumption) (by assumption)) (by assumption))).symm
    | exact heq_of_eq (congrArg HO.xs (tk7 (tk_eq (by assumption) (by assumption)) (by assumption))).symm
    | exact heq_of_eq (congrArg HO.rows (tk7 (tk_eq (by assumption) (by assumption)) (by assumption))).symm
    | exact heq_of_eq (congrArg HO.out (tk7 (tk_eq (by assumption) (by assumption)) (by assumption))).symm
    | exact heq_of_eq (congrArg HO.xs (tk0 (h := ⟨c, n, xs, rows⟩) (tk_eq (by assumption) (by assumption)) (by assumption))).symm
    | exact heq_of_eq (congrArg HO.rows (tk0 (h := ⟨c, n, xs, rows⟩) (tk_eq (by assumption) (by assumption)) (by assumption))).symm
    | exact heq_of_eq (congrArg HO.out (tk0 (h := ⟨c, n, xs, rows⟩) (tk_eq (by assumption) (by assumption)) (by assumption))).symm
    | (show PPH _ _; exact ⟨hp.nn, hp.ask (tk_eq (by assumption) (by assumption)) (Hy.h (by assumption))⟩)
    | exact HEq.rfl
    | skip)
set_option maxRecDepth 100000 in
set_option maxHeartbeats 8000000 in
theorem cTakeH_ok : cTakeH.Ok Try.prog 12 := by
  refine fun_ok_of Try.func12 (by decide) (show _ = some (takeX.seq (takeY.seq takeR)) from rfl) (env_ok takeCons) cTakeH (fun _ => rfl) (fun h => by cases h) (fun _ => Nat.le_of_ble_eq_true rfl) ?_
  intro x hp ha hb F φ w a Q hB hT hQ
  have hVC := takeVC x hp
  simp only [forceT_eq, forceH_eq] at hVC
  refine wp_seq (code_ok (env_ok takeCons) mixedP takeX _ _ _ _ _ _ _ hVC hB hT ?_)
  intro e T' H' φ' w' a' hk hB' hT'
  cases e with
  | exit i => exact hk.elim
  | ret => exact hk.elim
  | normal =>
    refine wp_seq (code_ok (env_ok takeCons) mixedP takeY _ _ _ _ _ _ _ hk hB' hT' ?_)
    intro e T2 H2 φ2 w2 a2 hk2 hB2 hT2
    cases e with
    | exit i => exact hk2.elim
    | ret => exact hQ .ret _ _ _ _ _ hk2 hB2 hT2
    | normal => exact rest_ok (env_ok takeCons) hk2 hB2 hT2 mixedP hQ
end Go.Proofs.Ytipibgamajhgbaa
