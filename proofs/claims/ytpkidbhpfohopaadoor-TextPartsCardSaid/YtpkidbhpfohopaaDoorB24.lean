/- Layer 24's laws: the bridge from a contract to a law's walk; the wrap of a row, its listed variables laid and its world shaped. No condition. -/
import Derived.Test.YtpkidbhpfohopaaDoorN17
import Derived.Handed
noncomputable section
namespace Go.Proofs.YtpkidbhpfohopaaDoor
open Go.RowKit
set_option linter.unusedVariables false
set_option linter.unusedSimpArgs false
def fr0 : Nat → RS := fun _ => ⟨0, 0, 0, true⟩
abbrev C0 (w : World) : Cx := cx FxB fr0 hp0 w
theorem rel0 {w : World} (h : St w) : Rel FxB fr0 hp0 w :=
  ⟨⟨FxB, fun _ h => h, fun x hx => h.keep hx⟩, fun _ _ h => (by cases h), fun _ _ h => (by cases h), fun _ _ _ _ h => (by cases h), fun _ _ h => (by cases h), fun _ hb => h.lt hb⟩
theorem mt0 (w : World) {b : Nat} (hb : ¬ FxB b) : ¬ (C0 w).mt b := by
  rintro (⟨id, k, h, -⟩ | h)
  · cases h
  · exact hb h
theorem walk_of_con {P : Program} {f : FuncId} {c : Con} (hc : c.Ok P f) (x : c.X) (hpre : c.pre x) (hh : c.heap x = hp0) (hh' : c.heap' x = hp0) (hres : c.res x = .bool true) {w : World} (hst : St w) (vs : List Value) (hv : RVs (C0 w) (c.args x) vs) :
    Calls P f vs.toArray w fun e w' => e = .returned (.bool true) ∧ Below w.heap.size w w' := by
  have h := hc.calls x hpre FxB fr0 w vs (by rw [hh]; exact rel0 hst) (by rw [hh]; exact hv)
  refine h.mono fun e w' ⟨v, he, φ', h1, h2, h3⟩ => ?_
  rw [hh] at h3
  have h1 : RV (cx FxB φ' (c.heap' x) w') (c.res x) v := h1
  rw [hres] at h1
  have e1 := rv_bool_inv h1
  subst e1
  refine ⟨he, h3.os, h3.tape, h3.output, h3.le.size, fun b hb => h3.le.blk b hb ?_⟩
  rintro ⟨id, k, h, -⟩
  cases h
/-- Two ints behind one another lie in none of the library's variables. -/
theorem two_fx {w : World} (h : St w) {b o : Nat} {x y : Int} (h1 : w.cell? ⟨b, o, none⟩ = some (.int .i64 x)) (h2 : w.cell? ⟨b, o + 1, none⟩ = some (.int .i64 y)) : ¬ FxB b := by
  rintro (rfl | rfl | rfl | rfl)
  · obtain ⟨m, t, f, e⟩ := h.ml
    rw [Lib.cell_of_heap e] at h2
    simp at h2
  · obtain ⟨t, f, e⟩ := h.tab
    rw [Lib.cell_of_heap e] at h1
    simp at h1
  · obtain ⟨tp, p, t, f, e⟩ := h.es
    rw [Lib.cell_of_heap e] at h2
    simp at h2
  · obtain ⟨tp, p, t, f, e⟩ := h.er
    rw [Lib.cell_of_heap e] at h2
    simp at h2
theorem rv_vsl {w : World} (hst : St w) {t : Ty} (cs : t.den → List Value) {A : Option Addr} {n c : Nat} {xs : List t.den} (R : Rdc cs t.sz w A n c xs) (hcs : ∀ x ∈ xs, Reps (C0 w) (enc t x) (cs x))
    (h2 : ∀ x ∈ xs, ∃ a b r, cs x = .int .i64 a :: .int .i64 b :: r) : RV1 (C0 w) (.vsl t xs) (.slice A n c) := by
  obtain ⟨⟨h1, h3, h5, h4⟩, hn⟩ := R
  subst h1
  refine Reps.vsl (fun i => ((xs[i]?).map cs).getD []) h3 ?_ (fun h0 => ?_) (fun i x hx => ?_) .nil
  · exact ⟨h5, hn⟩
  · obtain ⟨b, off, hA, hb, hcell⟩ := h4 h0
    refine ⟨b, off, hA, mt0 w ?_, hb, fun i hi j v hv => ?_⟩
    · obtain ⟨p, q, r, e⟩ := h2 _ (List.getElem_mem h0)
      have c1 := hcell 0 0 _ (.int .i64 p) (List.getElem?_eq_getElem h0) (by rw [e]; rfl)
      have c2 := hcell 0 1 _ (.int .i64 q) (List.getElem?_eq_getElem h0) (by rw [e]; rfl)
      exact two_fx hst c1 c2
    · rw [List.getElem?_eq_getElem hi] at hv
      exact hcell i j _ v (List.getElem?_eq_getElem hi) hv
  · rw [hx]
    exact hcs x (List.mem_of_getElem? hx)
theorem reps_ent {C : Cx} {e : Ent} (h : okEnt e) : Reps C (enc .ent e) e.cs := by
  obtain ⟨h1, h2, h3, h4, h5⟩ := h
  exact .int h1.1 h1.2 (.int h2.1 h2.2 (.int h3.1 h3.2 (.int h4.1 h4.2 (.int h5.1 h5.2 .nil))))
theorem reps_don {C : Cx} {d : Don} (h : okDon d) : Reps C (enc .don d) d.cs := by
  obtain ⟨h1, h2, ⟨h3, h4⟩, h5, h6⟩ := h
  exact .int h1.1 h1.2 (.int h2.1 h2.2 (.int h3.1 h3.2 (.bool (.int h4.1 h4.2 (.int h5.1 h5.2 (.int h6.1 h6.2 .nil))))))
theorem reps_cfg {C : Cx} {c : Cfg} (h : okCfg c) : Reps C (enc .cfg c) c.cs := by
  obtain ⟨h1, h2, h3, h4, h5, h6, h7, h8, h9⟩ := h
  exact .int h1.1 h1.2 (.int h2.1 h2.2 (.int h3.1 h3.2 (.int h4.1 h4.2 (.int h5.1 h5.2 (.int h6.1 h6.2 (.int h7.1 h7.2 (.int h8.1 h8.2 (.int h9.1 h9.2 .nil))))))))
theorem rv_cfg {C : Cx} {c : Cfg} (h : okCfg c) : RV1 C (.agg (enc .cfg c)) (.agg c.cs.toArray) := ⟨_, rfl, reps_cfg h⟩
theorem rv_ents {w : World} (hst : St w) {A : Option Addr} {n c : Nat} {xs : List Ent} (R : Rdc Ent.cs 5 w A n c xs) (hw : ∀ r ∈ xs, okEnt r) : RV1 (C0 w) (.vsl .ent xs) (.slice A n c) :=
  rv_vsl hst (t := .ent) Ent.cs R (fun r hr => reps_ent (hw r hr)) (fun r _ => ⟨_, _, _, rfl⟩)
theorem rv_dons {w : World} (hst : St w) {A : Option Addr} {n c : Nat} {xs : List Don} (R : Rdc Don.cs 7 w A n c xs) (hw : ∀ r ∈ xs, okDon r) : RV1 (C0 w) (.vsl .don xs) (.slice A n c) :=
  rv_vsl hst (t := .don) Don.cs R (fun r hr => reps_don (hw r hr)) (fun r _ => ⟨_, _, _, rfl⟩)
/-! ### the wrap -/
section
variable {H : Type} {enc : TypeId × Value → H}
theorem ret_and_shaped {a : Assume} {C : Checked} {os : Os} {f : FuncId} {fn : Func} {s : ChangeSpec} {conds : List PathCond} {apart fresh handsOn again : Bool} {X : World → Array Value → Prop}
    (hX : ∀ (w w' : World) (args : Array Value), w.heap = w'.heap → X w args → X w' args)
    (own : ownKnob C.prog.godebug = none) (started : os.Started) (noInit : C.prog.inits.idxOf? f = none) (hfn : C.prog.funcs[f]? = some fn)
    (witness : ∃ (w : World) (tape : Tape) (i : Input), w.os = os ∧ (w.forCall tape i).Shaped C.prog ∧ i.vars = [] ∧ Input.okWide C.prog (w.forCall tape i) .any w.heap.size f i ∧
      ((s.pre enc C.prog fn conds apart (w.forCall tape i).memory i.args ∧ X (w.forCall tape i).memory i.args) ∧ sizedMet enc C.prog fn (OpenSpec.ofChange s) apart (w.forCall tape i).memory i.args) ∧ a.holds C.prog (lone (Frame.enter C.prog f i.args .normal) [] (w.forCall tape i)))
    (contract : ∀ (W : World) (base : Nat) (args : Array Value) (ds gs : List (DataW H)) (before : List MemPlace),
      (∀ (j : Nat) t v, fn.params[j]? = some t → args[j]? = some v → Value.okWide C.prog W .any base t v) →
      DataW.Whole enc C.prog fn.params.toList s.vars apart W args.toList ds gs before → X W args → W.ShapedOpen C.prog →
      Calls C.prog f args W fun e W' => ∃ v, e = .returned v ∧ s.post enc C.prog fn apart fresh handsOn again W args v W') :
    ReturnsInHanded a C os f .any (fun w args => (s.pre enc C.prog fn conds apart w args ∧ X w args) ∧ sizedMet enc C.prog fn (OpenSpec.ofChange s) apart w args) (s.post enc C.prog fn apart fresh handsOn again) := by
  refine returnsInHanded_of_calls own started noInit witness ?_
  intro w tape i _ hsh _ hok hpre _
  obtain ⟨_, _, _, fn', hfn', _, _, _, _, hval⟩ := hok
  obtain rfl : fn' = fn := Option.some.inj (hfn'.symm.trans hfn)
  obtain ⟨⟨⟨ds, gs, before, hw, _⟩, hx⟩, _⟩ := hpre
  refine (contract (w.forCall tape i) w.heap.size i.args ds gs before hval (DataW.Whole.of_heap (w' := w.forCall tape i) (by rfl) hw) (hX _ _ _ (by rfl) hx) hsh).mono fun e W' ⟨v, he, hp⟩ => ?_
  subst he
  exact ChangeSpec.post_blind hp
end
end Go.Proofs.YtpkidbhpfohopaaDoor
