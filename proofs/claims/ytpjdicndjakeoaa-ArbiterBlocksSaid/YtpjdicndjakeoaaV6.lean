/- Layer 12's laws: awake, and the bridge from a contract to a law's walk. No condition. -/
import Derived.Test.YtpjdicndjakeoaaV5
namespace Go.Proofs.Ytpjdicndjakeoaa
open Go.RowKit
set_option linter.unusedVariables false
set_option linter.unusedSimpArgs false
def fr0 : Nat → RS := fun _ => ⟨0, 0, 0, true⟩
abbrev C0 (w : World) : Cx := cx (fun _ => False) fr0 hp0 w
theorem rel0 (w : World) : Rel (fun _ => False) fr0 hp0 w :=
  ⟨fun _ _ h => (by cases h), fun _ _ h => (by cases h), fun _ _ _ _ h => (by cases h), fun _ _ h => (by cases h), fun _ h => False.elim h⟩
theorem mt0 (w : World) (b : Nat) : ¬ (C0 w).mt b := by
  rintro (⟨id, k, h, -⟩ | h)
  · cases h
  · exact h
theorem walk_of_con {P : Program} {f : FuncId} {c : Con} (hc : c.Ok P f) (x : c.X) (hpre : c.pre x) (hh : c.heap x = hp0) (hh' : c.heap' x = hp0) (hres : c.res x = .bool true) (w : World) (vs : List Value) (hv : RVs (C0 w) (c.args x) vs) :
    Calls P f vs.toArray w fun e w' => e = .returned (.bool true) ∧ Below w.heap.size w w' := by
  have h := hc.calls x hpre (fun _ => False) fr0 w vs (by rw [hh]; exact rel0 w) (by rw [hh]; exact hv)
  refine h.mono fun e w' ⟨v, he, φ', h1, h2, h3⟩ => ?_
  rw [hh] at h3
  have h1 : RV (cx (fun _ => False) φ' (c.heap' x) w') (c.res x) v := h1
  rw [hres] at h1
  have e1 := rv_bool_inv h1
  subst e1
  refine ⟨he, h3.os, h3.tape, h3.output, h3.le.size, fun b hb => h3.le.blk b hb ?_⟩
  rintro ⟨id, k, h, -⟩
  cases h
theorem rv_vsl {w : World} {t : Ty} (cs : t.den → List Value) {A : Option Addr} {n c : Nat} {xs : List t.den} (R : Rdc cs t.sz w A n c xs) (hcs : ∀ x ∈ xs, Reps (C0 w) (enc t x) (cs x)) : RV1 (C0 w) (.vsl t xs) (.slice A n c) := by
  obtain ⟨⟨h1, h2, h3, h4⟩, hn⟩ := R
  subst h1
  refine Reps.vsl (fun i => ((xs[i]?).map cs).getD []) h2 ?_ (fun h0 => ?_) (fun i x hx => ?_) .nil
  · exact ⟨h3, hn⟩
  · obtain ⟨b, off, hA, hb, hcell⟩ := h4 h0
    refine ⟨b, off, hA, mt0 w b, hb, fun i hi j v hv => ?_⟩
    rw [List.getElem?_eq_getElem hi] at hv
    exact hcell i j _ v (List.getElem?_eq_getElem hi) hv
  · rw [hx]
    exact hcs x (List.mem_of_getElem? hx)
theorem rv_I2 {w : World} {s : I2} (h : okI2 s) : RV1 (C0 w) (.agg [.arr 2 .int [s.a, s.b]]) (.agg #[.int .i64 s.a, .int .i64 s.b]) := by
  refine ⟨[.int .i64 s.a, .int .i64 s.b], rfl, ?_⟩
  exact Reps.arr (us := [.int .i64 s.a, .int .i64 s.b]) (vs := []) (plain_reps (az := [.int .i64 s.a, .int .i64 s.b]) rfl ⟨h.1, h.2, trivial⟩) rfl .nil
theorem rv_int0 {w : World} {n : Int} (h : okI n) : RV1 (C0 w) (AI n) (.int .i64 n) := plain_rv1 (a := AI n) rfl ⟨h, trivial⟩
theorem rv_act12 {w : World} {r : Act12} (h : okAct12 r) : RV1 (C0 w) (.agg (enc .act12 r)) (.agg #[.int .i64 r.kind, .int .i64 r.block, .int .i64 r.seq, .int .i64 r.node]) :=
  plain_rv1 (a := .agg (enc .act12 r)) rfl ⟨h.1, h.2.1, h.2.2.1, h.2.2.2, trivial⟩
theorem reps_act12 {w : World} {r : Act12} (h : okAct12 r) : Reps (C0 w) (enc .act12 r) r.cs :=
  plain_reps (az := enc .act12 r) rfl ⟨h.1, h.2.1, h.2.2.1, h.2.2.2, trivial⟩
def cawake : Con where
  X := Unit
  args := fun _ => []
  heap := fun _ => hp0
  pre := fun _ => True
  res := fun _ => AB true
  heap' := fun _ => hp0
  pure := true
  find := fun args H => some ()
set_option maxRecDepth 100000 in
set_option maxHeartbeats 8000000 in
theorem cawake_ok : cawake.Ok Try.prog 9 := by
  refine fun_ok (env_ok (Cons.cons cNewA_ok (Cons.cons cAsk_ok (Cons.cons cDone_ok (Cons.cons cAck_ok (Cons.cons cCur_ok (Cons.cons cWait_ok (Cons.cons cInts_ok Cons.nil)))))))) mixedP Try.func9 (by decide) rfl cawake [] (fun _ => rfl) (fun _ _ => ⟨rfl, fun id k h => by cases h⟩) (fun _ => Nat.le_of_ble_eq_true rfl) ?_
  rintro ⟨⟩ - - -
  all_goals (repeat' (first
    | with_reducible refine iTr ?_
    | with_reducible refine iB ?_
    | intro _
    | exact True.intro
    | (show _ ∧ _
       first
        | refine aTT ?_
        | refine aTB ?_
        | refine aT ?_
        | refine aB ?_
        | refine a11 ?_
        | refine a01 ?_
        | refine a00 ?_
        | refine a10 ?_
        | (with_reducible refine And.intro rfl ?_)
        | refine And.intro ?_ ?_)
    | with_reducible exact rfl
    | with_reducible exact HEq.rfl
    | (show (_ : Option Nat) = _; exact rfl)
    | (show (_ : Option Blk) = _; exact rfl)
    | (with_reducible show (nodupB _ && _ && _ && _ && _) = true; exact (Eq.refl true))
    | (with_reducible show (nodupB _ && _ && _ && _) = true; exact (Eq.refl true))
    | (with_reducible show (nodupB _ && _ && _) = true; exact (Eq.refl true))
    | (with_reducible show freeOk _ _ = true; exact (Eq.refl true))
    | (with_reducible show wrOk _ _ _ _ _ = true; exact (Eq.refl true))
    | (show (_ : AV) = _; exact rfl)
    | (show (_ : Heap) = _; exact rfl)
    | (with_reducible show (_ || !_) = true; exact (Eq.refl true))
    | (with_reducible show Nat.beq _ _ = true; exact (Eq.refl true))))
  all_goals (first | (show (_ : Int) = _) | (show (_ : Bool) = _) | (show HEq _ _) | (show ∃ _ : LInv, _) | skip)
  all_goals (try (with_reducible exact rfl))
  all_goals (first
    | exact ⟨fun _ => ⟨by decide +kernel⟩⟩
    | exact ⟨by decide +kernel⟩
    | skip)
end Go.Proofs.Ytpjdicndjakeoaa

