/- The laws' own functions, and the bridge from a contract to a law's walk. No condition. -/
import Derived.Test.YtopbgpmajkcboaaY4
import Derived.Test.YtopbgpmajkcboaaY5
import Derived.Test.YtopbgpmajkcboaaY7
namespace Go.Proofs.Ytopbgpmajkcboaa
open Go.RowKit
set_option linter.unusedVariables false
set_option linter.unusedSimpArgs false
def fr0 : Nat → RS := fun _ => ⟨0, 0, 0, true⟩
abbrev C0 (w : World) : Cx := cx (fun _ => False) fr0 hp0 w
theorem rel0 (w : World) : Rel (fun _ => False) fr0 hp0 w :=
  ⟨fun _ _ h => (by cases h), fun _ _ h => (by cases h), fun _ _ _ _ h => (by cases h), fun _ _ h => (by cases h), fun _ h => False.elim h⟩
theorem mt0 (w : World) (b : Nat) : ¬ (C0 w).mt b := by
  rintro (⟨id, k, h, -⟩ | h)
  · cases h
  · exact h
theorem walk_of_con {P : Program} {f : FuncId} {c : Con} (hc : c.Ok P f) (x : c.X) (hpre : c.pre x) (hh : c.heap x = hp0) (hh' : c.heap' x = hp0) (hres : c.res x = .bool true) (w : World) (vs : List Value) (hv : RVs (C0 w) (c.args x) vs) :
    Calls P f vs.toArray w fun e w' => e = .returned (.bool true) ∧ Below w.heap.size w w' := by
  have h := hc.calls x hpre (fun _ => False) fr0 w vs (by rw [hh]; exact rel0 w) (by rw [hh]; exact hv)
  refine h.mono fun e w' ⟨v, he, φ', h1, h2, h3⟩ => ?_
  rw [hh] at h3
  have h1 : RV (cx (fun _ => False) φ' (c.heap' x) w') (c.res x) v := h1
  rw [hres] at h1
  have e1 := rv_bool_inv h1
  subst e1
  refine ⟨he, h3.os, h3.tape, h3.output, h3.le.size, fun b hb => h3.le.blk b hb ?_⟩
  rintro ⟨id, k, h, -⟩
  cases h
theorem rv_vsl {w : World} {t : Ty} (cs : t.den → List Value) {A : Option Addr} {n c : Nat} {xs : List t.den} (R : Rdc cs t.sz w A n c xs) (hcs : ∀ x ∈ xs, Reps (C0 w) (enc t x) (cs x)) : RV1 (C0 w) (.vsl t xs) (.slice A n c) := by
  obtain ⟨⟨h1, h2, h3, h4⟩, hn⟩ := R
  subst h1
  refine Reps.vsl (fun i => ((xs[i]?).map cs).getD []) h2 ?_ (fun h0 => ?_) (fun i x hx => ?_) .nil
  · exact ⟨h3, hn⟩
  · obtain ⟨b, off, hA, hb, hcell⟩ := h4 h0
    refine ⟨b, off, hA, mt0 w b, hb, fun i hi j v hv => ?_⟩
    rw [List.getElem?_eq_getElem hi] at hv
    exact hcell i j _ v (List.getElem?_eq_getElem hi) hv
  · rw [hx]
    exact hcs x (List.mem_of_getElem? hx)
theorem rv_I2 {w : World} {s : I2} (h : okI2 s) : RV1 (C0 w) (.agg [.arr 2 .int [s.a, s.b]]) (.agg #[.int .i64 s.a, .int .i64 s.b]) := by
  refine ⟨[.int .i64 s.a, .int .i64 s.b], rfl, ?_⟩
  exact Reps.arr (us := [.int .i64 s.a, .int .i64 s.b]) (vs := []) (plain_reps (az := [.int .i64 s.a, .int .i64 s.b]) rfl ⟨h.1, h.2, trivial⟩) rfl .nil
theorem rv_B2 {w : World} {s : B2} : RV1 (C0 w) (.agg [.arr 2 .bool [s.a, s.b]]) (.agg #[.bool s.a, .bool s.b]) := by
  refine ⟨[.bool s.a, .bool s.b], rfl, ?_⟩
  exact Reps.arr (us := [.bool s.a, .bool s.b]) (vs := []) (plain_reps (az := [.bool s.a, .bool s.b]) rfl trivial) rfl .nil
theorem rv_int0 {w : World} {n : Int} (h : okI n) : RV1 (C0 w) (AI n) (.int .i64 n) := plain_rv1 (a := AI n) rfl ⟨h, trivial⟩
theorem reps_act10 {w : World} {r : Act10} (h : okAct10 r) : Reps (C0 w) (enc .act10 r) r.cs :=
  plain_reps (az := enc .act10 r) rfl ⟨h.1, h.2.1, h.2.2.1, h.2.2.2.1, h.2.2.2.2, trivial⟩
def rightL (l : List Act10) : Bool := decide (l.length ≤ 200) && l.all fun a => decide (bcheck a.tok 1048576 = 0)
def cawake : Con where
  X := Unit
  args := fun _ => []
  heap := fun _ => hp0
  pre := fun _ => True
  res := fun _ => AB true
  heap' := fun _ => hp0
  pure := true
  find := fun args H => some ()
def cright : Con where
  X := List Act10
  args := fun l => [.vsl .act10 l]
  heap := fun _ => hp0
  pre := fun _ => True
  res := fun l => AB (rightL l)
  heap' := fun _ => hp0
  pure := true
  find := fun args H => match args with
    | [.vsl .act10 l] => some l
    | _ => none
theorem rightL_true {l : List Act10} {z : Act10} (h1 : l.length ≤ 200) (h : ∀ j, j < l.length → bcheck (l.getD j z).tok 1048576 = 0) : rightL l = true := by
  simp only [rightL, Bool.and_eq_true, decide_eq_true_eq, List.all_eq_true]
  refine ⟨h1, fun a ha => ?_⟩
  obtain ⟨j, hj, e⟩ := List.getElem_of_mem ha
  have := h j hj
  rwa [List.getD_eq_getElem?_getD, List.getElem?_eq_getElem hj, Option.getD_some, e] at this
theorem rightL_get {l : List Act10} {z : Act10} (h : rightL l = true) : l.length ≤ 200 ∧ ∀ j, j < l.length → bcheck (l.getD j z).tok 1048576 = 0 := by
  simp only [rightL, Bool.and_eq_true, decide_eq_true_eq, List.all_eq_true] at h
  refine ⟨h.1, fun j hj => ?_⟩
  rw [List.getD_eq_getElem?_getD, List.getElem?_eq_getElem hj, Option.getD_some]
  exact h.2 _ (List.getElem_mem _)
theorem rightL_false {l : List Act10} {z : Act10} {j : Nat} (h1 : j < l.length) (h : ¬ bcheck (l.getD j z).tok 1048576 = 0) : false = rightL l := by
  cases e : rightL l
  · rfl
  · exact absurd ((rightL_get e).2 j h1) h
theorem rightL_long {l : List Act10} (h : 200 < l.length) : false = rightL l := by
  cases e : rightL l
  · rfl
  · have := (rightL_get (z := ⟨0, 0, 0, false, false, bun0⟩) e).1
    omega
set_option maxHeartbeats 4000000 in
theorem cawake_ok : cawake.Ok Try.prog 8 := by
  refine fun_ok (env_ok (Cons.cons cNew_ok (Cons.cons cTake_ok (Cons.cons cGet_ok (Cons.cons cPut_ok (Cons.cons cAll_ok Cons.nil)))))) mixedP Try.func8 (by decide) rfl cawake [(8, 33)] (fun _ => rfl) (fun _ _ => ⟨rfl, fun id k h => by cases h⟩) (fun _ => Nat.le_of_ble_eq_true rfl) ?_
  rintro ⟨⟩ - - -
  all_goals (repeat' (first
    | with_reducible refine iTr ?_
    | with_reducible refine iB ?_
    | intro _
    | exact True.intro
    | (show _ ∧ _
       first
        | refine aTT ?_
        | refine aTB ?_
        | refine aT ?_
        | refine aB ?_
        | refine a11 ?_
        | refine a01 ?_
        | refine a00 ?_
        | refine a10 ?_
        | (with_reducible refine And.intro rfl ?_)
        | refine And.intro ?_ ?_)
    | with_reducible exact rfl
    | with_reducible exact HEq.rfl
    | (show (_ : Option Nat) = _; exact rfl)
    | (show (_ : Option Blk) = _; exact rfl)
    | (show (_ : Nat) = _; exact rfl)
    | (show (_ : Bool) = true; exact (Eq.refl true))))
  all_goals (first | (show (_ : Int) = _) | (show (_ : Bool) = _) | (show HEq _ _) | (show ∃ _ : LInv, _) | skip)
  all_goals (try (with_reducible exact rfl))
  · show 0 ≤ _
    decide
  · show _ ≤ 64
    decide
  · rename_i h
    exact absurd h (by decide +kernel)
set_option maxHeartbeats 4000000 in
theorem cright_ok : cright.Ok Try.prog 9 := by
  refine fun_ok (env_ok (Cons.cons crRight_ok Cons.nil)) mixedP Try.func9 (by decide) rfl cright [] (fun _ => rfl) (fun _ _ => ⟨rfl, fun id k h => by cases h⟩) (fun _ => Nat.le_of_ble_eq_true rfl) ?_
  rintro (l : List Act10) - - -
  all_goals (repeat' (first
    | with_reducible refine iTr ?_
    | with_reducible refine iB ?_
    | intro _
    | exact True.intro
    | (show _ ∧ _
       first
        | refine aTT ?_
        | refine aTB ?_
        | refine aT ?_
        | refine aB ?_
        | refine a11 ?_
        | refine a01 ?_
        | refine a00 ?_
        | refine a10 ?_
        | (with_reducible refine And.intro rfl ?_)
        | refine And.intro ?_ ?_)
    | with_reducible exact rfl
    | with_reducible exact HEq.rfl
    | (show (_ : Option Nat) = _; exact rfl)
    | (show (_ : Option Blk) = _; exact rfl)
    | (show (_ : Nat) = _; exact rfl)
    | (show (_ : Bool) = true; exact (Eq.refl true))))
  all_goals (first | (show (_ : Int) = _) | (show (_ : Bool) = _) | (show HEq _ _) | (show ∃ _ : LInv, _) | skip)
  all_goals (try (with_reducible exact rfl))
  all_goals try (refine ⟨⟨{i : Nat // i ≤ l.length ∧ l.length ≤ 200 ∧ ∀ j, j < i → bcheck (l.getD j Ty.act10.dflt).tok 1048576 = 0}, fun i => [(10, AI i.1), (9, AI l.length), (8, .vsl .act10 l)], fun i => ⟨0, []⟩, fun i => l.length - i.1⟩, ⟨⟨0, Nat.zero_le _, by simp_all; omega, fun j hj => absurd hj (Nat.not_lt_zero _)⟩, [], ?_⟩, ?_⟩; rotate_right; rintro ⟨i, hi, hl, ht⟩)
  all_goals (repeat' (first
    | with_reducible refine iTr ?_
    | with_reducible refine iB ?_
    | intro _
    | exact True.intro
    | (show _ ∧ _
       first
        | refine aTT ?_
        | refine aTB ?_
        | refine aT ?_
        | refine aB ?_
        | refine a11 ?_
        | refine a01 ?_
        | refine a00 ?_
        | refine a10 ?_
        | (with_reducible refine And.intro rfl ?_)
        | refine And.intro ?_ ?_)
    | with_reducible exact rfl
    | with_reducible exact HEq.rfl
    | (show (_ : Option Nat) = _; exact rfl)
    | (show (_ : Option Blk) = _; exact rfl)
    | (show (_ : Nat) = _; exact rfl)
    | (show (_ : Bool) = true; exact (Eq.refl true))))
  all_goals (first | (show (_ : Int) = _) | (show (_ : Bool) = _) | (show HEq _ _) | (show ∃ _ : LInv, _) | skip)
  all_goals (try (with_reducible exact rfl))
  all_goals try (refine ⟨⟨i + 1, ?_, ?_, ?_⟩, ?_, ?_⟩)
  all_goals (repeat' (first
    | with_reducible refine iTr ?_
    | with_reducible refine iB ?_
    | intro _
    | exact True.intro
    | (show _ ∧ _
       first
        | refine aTT ?_
        | refine aTB ?_
        | refine aT ?_
        | refine aB ?_
        | refine a11 ?_
        | refine a01 ?_
        | refine a00 ?_
        | refine a10 ?_
        | (with_reducible refine And.intro rfl ?_)
        | refine And.intro ?_ ?_)
    | with_reducible exact rfl
    | with_reducible exact HEq.rfl
    | (show (_ : Option Nat) = _; exact rfl)
    | (show (_ : Option Blk) = _; exact rfl)
    | (show (_ : Nat) = _; exact rfl)
    | (show (_ : Bool) = true; exact (Eq.refl true))))
  all_goals (first | (show (_ : Int) = _) | (show (_ : Bool) = _) | (show HEq _ _) | (show ∃ _ : LInv, _) | skip)
  all_goals (try (with_reducible exact rfl))
  all_goals (try dsimp only at *)
  all_goals (try simp only [decide_eq_true_eq, decide_eq_false_iff_not] at *)
  all_goals (first | omega | exact rightL_long (by omega) | exact rightL_false (z := Ty.act10.dflt) (j := i) (by omega) (by simpa using ‹(!decide (bcheck _ 1048576 = 0)) = true›) | exact wrap_succ (by omega) | exact (rightL_true (by omega) (fun j hj => ht j (by omega))).symm | (rename_i j hj hx1 hx2; rcases Nat.lt_or_ge j i with hlt | hge; exact ht j hlt; obtain rfl : j = i := (by omega); simpa using ‹(!decide (bcheck _ 1048576 = 0)) = false›))
end Go.Proofs.Ytopbgpmajkcboaa
