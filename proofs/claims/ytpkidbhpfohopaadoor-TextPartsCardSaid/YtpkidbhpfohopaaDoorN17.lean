/- Layer 24: the laws by the engine, 1. No condition. -/
import Derived.Test.YtpkidbhpfohopaaDoorN16
noncomputable section
namespace Go.Proofs.YtpkidbhpfohopaaDoor
open Go.RowKit
set_option linter.unusedVariables false
set_option linter.unusedSimpArgs false
def cParses : Con where
  X := ByteArray
  args := fun s => [.str s]
  heap := fun _ => hp0
  pre := fun _ => True
  res := fun _ => .bool true
  heap' := fun _ => hp0
  pure := true
  find := fun args H => match args with
    | [.str s] => some s
    | _ => none
theorem cRParseN_ok : cTParse.Ok Tryd.prog 11 := cRParse_ok
theorem cfg_t {x : Cfg} : (x.nodes == x.nodes && (x.blocks == x.blocks && (x.tokens == x.tokens && (x.sets == x.sets && (x.ways == x.ways && (x.cap == x.cap && (x.wait == x.wait && (x.tries == x.tries && (x.policy == x.policy && true))))))))) = true := by simp
set_option maxRecDepth 100000 in
set_option maxHeartbeats 8000000 in
theorem cParses_ok : cParses.Ok Tryd.prog 3 := by
  refine fun_ok (env_ok (Cons.cons cAwake_ok (Cons.cons cTParse_ok (Cons.cons cRParse_ok (Cons.cons cSame_ok Cons.nil))))) mixedP Tryd.func3 (by decide) rfl cParses [] (fun _ => rfl) (fun _ _ => ⟨rfl, fun id k h => by cases h⟩) (fun _ => Nat.le_of_ble_eq_true rfl) ?_
  rintro (s : ByteArray) hp ha hb
  clear ha hb hp
  all_goals (repeat' (first
    | with_reducible refine iTr ?_
    | with_reducible refine iB ?_
    | intro _
    | exact True.intro
    | (show _ ∧ _
       first
        | refine aTT ?_
        | refine aTB ?_
        | refine aT ?_
        | refine aB ?_
        | refine a11 ?_
        | refine a01 ?_
        | refine a00 ?_
        | refine a10 ?_
        | (with_reducible refine And.intro rfl ?_)
        | refine And.intro ?_ ?_)
    | with_reducible exact rfl
    | with_reducible exact HEq.rfl
    | (show (_ : Option Nat) = _; exact rfl)
    | (show (_ : Option Blk) = _; exact rfl)
    | (with_reducible show (nodupB _ && _ && _ && _ && _) = true; exact (Eq.refl true))
    | (with_reducible show (nodupB _ && _ && _ && _) = true; exact (Eq.refl true))
    | (with_reducible show (nodupB _ && _ && _) = true; exact (Eq.refl true))
    | (with_reducible show freeOk _ _ = true; exact (Eq.refl true))
    | (with_reducible show wrOk _ _ _ _ _ = true; exact (Eq.refl true))
    | (show (_ : AV) = _; exact rfl)
    | (show (_ : ByteArray) = _; with_reducible exact rfl)
    | (show (_ : Heap) = _; exact rfl)
    | (with_reducible show (_ || !_) = true; exact (Eq.refl true))
    | (with_reducible show Nat.beq _ _ = true; exact (Eq.refl true))))
  all_goals (first | (show (_ : Int) = _) | (show (_ : Bool) = _) | (show (_ : ByteArray) = _) | (show HEq _ _) | (show ∃ _ : LInv, _) | skip)
  all_goals (try (with_reducible exact rfl))
  all_goals (try dsimp only at *)
  all_goals (try simp only [cfg_t, beq_self_eq_true, Int.reduceToNat, Int.toNat_natCast, cond_true, cond_false, Bool.not_true, Bool.not_false, decide_eq_true_eq, decide_eq_false_iff_not, Bool.not_eq_true', Bool.not_eq_false', bne_iff_ne, ne_eq, bne_eq_false_iff_eq, beq_iff_eq, beq_eq_false_iff_ne] at *)
  all_goals (first
    | omega
    | exact rfl
    | exact HEq.rfl
    | (show s.size ≤ 100000; omega)
    | (simp only [List.length_nil]; omega)
    | contradiction
    | (simp at *; done)
    | skip)
  all_goals trace_state
def cPrints : Con where
  X := Cfg × List Ent
  args := fun x => [.agg (enc .cfg x.1), .vsl .ent x.2]
  heap := fun _ => hp0
  pre := fun _ => True
  res := fun _ => .bool true
  heap' := fun _ => hp0
  pure := true
  find := fun args H => match args with
    | [.agg [.int _ a, .int _ b, .int _ c, .int _ d, .int _ e, .int _ f, .int _ g, .int _ h, .int _ i], v] => match slE H v with
      | some l => some (⟨a, b, c, d, e, f, g, h, i⟩, l)
      | none => none
    | _ => none
set_option maxRecDepth 100000 in
set_option maxHeartbeats 8000000 in
theorem cPrints_ok : cPrints.Ok Tryd.prog 4 := by
  refine fun_ok (env_ok (Cons.cons cAwake_ok (Cons.cons cTPrint_ok (Cons.cons cRPrint_ok Cons.nil)))) mixedP Tryd.func4 (by decide) rfl cPrints [(3, 9), (2000003, 1), (2000003, 3), (4000003, 0), (5000003, 0), (3000003, 2)] (fun _ => rfl) (fun _ _ => ⟨rfl, fun id k h => by cases h⟩) (fun _ => Nat.le_of_ble_eq_true rfl) ?_
  rintro ⟨(c : Cfg), (l : List Ent)⟩ hp ha hb
  clear ha hb hp
  all_goals (repeat' (first
    | with_reducible refine iTr ?_
    | with_reducible refine iB ?_
    | intro _
    | exact True.intro
    | (show _ ∧ _
       first
        | refine aTT ?_
        | refine aTB ?_
        | refine aT ?_
        | refine aB ?_
        | refine a11 ?_
        | refine a01 ?_
        | refine a00 ?_
        | refine a10 ?_
        | (with_reducible refine And.intro rfl ?_)
        | refine And.intro ?_ ?_)
    | with_reducible exact rfl
    | with_reducible exact HEq.rfl
    | (show (_ : Option Nat) = _; exact rfl)
    | (show (_ : Option Blk) = _; exact rfl)
    | (with_reducible show (nodupB _ && _ && _ && _ && _) = true; exact (Eq.refl true))
    | (with_reducible show (nodupB _ && _ && _ && _) = true; exact (Eq.refl true))
    | (with_reducible show (nodupB _ && _ && _) = true; exact (Eq.refl true))
    | (with_reducible show freeOk _ _ = true; exact (Eq.refl true))
    | (with_reducible show wrOk _ _ _ _ _ = true; exact (Eq.refl true))
    | (show (_ : AV) = _; exact rfl)
    | (show (_ : ByteArray) = _; with_reducible exact rfl)
    | (show (_ : Heap) = _; exact rfl)
    | (with_reducible show (_ || !_) = true; exact (Eq.refl true))
    | (with_reducible show Nat.beq _ _ = true; exact (Eq.refl true))))
  all_goals (first | (show (_ : Int) = _) | (show (_ : Bool) = _) | (show (_ : ByteArray) = _) | (show HEq _ _) | (show ∃ _ : LInv, _) | skip)
  all_goals (try (with_reducible exact rfl))
  all_goals (try dsimp only at *)
  all_goals (try simp only [cfg_t, beq_self_eq_true, Int.reduceToNat, Int.toNat_natCast, cond_true, cond_false, Bool.not_true, Bool.not_false, decide_eq_true_eq, decide_eq_false_iff_not, Bool.not_eq_true', Bool.not_eq_false', bne_iff_ne, ne_eq, bne_eq_false_iff_eq, beq_iff_eq, beq_eq_false_iff_ne] at *)
  all_goals (first
    | omega
    | exact rfl
    | exact HEq.rfl
    | (show l.length ≤ 10000; omega)
    | (simp only [List.length_nil]; omega)
    | contradiction
    | (simp at *; done)
    | skip)
  all_goals trace_state
theorem cfg_q {x y : Cfg} (h : x = y) : (x.nodes == y.nodes && (x.blocks == y.blocks && (x.tokens == y.tokens && (x.sets == y.sets && (x.ways == y.ways && (x.cap == y.cap && (x.wait == y.wait && (x.tries == y.tries && (x.policy == y.policy && true))))))))) = true := by
  subst h
  exact cfg_t
set_option maxRecDepth 100000 in
set_option maxHeartbeats 8000000 in
theorem cBack_ok : cPrints.Ok Tryd.prog 5 := by
  refine fun_ok (env_ok (Cons.cons cAwake_ok (Cons.cons cTPrint_ok (Cons.cons cTParse_ok (Cons.cons cSame_ok Cons.nil))))) mixedP Tryd.func5 (by decide) rfl cPrints [(3, 9), (2000003, 1), (2000003, 3), (4000003, 0), (5000003, 0), (3000003, 2)] (fun _ => rfl) (fun _ _ => ⟨rfl, fun id k h => by cases h⟩) (fun _ => Nat.le_of_ble_eq_true rfl) ?_
  rintro ⟨(c : Cfg), (l : List Ent)⟩ hp ha hb
  have hK : l.length ≤ 10000 → PnOk c l := fun hp => pn_ok ha hp
  clear ha hb hp
  all_goals (repeat' (first
    | with_reducible refine iTr ?_
    | with_reducible refine iB ?_
    | intro _
    | exact True.intro
    | (show _ ∧ _
       first
        | refine aTT ?_
        | refine aTB ?_
        | refine aT ?_
        | refine aB ?_
        | refine a11 ?_
        | refine a01 ?_
        | refine a00 ?_
        | refine a10 ?_
        | (with_reducible refine And.intro rfl ?_)
        | refine And.intro ?_ ?_)
    | with_reducible exact rfl
    | with_reducible exact HEq.rfl
    | (show (_ : Option Nat) = _; exact rfl)
    | (show (_ : Option Blk) = _; exact rfl)
    | (with_reducible show (nodupB _ && _ && _ && _ && _) = true; exact (Eq.refl true))
    | (with_reducible show (nodupB _ && _ && _ && _) = true; exact (Eq.refl true))
    | (with_reducible show (nodupB _ && _ && _) = true; exact (Eq.refl true))
    | (with_reducible show freeOk _ _ = true; exact (Eq.refl true))
    | (with_reducible show wrOk _ _ _ _ _ = true; exact (Eq.refl true))
    | (show (_ : AV) = _; exact rfl)
    | (show (_ : ByteArray) = _; with_reducible exact rfl)
    | (show (_ : Heap) = _; exact rfl)
    | (with_reducible show (_ || !_) = true; exact (Eq.refl true))
    | (with_reducible show Nat.beq _ _ = true; exact (Eq.refl true))))
  all_goals (first | (show (_ : Int) = _) | (show (_ : Bool) = _) | (show (_ : ByteArray) = _) | (show HEq _ _) | (show ∃ _ : LInv, _) | skip)
  all_goals (try (with_reducible exact rfl))
  all_goals (try dsimp only at *)
  all_goals (try simp only [cfg_t, beq_self_eq_true, Int.reduceToNat, Int.toNat_natCast, cond_true, cond_false, Bool.not_true, Bool.not_false, decide_eq_true_eq, decide_eq_false_iff_not, Bool.not_eq_true', Bool.not_eq_false', bne_iff_ne, ne_eq, bne_eq_false_iff_eq, beq_iff_eq, beq_eq_false_iff_ne] at *)
  all_goals (try simp only [List.nil_append, show (⟨c.nodes, c.blocks, c.tokens, c.sets, c.ways, c.cap, c.wait, c.tries, c.policy⟩ : Cfg) = c from rfl] at *)
  all_goals (try have hl : l.length ≤ 10000 := by omega)
  all_goals (try replace hK := hK hl)
  all_goals (try have ho : pnO l = true := by assumption)
  all_goals (try have hz := pnP_size hK ho)
  all_goals (try have he := pr_pn hK ho)
  all_goals (try simp only [he, cfg_t] at *)
  all_goals (first
    | omega
    | exact rfl
    | exact HEq.rfl
    | (show l.length ≤ 10000; omega)
    | (show (pnT c l).size ≤ 100000; rw [pnT_t ho]; omega)
    | (simp only [List.length_nil]; omega)
    | contradiction
    | exact pnT_f (by assumption)
    | (simp at *; done)
    | (exact absurd (pnT_f (by assumption)) (by assumption))
    | skip)
  all_goals trace_state
set_option maxRecDepth 100000 in
set_option maxHeartbeats 8000000 in
theorem cOne_ok : cParses.Ok Tryd.prog 6 := by
  refine fun_ok (env_ok (Cons.cons cAwake_ok (Cons.cons cTParse_ok (Cons.cons cTPrint_ok Cons.nil)))) mixedP Tryd.func6 (by decide) rfl cParses [] (fun _ => rfl) (fun _ _ => ⟨rfl, fun id k h => by cases h⟩) (fun _ => Nat.le_of_ble_eq_true rfl) ?_
  rintro (s : ByteArray) hp ha hb
  clear ha hb hp
  all_goals (repeat' (first
    | with_reducible refine iTr ?_
    | with_reducible refine iB ?_
    | intro _
    | exact True.intro
    | (show _ ∧ _
       first
        | refine aTT ?_
        | refine aTB ?_
        | refine aT ?_
        | refine aB ?_
        | refine a11 ?_
        | refine a01 ?_
        | refine a00 ?_
        | refine a10 ?_
        | (with_reducible refine And.intro rfl ?_)
        | refine And.intro ?_ ?_)
    | with_reducible exact rfl
    | with_reducible exact HEq.rfl
    | (show (_ : Option Nat) = _; exact rfl)
    | (show (_ : Option Blk) = _; exact rfl)
    | (with_reducible show (nodupB _ && _ && _ && _ && _) = true; exact (Eq.refl true))
    | (with_reducible show (nodupB _ && _ && _ && _) = true; exact (Eq.refl true))
    | (with_reducible show (nodupB _ && _ && _) = true; exact (Eq.refl true))
    | (with_reducible show freeOk _ _ = true; exact (Eq.refl true))
    | (with_reducible show wrOk _ _ _ _ _ = true; exact (Eq.refl true))
    | (show (_ : AV) = _; exact rfl)
    | (show (_ : ByteArray) = _; with_reducible exact rfl)
    | (show (_ : Heap) = _; exact rfl)
    | (with_reducible show (_ || !_) = true; exact (Eq.refl true))
    | (with_reducible show Nat.beq _ _ = true; exact (Eq.refl true))))
  all_goals (first | (show (_ : Int) = _) | (show (_ : Bool) = _) | (show (_ : ByteArray) = _) | (show HEq _ _) | (show ∃ _ : LInv, _) | skip)
  all_goals (try (with_reducible exact rfl))
  all_goals (try dsimp only at *)
  all_goals (try simp only [cfg_t, beq_self_eq_true, Int.reduceToNat, Int.toNat_natCast, cond_true, cond_false, Bool.not_true, Bool.not_false, decide_eq_true_eq, decide_eq_false_iff_not, Bool.not_eq_true', Bool.not_eq_false', bne_iff_ne, ne_eq, bne_eq_false_iff_eq, beq_iff_eq, beq_eq_false_iff_ne] at *)
  all_goals (first
    | omega
    | exact rfl
    | exact HEq.rfl
    | (show s.size ≤ 100000; omega)
    | (simp only [List.length_nil]; omega)
    | contradiction
    | (rcases pr_cases s with ⟨n, hn, he⟩ | ⟨he1, he2, he3, he4⟩
       · (try simp only [he, cfg_t] at *); (first | omega | contradiction | exact rfl | (simp [cfg0] at *; done))
       · (first | (show (prS s).l.length ≤ 10000; omega) | contradiction | (simp only [he1, he2, he4] at *; first | done | omega | contradiction | exact rfl | (simp at *; done))))
    | skip)
  all_goals trace_state
def cShows : Con where
  X := List Don
  args := fun l => [.vsl .don l]
  heap := fun _ => hp0
  pre := fun l => True
  res := fun l => .bool true
  heap' := fun _ => hp0
  pure := true
  find := fun args H => match args with
    | [v] => slD H v
    | _ => none
set_option maxRecDepth 100000 in
set_option maxHeartbeats 8000000 in
theorem cShows_ok : cShows.Ok Tryd.prog 7 := by
  refine fun_ok (env_ok (Cons.cons cAwake_ok (Cons.cons cTShow_ok (Cons.cons cRShow_ok Cons.nil)))) mixedP Tryd.func7 (by decide) rfl cShows [] (fun _ => rfl) (fun _ _ => ⟨rfl, fun id k h => by cases h⟩) (fun _ => Nat.le_of_ble_eq_true rfl) ?_
  rintro (l : List Don) hp ha hb
  clear ha hb hp
  all_goals (repeat' (first
    | with_reducible refine iTr ?_
    | with_reducible refine iB ?_
    | intro _
    | exact True.intro
    | (show _ ∧ _
       first
        | refine aTT ?_
        | refine aTB ?_
        | refine aT ?_
        | refine aB ?_
        | refine a11 ?_
        | refine a01 ?_
        | refine a00 ?_
        | refine a10 ?_
        | (with_reducible refine And.intro rfl ?_)
        | refine And.intro ?_ ?_)
    | with_reducible exact rfl
    | with_reducible exact HEq.rfl
    | (show (_ : Option Nat) = _; exact rfl)
    | (show (_ : Option Blk) = _; exact rfl)
    | (with_reducible show (nodupB _ && _ && _ && _ && _) = true; exact (Eq.refl true))
    | (with_reducible show (nodupB _ && _ && _ && _) = true; exact (Eq.refl true))
    | (with_reducible show (nodupB _ && _ && _) = true; exact (Eq.refl true))
    | (with_reducible show freeOk _ _ = true; exact (Eq.refl true))
    | (with_reducible show wrOk _ _ _ _ _ = true; exact (Eq.refl true))
    | (show (_ : AV) = _; exact rfl)
    | (show (_ : ByteArray) = _; with_reducible exact rfl)
    | (show (_ : Heap) = _; exact rfl)
    | (with_reducible show (_ || !_) = true; exact (Eq.refl true))
    | (with_reducible show Nat.beq _ _ = true; exact (Eq.refl true))))
  all_goals (first | (show (_ : Int) = _) | (show (_ : Bool) = _) | (show (_ : ByteArray) = _) | (show HEq _ _) | (show ∃ _ : LInv, _) | skip)
  all_goals (try (with_reducible exact rfl))
  all_goals (try dsimp only at *)
  all_goals (try simp only [cfg_t, beq_self_eq_true, Int.reduceToNat, Int.toNat_natCast, cond_true, cond_false, Bool.not_true, Bool.not_false, decide_eq_true_eq, decide_eq_false_iff_not, Bool.not_eq_true', Bool.not_eq_false', bne_iff_ne, ne_eq, bne_eq_false_iff_eq, beq_iff_eq, beq_eq_false_iff_ne] at *)
  all_goals (first
    | omega
    | exact rfl
    | exact HEq.rfl
    | (show l.length ≤ 1000; omega)
    | (simp only [List.length_nil]; omega)
    | contradiction
    | (simp at *; done)
    | skip)
  all_goals trace_state
end Go.Proofs.YtpkidbhpfohopaaDoor
