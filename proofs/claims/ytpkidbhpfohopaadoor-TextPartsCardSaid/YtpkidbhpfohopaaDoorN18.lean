/- Layer 24: the laws by the engine, 2: TextParts. No condition. -/
import Derived.Test.YtpkidbhpfohopaaDoorN17
noncomputable section
namespace Go.Proofs.YtpkidbhpfohopaaDoor
open Go.RowKit
set_option linter.unusedVariables false
set_option linter.unusedSimpArgs false
def cParts : Con where
  X := Cfg × List Ent × List Ent
  args := fun x => [.agg (enc .cfg x.1), .vsl .ent x.2.1, .vsl .ent x.2.2]
  heap := fun _ => hp0
  pre := fun _ => True
  res := fun _ => .bool true
  heap' := fun _ => hp0
  pure := true
  find := fun args H => match args with
    | [.agg [.int _ a, .int _ b, .int _ c, .int _ d, .int _ e, .int _ f, .int _ g, .int _ h, .int _ i], u, v] => match slE H u, slE H v with
      | some l, some m => some (⟨a, b, c, d, e, f, g, h, i⟩, l, m)
      | _, _ => none
    | _ => none
/-! ### the texts, nothing that could be reckoned -/
noncomputable def ptF : {f : Cfg → List Ent → ByteArray // ∀ c l, f c l = pnT c l} := Classical.choice ⟨⟨_, fun _ _ => rfl⟩⟩
noncomputable def ptX (c : Cfg) (l : List Ent) : ByteArray := ptF.1 c l
theorem ptX_eq (c : Cfg) (l : List Ent) : ptX c l = pnT c l := ptF.2 c l
noncomputable def poF : {f : List Ent → Bool // ∀ l, f l = pnO l} := Classical.choice ⟨⟨_, fun _ => rfl⟩⟩
noncomputable def poX (l : List Ent) : Bool := poF.1 l
theorem poX_eq (l : List Ent) : poX l = pnO l := poF.2 l
noncomputable def cPX : Con where
  X := Cfg × List Ent
  args := fun x => [.agg (enc .cfg x.1), .vsl .ent x.2]
  heap := fun _ => hp0
  pre := fun x => x.2.length ≤ 10000
  res := fun x => .tup [.str (ptX x.1 x.2), .bool (poX x.2)]
  heap' := fun _ => hp0
  pure := true
  find := fun args H => match args with
    | [.agg [.int _ a, .int _ b, .int _ c, .int _ d, .int _ e, .int _ f, .int _ g, .int _ h, .int _ i], v] => match slE H v with
      | some l => some (⟨a, b, c, d, e, f, g, h, i⟩, l)
      | none => none
    | _ => none
theorem cPX_ok : cPX.Ok Tryd.prog 13 := by
  refine ⟨cTPrint_ok.enter, fun x => cTPrint_ok.lt x, fun h x => cTPrint_ok.pure rfl x, fun x hp => ?_⟩
  have h := cTPrint_ok.calls x hp
  have e1 : cPrint.res x = cPX.res x := by show AV.tup [.str (pnT x.1 x.2), .bool (pnO x.2)] = .tup [.str (ptX x.1 x.2), .bool (poX x.2)]; rw [ptX_eq, poX_eq]
  rw [e1] at h
  exact h
theorem pts_o (a b : List Ent) : poX (a ++ b) = (poX a && poX b) := by rw [poX_eq, poX_eq, poX_eq, pnO_app]
theorem pts_h (c : Cfg) : pnT c [] = pnP c [] := rfl
theorem pts_l {c : Cfg} {b : List Ent} (h : poX b = true) : (ptX c []).size ≤ (ptX c b).size ∧ (ptX c b).extract 0 (ptX c []).size = ptX c [] := by
  rw [poX_eq] at h
  rw [ptX_eq, ptX_eq, pts_h, pnT_t h, pn_tl c b, ba_size]
  exact ⟨Nat.le_add_right _ _, ext_l _ _⟩
theorem pts_r {c : Cfg} {a b : List Ent} (ha : poX a = true) (hb : poX b = true) : ptX c (a ++ b) = ptX c a ++ (ptX c b).extract (ptX c []).size (ptX c b).size := by
  rw [poX_eq] at ha hb
  rw [ptX_eq, ptX_eq, ptX_eq, ptX_eq, pnT_t (by rw [pnO_app, ha, hb]; rfl), pnT_t ha, pts_h, pnT_t hb, pn_tl c b, ext_r, pn_app]
theorem ptX_size (c : Cfg) (l : List Ent) (h : PnOk c l) : (ptX c l).size ≤ 195 + 90 * l.length := by
  rw [ptX_eq]
  cases ho : pnO l with
  | false => rw [pnT_f ho]; exact Nat.zero_le _
  | true => rw [pnT_t ho]; exact pnP_size h ho
set_option maxRecDepth 100000 in
set_option maxHeartbeats 8000000 in
theorem cParts_ok : cParts.Ok Tryd.prog 8 := by
  refine fun_ok (env_ok (Cons.cons cAwake_ok (Cons.cons cPX_ok Cons.nil))) mixedP Tryd.func8 (by decide) rfl cParts [(3, 9), (4, 9), (5, 11), (2000003, 1), (2000003, 3), (4000003, 0), (5000003, 0), (3000003, 2), (2000004, 1), (2000004, 3), (4000004, 0), (5000004, 0), (3000004, 2), (2000005, 1), (2000005, 3), (2000005, 5), (4000005, 0), (5000005, 0), (6000005, 0), (3000005, 2), (3000005, 4), (4000005, 4)] (fun _ => rfl) (fun _ _ => ⟨rfl, fun id k h => by cases h⟩) (fun _ => Nat.le_of_ble_eq_true rfl) ?_
  rintro ⟨(c : Cfg), (a : List Ent), (b : List Ent)⟩ hp ha hb
  have hK : a.length ≤ 100 → b.length ≤ 100 → PnOk c (a ++ b) := fun h1 h2 => by
    have k1 := pn_ok (c := c) (l := a) ⟨ha.1, ha.2.1, trivial⟩ (by omega)
    have k2 := pn_ok (c := c) (l := b) ⟨ha.1, ha.2.2.1, trivial⟩ (by omega)
    exact ⟨k1.hc, fun e he => (List.mem_append.1 he).elim (k1.hl e) (k2.hl e), by rw [List.length_append]; omega⟩
  clear ha hb hp
  all_goals (repeat' (first
    | with_reducible refine iTr ?_
    | with_reducible refine iB ?_
    | intro _
    | exact True.intro
    | (show _ ∧ _
       first
        | refine aTT ?_
        | refine aTB ?_
        | refine aT ?_
        | refine aB ?_
        | refine a11 ?_
        | refine a01 ?_
        | refine a00 ?_
        | refine a10 ?_
        | (with_reducible refine And.intro rfl ?_)
        | refine And.intro ?_ ?_)
    | with_reducible exact rfl
    | with_reducible exact HEq.rfl
    | (show (_ : Option Nat) = _; exact rfl)
    | (show (_ : Option Blk) = _; exact rfl)
    | (with_reducible show (nodupB _ && _ && _ && _ && _) = true; exact (Eq.refl true))
    | (with_reducible show (nodupB _ && _ && _ && _) = true; exact (Eq.refl true))
    | (with_reducible show (nodupB _ && _ && _) = true; exact (Eq.refl true))
    | (with_reducible show freeOk _ _ = true; exact (Eq.refl true))
    | (with_reducible show wrOk _ _ _ _ _ = true; exact (Eq.refl true))
    | (show (_ : AV) = _; exact rfl)
    | (show (_ : ByteArray) = _; with_reducible exact rfl)
    | (show (_ : Heap) = _; exact rfl)
    | (with_reducible show (_ || !_) = true; exact (Eq.refl true))
    | (with_reducible show Nat.beq _ _ = true; exact (Eq.refl true))))
  all_goals (first | (show (_ : Int) = _) | (show (_ : Bool) = _) | (show (_ : ByteArray) = _) | (show HEq _ _) | (show ∃ _ : LInv, _) | skip)
  all_goals (try (with_reducible exact rfl))
  all_goals (try dsimp only at *)
  all_goals (try simp only [List.nil_append, show (⟨c.nodes, c.blocks, c.tokens, c.sets, c.ways, c.cap, c.wait, c.tries, c.policy⟩ : Cfg) = c from rfl] at *)
  all_goals (try simp only [cfg_t, beq_self_eq_true, Int.reduceToNat, Int.toNat_natCast, cond_true, cond_false, Bool.not_true, Bool.not_false, decide_eq_true_eq, decide_eq_false_iff_not, Bool.not_eq_true', Bool.not_eq_false', bne_iff_ne, ne_eq, bne_eq_false_iff_eq, beq_iff_eq, beq_eq_false_iff_ne] at *)
  all_goals (first
    | omega
    | exact rfl
    | exact HEq.rfl
    | (simp only [List.length_nil, List.length_append]; omega)
    | contradiction
    | (show List.length _ ≤ 10000; simp only [List.length_nil, List.length_append]; omega)
    | (have hA := pts_o a b
       have hz := ptX_size c (a ++ b) (hK (by omega) (by omega))
       rw [List.length_append] at hz
       cases hoa : poX a
       · rw [hoa, Bool.false_and] at hA
         simp_all
       · cases hob : poX b
         · rw [hoa, hob, Bool.true_and] at hA
           simp_all
         · rw [hoa, hob, Bool.true_and] at hA
           have hl := pts_l (c := c) hob
           have hr := pts_r (c := c) hoa hob
           first
             | exact hr
             | (rw [hr, ba_size] at hz; omega)
             | exact absurd hl.2 (by assumption)
             | omega
             | (exfalso; rw [hA, hob] at *; contradiction)
             | (exfalso; simp_all; done))
    | skip)
  all_goals trace_state
end Go.Proofs.YtpkidbhpfohopaaDoor
