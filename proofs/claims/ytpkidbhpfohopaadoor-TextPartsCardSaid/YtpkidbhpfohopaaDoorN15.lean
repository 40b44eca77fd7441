/- Layer 24: the answers that the document fixes (awake). No condition. -/
import Derived.Test.YtpkidbhpfohopaaDoorN14
noncomputable section
namespace Go.Proofs.YtpkidbhpfohopaaDoor
open Go.RowKit
set_option linter.unusedVariables false
set_option linter.unusedSimpArgs false
/-! ### the two texts -/
def aT1 : ByteArray := ⟨#[119, 111, 114, 108, 100, 32, 49, 32, 49, 32, 49, 32, 49, 32, 49, 32, 57, 32, 49, 32, 48, 32, 48, 10, 111, 112, 32, 48, 32, 48, 32, 49, 32, 55, 10]⟩
def aT2 : ByteArray := ⟨#[119, 111, 114, 108, 100, 32, 49, 32, 49, 32, 49, 32, 49, 32, 49, 32, 57, 32, 49, 32, 48, 32, 48, 10, 111, 112, 32, 48, 32, 48, 32, 49, 32, 48, 55, 10]⟩
def aL1 : ByteArray := ⟨#[119, 111, 114, 108, 100, 32, 49, 32, 49, 32, 49, 32, 49, 32, 49, 32, 57, 32, 49, 32, 48, 32, 48]⟩
def aL2 : ByteArray := ⟨#[111, 112, 32, 48, 32, 48, 32, 49, 32, 55]⟩
def aL3 : ByteArray := ⟨#[111, 112, 32, 48, 32, 48, 32, 49, 32, 48, 55]⟩
def aC : Cfg := ⟨1, 1, 1, 1, 1, 9, 1, 0, 0⟩
def aE : Ent := ⟨1, 0, 0, 1, 7⟩
def aD : Don := ⟨0, 1, ⟨0, true, 7⟩, 7, 3⟩
theorem num_of (l : List ByteArray) : numOk l = (l.drop 1).all rnO := by
  unfold numOk
  rw [show rnO = nuO from funext rnO_eq]
theorem numV_of {l : List ByteArray} (h : numOk l = true) : numV l = (l.drop 1).map rnV := by
  unfold numOk at h
  unfold numV
  rw [List.all_eq_true] at h
  exact List.map_congr_left fun x hx => (rnV_eq (h x hx)).symm
theorem aS1 : splB 10 aT1 = [aL1, aL2, ⟨#[]⟩] := by decide +kernel
theorem aS2 : splB 10 aT2 = [aL1, aL3, ⟨#[]⟩] := by decide +kernel
theorem aNum1 : numOk (splB 32 aL1) = true := by rw [num_of]; decide +kernel
theorem aNum2 : numOk (splB 32 aL2) = true := by rw [num_of]; decide +kernel
theorem aNum3 : numOk (splB 32 aL3) = false := by rw [num_of]; decide +kernel
theorem aW : wOk (splB 32 aL1) = true := wOk_t (okNm_t (by decide +kernel) aNum1) (by decide +kernel)
theorem aWv : wV (splB 32 aL1) = aC := by
  rw [wV_t aW, numV_of aNum1]
  decide +kernel
theorem aE2 : eOk (splB 32 aL2) = true := eOk_t (okNm_t (by decide +kernel) aNum2) (by decide +kernel)
theorem aEv : eV (splB 32 aL2) = aE := by
  rw [eV_t aE2, numV_of aNum2]
  decide +kernel
theorem aE3 : eOk (splB 32 aL3) = false := eOk_f (.inl (okNm_f (.inr aNum3)))
theorem pr1 : prS aT1 = ⟨aC, [aE], 0, true⟩ := by
  unfold prS
  rw [aS1]
  simp only
  rw [if_pos aW, aWv, goE]
  rw [if_pos aE2, aEv]
  rfl
theorem pr2 : prS aT2 = ⟨cfg0, [], 2, false⟩ := by
  unfold prS
  rw [aS2]
  simp only
  rw [if_pos aW, aWv, goE]
  rw [if_neg (by rw [aE3]; decide)]
  rfl
theorem it0 : itoaB 0 = ⟨#[48]⟩ := bl_inj (by rw [bl_itoaB]; decide +kernel)
theorem it1 : itoaB 1 = ⟨#[49]⟩ := bl_inj (by rw [bl_itoaB]; decide +kernel)
theorem it3 : itoaB 3 = ⟨#[51]⟩ := bl_inj (by rw [bl_itoaB]; decide +kernel)
theorem it7 : itoaB 7 = ⟨#[55]⟩ := bl_inj (by rw [bl_itoaB]; decide +kernel)
theorem it9 : itoaB 9 = ⟨#[57]⟩ := bl_inj (by rw [bl_itoaB]; decide +kernel)
theorem bl_rowB (w : ByteArray) (xs : List Int) : bl (rowB w xs) = bl w ++ (xs.flatMap fun x => 32 :: Lib.itoa x) ++ [10] := by
  unfold rowB
  rw [bl_app]
  congr 1
  unfold rowP
  induction xs generalizing w with
  | nil => simp
  | cons x xs ih =>
    rw [List.foldl_cons, ih, bl_app, bl_app, bl_itoaB, List.flatMap_cons, List.append_assoc]
    rfl
theorem pn1 : pnT aC [aE] = aT1 := by
  rw [pnT_t (by decide +kernel)]
  show rowB wWord (headL aC) ++ enR aE = aT1
  apply bl_inj
  unfold enR
  rw [bl_app, bl_rowB, bl_rowB]
  decide +kernel
theorem pn1o : pnO [aE] = true := by decide +kernel
theorem sh1 : shT [aD] = ⟨#[51, 32, 48, 32, 49, 32, 115, 116, 111, 114, 101, 32, 48, 32, 55, 10]⟩ := by
  show (⟨#[]⟩ : ByteArray) ++ shR aD = _
  unfold shR
  apply bl_inj
  simp only [bl_app, bl_rowB, bl_itoaB]
  decide +kernel
/-! ### the contracts at these -/
def cPz : Con where
  X := Bool
  args := fun b => [.str (cond b aT1 aT2)]
  heap := fun _ => hp0
  pre := fun _ => True
  res := fun b => .tup [.agg (enc .cfg (cond b aC cfg0)), .slc 0, AI (cond b 0 2), .bool b]
  heap' := fun b => ⟨1, [(0, some (.seq false 40 .ent (cond b [aE] [])))]⟩
  pure := false
  find := fun args H => match args with
    | [.str s] => some (Nat.beq s.size 35)
    | _ => none
theorem cPz_ok : cPz.Ok Tryd.prog 10 := by
  refine ⟨cTParse_ok.enter, fun _ => cTParse_ok.lt aT1, fun h => (by cases h), fun (b : Bool) _ => ?_⟩
  cases b with
  | true =>
    have h := cTParse_ok.calls aT1 (show aT1.size ≤ 100000 from by decide +kernel)
    have e1 : cTParse.res aT1 = cPz.res true := by show AV.tup [.agg (enc .cfg (prS aT1).c), .slc 0, AI (prS aT1).n, .bool (prS aT1).o] = _; rw [pr1]; rfl
    have e2 : cTParse.heap' aT1 = cPz.heap' true := by show (⟨1, [(0, some (.seq false 40 .ent (prS aT1).l))]⟩ : Heap) = _; rw [pr1]; rfl
    rw [e1, e2] at h
    exact h
  | false =>
    have h := cTParse_ok.calls aT2 (show aT2.size ≤ 100000 from by decide +kernel)
    have e1 : cTParse.res aT2 = cPz.res false := by show AV.tup [.agg (enc .cfg (prS aT2).c), .slc 0, AI (prS aT2).n, .bool (prS aT2).o] = _; rw [pr2]; rfl
    have e2 : cTParse.heap' aT2 = cPz.heap' false := by show (⟨1, [(0, some (.seq false 40 .ent (prS aT2).l))]⟩ : Heap) = _; rw [pr2]; rfl
    rw [e1, e2] at h
    exact h
def cPr1 : Con where
  X := Unit
  args := fun _ => [.agg (enc .cfg aC), .vsl .ent [aE]]
  heap := fun _ => hp0
  pre := fun _ => True
  res := fun _ => .tup [.str aT1, .bool true]
  heap' := fun _ => hp0
  pure := true
  find := fun args H => some ()
theorem cPr1_ok : cPr1.Ok Tryd.prog 13 := by
  refine ⟨cTPrint_ok.enter, fun _ => cTPrint_ok.lt (aC, [aE]), fun h _ => cTPrint_ok.pure rfl (aC, [aE]), fun _ _ => ?_⟩
  have h := cTPrint_ok.calls (aC, [aE]) (show [aE].length ≤ 10000 from by decide)
  have e1 : cPrint.res (aC, [aE]) = cPr1.res () := by show AV.tup [.str (pnT aC [aE]), .bool (pnO [aE])] = _; rw [pn1, pn1o]; rfl
  rw [e1] at h
  exact h
def cSh1 : Con where
  X := Unit
  args := fun _ => [.vsl .don [aD]]
  heap := fun _ => hp0
  pre := fun _ => True
  res := fun _ => .str ⟨#[51, 32, 48, 32, 49, 32, 115, 116, 111, 114, 101, 32, 48, 32, 55, 10]⟩
  heap' := fun _ => hp0
  pure := true
  find := fun args H => some ()
theorem cSh1_ok : cSh1.Ok Tryd.prog 15 := by
  refine ⟨cTShow_ok.enter, fun _ => cTShow_ok.lt [aD], fun h _ => cTShow_ok.pure rfl [aD], fun _ _ => ?_⟩
  have h := cTShow_ok.calls [aD] (show [aD].length ≤ 1000 from by decide)
  have e1 : cShow.res [aD] = cSh1.res () := by show AV.str (shT [aD]) = _; rw [sh1]; rfl
  rw [e1] at h
  exact h
def cAwake : Con where
  X := Unit
  args := fun _ => []
  heap := fun _ => hp0
  pre := fun _ => True
  res := fun _ => .bool true
  heap' := fun _ => hp0
  pure := true
  find := fun _ _ => some ()
set_option maxRecDepth 100000 in
set_option maxHeartbeats 8000000 in
theorem cAwake_ok : cAwake.Ok Tryd.prog 9 := by
  refine fun_ok (env_ok (Cons.cons cPz_ok (Cons.cons cPr1_ok (Cons.cons cSh1_ok (Cons.cons cSame_ok Cons.nil))))) mixedP Tryd.func9 (by decide) rfl cAwake [] (fun _ => rfl) (fun _ _ => ⟨rfl, fun id k h => by cases h⟩) (fun _ => Nat.le_of_ble_eq_true rfl) ?_
  rintro ⟨⟩ hp ha hb
  clear ha hb hp
  all_goals (repeat' (first
    | with_reducible refine iTr ?_
    | with_reducible refine iB ?_
    | intro _
    | exact True.intro
    | (show _ ∧ _
       first
        | refine aTT ?_
        | refine aTB ?_
        | refine aT ?_
        | refine aB ?_
        | refine a11 ?_
        | refine a01 ?_
        | refine a00 ?_
        | refine a10 ?_
        | (with_reducible refine And.intro rfl ?_)
        | refine And.intro ?_ ?_)
    | with_reducible exact rfl
    | with_reducible exact HEq.rfl
    | (show (_ : Option Nat) = _; exact rfl)
    | (show (_ : Option Blk) = _; exact rfl)
    | (with_reducible show (nodupB _ && _ && _ && _ && _) = true; exact (Eq.refl true))
    | (with_reducible show (nodupB _ && _ && _ && _) = true; exact (Eq.refl true))
    | (with_reducible show (nodupB _ && _ && _) = true; exact (Eq.refl true))
    | (with_reducible show freeOk _ _ = true; exact (Eq.refl true))
    | (with_reducible show wrOk _ _ _ _ _ = true; exact (Eq.refl true))
    | (show (_ : AV) = _; exact rfl)
    | (show (_ : ByteArray) = _; with_reducible exact rfl)
    | (show (_ : Heap) = _; exact rfl)
    | (with_reducible show (_ || !_) = true; exact (Eq.refl true))
    | (with_reducible show Nat.beq _ _ = true; exact (Eq.refl true))))
  all_goals (first | (show (_ : Int) = _) | (show (_ : Bool) = _) | (show (_ : ByteArray) = _) | (show HEq _ _) | (show ∃ _ : LInv, _) | skip)
  all_goals (try (with_reducible exact rfl))
  all_goals (first | exact rfl | exact HEq.rfl | decide +kernel | skip)
  all_goals trace_state
end Go.Proofs.YtpkidbhpfohopaaDoor
