/- Layer 24: Parse of the reference. No condition. -/
import Derived.Test.YtpkidbhpfohopaaDoorN9
noncomputable section
namespace Go.Proofs.YtpkidbhpfohopaaDoor
open Go.RowKit
set_option linter.unusedVariables false
set_option linter.unusedSimpArgs false
structure PR (s : ByteArray) (i : Nat) (out : List Ent) : Prop where
  eq : prS s = finR (wV (splB 32 (hd0 (splB 10 s)))) out (goE ((splB 10 s).drop i) (i + 1))
  i1 : 1 ≤ i
  il : i < (splB 10 s).length
  ol : out.length + 1 = i
structure PrD where
  i : Nat
  out : List Ent
theorem drop_two {l : List ByteArray} {i : Nat} (h : i + 1 < l.length) : ∃ y r, l.drop i = l.getD i Ty.str.dflt :: y :: r ∧ l.drop (i + 1) = y :: r := by
  refine ⟨l[i + 1], l.drop (i + 2), ?_, List.drop_eq_getElem_cons h⟩
  rw [List.drop_eq_getElem_cons (by omega), List.drop_eq_getElem_cons h, List.getD_eq_getElem?_getD, List.getElem?_eq_getElem (by omega)]
  rfl
theorem drop_one {l : List ByteArray} {i : Nat} (h : i + 1 = l.length) : l.drop i = [l.getD i Ty.str.dflt] := by
  rw [List.drop_eq_getElem_cons (by omega), List.drop_of_length_le (by omega), List.getD_eq_getElem?_getD, List.getElem?_eq_getElem (by omega)]
  rfl
theorem rp_0 {s : ByteArray} (hw : wOk (splB 32 (hd0 (splB 10 s))) = true) (hl : 1 < (splB 10 s).length) : PR s 1 [] := by
  refine ⟨?_, Nat.le_refl _, hl, rfl⟩
  obtain ⟨y, r, e, e2⟩ := drop_two (i := 0) hl
  rw [List.drop_zero] at e
  generalize (splB 10 s).getD 0 Ty.str.dflt = x at e
  unfold prS
  rw [e] at hw ⊢
  exact if_pos hw
theorem rp_bad {s : ByteArray} (h : wOk (splB 32 (hd0 (splB 10 s))) = false ∨ (splB 10 s).length = 1) : prS s = ⟨cfg0, [], 1, false⟩ := by
  obtain ⟨y, r, e⟩ := splB_cons s
  unfold prS
  rw [e] at h ⊢
  cases r with
  | nil => rfl
  | cons z r =>
    refine if_neg ?_
    rcases h with h | h
    · have h : wOk (splB 32 y) = false := h
      rw [h]; decide
    · simp at h
section
variable {s : ByteArray} {i : Nat} {out : List Ent}
theorem rp_err (h : PR s i out) (he : eOk (splB 32 ((splB 10 s).getD i Ty.str.dflt)) = false) (hi : i + 1 < (splB 10 s).length) : prS s = ⟨cfg0, [], i + 1, false⟩ := by
  obtain ⟨y, r, e, e2⟩ := drop_two hi
  rw [h.eq, e, goE]
  rw [if_neg (by rw [he]; decide)]
  rfl
theorem rp_1 (h : PR s i out) (he : eOk (splB 32 ((splB 10 s).getD i Ty.str.dflt)) = true) (hi : i + 1 < (splB 10 s).length) : PR s (i + 1) (out ++ [eV (splB 32 ((splB 10 s).getD i Ty.str.dflt))]) := by
  obtain ⟨y, r, e, e2⟩ := drop_two hi
  refine ⟨?_, by omega, hi, by rw [List.length_append]; show out.length + 1 + 1 = _; have := h.ol; omega⟩
  rw [h.eq, e, goE]
  rw [if_pos he, fin_put, e2]
theorem rp_end (h : PR s i out) (hi : i + 1 = (splB 10 s).length) (ht : (splB 10 s).getD ((splB 10 s).length - 1) Ty.str.dflt = ⟨#[]⟩) : prS s = ⟨wV (splB 32 (hd0 (splB 10 s))), out, 0, true⟩ := by
  rw [show (splB 10 s).length - 1 = i from by omega] at ht
  rw [h.eq, drop_one hi, goE]
  rw [if_pos ht]
  show (⟨_, out ++ [], 0, true⟩ : PRes) = _
  rw [List.append_nil]
theorem rp_last (h : PR s i out) (hi : i + 1 = (splB 10 s).length) (ht : ¬ (splB 10 s).getD ((splB 10 s).length - 1) Ty.str.dflt = ⟨#[]⟩) : prS s = ⟨cfg0, [], ((splB 10 s).length - 1) + 1, false⟩ := by
  rw [show (splB 10 s).length - 1 = i from by omega] at ht ⊢
  rw [h.eq, drop_one hi, goE]
  rw [if_neg ht]
  rfl
end
theorem splB_pos (c : UInt8) (t : ByteArray) : 0 < (splB c t).length := by
  have := spt_ne c (bl t)
  unfold splB
  rw [List.length_map]
  exact List.length_pos_iff.2 this
theorem mem_100 {s : ByteArray} {i : Nat} (hp : s.size ≤ 100000) (hi : i < (splB 10 s).length) : ((splB 10 s).getD i Ty.str.dflt).size ≤ 100000 :=
  Nat.le_trans (splB_mem_len (getD_mem hi)) hp
theorem e10 : UInt8.ofNat (Int.toNat 10) = 10 := rfl
theorem e32 : UInt8.ofNat (Int.toNat 32) = 32 := rfl
theorem e10' : UInt8.ofNat 10 = 10 := rfl
theorem e32' : UInt8.ofNat 32 = 32 := rfl
set_option maxRecDepth 100000 in
set_option maxHeartbeats 8000000 in
theorem cRParse_ok : cTParse.Ok Tryd.prog 11 := by
  refine fun_ok (env_ok (Cons.cons cRSplit_ok (Cons.cons cRNums_ok (Cons.cons cREntry_ok Cons.nil)))) mixedP Tryd.func11 (by decide) rfl cTParse [(17, 29), (2000017, 28), (90000017, 28), (4000017, 0), (4000017, 1), (4000017, 2), (4000017, 3), (4000017, 4), (4000017, 5), (4000017, 6), (4000017, 7), (4000017, 8), (4000017, 9), (4000017, 10), (4000017, 11), (4000017, 12), (4000017, 13), (4000017, 14), (4000017, 15), (4000017, 16), (4000017, 17), (4000017, 18), (4000017, 19), (4000017, 20), (4000017, 21), (4000017, 22), (4000017, 23), (4000017, 24), (4000017, 25), (4000017, 26), (4000017, 27)] (fun _ => rfl) (fun h => by cases h) (fun _ => Nat.le_of_ble_eq_true rfl) ?_
  rintro (s : ByteArray) hp ha hb
  replace hp : s.size ≤ 100000 := hp
  clear ha hb
  have hlen := splB_len 10 s
  have hlp := splB_pos 10 s
  have hlq := splB_pos 32 (hd0 (splB 10 s))
  have hw0 : IntKind.i64.wrap (↑(splB 10 s).length - 1) = (((splB 10 s).length - 1 : Nat) : Int) := by rw [wrap_id (by omega) (by omega)]; omega
  all_goals (repeat' (first
    | with_reducible refine iTr ?_
    | with_reducible refine iB ?_
    | intro _
    | exact True.intro
    | (show _ ∧ _
       first
        | refine aTT ?_
        | refine aTB ?_
        | refine aT ?_
        | refine aB ?_
        | refine a11 ?_
        | refine a01 ?_
        | refine a00 ?_
        | refine a10 ?_
        | (with_reducible refine And.intro rfl ?_)
        | refine And.intro ?_ ?_)
    | with_reducible exact rfl
    | with_reducible exact HEq.rfl
    | (show (_ : Option Nat) = _; exact rfl)
    | (show (_ : Option Blk) = _; exact rfl)
    | (with_reducible show (nodupB _ && _ && _ && _ && _) = true; exact (Eq.refl true))
    | (with_reducible show (nodupB _ && _ && _ && _) = true; exact (Eq.refl true))
    | (with_reducible show (nodupB _ && _ && _) = true; exact (Eq.refl true))
    | (with_reducible show freeOk _ _ = true; exact (Eq.refl true))
    | (with_reducible show wrOk _ _ _ _ _ = true; exact (Eq.refl true))
    | (show (_ : AV) = _; exact rfl)
    | (show (_ : ByteArray) = _; with_reducible exact rfl)
    | (show (_ : Heap) = _; exact rfl)
    | (with_reducible show (_ || !_) = true; exact (Eq.refl true))
    | (with_reducible show Nat.beq _ _ = true; exact (Eq.refl true))))
  all_goals (first | (show (_ : Int) = _) | (show (_ : Bool) = _) | (show (_ : ByteArray) = _) | (show HEq _ _) | (show ∃ _ : LInv, _) | skip)
  all_goals (try (with_reducible exact rfl))
  all_goals try (refine ⟨⟨{d : PrD // PR s d.i d.out}, fun d => [(12, AI d.1.i), (11, .slc 4), (8, AI ((splB 10 s).length - 1 : Nat)), (7, .slc 2), (9, .slc 3), (6, .ptr 1 p0), (2, .ptr 0 p0)], fun d => ⟨5, [(4, some (.seq false 40 .ent d.1.out)), (3, some (.seq false 3 .int (rNm (splB 32 (hd0 (splB 10 s)))))), (2, some (.seq false 9 .str (splB 10 s))), (1, some (.obj false (enc .cfg cfg0))), (0, some (.obj false (enc .cfg cfg0)))]⟩, fun d => (splB 10 s).length - d.1.i⟩, ⟨⟨⟨1, []⟩, ?_⟩, [], ?_⟩, ?_⟩; rotate_right; rintro ⟨⟨i, out⟩, hS⟩)
  all_goals (repeat' (first
    | with_reducible refine iTr ?_
    | with_reducible refine iB ?_
    | intro _
    | exact True.intro
    | (show _ ∧ _
       first
        | refine aTT ?_
        | refine aTB ?_
        | refine aT ?_
        | refine aB ?_
        | refine a11 ?_
        | refine a01 ?_
        | refine a00 ?_
        | refine a10 ?_
        | (with_reducible refine And.intro rfl ?_)
        | refine And.intro ?_ ?_)
    | with_reducible exact rfl
    | with_reducible exact HEq.rfl
    | (show (_ : Option Nat) = _; exact rfl)
    | (show (_ : Option Blk) = _; exact rfl)
    | (with_reducible show (nodupB _ && _ && _ && _ && _) = true; exact (Eq.refl true))
    | (with_reducible show (nodupB _ && _ && _ && _) = true; exact (Eq.refl true))
    | (with_reducible show (nodupB _ && _ && _) = true; exact (Eq.refl true))
    | (with_reducible show freeOk _ _ = true; exact (Eq.refl true))
    | (with_reducible show wrOk _ _ _ _ _ = true; exact (Eq.refl true))
    | (show (_ : AV) = _; exact rfl)
    | (show (_ : ByteArray) = _; with_reducible exact rfl)
    | (show (_ : Heap) = _; exact rfl)
    | (with_reducible show (_ || !_) = true; exact (Eq.refl true))
    | (with_reducible show Nat.beq _ _ = true; exact (Eq.refl true))))
  all_goals (first | (show (_ : Int) = _) | (show (_ : Bool) = _) | (show (_ : ByteArray) = _) | (show HEq _ _) | (show ∃ _ : LInv, _) | skip)
  all_goals (try (with_reducible exact rfl))
  all_goals try (refine ⟨⟨⟨i + 1, out ++ [eV (splB 32 ((splB 10 s).getD i Ty.str.dflt))]⟩, ?_⟩, ?_, ?_⟩)
  all_goals (repeat' (first
    | with_reducible refine iTr ?_
    | with_reducible refine iB ?_
    | intro _
    | exact True.intro
    | (show _ ∧ _
       first
        | refine aTT ?_
        | refine aTB ?_
        | refine aT ?_
        | refine aB ?_
        | refine a11 ?_
        | refine a01 ?_
        | refine a00 ?_
        | refine a10 ?_
        | (with_reducible refine And.intro rfl ?_)
        | refine And.intro ?_ ?_)
    | with_reducible exact rfl
    | with_reducible exact HEq.rfl
    | (show (_ : Option Nat) = _; exact rfl)
    | (show (_ : Option Blk) = _; exact rfl)
    | (with_reducible show (nodupB _ && _ && _ && _ && _) = true; exact (Eq.refl true))
    | (with_reducible show (nodupB _ && _ && _ && _) = true; exact (Eq.refl true))
    | (with_reducible show (nodupB _ && _ && _) = true; exact (Eq.refl true))
    | (with_reducible show freeOk _ _ = true; exact (Eq.refl true))
    | (with_reducible show wrOk _ _ _ _ _ = true; exact (Eq.refl true))
    | (show (_ : AV) = _; exact rfl)
    | (show (_ : ByteArray) = _; with_reducible exact rfl)
    | (show (_ : Heap) = _; exact rfl)
    | (with_reducible show (_ || !_) = true; exact (Eq.refl true))
    | (with_reducible show Nat.beq _ _ = true; exact (Eq.refl true))))
  all_goals (first | (show (_ : Int) = _) | (show (_ : Bool) = _) | (show (_ : ByteArray) = _) | (show HEq _ _) | (show ∃ _ : LInv, _) | skip)
  all_goals (try (with_reducible exact rfl))
  all_goals (try dsimp only at *)
  all_goals (try replace hS : PR s i out := hS)
  all_goals (try rw [e10] at *)
  all_goals (try simp only [hw0] at *)
  all_goals (try simp only [e10, e32, Int.reduceToNat, e10', e32', Int.toNat_natCast, cond_true, cond_false, Bool.not_true, Bool.not_false, decide_eq_true_eq, decide_eq_false_iff_not, Bool.not_eq_true', Bool.not_eq_false', bne_iff_ne, ne_eq, bne_eq_false_iff_eq, beq_iff_eq, beq_eq_false_iff_ne] at *)
  all_goals (try have hT := rNm_len (l := splB 32 (hd0 (splB 10 s))) (n := 9) (by assumption))
  all_goals (try have hi1 := hS.i1)
  all_goals (try have hil := hS.il)
  all_goals (try have hol := hS.ol)
  all_goals (first
    | omega
    | exact rfl
    | exact hp
    | exact HEq.rfl
    | exact liok 32 (mem_100 hp (by omega))
    | exact mem_100 hp (by omega)
    | exact rp_0 (wOk_t (by assumption) (by assumption)) (by omega)
    | exact rp_1 hS (by assumption) (by omega)
    | (have e := rp_bad (s := s) (by first | exact .inl (wOk_f (.inl (by assumption))) | exact .inl (wOk_f (.inr (by assumption))) | exact .inr (by omega)); rw [e]; first | done | rfl | exact HEq.rfl)
    | (have e := rp_err hS (by assumption) (by omega); rw [e]; first | done | rfl | exact HEq.rfl | exact wrap_succ (by omega))
    | exact hlq
    | exact Int.natCast_pos.2 hlq
    | (have e := rp_last hS (by omega) (by assumption); rw [e]; first | done | rfl | exact HEq.rfl | exact wrap_succ (by omega))
    | (have e := rp_end hS (by omega) (by assumption); rw [e]; first | done | rfl | exact HEq.rfl | (rw [wV_t (wOk_t (by assumption) (by assumption)), rNm_eq (n := 9) (by assumption)]; first | done | rfl))
    | (show (out.length + 1) * 40 ≤ _; omega)
    | exact wrap_succ (by omega)
    | skip)
end Go.Proofs.YtpkidbhpfohopaaDoor
