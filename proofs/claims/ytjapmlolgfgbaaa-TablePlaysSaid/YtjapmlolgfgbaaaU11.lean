/- Contracts of the reference's table: List. No condition. -/
import Derived.Test.YtjapmlolgfgbaaaU7
namespace Go.Proofs.Ytjapmlolgfgbaaa
open Go.RowKit
set_option linter.unusedVariables false
set_option linter.unusedSimpArgs false
/-- Among others, by rising blocks, ahead of the first that isn't ahead. -/
def insA (a : Atv) : List Atv → List Atv
  | [] => [a]
  | x :: r => if x.block < a.block then x :: insA a r else a :: x :: r
theorem insA_len (a : Atv) : ∀ l : List Atv, (insA a l).length = l.length + 1
  | [] => rfl
  | x :: r => by
    rw [insA]
    split
    · simp [insA_len a r]
    · rfl
theorem insA_at {a z : Atv} : ∀ {l : List Atv} {k : Nat}, k ≤ l.length → (∀ j, j < k → (l.getD j z).block < a.block) → (k < l.length → ¬ (l.getD k z).block < a.block) → insA a l = l.take k ++ [a] ++ l.drop k
  | [], k, hk, _, _ => by
    simp at hk
    subst hk
    rfl
  | x :: r, 0, _, _, h2 => by
    have := h2 (by simp)
    rw [insA, if_neg (by simpa using this)]
    rfl
  | x :: r, k + 1, hk, h1, h2 => by
    have h0 := h1 0 (by omega)
    rw [insA, if_pos (by simpa using h0), insA_at (k := k) (z := z) (by simpa using hk) (fun j hj => by simpa using h1 (j + 1) (by omega)) (fun hj => by simpa using h2 (by simpa using hj))]
    rfl
def lrS (on off : List Atv) (out : List Atv) (x : Atv) : List Atv := if 0 < (bsT on off x.block).seq ∧ bsT on off x.block = x then insA x out else out
def lrP (on off l : List Atv) : List Atv := l.foldl (lrS on off) []
def lrT (on off : List Atv) : List Atv := lrP on off on
theorem lrP_succ {on off l : List Atv} {i : Nat} {z : Atv} (h : i < l.length) : lrP on off (l.take (i + 1)) = lrS on off (lrP on off (l.take i)) (l.getD i z) := by
  unfold lrP
  rw [List.take_add_one, List.getElem?_eq_getElem h, List.foldl_append, List.getD_eq_getElem?_getD, List.getElem?_eq_getElem h]
  rfl
theorem lrS_len (on off out : List Atv) (x : Atv) : (lrS on off out x).length ≤ out.length + 1 := by
  unfold lrS
  split
  · rw [insA_len]; omega
  · omega
theorem lrP_len {on off : List Atv} : ∀ {l : List Atv} {out : List Atv}, (l.foldl (lrS on off) out).length ≤ out.length + l.length
  | [], out => Nat.le_refl _
  | x :: l, out => by
    have h1 := lrP_len (on := on) (off := off) (l := l) (out := lrS on off out x)
    have h2 := lrS_len on off out x
    simp only [List.foldl_cons, List.length_cons]
    omega
theorem lrP_le {on off l : List Atv} {i : Nat} (h : l.length ≤ i) : (lrP on off l).length ≤ i := by
  have := lrP_len (on := on) (off := off) (l := l) (out := [])
  unfold lrP
  simp only [List.length_nil] at this
  omega
theorem lr_bytes {out : List Atv} {k i : Nat} {a : Atv} (hk : k ≤ out.length) (h : out.length ≤ i) (hi : i ≤ 1000) : ((out.take k ++ [a]).length + ([] ++ out.drop k).length) * 24 ≤ 140737488355328 := by
  simp only [List.length_append, List.length_take, List.length_drop, List.length_nil, List.length_singleton]
  omega
structure SLr (on : List Atv) (i : Nat) : Prop where
  le : i ≤ on.length
structure SLk (out : List Atv) (b : Int) (k : Nat) : Prop where
  le : k ≤ out.length
  lt : ∀ j, j < k → (out.getD j Ty.atv.dflt).block < b
theorem slk_t {out : List Atv} {b : Int} {k : Nat} (h : SLk out b k) (hk : k < out.length) (hb : (out.getD k Ty.atv.dflt).block < b) : SLk out b (k + 1) := by
  refine ⟨by omega, fun j hj => ?_⟩
  by_cases e : j = k
  · subst e; exact hb
  · exact h.lt j (by omega)
def cTRList : Con where
  X := List Atv × List Atv
  args := fun ⟨on, off⟩ => [pT]
  heap := fun ⟨on, off⟩ => tH true on off
  pre := fun ⟨on, off⟩ => on.length ≤ 1000
  res := fun _ => .slc 1
  heap' := fun ⟨on, off⟩ => ⟨2, (1, some (.seq false 28 .atv (lrT on off))) :: (tH true on off).l⟩
  pure := false
  find := fun args H => match args with
    | [.ptr id _] => findT id H
    | _ => none
theorem beqA (a b : Atv) : (a.block == b.block && (a.node == b.node && (a.seq == b.seq && true))) = decide (a = b) := by
  have := bneA a b
  have h2 := congrArg Bool.not this
  rwa [Bool.not_not, Bool.not_not] at h2
theorem beqA_t {a b : Atv} (h : (a.block == b.block && (a.node == b.node && (a.seq == b.seq && true))) = true) : a = b := by
  rw [beqA] at h
  simpa using h
theorem beqA_f {a b : Atv} (h : (a.block == b.block && (a.node == b.node && (a.seq == b.seq && true))) = false) : ¬ a = b := by
  rw [beqA] at h
  simpa using h
theorem lr_skip {on off : List Atv} {i : Nat} (h : i < on.length) (hn : ¬ (0 < (bsT on off (on.getD i Ty.atv.dflt).block).seq ∧ bsT on off (on.getD i Ty.atv.dflt).block = on.getD i Ty.atv.dflt)) : HEq (lrP on off (on.take i)) (lrP on off (on.take (i + 1))) := by
  rw [lrP_succ (z := Ty.atv.dflt) h]
  unfold lrS
  rw [if_neg hn]
theorem lr_ins {on off : List Atv} {i k : Nat} (h : i < on.length) (h0 : 0 < (bsT on off (on.getD i Ty.atv.dflt).block).seq) (he : bsT on off (on.getD i Ty.atv.dflt).block = on.getD i Ty.atv.dflt)
    (hK : SLk (lrP on off (on.take i)) (bsT on off (on.getD i Ty.atv.dflt).block).block k) (hx : k < (lrP on off (on.take i)).length → ¬ ((lrP on off (on.take i)).getD k Ty.atv.dflt).block < (bsT on off (on.getD i Ty.atv.dflt).block).block) :
    HEq ((lrP on off (on.take i)).take k ++ [bsT on off (on.getD i Ty.atv.dflt).block] ++ ([] ++ (lrP on off (on.take i)).drop k)) (lrP on off (on.take (i + 1))) := by
  rw [lrP_succ (z := Ty.atv.dflt) h]
  unfold lrS
  rw [if_pos ⟨h0, he⟩]
  rw [he] at hK hx
  rw [insA_at hK.le hK.lt hx, List.nil_append]
  rw [he]
set_option maxRecDepth 100000 in
set_option maxHeartbeats 8000000 in
theorem cTRList_ok : cTRList.Ok Try.prog 19 := by
  refine fun_ok (envV_ok (Cons.cons cTAct_ok Cons.nil)) mixedP Try.func19 (by decide) rfl cTRList [(6, 13), (8, 14), (11, 7), (2000011, 2), (2000011, 5), (3000011, 3), (3000011, 4), (3000011, 6), (4000011, 6)] (fun _ => rfl) (fun h => by cases h) (fun _ => Nat.le_of_ble_eq_true rfl) ?_
  rintro ⟨on, off⟩ hp ha hb
  replace hp : on.length ≤ 1000 := hp
  clear ha hb
  all_goals (repeat' (first
    | with_reducible refine iTr ?_
    | with_reducible refine iB ?_
    | intro _
    | exact True.intro
    | (show _ ∧ _
       first
        | refine aTT ?_
        | refine aTB ?_
        | refine aT ?_
        | refine aB ?_
        | refine a11 ?_
        | refine a01 ?_
        | refine a00 ?_
        | refine a10 ?_
        | (with_reducible refine And.intro rfl ?_)
        | refine And.intro ?_ ?_)
    | with_reducible exact rfl
    | with_reducible exact HEq.rfl
    | (show (_ : Option Nat) = _; exact rfl)
    | (show (_ : Option Blk) = _; exact rfl)
    | (with_reducible show (nodupB _ && _ && _ && _ && _) = true; exact (Eq.refl true))
    | (with_reducible show (nodupB _ && _ && _ && _) = true; exact (Eq.refl true))
    | (with_reducible show (nodupB _ && _ && _) = true; exact (Eq.refl true))
    | (with_reducible show freeOk _ _ = true; exact (Eq.refl true))
    | (with_reducible show wrOk _ _ _ _ _ = true; exact (Eq.refl true))
    | (show (_ : AV) = _; exact rfl)
    | (show (_ : Heap) = _; exact rfl)
    | (with_reducible show (_ || !_) = true; exact (Eq.refl true))
    | (with_reducible show Nat.beq _ _ = true; exact (Eq.refl true))))
  all_goals (first | (show (_ : Int) = _) | (show (_ : Bool) = _) | (show HEq _ _) | (show ∃ _ : LInv, _) | skip)
  all_goals (try (with_reducible exact rfl))
  all_goals try (refine ⟨⟨{i : Nat // SLr on i}, fun i => [(4, AI i.1), (3, .slc 1), (0, pT)], fun i => ⟨2, (1, some (.seq false 28 .atv (lrP on off (on.take i.1)))) :: (tH true on off).l⟩, fun i => on.length - i.1⟩, ⟨⟨0, ?_⟩, [], ?_⟩, ?_⟩; rotate_right; rintro ⟨i, hS⟩)
  all_goals (repeat' (first
    | with_reducible refine iTr ?_
    | with_reducible refine iB ?_
    | intro _
    | exact True.intro
    | (show _ ∧ _
       first
        | refine aTT ?_
        | refine aTB ?_
        | refine aT ?_
        | refine aB ?_
        | refine a11 ?_
        | refine a01 ?_
        | refine a00 ?_
        | refine a10 ?_
        | (with_reducible refine And.intro rfl ?_)
        | refine And.intro ?_ ?_)
    | with_reducible exact rfl
    | with_reducible exact HEq.rfl
    | (show (_ : Option Nat) = _; exact rfl)
    | (show (_ : Option Blk) = _; exact rfl)
    | (with_reducible show (nodupB _ && _ && _ && _ && _) = true; exact (Eq.refl true))
    | (with_reducible show (nodupB _ && _ && _ && _) = true; exact (Eq.refl true))
    | (with_reducible show (nodupB _ && _ && _) = true; exact (Eq.refl true))
    | (with_reducible show freeOk _ _ = true; exact (Eq.refl true))
    | (with_reducible show wrOk _ _ _ _ _ = true; exact (Eq.refl true))
    | (show (_ : AV) = _; exact rfl)
    | (show (_ : Heap) = _; exact rfl)
    | (with_reducible show (_ || !_) = true; exact (Eq.refl true))
    | (with_reducible show Nat.beq _ _ = true; exact (Eq.refl true))))
  all_goals (first | (show (_ : Int) = _) | (show (_ : Bool) = _) | (show HEq _ _) | (show ∃ _ : LInv, _) | skip)
  all_goals (try (with_reducible exact rfl))
  all_goals try (refine ⟨⟨{k : Nat // SLk (lrP on off (on.take i)) (bsT on off (on.getD i Ty.atv.dflt).block).block k}, fun k => [(7, AI k.1), (3, .slc 1), (5, .ptr 2 p0), (4, AI i), (0, pT)], fun k => ⟨3, (2, some (.obj false [AI (bsT on off (on.getD i Ty.atv.dflt).block).block, AI (bsT on off (on.getD i Ty.atv.dflt).block).node, AI (bsT on off (on.getD i Ty.atv.dflt).block).seq])) :: (1, some (.seq false 28 .atv (lrP on off (on.take i)))) :: (tH true on off).l⟩, fun k => (lrP on off (on.take i)).length - k.1⟩, ⟨⟨0, ?_⟩, [], ?_⟩, ?_⟩; rotate_right; rintro ⟨k, hK⟩)
  all_goals (repeat' (first
    | with_reducible refine iTr ?_
    | with_reducible refine iB ?_
    | intro _
    | exact True.intro
    | (show _ ∧ _
       first
        | refine aTT ?_
        | refine aTB ?_
        | refine aT ?_
        | refine aB ?_
        | refine a11 ?_
        | refine a01 ?_
        | refine a00 ?_
        | refine a10 ?_
        | (with_reducible refine And.intro rfl ?_)
        | refine And.intro ?_ ?_)
    | with_reducible exact rfl
    | with_reducible exact HEq.rfl
    | (show (_ : Option Nat) = _; exact rfl)
    | (show (_ : Option Blk) = _; exact rfl)
    | (with_reducible show (nodupB _ && _ && _ && _ && _) = true; exact (Eq.refl true))
    | (with_reducible show (nodupB _ && _ && _ && _) = true; exact (Eq.refl true))
    | (with_reducible show (nodupB _ && _ && _) = true; exact (Eq.refl true))
    | (with_reducible show freeOk _ _ = true; exact (Eq.refl true))
    | (with_reducible show wrOk _ _ _ _ _ = true; exact (Eq.refl true))
    | (show (_ : AV) = _; exact rfl)
    | (show (_ : Heap) = _; exact rfl)
    | (with_reducible show (_ || !_) = true; exact (Eq.refl true))
    | (with_reducible show Nat.beq _ _ = true; exact (Eq.refl true))))
  all_goals (first | (show (_ : Int) = _) | (show (_ : Bool) = _) | (show HEq _ _) | (show ∃ _ : LInv, _) | skip)
  all_goals (try (with_reducible exact rfl))
  all_goals try (first
    | refine ⟨(⟨(k + 1 : Nat), ?_⟩ : {k : Nat // SLk (lrP on off (on.take i)) (bsT on off (on.getD i Ty.atv.dflt).block).block k}), ?_, ?_⟩
    | refine ⟨⟨(i + 1 : Nat), ?_⟩, ?_, ?_⟩)
  all_goals (repeat' (first
    | with_reducible refine iTr ?_
    | with_reducible refine iB ?_
    | intro _
    | exact True.intro
    | (show _ ∧ _
       first
        | refine aTT ?_
        | refine aTB ?_
        | refine aT ?_
        | refine aB ?_
        | refine a11 ?_
        | refine a01 ?_
        | refine a00 ?_
        | refine a10 ?_
        | (with_reducible refine And.intro rfl ?_)
        | refine And.intro ?_ ?_)
    | with_reducible exact rfl
    | with_reducible exact HEq.rfl
    | (show (_ : Option Nat) = _; exact rfl)
    | (show (_ : Option Blk) = _; exact rfl)
    | (with_reducible show (nodupB _ && _ && _ && _ && _) = true; exact (Eq.refl true))
    | (with_reducible show (nodupB _ && _ && _ && _) = true; exact (Eq.refl true))
    | (with_reducible show (nodupB _ && _ && _) = true; exact (Eq.refl true))
    | (with_reducible show freeOk _ _ = true; exact (Eq.refl true))
    | (with_reducible show wrOk _ _ _ _ _ = true; exact (Eq.refl true))
    | (show (_ : AV) = _; exact rfl)
    | (show (_ : Heap) = _; exact rfl)
    | (with_reducible show (_ || !_) = true; exact (Eq.refl true))
    | (with_reducible show Nat.beq _ _ = true; exact (Eq.refl true))))
  all_goals (first | (show (_ : Int) = _) | (show (_ : Bool) = _) | (show HEq _ _) | (show ∃ _ : LInv, _) | skip)
  all_goals (try (with_reducible exact rfl))
  all_goals (try dsimp only at *)
  all_goals (try replace hS : SLr on i := hS)
  all_goals (try replace hK : SLk (lrP on off (on.take i)) (bsT on off (on.getD i Ty.atv.dflt).block).block k := hK)
  all_goals (try have hl1 := hS.le)
  all_goals (try have hl2 := hK.le)
  all_goals (try have hl3 := lrP_le (on := on) (off := off) (l := on.take i) (i := i) (List.length_take_le _ _))
  all_goals (try simp only [Int.toNat_natCast, decide_eq_true_eq, decide_eq_false_iff_not, beq_iff_eq, beq_eq_false_iff_ne, bne_iff_ne, ne_eq, cond_true, cond_false, Bool.not_true, Bool.not_false, Bool.not_eq_true', Bool.not_eq_false'] at *)
  all_goals (first
    | omega
    | exact HEq.rfl
    | exact rfl
    | exact ⟨Nat.zero_le _⟩
    | exact ⟨by omega⟩
    | exact wrap_succ (by omega)
    | exact ⟨Nat.zero_le _, fun j hj => absurd hj (Nat.not_lt_zero _)⟩
    | exact slk_t hK (by omega) (by assumption)
    | (show (0 + List.length (List.drop k (lrP on off (on.take i)))) * 24 ≤ _; rw [List.length_drop]; omega)
    | (show (List.length (List.take k (lrP on off (on.take i))) + 1) * 24 ≤ _; rw [List.length_take]; omega)
    | exact lr_bytes hl2 hl3 (by omega)
    | (rw [List.take_of_length_le (by omega)]; exact HEq.rfl)
    | skip)
  all_goals (first
    | exact lr_skip (by omega) (fun h => by have h1 := h.1; contradiction)
    | exact lr_skip (by omega) (fun h => by have h1 := beqA_f (by assumption); exact h1 h.2)
    | exact lr_ins (by omega) (by assumption) (beqA_t (by assumption)) hK (fun h => by assumption)
    | exact lr_ins (by omega) (by assumption) (beqA_t (by assumption)) hK (fun h => by exfalso; omega))
end Go.Proofs.Ytjapmlolgfgbaaa

