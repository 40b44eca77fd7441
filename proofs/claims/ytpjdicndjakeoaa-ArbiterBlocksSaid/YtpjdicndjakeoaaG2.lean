/- A region that draws its order, in which something is written: the rule with an invariant that is told of what has been done. No condition. -/
import Derived.Test.YtpjdicndjakeoaaG
namespace Go.Proofs.Ytpjdicndjakeoaa
open Go.RowKit
set_option linter.unusedVariables false
section
variable {P : Program} {ops : Array Oper} {Q : Exit → Act → World → Prop} {m : Nat}
theorem wpAny_ghost (F : FreeOk ops m) {a : Act} {J : (Nat → Prop) → (Nat → Value) → World → Prop} (hJ : ∀ L L' vs us w, (∀ i, i < m → (L i ↔ L' i)) → (∀ i, i < m → L i → us i = vs i) → J L vs w → J L' us w)
    (step : ∀ i o L vs w, i < m → ops[i]? = some o → ¬ L i → (∀ k ∈ depsOf o, L k) → J L vs w → Does P ops o (actAt ops a vs i) w fun v w' => J (fun j => L j ∨ j = i) (fun j => if j = i then v else vs j) w')
    (last : ∀ vs w, J (fun i => i < m) vs w → wpList P ops Q (ops.toList.drop m) (actAt ops a vs m) w) :
    ∀ (fuel : Nat) (listed : Array Bool) (b : Act) (w : World) (vs : Nat → Value), listed.size = ops.size → (∀ i o, ops[i]? = some o → listed.getD i false = true → ∀ k ∈ depsOf o, listed.getD k false = true) → (∀ i, m ≤ i → listed.getD i false = false) →
      Inv ops m a vs (fun i => listed.getD i false = true) b → J (fun i => listed.getD i false = true) vs w → (List.range ops.size).countP (fun i => !listed.getD i false) ≤ fuel → wpAny P .any ops Q fuel listed b w := by
  intro fuel
  induction fuel with
  | zero =>
    intro listed b w vs hs hc hm hI hS hfu
    have hall : ∀ i, i < ops.size → listed.getD i false = true := fun i hi => by
      cases hl : listed.getD i false with
      | true => rfl
      | false =>
        have : 0 < (List.range ops.size).countP (fun i => !listed.getD i false) := List.countP_pos_iff.2 ⟨i, List.mem_range.2 hi, by simp only [hl]; rfl⟩
        omega
    have hmn : ops.size ≤ m := by
      rcases Nat.lt_or_ge m ops.size with h | h
      · have := hall m h; rw [hm m (Nat.le_refl _)] at this; cases this
      · exact h
    have hle := F.le
    have e := Inv.whole hI (Inv.at_ F m (Nat.le_refl _)) fun d hd => ⟨fun _ => hd, fun _ => hall d (by omega)⟩
    subst e
    exact wpAny_tail F 0 m listed _ w (Nat.le_refl _) F.le hs (fun i hi => ⟨fun _ => by omega, fun _ => hall i hi⟩) (by omega) (last vs w (hJ _ _ _ _ _ (fun k hk => ⟨fun _ => hk, fun _ => hall k (by omega)⟩) (fun _ _ _ => rfl) hS))
  | succ fuel ih =>
    intro listed b w vs hs hc hm hI hS hfu
    have hle := F.le
    by_cases hall : ∀ i, i < m → listed.getD i false = true
    · have e := Inv.whole hI (Inv.at_ F m (Nat.le_refl _)) fun d hd => ⟨fun _ => hd, fun _ => hall d hd⟩
      subst e
      have hL : ∀ i, i < ops.size → (listed.getD i false = true ↔ i < m) := fun i hi => by
        refine ⟨fun h => ?_, hall i⟩
        rcases Nat.lt_or_ge i m with h' | h'
        · exact h'
        · rw [hm i h'] at h; cases h
      refine wpAny_tail F (fuel + 1) m listed _ w (Nat.le_refl _) F.le hs hL ?_ (last vs w (hJ _ _ _ _ _ (fun k hk => ⟨fun _ => hk, fun _ => hall k hk⟩) (fun _ _ _ => rfl) hS))
      have : (List.range ops.size).countP (fun i => !listed.getD i false) = ops.size - m := by
        have e1 : (List.range ops.size).countP (fun i => !listed.getD i false) = (List.range ops.size).countP (fun i => decide (m ≤ i)) := by
          apply List.countP_congr
          intro i hi
          have := hL i (List.mem_range.1 hi)
          cases hl : listed.getD i false
          · simp only [hl] at this ⊢; simp at this ⊢; omega
          · simp only [hl] at this ⊢; simp at this ⊢; omega
        rw [e1]
        have : ∀ n, (List.range n).countP (fun i => decide (m ≤ i)) = n - m := by
          intro n
          induction n with
          | zero => simp
          | succ n ihn =>
            rw [List.range_succ, List.countP_append, ihn]
            by_cases h : m ≤ n
            · simp [h]; omega
            · simp [h]; omega
        exact this _
      omega
    · refine ⟨fun hr => absurd (fun i hi => ready_none F.back hs hr i (by omega)) hall, fun i hi => ?_⟩
      obtain ⟨h1, h2, o, ho, h3⟩ := (mem_ready hs).1 hi
      have him : i < m := by
        rcases Nat.lt_or_ge i m with h' | h'
        · exact h'
        · exact absurd (fun k hk => F.forced i o ho h' (fun j => listed.getD j false = true) hc h3 k (by omega)) hall
      have hagree : ∀ t ∈ o.looksAt ops, b.tmps[t]? = (actAt ops a vs i).tmps[t]? := fun t ht =>
        hI.same (Inv.at_ F i (by omega)) fun d hd hdt => by
          rcases F.apart i o t d him ho ht hd hdt with rfl | h' | ⟨o', ho', h'⟩
          · exact ⟨fun h => (by rw [h2] at h; cases h), fun h => by omega⟩
          · exact ⟨fun _ => F.back i o ho d h', fun _ => h3 d h'⟩
          · have hlt := F.back d o' ho' i h'
            exact ⟨fun h => (by have := hc d o' ho' h i h'; rw [h2] at this; cases this), fun h => by omega⟩
      have hD := (step i o _ vs w him ho (by rw [h2]; exact Bool.false_ne_true) h3 hS).of_same (F.nosel i o him ho) hagree
      have hdst : dstAt ops i = o.dst := by simp [dstAt, ho]
      refine hD.wpOp ho fun v w' hv => ?_
      obtain ⟨us, hus⟩ : ∃ us : Nat → Value, us = fun j => if j = i then v else vs j := ⟨_, rfl⟩
      have ui : us i = v := by rw [hus]; simp
      have uj : ∀ j, j ≠ i → us j = vs j := fun j hj => by rw [hus]; simp [hj]
      rw [← hus] at hv
      rw [← hdst, ← ui]
      refine ih _ _ w' us (by simpa using hs) (fun j o' ho' hj k hk => ?_) (fun j hj => ?_) ((hI.turn fun j hj => uj j fun e => by subst e; rw [h2] at hj; cases hj).put F him (by simp only [h2]; simp) fun j => getD_set (by omega)) (hJ _ _ _ _ _ (fun k hk => (getD_set (by omega)).symm) (fun _ _ _ => rfl) hv) ?_
      · rw [getD_set (by omega)] at hj ⊢
        rcases hj with hj | rfl
        · exact .inl (hc j o' ho' hj k hk)
        · rw [ho] at ho'
          injection ho' with ho'
          subst ho'
          exact .inl (h3 k hk)
      · cases hl : (listed.setIfInBounds i true).getD j false with
        | false => rfl
        | true =>
          rcases (getD_set (by omega)).1 hl with h' | h'
          · rw [hm j hj] at h'; cases h'
          · omega
      · have := countP_less (p := fun i => !listed.getD i false) (q := fun j => !(listed.setIfInBounds i true).getD j false) (i := i)
          (fun j hj => by
            cases hl : listed.getD j false with
            | false => rfl
            | true =>
              have := (getD_set (listed := listed) (i := i) (j := j) (by omega)).2 (.inl hl)
              have hj' : (!(listed.setIfInBounds i true).getD j false) = true := hj
              rw [this] at hj'
              cases hj')
          (by show (!listed.getD i false) = true; rw [h2]; rfl) (by have := (getD_set (listed := listed) (i := i) (j := i) (by omega)).2 (.inr rfl); show (!(listed.setIfInBounds i true).getD i false) = false; rw [this]; rfl) (List.range ops.size) (List.mem_range.2 h1)
        omega
/-- THE RULE, with what holds told of what has been done. -/
theorem wp_region_ghost {id : Nat} {a : Act} {w : World} (hmix : P.follows .mixedOrders = true) (m : Nat) (hF : freeOk ops m = true) {J : (Nat → Prop) → (Nat → Value) → World → Prop} (hJ : ∀ L L' vs us w, (∀ i, i < m → (L i ↔ L' i)) → (∀ i, i < m → L i → us i = vs i) → J L vs w → J L' us w)
    (start : J (fun _ => False) (fun _ => undef) w.drew)
    (step : ∀ i o L vs w, i < m → ops[i]? = some o → ¬ L i → (∀ k ∈ depsOf o, L k) → J L vs w → Does P ops o (actAt ops a vs i) w fun v w' => J (fun j => L j ∨ j = i) (fun j => if j = i then v else vs j) w')
    (last : ∀ vs w, J (fun i => i < m) vs w → wpList P ops Q (ops.toList.drop m) (actAt ops a vs m) w) : (Code.region id ops true).wp P Q a w := by
  have F := freeOk_spec hF
  have none : ∀ i, (Array.replicate ops.size false).getD i false = false := fun i => by
    simp [Array.getD_eq_getD_getElem?, Array.getElem?_replicate]
    split <;> rfl
  refine wp_region_any hmix (wpAny_ghost F hJ step last ops.size _ a _ (fun _ => undef) (by simp) (fun i o _ hi => ?_) (fun i _ => none i) (.start fun i _ => ?_) (hJ _ _ _ _ _ (fun i _ => ⟨fun h => h.elim, fun h => ?_⟩) (fun _ _ h => h.elim) start) ?_)
  · rw [none] at hi; cases hi
  · rw [none]; exact Bool.false_ne_true
  · rw [none] at h; cases h
  · exact Nat.le_trans List.countP_le_length (by simp)
end
end Go.Proofs.Ytpjdicndjakeoaa
