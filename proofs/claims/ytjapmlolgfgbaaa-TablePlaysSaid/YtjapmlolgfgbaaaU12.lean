/- Layer 11: the plain law of TablePlays: a table and all that it was told. No condition. -/
import Derived.Test.YtjapmlolgfgbaaaU11
namespace Go.Proofs.Ytjapmlolgfgbaaa
open Go.RowKit
set_option linter.unusedVariables false
set_option linter.unusedSimpArgs false
/-- The greatest of a block that is greater than a number. -/
def bmS (o b : Int) (x a : Atv) : Atv := if a.block = b ∧ x.seq < a.seq ∧ o < a.seq then a else x
def bmT (o b : Int) (l : List Atv) : Atv := l.foldl (bmS o b) zA
theorem bs_bm (on off : List Atv) (b : Int) : bsT on off b = bmT (ovT off b) b on := rfl
theorem bmT_snoc (o b : Int) (l : List Atv) (a : Atv) : bmT o b (l ++ [a]) = bmS o b (bmT o b l) a := by simp [bmT, List.foldl_append]
theorem list_snoc {α : Type} {P : List α → Prop} (h0 : P []) (h1 : ∀ l a, P l → P (l ++ [a])) : ∀ l, P l := fun l => by
  have : ∀ r : List α, P r.reverse := fun r => by
    induction r with
    | nil => exact h0
    | cons a r ih => rw [List.reverse_cons]; exact h1 _ _ ih
  have h := this l.reverse
  rwa [List.reverse_reverse] at h
theorem bm_zero {o b : Int} (ho : 0 ≤ o) : ∀ l : List Atv, bmT o b l = zA ∨ (0 < (bmT o b l).seq ∧ o < (bmT o b l).seq ∧ (bmT o b l).block = b ∧ bmT o b l ∈ l) := by
  refine list_snoc (.inl rfl) fun l a ih => ?_
  rw [bmT_snoc]
  unfold bmS
  split
  · rename_i h
    exact .inr ⟨by omega, h.2.2, h.1, by simp⟩
  · rcases ih with ih | ih
    · exact .inl ih
    · exact .inr ⟨ih.1, ih.2.1, ih.2.2.1, by simp [ih.2.2.2]⟩
theorem bm_max {o b : Int} : ∀ l : List Atv, ∀ a ∈ l, a.block = b → o < a.seq → a.seq ≤ (bmT o b l).seq := by
  refine list_snoc (fun a h => by simp at h) fun l c ih a ha hb ho => ?_
  rw [bmT_snoc]
  unfold bmS
  rcases List.mem_append.1 ha with h | h
  · have := ih a h hb ho
    split
    · rename_i h2; omega
    · exact this
  · simp at h
    subst h
    split
    · exact Int.le_refl _
    · rename_i h2
      have : ¬ (bmT o b l).seq < a.seq := fun h3 => h2 ⟨hb, h3, ho⟩
      omega
theorem bm_more {o s b : Int} (ho : 0 ≤ o) (hs : o ≤ s) : ∀ l : List Atv, bmT s b l = if (bmT o b l).seq ≤ s then zA else bmT o b l := by
  refine list_snoc (by show zA = if zA.seq ≤ s then zA else zA; split <;> rfl) fun l a ih => ?_
  rw [bmT_snoc, bmT_snoc, ih]
  have hz : zA.seq = 0 := rfl
  generalize bmT o b l = x
  have key : ∀ (o' : Int) (y : Atv), (a.block = b ∧ y.seq < a.seq ∧ o' < a.seq → bmS o' b y a = a) ∧ (¬ (a.block = b ∧ y.seq < a.seq ∧ o' < a.seq) → bmS o' b y a = y) := fun o' y => ⟨fun h => if_pos h, fun h => if_neg h⟩
  by_cases h1 : x.seq ≤ s
  · rw [if_pos h1]
    by_cases h2 : a.block = b ∧ zA.seq < a.seq ∧ s < a.seq
    · rw [(key s zA).1 h2, (key o x).1 ⟨h2.1, by omega, by omega⟩, if_neg (by omega)]
    · rw [(key s zA).2 h2]
      by_cases h3 : a.block = b ∧ x.seq < a.seq ∧ o < a.seq
      · rw [(key o x).1 h3, if_pos]
        by_cases h4 : s < a.seq
        · exact absurd ⟨h3.1, by omega, h4⟩ h2
        · omega
      · rw [(key o x).2 h3, if_pos h1]
  · rw [if_neg h1]
    by_cases h2 : a.block = b ∧ x.seq < a.seq ∧ s < a.seq
    · rw [(key s x).1 h2, (key o x).1 ⟨h2.1, h2.2.1, by omega⟩, if_neg (by omega)]
    · rw [(key s x).2 h2, (key o x).2 (fun h3 => h2 ⟨h3.1, h3.2.1, by omega⟩), if_neg h1]
theorem ov_nn (off : List Atv) (b : Int) : 0 ≤ ovT off b := by
  have : ∀ (l : List Atv) (n : Int), 0 ≤ n → 0 ≤ l.foldl (ovS b) n := fun l => by
    induction l with
    | nil => exact fun n h => h
    | cons a l ih =>
      intro n h
      refine ih _ ?_
      unfold ovS
      split
      · rename_i h2; omega
      · exact h
  exact this off 0 (Int.le_refl _)
theorem ov_snoc (off : List Atv) (b b0 s : Int) : ovT (off ++ [⟨b0, 0, s⟩]) b = if b0 = b ∧ ovT off b < s then s else ovT off b := by
  simp only [ovT, List.foldl_append, List.foldl_cons, List.foldl_nil]
  rfl
theorem bs_new {on off : List Atv} {a : Atv} (h1 : (bsT on off a.block).seq < a.seq) (h2 : ovT off a.block < a.seq) : bsT (on ++ [a]) off a.block = a := by
  rw [bs_bm, bmT_snoc, ← bs_bm]
  exact if_pos ⟨rfl, h1, h2⟩
theorem bs_old {on off : List Atv} {a : Atv} {b : Int} (h : ¬ a.block = b) : bsT (on ++ [a]) off b = bsT on off b := by
  rw [bs_bm, bmT_snoc, ← bs_bm]
  exact if_neg (fun hh => h hh.1)
theorem bs_dea {on off : List Atv} {b s : Int} (h : ovT off b < s) : bsT on (off ++ [⟨b, 0, s⟩]) b = if (bsT on off b).seq ≤ s then zA else bsT on off b := by
  have h1 : ovT (off ++ [⟨b, 0, s⟩]) b = s := by rw [ov_snoc]; exact if_pos ⟨rfl, h⟩
  have h0 := ov_nn off b
  rw [bs_bm, h1, bm_more h0 (by omega : ovT off b ≤ s), ← bs_bm]
theorem bs_keep {on off : List Atv} {b s j : Int} (h : ¬ (b = j ∧ ovT off j < s)) : bsT on (off ++ [⟨b, 0, s⟩]) j = bsT on off j := by
  have h1 : ovT (off ++ [⟨b, 0, s⟩]) j = ovT off j := by rw [ov_snoc]; exact if_neg h
  rw [bs_bm, h1, ← bs_bm]
/-- A table against all that it was told. -/
structure RPl (t : Tb) (on off : List Atv) : Prop where
  ov : ∀ b, gO t b = ovT off b
  act : ∀ b, mGet t.act b = if 0 < (bsT on off b).seq then some (bsT on off b) else none
  inv : TbI t
  nd : on.Nodup
theorem rpl_bs {t : Tb} {on off : List Atv} (h : RPl t on off) (b : Int) : gA t b = bsT on off b := by
  unfold gA
  rw [h.act]
  split
  · rfl
  · rename_i hn
    rcases bm_zero (o := ovT off b) (b := b) (ov_nn _ _) on with h1 | h1
    · exact (bs_bm on off b ▸ h1).symm
    · exact absurd (by rw [bs_bm]; exact h1.1) hn
theorem rpl_some {t : Tb} {on off : List Atv} (h : RPl t on off) (b : Int) : (mGet t.act b).isSome = decide (0 < (bsT on off b).seq) := by
  rw [h.act]
  split
  · rename_i h1; simp [h1]
  · rename_i h1; simp [h1]
theorem rpl_ok {t : Tb} {on off : List Atv} (h : RPl t on off) (a : Atv) : okA11 t a = (actT on off a).2 := by
  unfold okA11 actT
  rw [h.ov, rpl_bs h]
  split
  · exact decide_eq_false (by omega)
  · exact decide_eq_true (by omega)
theorem rpl0 : RPl tb0 [] [] := ⟨fun b => rfl, fun b => rfl, tbi0, List.nodup_nil⟩
theorem rpl_actv {t : Tb} {on off : List Atv} (h : RPl t on off) (a : Atv) : RPl (actvT t a) (actT on off a).1 off := by
  have hok := rpl_ok h a
  by_cases hk : okA11 t a = true
  · have hk' : 1 ≤ a.seq ∧ gO t a.block < a.seq ∧ (gA t a.block).seq < a.seq := by simpa [okA11] using hk
    rw [h.ov, rpl_bs h] at hk'
    have e1 : actT on off a = (on ++ [a], true) := actT_t (by omega)
    rw [e1]
    refine ⟨fun b => by rw [gO_actv]; exact h.ov b, fun b => ?_, tbi_actv h.inv a, ?_⟩
    · rw [mA_actv]
      by_cases e : a.block = b
      · subst e
        rw [if_pos ⟨rfl, hk⟩, bs_new hk'.2.2 hk'.2.1, if_pos (by omega)]
      · rw [if_neg (fun hh => e hh.1.symm), bs_old e]
        exact h.act b
    · rw [List.nodup_append]
      refine ⟨h.nd, by simp, fun x hx y hy e => ?_⟩
      simp at hy
      subst hy
      subst e
      have := bm_max (o := ovT off x.block) (b := x.block) on x hx rfl hk'.2.1
      rw [← bs_bm] at this
      omega
  · have hk : okA11 t a = false := by simpa using hk
    rw [actv_f hk]
    rw [hk] at hok
    have e1 : (actT on off a).1 = on := by
      unfold actT at hok ⊢
      split
      · rfl
      · rename_i hn
        rw [if_neg hn] at hok
        cases hok
    rw [e1]
    exact h
theorem rpl_dea {t : Tb} {on off : List Atv} (h : RPl t on off) (b s : Int) : RPl (deaT t b s) on (off ++ [⟨b, 0, s⟩]) := by
  refine ⟨fun j => ?_, fun j => ?_, tbi_dea h.inv b s, h.nd⟩
  · rw [gO_dea, ov_snoc, h.ov, h.ov]
    by_cases e : j = b
    · subst e
      rw [if_pos rfl]
      by_cases h1 : ovT off j < s
      · rw [if_pos h1, if_pos ⟨rfl, h1⟩]
      · rw [if_neg h1, if_neg (fun h => h1 h.2)]
    · rw [if_neg e, if_neg (fun h => e h.1.symm)]
  · rw [mA_dea]
    by_cases e : j = b
    · subst e
      have hz : zA.seq = 0 := rfl
      have hb := rpl_bs h j
      by_cases h1 : ovT off j < s
      · rw [bs_dea h1, ← hb]
        by_cases h2 : (gA t j).seq ≤ s
        · have e1 : (if (gA t j).seq ≤ s then zA else gA t j) = zA := if_pos h2
          rw [e1]
          have e2 : (if 0 < zA.seq then some zA else none) = none := if_neg (by omega)
          rw [e2]
          cases hg : mGet t.act j with
          | none => simp
          | some x => exact if_pos ⟨rfl, rfl, h2⟩
        · have e1 : (if (gA t j).seq ≤ s then zA else gA t j) = gA t j := if_neg h2
          rw [e1, if_neg (fun hh => h2 hh.2.2), hb]
          exact h.act j
      · rw [bs_keep (fun hh => h1 hh.2)]
        by_cases h2 : (mGet t.act j).isSome = true ∧ (gA t j).seq ≤ s
        · exfalso
          obtain ⟨x, hx⟩ := Option.isSome_iff_exists.1 h2.1
          have h3 := h.inv.ovr j x hx
          rw [h.ov] at h3
          have h4 := h2.2
          rw [gA_some hx] at h4
          omega
        · rw [if_neg (fun hh => h2 hh.2)]
          exact h.act j
    · rw [if_neg (fun hh => e hh.1), bs_keep (fun hh => e hh.1.symm)]
      exact h.act j
/-! ### the lists -/
theorem insA_mem {a x : Atv} : ∀ {l : List Atv}, x ∈ insA a l ↔ x = a ∨ x ∈ l
  | [] => by simp [insA]
  | y :: r => by
    rw [insA]
    split
    · rw [List.mem_cons, List.mem_cons, insA_mem (l := r)]
      constructor
      · rintro (h | h | h) <;> simp [h]
      · rintro (h | h | h) <;> simp [h]
    · rw [List.mem_cons]
def AscB (l : List Atv) : Prop := l.Pairwise (fun p q => p.block < q.block)
theorem insA_asc {a : Atv} : ∀ {l : List Atv}, AscB l → (∀ x ∈ l, x.block ≠ a.block) → AscB (insA a l)
  | [], _, _ => List.pairwise_singleton ..
  | y :: r, h, hne => by
    have hh := List.pairwise_cons.1 h
    rw [insA]
    split
    · rename_i hlt
      refine List.pairwise_cons.2 ⟨fun x hx => ?_, insA_asc hh.2 fun x hx => hne x (List.mem_cons_of_mem _ hx)⟩
      rcases insA_mem.1 hx with rfl | hx
      · exact hlt
      · exact hh.1 x hx
    · rename_i hlt
      have h1 := hne y (List.mem_cons_self ..)
      refine List.pairwise_cons.2 ⟨fun x hx => ?_, h⟩
      rcases List.mem_cons.1 hx with rfl | hx
      · omega
      · have := hh.1 x hx
        omega
theorem asc_eq : ∀ {l m : List Atv}, AscB l → AscB m → (∀ x, x ∈ l ↔ x ∈ m) → l = m
  | [], [], _, _, _ => rfl
  | [], b :: m, _, _, h => absurd ((h b).2 (List.mem_cons_self ..)) (by simp)
  | a :: l, [], _, _, h => absurd ((h a).1 (List.mem_cons_self ..)) (by simp)
  | a :: l, b :: m, hl, hm, h => by
    have h1 := List.pairwise_cons.1 hl
    have h2 := List.pairwise_cons.1 hm
    have e : a = b := by
      rcases List.mem_cons.1 ((h a).1 (List.mem_cons_self ..)) with e | ha
      · exact e
      · rcases List.mem_cons.1 ((h b).2 (List.mem_cons_self ..)) with e | hb
        · exact e.symm
        · have := h2.1 a ha
          have := h1.1 b hb
          omega
    subst e
    congr 1
    refine asc_eq h1.2 h2.2 fun x => ⟨fun hx => ?_, fun hx => ?_⟩
    · rcases List.mem_cons.1 ((h x).1 (List.mem_cons_of_mem _ hx)) with e | hx2
      · subst e
        have := h1.1 x hx
        omega
      · exact hx2
    · rcases List.mem_cons.1 ((h x).2 (List.mem_cons_of_mem _ hx)) with e | hx2
      · subst e
        have := h2.1 x hx
        omega
      · exact hx2
def Live (on off : List Atv) (x : Atv) : Prop := 0 < (bsT on off x.block).seq ∧ bsT on off x.block = x
theorem lrP_spec {on off : List Atv} : ∀ l : List Atv, l.Nodup → AscB (lrP on off l) ∧ ∀ x, x ∈ lrP on off l ↔ x ∈ l ∧ Live on off x := by
  refine list_snoc (fun _ => ⟨.nil, fun x => by simp [lrP]⟩) fun l a ih hnd => ?_
  rw [List.nodup_append] at hnd
  obtain ⟨h1, h2⟩ := ih hnd.1
  have e : lrP on off (l ++ [a]) = lrS on off (lrP on off l) a := by simp [lrP, List.foldl_append]
  rw [e]
  by_cases hl : Live on off a
  · rw [show lrS on off (lrP on off l) a = insA a (lrP on off l) from if_pos hl]
    refine ⟨insA_asc h1 fun x hx hb => ?_, fun x => ?_⟩
    · obtain ⟨h3, h4⟩ := (h2 x).1 hx
      have : x = a := by rw [← h4.2, ← hl.2, hb]
      subst this
      exact hnd.2.2 x h3 x (by simp) rfl
    · rw [insA_mem, h2, List.mem_append, List.mem_singleton]
      constructor
      · rintro (rfl | h)
        · exact ⟨.inr rfl, hl⟩
        · exact ⟨.inl h.1, h.2⟩
      · rintro ⟨h | h, h3⟩
        · exact .inr ⟨h, h3⟩
        · exact .inl h
  · rw [show lrS on off (lrP on off l) a = lrP on off l from if_neg hl]
    refine ⟨h1, fun x => ?_⟩
    rw [h2, List.mem_append, List.mem_singleton]
    constructor
    · exact fun h => ⟨.inl h.1, h.2⟩
    · rintro ⟨h | h, h3⟩
      · exact ⟨h, h3⟩
      · subst h
        exact absurd h3 hl
theorem lsT_snd {t : Tb} (h : TbI t) : lsT t = t.act.map (·.2) := by
  unfold lsT lsK
  rw [List.map_map]
  exact List.map_congr_left fun e he => gA_some (mGet_mem h.asc he)
theorem rpl_list {t : Tb} {on off : List Atv} (h : RPl t on off) : lsT t = lrT on off := by
  obtain ⟨h1, h2⟩ := lrP_spec (on := on) (off := off) on h.nd
  have hm : ∀ x, x ∈ lsT t ↔ mGet t.act x.block = some x := fun x => by
    rw [lsT_snd h.inv, List.mem_map]
    constructor
    · rintro ⟨e, he, rfl⟩
      have h3 := mGet_mem h.inv.asc he
      rw [h.inv.blk _ _ h3]
      exact h3
    · exact fun hx => ⟨_, mem_of_get hx, rfl⟩
  refine asc_eq ?_ h1 fun x => ?_
  · rw [lsT_snd h.inv]
    unfold AscB
    rw [List.pairwise_map]
    refine List.Pairwise.imp_of_mem (fun {a b} ha hb hab => ?_) h.inv.asc
    rw [h.inv.blk _ _ (mGet_mem h.inv.asc ha), h.inv.blk _ _ (mGet_mem h.inv.asc hb)]
    exact hab
  · rw [hm, show lrT on off = lrP on off on from rfl, h2, h.act]
    unfold Live
    constructor
    · intro hx
      split at hx
      · rename_i h0
        injection hx with hx
        refine ⟨?_, h0, hx⟩
        rcases bm_zero (o := ovT off x.block) (b := x.block) (ov_nn _ _) on with h3 | h3
        · rw [← bs_bm] at h3
          rw [h3] at h0
          exact absurd h0 (by decide)
        · have := h3.2.2.2
          rwa [← bs_bm, hx] at this
      · cases hx
    · rintro ⟨-, h0, hx⟩
      rw [if_pos h0, hx]
end Go.Proofs.Ytjapmlolgfgbaaa
