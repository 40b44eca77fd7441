/- HomeForwards of layer 16: what it comes to. No program. -/
import Derived.Test.YtipibgamajhgbaaW15
namespace Go.Proofs.Ytipibgamajhgbaa
open Go.RowKit
set_option linter.unusedVariables false
set_option linter.unusedSimpArgs false
/-- Home, while a node's request for block 0 is active. -/
structure Fw (c : Cfg) (node : Int) (xs : List Bun) (rows : List Row12) : Prop where
  ih : IH c 1 xs rows
  b0 : getB xs 0 = bun0
  cur : curR rows 0 = (⟨0, node, 1⟩, true)
theorem split_bun0 (n : Int) (o d : Bool) : split bun0 n o d = (bun0, bun0) := by
  have h : clamp n 0 (max bun0.c 0) = 0 := by
    unfold clamp bun0
    dsimp only
    omega
  unfold split
  rw [h]
  cases o <;> cases d <;> decide
theorem take_full (t : Int) : (split (full t 0) (full t 0).c true true).2 = bun0 := by
  by_cases h : t < 1
  · unfold full
    rw [if_pos h, split_bun0]
  · unfold full
    rw [if_neg h]
    have hc : clamp t 0 (max t 0) = t := by unfold clamp; omega
    unfold split
    dsimp only
    rw [hc]
    unfold splitW
    simp only [Bool.and_self, Bool.true_and]
    have h0 : decide (0 < t) = true := decide_eq_true (by omega)
    rw [h0]
    simp only [Bool.not_true, Bool.and_false, Bool.false_eq_true, if_false]
    rw [if_neg h]
    dsimp only
    rw [if_neg (by omega)]
theorem fw_start {c : Cfg} (h : cfgE c = 0) {node : Int} (hn : nodeE c node = true) : Fw c node (takeO (hsC c (newB c.blocks c.tokens) (newR c.blocks)) (lPers c node) d0).xs (takeO (hsC c (newB c.blocks c.tokens) (newR c.blocks)) (lPers c node) d0).rows := by
  have hf := cfg_facts h
  have ha : 0 ≤ node ∧ node < c.nodes := by simpa [nodeE] using hn
  have e := tk3 (h := hsC c (newB c.blocks c.tokens) (newR c.blocks)) (d := d0) (sk_pers h ha.1 ha.2) ⟨rfl⟩
  have hi := ih_take (n := newN c.nodes) (ih_new h) (by omega) (lPers c node) d0
  refine ⟨hi, ?_, ?_⟩ <;> rw [e] <;> clear e hi
  · have hr : getR (newR c.blocks) 0 = zRow := by
      unfold getR newR
      rw [List.getD_eq_getElem?_getD, List.getElem?_replicate, if_pos (by rw [wid (by omega) (by omega)]; omega)]
      rfl
    have hx : isR (newN c.nodes) (newR c.blocks) 0 node = true := isR_iff.2 ⟨⟨Int.le_refl _, by rw [newR_len h]; omega⟩, by rw [wid (by omega) hf.1.2]; exact ha⟩
    have hq : quiet (addQ (getR (newR c.blocks) 0) node) = false := by rw [hr]; rfl
    have ea : (askA (newN c.nodes) (newR c.blocks) 0 node).2 = (⟨0, node, 1⟩, true) := by
      rw [ask_t hx, next_n hq, hr]
      rfl
    show getB (begO (hsC c (newB c.blocks c.tokens) (newR c.blocks)) (askA (newN c.nodes) (newR c.blocks) 0 node)).xs 0 = bun0
    unfold begO
    dsimp only
    rw [ea]
    dsimp only
    rw [if_pos rfl]
    unfold begT
    dsimp only
    have hin : inB (newB c.blocks c.tokens) 0 = true := inB_iff.2 ⟨Int.le_refl _, by rw [newB_len h]; omega⟩
    rw [get_take, if_pos ⟨hin, rfl⟩, get_new, if_pos hin, take_full]
  · have hr : getR (newR c.blocks) 0 = zRow := by
      unfold getR newR
      rw [List.getD_eq_getElem?_getD, List.getElem?_replicate, if_pos (by rw [wid (by omega) (by omega)]; omega)]
      rfl
    have hx : isR (newN c.nodes) (newR c.blocks) 0 node = true := isR_iff.2 ⟨⟨Int.le_refl _, by rw [newR_len h]; omega⟩, by rw [wid (by omega) hf.1.2]; exact ha⟩
    have hq : quiet (addQ (getR (newR c.blocks) 0) node) = false := by rw [hr]; rfl
    show curR (askA (newN c.nodes) (newR c.blocks) 0 node).1 0 = _
    have hl : 0 < (newR c.blocks).length := by rw [newR_len h]; omega
    rw [ask_t hx, next_n hq]
    unfold curR
    dsimp only
    rw [getR_setR (b := 0) hl, if_pos (by rw [Bool.and_eq_true]; exact ⟨inR_iff.2 ⟨Int.le_refl _, by rw [len_setR]; omega⟩, rfl⟩), hr]
    rfl
theorem fw_tok {c : Cfg} {node : Int} {xs : List Bun} {rows : List Row12} (h : Fw c node xs rows) {l : Ltr} {d : I3} (s : Sk1 c l) (hk : l.kind = 1) (hb : l.block = 0) :
    takeO (hsC c xs rows) l d = ⟨xs, rows, [⟨1, c.nodes, node, 0, 0, 0, false, l.tok⟩]⟩ := by
  rw [tk1 (h := hsC c xs rows) s ⟨hk⟩]
  have hl := (lck s.ok).2.2.2.1 hk
  have hc := right_cnt hl.1
  unfold comeO
  dsimp only
  rw [hb, h.cur]
  unfold tokL
  dsimp only
  rw [if_pos rfl, if_neg (by have := hl.2; omega)]
theorem fw_ask {c : Cfg} {node : Int} {xs : List Bun} {rows : List Row12} (h : Fw c node xs rows) {l : Ltr} {d : I3} (s : Sk1 c l) (hk : l.kind = 2) (hb : l.block = 0) :
    takeO (hsC c xs rows) l d = ⟨xs, rows, []⟩ := by
  have hf := cfg_facts h.ih.cfg
  have hl := ih_len h.ih
  rw [tk2 (h := hsC c xs rows) s ⟨hk⟩]
  have hin : inB xs 0 = true := inB_iff.2 ⟨Int.le_refl _, by omega⟩
  have hg : xs.getD (0 : Int).toNat bun0 = bun0 := by
    have := h.b0
    unfold getB at this
    rwa [if_pos hin] at this
  have e : ∀ n o d, takeB xs 0 n o d = (bun0, xs) := fun n o d => by
    unfold takeB
    rw [if_pos hin, h.b0, split_bun0]
    dsimp only
    have := set_getD_self (xs := xs) (i := (0 : Int).toNat) (d := bun0) (by omega)
    rw [hg] at this
    rw [this]
  unfold askO askT
  dsimp only
  rw [hb, e]
  unfold tokL
  rfl
/-- The letter is one of those that the law speaks of. -/
structure FwL (c : Cfg) (l : Ltr) : Prop where
  sk : Sk1 c l
  kind : l.kind = 1 ∨ l.kind = 2
  block : l.block = 0
theorem fw_xs {c : Cfg} {node : Int} {xs : List Bun} {rows : List Row12} (h : Fw c node xs rows) {l : Ltr} {d : I3} (s : FwL c l) : (takeO (hsC c xs rows) l d).xs = xs ∧ (takeO (hsC c xs rows) l d).rows = rows := by
  rcases s.kind with k | k
  · rw [fw_tok h s.sk k s.block]; exact ⟨rfl, rfl⟩
  · rw [fw_ask h s.sk k s.block]; exact ⟨rfl, rfl⟩
theorem fw_len {c : Cfg} {node : Int} {xs : List Bun} {rows : List Row12} (h : Fw c node xs rows) {l : Ltr} {d : I3} (s : FwL c l) (hk : l.kind = 2) : (takeO (hsC c xs rows) l d).out.length = 0 := by
  rw [fw_ask h s.sk hk s.block]
  rfl
theorem fw_out {c : Cfg} {node : Int} {xs : List Bun} {rows : List Row12} (h : Fw c node xs rows) {l : Ltr} {d : I3} (s : FwL c l) (hk : l.kind = 1) : (takeO (hsC c xs rows) l d).out = [⟨1, c.nodes, node, 0, 0, 0, false, l.tok⟩] := by
  rw [fw_tok h s.sk hk s.block]
theorem fwl_1 {c : Cfg} {l : Ltr} (hb : (l.block != 0) = false) (hk : (l.kind != 1) = false) (hc : (bif false then true else lcheck c l != 0) = false) (ht : (bif false then true else l.to != c.nodes) = false) : FwL c l :=
  ⟨⟨bne_eq_false_iff_eq.1 hc, bne_eq_false_iff_eq.1 ht⟩, .inl (bne_eq_false_iff_eq.1 hk), bne_eq_false_iff_eq.1 hb⟩
theorem fwl_2 {c : Cfg} {l : Ltr} (hb : (l.block != 0) = false) (hk1 : (l.kind != 1) = true) (hk : (bif false then true else bif true then l.kind != 2 else false) = false) (hc : (bif false then true else lcheck c l != 0) = false) (ht : (bif false then true else l.to != c.nodes) = false) : FwL c l :=
  ⟨⟨bne_eq_false_iff_eq.1 hc, bne_eq_false_iff_eq.1 ht⟩, .inr (bne_eq_false_iff_eq.1 hk), bne_eq_false_iff_eq.1 hb⟩
theorem fw_bad1 {c : Cfg} {node : Int} {xs : List Bun} {rows : List Row12} (h : Fw c node xs rows) {l : Ltr} {d : I3} (s : FwL c l) (hk : (l.kind == 2) = true) (hb : (bif true then (((takeO (hsC c xs rows) l d).out.length : Int) != 0) else false) = true) : False := by
  rw [fw_len h s (by simpa using hk)] at hb
  cases hb
theorem fw_bad2 {c : Cfg} {node : Int} {xs : List Bun} {rows : List Row12} (h : Fw c node xs rows) {l : Ltr} {d : I3} (s : FwL c l) (hk : (l.kind == 1) = true) (hb : (bif true then (!decide ((takeO (hsC c xs rows) l d).out = [⟨1, c.nodes, node, 0, 0, 0, false, l.tok⟩])) else false) = true) : False := by
  rw [fw_out h s (by simpa using hk)] at hb
  simp at hb
theorem fw_pos {c : Cfg} {node : Int} {xs : List Bun} {rows : List Row12} (h : Fw c node xs rows) : 0 < xs.length := by
  have := ih_len h.ih
  have := cfg_facts h.ih.cfg
  omega
theorem fw_end {c : Cfg} {node : Int} {xs : List Bun} {rows : List Row12} (h : Fw c node xs rows) {z : Bun} : ((xs.getD (Int.toNat 0) z).c == 0 && ((xs.getD (Int.toNat 0) z).o == false && ((xs.getD (Int.toNat 0) z).h == false && ((xs.getD (Int.toNat 0) z).d == 0 && true)))) = true := by
  have hp := fw_pos h
  have hin : inB xs 0 = true := inB_iff.2 ⟨Int.le_refl _, by omega⟩
  have hg := h.b0
  unfold getB at hg
  rw [if_pos hin] at hg
  rw [List.getD_eq_getElem?_getD, List.getElem?_eq_getElem (show (0 : Int).toNat < xs.length from hp)] at hg ⊢
  rw [Option.getD_some] at hg ⊢
  rw [hg]
  rfl
theorem nd_of {b : Bool} (h : (bif false then true else !b) = false) : b = true := by
  cases b
  · cases h
  · rfl
end Go.Proofs.Ytipibgamajhgbaa
