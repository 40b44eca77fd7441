/- Law 16's plain law: home, and the reference's. No program. -/
import Derived.Test.YtipibgamajhgbaaW15
import Derived.Test.YtipibgamajhgbaaGWe
import Derived.Test.YtipibgamajhgbaaGQb
namespace Go.Proofs.Ytipibgamajhgbaa
open Go.RowKit
set_option linter.unusedVariables false
set_option linter.unusedSimpArgs false
theorem bself {b : Bun} {t : Int} (h : bcheck b t = 0) : bcheck b b.c = 0 := by
  obtain ⟨c, o, hs, d⟩ := b
  rw [right_iff] at h ⊢
  exact ⟨⟨h.1.1, Int.le_refl _⟩, h.2⟩
theorem bself0 {b : Bun} (h : bcheck b b.c = 0) : bcheck b (max b.c 0) = 0 := by
  have := right_cnt h
  rwa [show max b.c 0 = b.c from by omega]
theorem full_right (t : Int) : bcheck (full t 0) (full t 0).c = 0 := by
  unfold full
  split
  · decide
  · rw [right_iff]; simp; omega
theorem join_right {a b : Bun} (ha : bcheck a a.c = 0) (hb : bcheck b b.c = 0) (h : a.c + b.c ≤ 9223372036854775807) : bcheck (join a b) (join a b).c = 0 := by
  obtain ⟨c1, o1, h1, d1⟩ := a
  obtain ⟨c2, o2, h2, d2⟩ := b
  rw [right_iff] at ha hb
  have hw : wrap64 (c1 + c2) = c1 + c2 := by
    have := ha.1.1; have := hb.1.1
    simp only at h
    unfold wrap64
    omega
  unfold join valued
  simp only [hw]
  rw [right_iff]
  obtain ⟨⟨p1, -⟩, p2, p3, p4⟩ := ha
  obtain ⟨⟨q1, -⟩, q2, q3, q4⟩ := hb
  refine ⟨⟨by omega, by omega⟩, fun h0 => ?_, fun ho => ?_, fun hh => ?_⟩
  · have := p2 (by omega)
    have := q2 (by omega)
    simp_all
  · cases o1 <;> cases o2 <;> simp_all
  · cases h1 <;> cases h2 <;> simp_all
structure PL (k : Nat) (xs : List Bun) : Prop where
  len : xs.length ≤ 64
  ok : ∀ j, bcheck (getB xs j) (getB xs j).c = 0 ∧ (getB xs j).c ≤ (k + 1) * 1048576
theorem PL.nn {k : Nat} {xs : List Bun} (h : PL k xs) (j : Int) : 0 ≤ (getB xs j).c := (right_cnt (h.ok j).1).1
theorem PL.new {s t : Int} (ht : t ≤ 1048576) : PL 0 (newB s t) := by
  refine ⟨len_new64 s t, fun j => ⟨?_, ((inv_new ht).2.2 j).2⟩⟩
  rw [get_new]
  split
  · exact full_right t
  · decide
theorem PL.put {k : Nat} {xs : List Bun} (h : PL k xs) (hk : k ≤ 1000) {b : Bun} (hb : bcheck b 1048576 = 0) (i : Int) : PL (k + 1) (putB xs i b) ∧ rputB xs i b = putB xs i b := by
  obtain ⟨h0, h1⟩ := right_cnt hb
  have g := (inv_put (L := xs.length) (k := k) (xs := xs) ⟨rfl, h.len, fun j => ⟨h.nn j, (h.ok j).2⟩⟩ hk h0 h1 i).1
  refine ⟨⟨by rw [g.1]; exact h.len, fun j => ⟨?_, (g.2.2 j).2⟩⟩, ?_⟩
  · rw [get_put]
    split
    · have := (h.ok j).2
      exact join_right (h.ok j).1 (bself hb) (by omega)
    · exact (h.ok j).1
  · unfold rputB putB
    split
    · rw [rjoin_join (bself0 (h.ok i).1) (bself0 (bself hb))]
    · rfl
theorem PL.take {k : Nat} {xs : List Bun} (h : PL k xs) (hk : k ≤ 1000) (i n : Int) (o d : Bool) : PL (k + 1) (takeB xs i n o d).2 ∧ rtakeB xs i n o d = takeB xs i n o d := by
  have g := (inv_take (L := xs.length) (k := k) (xs := xs) ⟨rfl, h.len, fun j => ⟨h.nn j, (h.ok j).2⟩⟩ hk i n o d).1
  refine ⟨⟨by rw [g.1]; exact h.len, fun j => ⟨?_, by have := (g.2.2 j).2; push_cast; omega⟩⟩, ?_⟩
  · rw [get_take]
    split
    · have := (h.ok j).2
      exact bself (split_facts (x := (split (getB xs j) n o d).1) (y := (split (getB xs j) n o d).2) (by omega) (h.ok j).1 rfl).2.1
    · exact (h.ok j).1
  · unfold rtakeB takeB
    split
    · have := (h.ok i).2
      rw [rsplit_split (by omega) (h.ok i).1]
    · rfl
theorem PL.mono {k : Nat} {xs : List Bun} (h : PL k xs) : PL (k + 1) xs := ⟨h.len, fun j => ⟨(h.ok j).1, by have := (h.ok j).2; push_cast; omega⟩⟩
theorem bmore {b : Bun} {t t' : Int} (h : bcheck b t = 0) (ht : t ≤ t') : bcheck b t' = 0 := by
  obtain ⟨c, o, hs, d⟩ := b
  rw [right_iff] at h ⊢
  exact ⟨⟨h.1.1, by omega⟩, h.2⟩
theorem all_plain {b : Bun} (h1 : b.c ≤ 9223372036854775807) (hr : bcheck b b.c = 0) {n : Int} (hn : b.c ≤ n) : split b n true true = (b, bun0) := by
  rw [← rsplit_split h1 hr]
  obtain ⟨c, o, hs, d⟩ := b
  rw [right_iff] at hr
  obtain ⟨⟨h0, -⟩, hz, ho, hd⟩ := hr
  simp only at h1 hn
  unfold rsplit rsplitN
  have e : (if c < (if n < 0 then 0 else n) then c else (if n < 0 then 0 else n)) = c := by split <;> split <;> omega
  simp only [e]
  by_cases hc : c = 0
  · subst hc
    obtain ⟨rfl, rfl⟩ := hz rfl
    have := hd rfl
    subst this
    rfl
  · have : 0 < c := by omega
    cases o
    · simp [this, show ¬ c ≤ 0 from by omega, hc]
      cases hs
      · simp [hd rfl]
      · simp
    · have := ho rfl
      subst this
      simp [this, show ¬ c ≤ 0 from by omega, show 0 < c from by omega, hc]
/-- Home as it stands, and the document's. -/
structure HP (c : Cfg) (k : Nat) (xs : List Bun) (rows : List Row12) (ms : List RRow12) : Prop where
  cfg : cfgE c = 0
  kl : k ≤ 600
  pl : PL k xs
  xl : (xs.length : Int) = c.blocks
  ra : RA (newN c.nodes) k k rows ms
abbrev msC (c : Cfg) (xs : List Bun) (ms : List RRow12) : MS := ⟨c, newN c.nodes, xs, ms⟩
theorem hp_new {c : Cfg} (h : cfgE c = 0) : HP c 0 (newB c.blocks c.tokens) (newR c.blocks) (newM c.blocks) := by
  have hf := cfg_facts h
  exact ⟨h, Nat.zero_le _, PL.new (by omega), by rw [newB_len h]; omega, RA.new _ _⟩
theorem tok_eq {c : Cfg} {dst k : Int} {b : Bun} (h : 0 ≤ b.c) : tokL c dst k b = rtokL c dst k b := by
  unfold tokL rtokL
  by_cases e : b.c = 0
  · rw [if_pos (by omega), if_pos e]
  · rw [if_neg (by omega), if_neg e]
theorem spread_eq {kd f b s x n : Int} (h1 : 1 ≤ n) (h2 : n ≤ 64) : spreadL kd f b s x n = rspreadL kd f b s x n := by
  unfold spreadL rspreadL
  rw [spreadN_id (by omega) h2]
theorem getB_in {xs : List Bun} {i : Int} (h : inB xs i = true) : getB xs i = xs.getD i.toNat bun0 := if_pos h
theorem hp_inb {c : Cfg} {k : Nat} {xs : List Bun} {rows : List Row12} {ms : List RRow12} (h : HP c k xs rows ms) {l : Ltr} (s : Sk1 c l) : inB xs l.block = true := by
  have := (lck s.ok).2.1
  have := h.xl
  exact inB_iff.2 ⟨by omega, by omega⟩
theorem hp_pre {c : Cfg} {k : Nat} {xs : List Bun} {rows : List Row12} {ms : List RRow12} (h : HP c k xs rows ms) (l : Ltr) : PTH (hsC c xs rows) l ∧ PTR (msC c xs ms) l := by
  have hf := cfg_facts h.cfg
  have hk := h.kl
  refine ⟨⟨⟨h.pl.nn⟩, h.ra.n64, fun _ _ => ⟨fun hx => ⟨?_⟩⟩⟩, ⟨hf.1.2, h.ra.n64, h.pl.len, fun s => hp_inb h s, fun hi => ?_, ⟨fun hx => ?_⟩, fun hi => ?_⟩⟩
  · have hb : inR rows l.block = true := inR_iff.2 (isR_iff.1 hx).1
    have hr := h.ra.row _ hb
    show (getR rows l.block).queue.length ≤ _
    rw [hr.queue, List.length_drop]
    have := hr.la
    omega
  · have hi : Go.Proofs.Ytipibgamajhgbaa.inM ms l.block = true := hi
    rw [h.ra.inM] at hi
    exact (h.ra.row _ hi).rowM (by omega) (by omega)
  · have hx : Go.Proofs.Ytipibgamajhgbaa.isM (newN c.nodes) ms l.block l.frm = true := hx
    rw [h.ra.isM] at hx
    have hb : inR rows l.block = true := inR_iff.2 (isR_iff.1 hx).1
    exact ((h.ra.row _ hb).add (by omega) l.frm).rowM (by omega) (by omega)
  · have hi : Go.Proofs.Ytipibgamajhgbaa.inM ms l.block = true := hi
    rw [h.ra.inM] at hi
    have := (h.ra.row _ hi).lk
    show (getM ms l.block).knows.length ≤ _
    omega
theorem PL.all {k : Nat} {xs : List Bun} (h : PL k xs) (hk : k ≤ 1000) {i : Int} (hi : inB xs i = true) : takeB xs i (getB xs i).c true true = (getB xs i, xs.set i.toNat bun0) := by
  unfold takeB
  rw [if_pos hi, all_plain (by have := (h.ok i).2; omega) (h.ok i).1 (Int.le_refl _)]
theorem begO_xlen (h : HS) (x : List Row12 × Atv × Bool) : (begO h x).xs.length = h.xs.length := by
  unfold begO begT
  dsimp only
  split
  · rw [len_take]
  · rfl
theorem hp_beg {c : Cfg} {k : Nat} {xs : List Bun} {rows rows' : List Row12} {ms ms' : List RRow12} (h : HP c k xs rows ms) {at' : Atv} {ok : Bool} (hb : ok = true → inB xs at'.block = true) :
    (begO (hsC c xs rows) (rows', at', ok)).out = (rbegO (msC c xs ms) (ms', at', ok)).out ∧ (rbegO (msC c xs ms) (ms', at', ok)).m = (begO (hsC c xs rows) (rows', at', ok)).xs ∧ PL (k + 1) (begO (hsC c xs rows) (rows', at', ok)).xs := by
  have hf := cfg_facts h.cfg
  cases ok with
  | false => exact ⟨rfl, rfl, h.pl.mono⟩
  | true =>
    have hi := hb rfl
    have ha := h.pl.all (by have := h.kl; omega) hi
    unfold begO rbegO begL rbegL begT
    dsimp only
    rw [if_pos rfl, if_pos rfl, if_pos rfl, if_pos rfl, ha]
    dsimp only
    refine ⟨?_, rfl, ?_⟩
    · rw [spread_eq hf.1.1 hf.1.2, tok_eq (h.pl.nn _), getB_in hi]
    · have := (h.pl.take (by have := h.kl; omega) at'.block (getB xs at'.block).c true true).1
      rwa [ha] at this
theorem hp_take {c : Cfg} {k : Nat} {xs : List Bun} {rows : List Row12} {ms : List RRow12} (h : HP c k xs rows ms) (hk : k + 1 ≤ 600) (l : Ltr) (d : I3) :
    (takeO (hsC c xs rows) l d).out = (rtakeO (msC c xs ms) l d).out ∧ (rtakeO (msC c xs ms) l d).m = (takeO (hsC c xs rows) l d).xs ∧ HP c (k + 1) (takeO (hsC c xs rows) l d).xs (takeO (hsC c xs rows) l d).rows (rtakeO (msC c xs ms) l d).rows := by
  have hf := cfg_facts h.cfg
  have ra1 := h.ra.mono (Nat.le_succ k) (Nat.le_succ k)
  have main : ∀ (t : HO) (r : MO), takeO (hsC c xs rows) l d = t → rtakeO (msC c xs ms) l d = r → (t.out = r.out ∧ r.m = t.xs ∧ PL (k + 1) t.xs ∧ (t.xs.length : Int) = c.blocks ∧ RA (newN c.nodes) (k + 1) (k + 1) t.rows r.rows) → (takeO (hsC c xs rows) l d).out = (rtakeO (msC c xs ms) l d).out ∧ (rtakeO (msC c xs ms) l d).m = (takeO (hsC c xs rows) l d).xs ∧ HP c (k + 1) (takeO (hsC c xs rows) l d).xs (takeO (hsC c xs rows) l d).rows (rtakeO (msC c xs ms) l d).rows := fun t r e1 e2 ⟨h1, h2, h3, h4, h5⟩ => by
    rw [e1, e2]
    exact ⟨h1, h2, h.cfg, hk, h3, h4, h5⟩
  by_cases s : Sk1 c l
  · have hi := hp_inb h s
    have e1 : takeO (hsC c xs rows) l d = kindO (hsC c xs rows) l d := if_pos s
    have e2 : rtakeO (msC c xs ms) l d = rkindO (msC c xs ms) l d := if_pos s
    by_cases k1 : l.kind = 1
    · refine main (comeO (hsC c xs rows) l) (rcomeO (msC c xs ms) l) (by rw [e1]; unfold kindO; rw [if_pos k1]) (by rw [e2]; unfold rkindO; rw [if_pos k1]) ?_
      have ht := ((lck s.ok).2.2.2.1 k1).1
      have hc := (h.ra.cur l.block).1
      unfold comeO rcomeO
      dsimp only
      rw [← hc]
      cases hcur : (curR rows l.block).2 with
      | true =>
        rw [if_pos rfl, if_pos rfl]
        exact ⟨tok_eq (right_cnt ht).1, rfl, h.pl.mono, h.xl, ra1⟩
      | false =>
        rw [if_neg (by decide), if_neg (by decide)]
        obtain ⟨p1, p2⟩ := h.pl.put (by omega) (bmore ht (show c.tokens ≤ 1048576 by omega)) l.block
        exact ⟨rfl, p2, p1, by show ((putB xs l.block l.tok).length : Int) = _; rw [len_put]; exact h.xl, ra1⟩
    by_cases k2 : l.kind = 2
    · refine main (askO (hsC c xs rows) l d) (raskO (msC c xs ms) l d) (by rw [e1]; unfold kindO; rw [if_neg k1, if_pos k2]) (by rw [e2]; unfold rkindO; rw [if_neg k1, if_pos k2]) ?_
      unfold askO raskO askT raskT
      dsimp only
      rw [← getB_in hi]
      obtain ⟨p1, p2⟩ := h.pl.take (by omega) l.block (reply c.policy (getB xs l.block) l.wr d).1 (reply c.policy (getB xs l.block) l.wr d).2.1 (reply c.policy (getB xs l.block) l.wr d).2.2
      rw [p2]
      have hn := (inv_take (L := xs.length) (k := k) (xs := xs) ⟨rfl, h.pl.len, fun j => ⟨h.pl.nn j, (h.pl.ok j).2⟩⟩ (by omega) l.block (reply c.policy (getB xs l.block) l.wr d).1 (reply c.policy (getB xs l.block) l.wr d).2.1 (reply c.policy (getB xs l.block) l.wr d).2.2).2.2.1
      exact ⟨tok_eq hn, rfl, p1, by rw [len_take]; exact h.xl, ra1⟩
    by_cases k3 : l.kind = 3
    · refine main (persO (hsC c xs rows) l) (rpersO (msC c xs ms) l) (by rw [e1]; unfold kindO; rw [if_neg k1, if_neg k2, if_pos k3]) (by rw [e2]; unfold rkindO; rw [if_neg k1, if_neg k2, if_pos k3]) ?_
      obtain ⟨p1, p2⟩ := h.ra.ask (by omega) l.block l.frm
      unfold persO rpersO
      obtain ⟨r', a', ok', hx⟩ : ∃ r a ok, askA (newN c.nodes) rows l.block l.frm = (r, a, ok) := ⟨_, _, _, rfl⟩
      obtain ⟨r2, a2, ok2, hy⟩ : ∃ r a ok, askM (newN c.nodes) ms l.block l.frm = (r, a, ok) := ⟨_, _, _, rfl⟩
      have hbl : ok2 = true → a2.block = l.block := fun h0 => by
        have := askM_block (n := newN c.nodes) (rows := ms) (b := l.block) (nd := l.frm)
        rw [hy] at this
        exact this h0
      dsimp only
      rw [hx, hy] at p1 p2
      rw [hx, hy]
      injection p1 with q1 q2
      subst q1 q2
      obtain ⟨b1, b2, b3⟩ := hp_beg h (rows' := r') (ms' := r2) (at' := a') (ok := ok') (fun h0 => by rw [hbl h0]; exact hi)
      refine ⟨b1, b2, b3, ?_, p2.mono (Nat.le_refl _) (Nat.le_succ k)⟩
      have := begO_xlen (hsC c xs rows) (r', a', ok')
      rw [this]; exact h.xl
    by_cases k5 : l.kind = 5
    · refine main (doneO (hsC c xs rows) l) (rdoneO (msC c xs ms) l) (by rw [e1]; unfold kindO; rw [if_neg k1, if_neg k2, if_neg k3, if_pos k5]) (by rw [e2]; unfold rkindO; rw [if_neg k1, if_neg k2, if_neg k3, if_pos k5]) ?_
      obtain ⟨p1, p2⟩ := h.ra.done l.block l.seq
      unfold doneO rdoneO
      dsimp only
      rw [← p1, spread_eq hf.1.1 hf.1.2]
      exact ⟨rfl, rfl, h.pl.mono, h.xl, p2.mono (Nat.le_succ k) (Nat.le_succ k)⟩
    by_cases k7 : l.kind = 7
    · refine main (acksO (hsC c xs rows) l) (racksO (msC c xs ms) l) (by rw [e1]; unfold kindO; rw [if_neg k1, if_neg k2, if_neg k3, if_neg k5, if_pos k7]) (by rw [e2]; unfold rkindO; rw [if_neg k1, if_neg k2, if_neg k3, if_neg k5, if_pos k7]) ?_
      obtain ⟨p1, p2⟩ := h.ra.ack (by omega) l.block l.seq l.frm
      unfold acksO racksO
      obtain ⟨r', a', ok', hx⟩ : ∃ r a ok, ackA (newN c.nodes) rows l.block l.seq l.frm = (r, a, ok) := ⟨_, _, _, rfl⟩
      obtain ⟨r2, a2, ok2, hy⟩ : ∃ r a ok, ackM (newN c.nodes) ms l.block l.seq l.frm = (r, a, ok) := ⟨_, _, _, rfl⟩
      have hbl : ok2 = true → a2.block = l.block := fun h0 => by
        have := ackM_block (n := newN c.nodes) (rows := ms) (b := l.block) (s := l.seq) (nd := l.frm)
        rw [hy] at this
        exact this h0
      dsimp only
      rw [hx, hy] at p1 p2
      rw [hx, hy]
      injection p1 with q1 q2
      subst q1 q2
      obtain ⟨b1, b2, b3⟩ := hp_beg h (rows' := r') (ms' := r2) (at' := a') (ok := ok') (fun h0 => by rw [hbl h0]; exact hi)
      refine ⟨b1, b2, b3, ?_, p2.mono (Nat.le_succ k) (Nat.le_refl _)⟩
      have := begO_xlen (hsC c xs rows) (r', a', ok')
      rw [this]; exact h.xl
    · exact main ⟨xs, rows, []⟩ ⟨xs, ms, []⟩ (by rw [e1]; unfold kindO; rw [if_neg k1, if_neg k2, if_neg k3, if_neg k5, if_neg k7]) (by rw [e2]; unfold rkindO; rw [if_neg k1, if_neg k2, if_neg k3, if_neg k5, if_neg k7]) ⟨rfl, rfl, h.pl.mono, h.xl, ra1⟩
  · exact main ⟨xs, rows, []⟩ ⟨xs, ms, []⟩ (if_neg s) (if_neg s) ⟨rfl, rfl, h.pl.mono, h.xl, ra1⟩
theorem hp_pm {c : Cfg} {k : Nat} {xs : List Bun} {rows : List Row12} {ms : List RRow12} (h : HP c k xs rows ms) (b : Int) : PM ms b := ⟨fun hi => by
  rw [h.ra.inM] at hi
  have := h.kl
  exact (h.ra.row _ hi).rowM (by omega) (by omega)⟩
theorem hp_q {c : Cfg} {k : Nat} {xs : List Bun} {rows : List Row12} {ms : List RRow12} (h : HP c k xs rows ms) {b : Int} (hb : inR rows b = true) : (getR rows b).queue.length ≤ 1000000 := by
  have hr := h.ra.row _ hb
  rw [hr.queue, List.length_drop]
  have := hr.la
  have := h.kl
  omega
theorem hp_wait {c : Cfg} {k : Nat} {xs : List Bun} {rows : List Row12} {ms : List RRow12} (h : HP c k xs rows ms) (b : Int) : Sm (waitR rows b).length := by
  refine ⟨?_⟩
  unfold waitR
  split
  · rename_i hb; exact hp_q h hb
  · simp
theorem hp_copy {c : Cfg} {k : Nat} {xs : List Bun} {rows : List Row12} {ms : List RRow12} (h : HP c k xs rows ms) : PCopyH (hsC c xs rows) := by
  refine ⟨h.pl.len, h.ra.le64, fun i hi => ⟨?_⟩⟩
  have hi : i < rows.length := hi
  have := hp_q h (b := (i : Int)) (inR_iff.2 ⟨by omega, by omega⟩)
  unfold getR at this
  rwa [Int.toNat_natCast] at this
theorem plA {α : Type} [DecidableEq α] {x y : α} (h : x = y) (hx : (!decide (x = y)) = true) : False := by subst h; simp at hx
theorem plC {x y : Atv × Bool} (h : x = y) (hx : (!(x.1.block == y.1.block && (x.1.node == y.1.node && (x.1.seq == y.1.seq && true)))) = true) : False := by subst h; simp at hx
theorem plD {x y : Atv × Bool} (h : x = y) (hx : (!(x.2 == y.2)) = true) : False := by subst h; simp at hx
end Go.Proofs.Ytipibgamajhgbaa
