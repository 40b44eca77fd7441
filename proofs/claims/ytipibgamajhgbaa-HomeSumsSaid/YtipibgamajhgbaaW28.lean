/- HomeSums of layer 16: what it comes to. No program. -/
import Derived.Test.YtipibgamajhgbaaW23
namespace Go.Proofs.Ytipibgamajhgbaa
open Go.RowKit
set_option linter.unusedVariables false
set_option linter.unusedSimpArgs false
/-- A row speaks of nodes that there are. -/
structure RP (c : Cfg) (k : Nat) (r : Row12) : Prop where
  q : ∀ x ∈ r.queue, 0 ≤ x ∧ x < c.nodes
  s : 0 ≤ r.seq ∧ r.seq ≤ k
  a : r.on = true → 0 ≤ r.act.node ∧ r.act.node < c.nodes
def RN (c : Cfg) (k : Nat) (rows : List Row12) : Prop := ∀ b, RP c k (getR rows b)
theorem RP.mono {c : Cfg} {k : Nat} {r : Row12} (h : RP c k r) : RP c (k + 1) r := ⟨h.q, ⟨h.s.1, by have := h.s.2; push_cast; omega⟩, h.a⟩
theorem RN.mono {c : Cfg} {k : Nat} {rows : List Row12} (h : RN c k rows) : RN c (k + 1) rows := fun b => (h b).mono
theorem RN.set {c : Cfg} {k : Nat} {rows : List Row12} (h : RN c k rows) {b : Int} {r : Row12} (hr : RP c k r) : RN c k (setR rows b r) := fun j => by
  unfold getR setR
  rw [List.getD_eq_getElem?_getD, List.getElem?_set]
  split
  · split
    · exact hr
    · have := h (rows.length : Int)
      unfold getR at this
      rw [List.getD_eq_getElem?_getD, Int.toNat_natCast, List.getElem?_eq_none (Nat.le_refl _)] at this
      exact this
  · have := h j
    unfold getR at this
    rwa [List.getD_eq_getElem?_getD] at this
/-- An active request that may be. -/
structure AOk (c : Cfg) (b : Int) (a : Atv) : Prop where
  n : 0 ≤ a.node ∧ a.node < c.nodes
  s : 1 ≤ a.seq
  b : a.block = b
theorem RP.next {c : Cfg} {k : Nat} {r : Row12} (h : RP c k r) (hk : k ≤ 1000) (b : Int) : RP c (k + 1) (nextR b r).1 ∧ ((nextR b r).2.2 = true → AOk c b (nextR b r).2.1) := by
  cases hq : quiet r with
  | true => rw [next_q hq]; exact ⟨h.mono, fun h0 => (by cases h0)⟩
  | false =>
    rw [next_n hq]
    have hl : ¬ r.queue.length = 0 := by
      unfold quiet at hq
      simp at hq
      intro e
      exact hq.2 (List.eq_nil_of_length_eq_zero e)
    have hm : r.queue.getD 0 0 ∈ r.queue := by
      rw [List.getD_eq_getElem?_getD, List.getElem?_eq_getElem (show 0 < r.queue.length by omega)]
      exact List.getElem_mem _
    have hs := h.s
    have hw : IntKind.i64.wrap (r.seq + 1) = r.seq + 1 := by rw [wrap_i64]; unfold wrap64; omega
    have hn := h.q _ hm
    refine ⟨⟨fun x hx => h.q x (List.mem_of_mem_drop hx), ?_, fun _ => hn⟩, fun _ => ⟨hn, ?_, rfl⟩⟩
    · show 0 ≤ IntKind.i64.wrap (r.seq + 1) ∧ IntKind.i64.wrap (r.seq + 1) ≤ _
      rw [hw]; push_cast; omega
    · show 1 ≤ IntKind.i64.wrap (r.seq + 1)
      rw [hw]; omega
theorem RP.add {c : Cfg} {k : Nat} {r : Row12} (h : RP c k r) {nd : Int} (hn : 0 ≤ nd ∧ nd < c.nodes) : RP c k (addQ r nd) :=
  ⟨fun x hx => by
    rcases List.mem_append.1 hx with hx | hx
    · exact h.q x hx
    · rw [List.mem_singleton.1 hx]; exact hn, h.s, h.a⟩
theorem RN.ask {c : Cfg} {k : Nat} {rows : List Row12} (h : RN c k rows) (hk : k ≤ 1000) (b nd : Int) : RN c (k + 1) (askA c.nodes rows b nd).1 ∧ ((askA c.nodes rows b nd).2.2 = true → AOk c b (askA c.nodes rows b nd).2.1) := by
  cases hx : isR c.nodes rows b nd with
  | false => rw [ask_f hx]; exact ⟨h.mono, fun h0 => (by cases h0)⟩
  | true =>
    rw [ask_t hx]
    have hn := ((h b).add (isR_iff.1 hx).2).next hk b
    exact ⟨h.mono.set hn.1, hn.2⟩
theorem RN.done {c : Cfg} {k : Nat} {rows : List Row12} (h : RN c k rows) (b s : Int) : RN c k (doneA rows b s).1 := by
  unfold doneA
  split
  · exact h.set ⟨(h b).q, (h b).s, fun h0 => (by cases h0)⟩
  · exact h
theorem RN.ack {c : Cfg} {k : Nat} {rows : List Row12} (h : RN c k rows) (hk : k ≤ 1000) (b s nd : Int) : RN c (k + 1) (ackA c.nodes rows b s nd).1 ∧ ((ackA c.nodes rows b s nd).2.2 = true → AOk c b (ackA c.nodes rows b s nd).2.1) := by
  unfold ackA
  split
  · split
    · have hr : RP c k (endR (getR rows b) nd) := ⟨(h b).q, (h b).s, (h b).a⟩
      have hn := hr.next hk b
      exact ⟨h.mono.set hn.1, hn.2⟩
    · have hr : RP c k (knowR (getR rows b) nd) := ⟨(h b).q, (h b).s, (h b).a⟩
      exact ⟨(h.set hr).mono, fun h0 => (by cases h0)⟩
  · exact ⟨h.mono, fun h0 => (by cases h0)⟩
theorem RN.new (c : Cfg) : RN c 0 (newR c.blocks) := fun b => by
  unfold getR newR
  rw [List.getD_eq_getElem?_getD, List.getElem?_replicate]
  split
  · exact ⟨fun x hx => (by cases hx), ⟨Int.le_refl _, Int.le_refl _⟩, fun h => (by cases h)⟩
  · exact ⟨fun x hx => (by cases hx), ⟨Int.le_refl _, Int.le_refl _⟩, fun h => (by cases h)⟩
/-! ### the letters that are sent -/
def LOk (c : Cfg) (z : Ltr) : Prop := lcheck c z = 0 ∧ z.frm = c.nodes
theorem lk_tok {c : Cfg} (h : cfgE c = 0) {dst k : Int} {b : Bun} (hd : 0 ≤ dst ∧ dst < c.nodes) (hk : 0 ≤ k ∧ k < c.blocks) (hb : bcheck b c.tokens = 0) (h0 : b.c ≠ 0) : LOk c ⟨1, c.nodes, dst, k, 0, 0, false, b⟩ := by
  refine ⟨?_, rfl⟩
  rw [lcheck_eq]
  have e : endsE c ⟨1, c.nodes, dst, k, 0, 0, false, b⟩ = true := by
    unfold endsE
    rw [if_neg (by dsimp only; omega), if_pos rfl]
    simp [anyE, nodeE, hd.1, hd.2]
  unfold rlcheck
  rw [if_neg (by dsimp only; omega), if_neg (by dsimp only; omega), if_neg (by rw [e]; decide), if_neg (by dsimp only; omega), if_neg (by dsimp only; intro h; rcases h with h | h; omega; exact h.2 rfl), if_neg (by simp), if_neg (by simp), if_neg (by dsimp only; rw [hb]; simp), if_neg h0]
theorem lk_act {c : Cfg} (h : cfgE c = 0) {j k s x : Int} (hj : 0 ≤ j ∧ j < c.nodes) (hk : 0 ≤ k ∧ k < c.blocks) (hs : 1 ≤ s) (hx : 0 ≤ x ∧ x < c.nodes) : LOk c ⟨4, c.nodes, j, k, s, x, false, bun0⟩ := by
  refine ⟨?_, rfl⟩
  rw [lcheck_eq]
  have e : endsE c ⟨4, c.nodes, j, k, s, x, false, bun0⟩ = true := by
    unfold endsE
    rw [if_neg (by dsimp only; omega), if_neg (by dsimp only; omega), if_neg (by dsimp only; omega), if_pos (.inl rfl)]
    simp [nodeE, hj.1, hj.2]
  have hn : nodeE c x = true := by simp [nodeE, hx.1, hx.2]
  unfold rlcheck
  rw [if_neg (by dsimp only; omega), if_neg (by dsimp only; omega), if_neg (by rw [e]; decide), if_neg (by dsimp only; omega), if_neg (by dsimp only; intro h; rcases h with h | h; rw [hn] at h; exact absurd h.2 (by decide); exact h.1 rfl), if_neg (by simp), if_pos (by dsimp only; omega), if_pos rfl]
theorem lk_dea {c : Cfg} (h : cfgE c = 0) {j k s : Int} (hj : 0 ≤ j ∧ j < c.nodes) (hk : 0 ≤ k ∧ k < c.blocks) (hs : 1 ≤ s) : LOk c ⟨6, c.nodes, j, k, s, 0, false, bun0⟩ := by
  refine ⟨?_, rfl⟩
  rw [lcheck_eq]
  have e : endsE c ⟨6, c.nodes, j, k, s, 0, false, bun0⟩ = true := by
    unfold endsE
    rw [if_neg (by dsimp only; omega), if_neg (by dsimp only; omega), if_neg (by dsimp only; omega), if_pos (.inr rfl)]
    simp [nodeE, hj.1, hj.2]
  unfold rlcheck
  rw [if_neg (by dsimp only; omega), if_neg (by dsimp only; omega), if_neg (by rw [e]; decide), if_neg (by dsimp only; omega), if_neg (by dsimp only; intro h; rcases h with h | h; omega; exact h.2 rfl), if_neg (by simp), if_pos (by dsimp only; omega), if_pos rfl]
theorem spr_mem {kd f b s x : Int} {k : Nat} {z : Ltr} (h : z ∈ sprI kd f b s x k) : ∃ j : Nat, j < k ∧ z = ⟨kd, f, (j : Int), b, s, x, false, bun0⟩ := by
  unfold sprI at h
  obtain ⟨j, hj, rfl⟩ := List.mem_map.1 h
  exact ⟨j, List.mem_range.1 hj, rfl⟩
/-! ### how many there are -/
def cnts (xs : List Bun) : List Int := xs.map (·.c)
def addT (t : List Int) (l : Ltr) : List Int := t.set l.block.toNat (IntKind.i64.wrap (t.getD l.block.toNat 0 + l.tok.c))
def subT (t : List Int) (z : Ltr) : List Int := t.set z.block.toNat (IntKind.i64.wrap (t.getD z.block.toNat 0 - z.tok.c))
theorem cnts_len (xs : List Bun) : (cnts xs).length = xs.length := by simp [cnts]
theorem cnts_set (xs : List Bun) (i : Nat) (v : Bun) : cnts (xs.set i v) = (cnts xs).set i v.c := by simp [cnts, List.map_set]
theorem cnts_get {xs : List Bun} {i : Int} (h : inB xs i = true) : (cnts xs).getD i.toNat 0 = (getB xs i).c := by
  have hi := inB_iff.1 h
  rw [getB_in h, List.getD_eq_getElem?_getD, List.getD_eq_getElem?_getD]
  unfold cnts
  rw [List.getElem?_map, List.getElem?_eq_getElem (show i.toNat < xs.length by omega)]
  rfl
theorem set_getD_id {t : List Int} {i : Nat} {n : Int} (h : i < t.length) (e : n = t.getD i 0) : t.set i n = t := by
  subst e
  exact set_getD_self h
theorem subT_zero {t : List Int} {z : Ltr} (hz : z.tok.c = 0) (hl : z.block.toNat < t.length) (h : 0 ≤ t.getD z.block.toNat 0 ∧ t.getD z.block.toNat 0 ≤ 1099511627776) : subT t z = t := by
  unfold subT
  refine set_getD_id hl ?_
  rw [hz, wrap_i64]
  unfold wrap64
  omega
theorem fold_spr {kd f b s x : Int} {t : List Int} (hl : b.toNat < t.length) (h : 0 ≤ t.getD b.toNat 0 ∧ t.getD b.toNat 0 ≤ 1099511627776) : ∀ k, (sprI kd f b s x k).foldl subT t = t
  | 0 => rfl
  | k + 1 => by
    rw [sprI_succ, List.foldl_append, fold_spr hl h k]
    exact subT_zero rfl hl h
/-- Home, its tokens being some that may be. -/
structure HI (c : Cfg) (k : Nat) (xs : List Bun) (rows : List Row12) : Prop where
  ih : IH c k xs rows
  val : ∀ j, bcheck (getB xs j) c.tokens = 0
  rn : RN c k rows
theorem hi_new {c : Cfg} (h : cfgE c = 0) : HI c 0 (newB c.blocks c.tokens) (newR c.blocks) := by
  have hf := cfg_facts h
  refine ⟨ih_new h, fun j => ?_, RN.new c⟩
  rw [get_new]
  have hx : ∀ t : Int, 0 ≤ t → bcheck bun0 t = 0 := fun t ht => by
    unfold bun0
    rw [right_iff]
    exact ⟨⟨Int.le_refl _, ht⟩, fun _ => ⟨rfl, rfl⟩, fun h => (by cases h), fun _ => rfl⟩
  split
  · unfold full
    rw [if_neg (by omega), right_iff]
    refine ⟨⟨by omega, by omega⟩, fun h0 => by omega, fun _ => rfl, fun h => (by cases h)⟩
  · exact hx _ (by omega)
theorem HI.cnt {c : Cfg} {k : Nat} {xs : List Bun} {rows : List Row12} (h : HI c k xs rows) (j : Int) : 0 ≤ (getB xs j).c ∧ (getB xs j).c ≤ 65536 := by
  have hf := cfg_facts h.ih.cfg
  have := right_cnt (h.val j)
  omega
theorem HI.inb {c : Cfg} {k : Nat} {xs : List Bun} {rows : List Row12} (h : HI c k xs rows) {l : Ltr} (s : Sk1 c l) : inB xs l.block = true := by
  have := (lck s.ok).2.1
  have := (ih_len h.ih).2.2
  exact inB_iff.2 ⟨by omega, by omega⟩
/-- What is taken of a block, and sent. -/
theorem hi_part {c : Cfg} {k : Nat} {xs : List Bun} {rows : List Row12} (h : HI c k xs rows) {i : Int} (hi : inB xs i = true) (n : Int) (o d : Bool) :
    (∀ j, bcheck (getB (takeB xs i n o d).2 j) c.tokens = 0) ∧ (∀ dst, 0 ≤ dst ∧ dst < c.nodes → ∀ z ∈ tokL c dst i (takeB xs i n o d).1, LOk c z) ∧ ∀ dst, (tokL c dst i (takeB xs i n o d).1).foldl subT (cnts xs) = cnts (takeB xs i n o d).2 := by
  have hf := cfg_facts h.ih.cfg
  have hc := h.cnt i
  have hb : 0 ≤ i ∧ i < c.blocks := by have := (ih_len h.ih).2.2; have := inB_iff.1 hi; omega
  have hl : i.toNat < xs.length := by have := inB_iff.1 hi; omega
  obtain ⟨f1, f2, f3, f4, f5, -⟩ := split_facts (x := (split (getB xs i) n o d).1) (y := (split (getB xs i) n o d).2) (count := n) (p := o) (q := d) (by omega) (bself (h.val i)) rfl
  have ht := right_cnt (h.val i)
  have e : takeB xs i n o d = ((split (getB xs i) n o d).1, xs.set i.toNat (split (getB xs i) n o d).2) := if_pos hi
  rw [e]
  dsimp only
  refine ⟨fun j => ?_, fun dst hd z hz => ?_, fun dst => ?_⟩
  · have := get_take (xs := xs) (i := i) (j := j) (n := n) (o := o) (d := d)
    rw [e] at this
    dsimp only at this
    rw [this]
    split
    · rename_i hj
      rw [hj.2]
      exact bmore f2 ht.2
    · exact h.val j
  · unfold tokL at hz
    split at hz
    · cases hz
    · rw [List.mem_singleton.1 hz]
      exact lk_tok h.ih.cfg hd hb (bmore f1 ht.2) (by omega)
  · rw [cnts_set]
    unfold tokL
    split
    · show cnts xs = _
      refine (set_getD_id (by rw [cnts_len]; exact hl) ?_).symm
      rw [cnts_get hi]
      omega
    · show (cnts xs).set i.toNat (IntKind.i64.wrap ((cnts xs).getD i.toNat 0 - (split (getB xs i) n o d).1.c)) = _
      rw [cnts_get hi, wrap_i64, show wrap64 ((getB xs i).c - (split (getB xs i) n o d).1.c) = (split (getB xs i) n o d).2.c from by unfold wrap64; omega]
theorem hi_beg {c : Cfg} {k : Nat} {xs : List Bun} {rows rows' : List Row12} (h : HI c k xs rows) {i : Int} (hi : inB xs i = true) {a : Atv} {ok : Bool} (ha : ok = true → AOk c i a) :
    (∀ j, bcheck (getB (begO (hsC c xs rows) (rows', a, ok)).xs j) c.tokens = 0) ∧ (∀ z ∈ (begO (hsC c xs rows) (rows', a, ok)).out, LOk c z) ∧ (begO (hsC c xs rows) (rows', a, ok)).out.foldl subT (cnts xs) = cnts (begO (hsC c xs rows) (rows', a, ok)).xs := by
  have hf := cfg_facts h.ih.cfg
  cases ok with
  | false => exact ⟨h.val, fun z hz => (by cases hz), rfl⟩
  | true =>
    have ha := ha rfl
    obtain ⟨ab, an, sq⟩ := a
    obtain ⟨hn, hs, hbl⟩ := ha
    dsimp only at hn hs hbl
    subst hbl
    have hb : 0 ≤ ab ∧ ab < c.blocks := by have := (ih_len h.ih).2.2; have := inB_iff.1 hi; omega
    obtain ⟨p1, p2, p3⟩ := hi_part h hi (getB xs ab).c true true
    have hl : ab.toNat < (cnts xs).length := by rw [cnts_len]; have := inB_iff.1 hi; omega
    have hc := h.cnt ab
    refine ⟨p1, fun z hz => ?_, ?_⟩
    · have hz : z ∈ spreadL 4 c.nodes ab sq an c.nodes ++ tokL c an ab (takeB xs ab (getB xs ab).c true true).1 := hz
      rcases List.mem_append.1 hz with hz | hz
      · unfold spreadL at hz
        rw [spreadN_id (by omega) hf.1.2] at hz
        obtain ⟨j, hj, rfl⟩ := spr_mem hz
        exact lk_act h.ih.cfg ⟨by omega, by omega⟩ hb hs hn
      · exact p2 an hn z hz
    · show (spreadL 4 c.nodes ab sq an c.nodes ++ tokL c an ab (takeB xs ab (getB xs ab).c true true).1).foldl subT (cnts xs) = cnts (takeB xs ab (getB xs ab).c true true).2
      rw [List.foldl_append]
      unfold spreadL
      rw [fold_spr hl (by rw [cnts_get hi]; omega)]
      exact p3 an
/-- The letter may come: with it there are not more than all. -/
structure Cd (c : Cfg) (xs : List Bun) (l : Ltr) : Prop where
  sum : Sk1 c l → l.kind = 1 → (getB xs l.block).c + l.tok.c ≤ c.tokens
def there0 (c : Cfg) (xs : List Bun) (l : Ltr) : List Int := if Sk1 c l then addT (cnts xs) l else cnts xs
theorem add_zero {c : Cfg} {k : Nat} {xs : List Bun} {rows : List Row12} (h : HI c k xs rows) {l : Ltr} (s : Sk1 c l) (hk : l.kind ≠ 1) : addT (cnts xs) l = cnts xs := by
  have hi := h.inb s
  have hc := h.cnt l.block
  have ht := (lck s.ok).2.2.2.2 hk
  unfold addT
  refine set_getD_id (by rw [cnts_len]; have := inB_iff.1 hi; omega) ?_
  rw [cnts_get hi, ht, wrap_i64]
  unfold wrap64 bun0
  dsimp only
  omega
theorem hi_step {c : Cfg} {k : Nat} {xs : List Bun} {rows : List Row12} (h : HI c k xs rows) (hk : k + 1 ≤ 1000) {l : Ltr} (d : I3) (hc : Cd c xs l) :
    HI c (k + 1) (takeO (hsC c xs rows) l d).xs (takeO (hsC c xs rows) l d).rows ∧ (∀ z ∈ (takeO (hsC c xs rows) l d).out, LOk c z) ∧ (takeO (hsC c xs rows) l d).out.foldl subT (there0 c xs l) = cnts (takeO (hsC c xs rows) l d).xs := by
  have hf := cfg_facts h.ih.cfg
  have hih := ih_take (n := newN c.nodes) h.ih hk l d
  have hnn : newN c.nodes = c.nodes := wid (by omega) hf.1.2
  have main : ∀ t : HO, takeO (hsC c xs rows) l d = t → ((∀ j, bcheck (getB t.xs j) c.tokens = 0) ∧ RN c (k + 1) t.rows ∧ (∀ z ∈ t.out, LOk c z) ∧ t.out.foldl subT (there0 c xs l) = cnts t.xs) → HI c (k + 1) (takeO (hsC c xs rows) l d).xs (takeO (hsC c xs rows) l d).rows ∧ (∀ z ∈ (takeO (hsC c xs rows) l d).out, LOk c z) ∧ (takeO (hsC c xs rows) l d).out.foldl subT (there0 c xs l) = cnts (takeO (hsC c xs rows) l d).xs := fun t e ⟨h1, h2, h3, h4⟩ => by
    rw [e] at hih ⊢
    exact ⟨⟨hih, h1, h2⟩, h3, h4⟩
  by_cases s : Sk1 c l
  · have hi := h.inb s
    have hb := (lck s.ok).2.1
    have hcn := h.cnt l.block
    have hl : l.block.toNat < (cnts xs).length := by rw [cnts_len]; have := inB_iff.1 hi; omega
    have et : there0 c xs l = addT (cnts xs) l := if_pos s
    by_cases k1 : l.kind = 1
    · have htk := ((lck s.ok).2.2.2.1 k1)
      have htc := right_cnt htk.1
      have hsum := hc.sum s k1
      have hget : (addT (cnts xs) l).getD l.block.toNat 0 = (getB xs l.block).c + l.tok.c := by
        unfold addT
        rw [getD_set_self hl, cnts_get hi, wrap_i64]
        unfold wrap64
        omega
      refine main (comeO (hsC c xs rows) l) (tk1 (h := hsC c xs rows) s ⟨k1⟩) ?_
      rw [et]
      unfold comeO
      dsimp only
      cases hcur : (curR rows l.block).2 with
      | true =>
        rw [if_pos rfl]
        have hon : (getR rows l.block).on = true ∧ curR rows l.block = ((getR rows l.block).act, true) := by
          unfold curR at hcur ⊢
          split
          · rename_i hh
            rw [Bool.and_eq_true] at hh
            exact ⟨hh.2, rfl⟩
          · rename_i hh; rw [if_neg hh] at hcur; cases hcur
        have hnd := (h.rn l.block).a hon.1
        rw [hon.2]
        dsimp only
        unfold tokL
        rw [if_neg (by omega)]
        refine ⟨h.val, h.rn.mono, fun z hz => ?_, ?_⟩
        · rw [List.mem_singleton.1 hz]
          exact lk_tok h.ih.cfg hnd hb htk.1 htk.2
        · show (addT (cnts xs) l).set l.block.toNat (IntKind.i64.wrap ((addT (cnts xs) l).getD l.block.toNat 0 - l.tok.c)) = cnts xs
          rw [hget]
          unfold addT
          rw [List.set_set]
          refine set_getD_id hl ?_
          rw [cnts_get hi, wrap_i64]
          unfold wrap64
          omega
      | false =>
        rw [if_neg (by decide)]
        refine ⟨fun j => ?_, h.rn.mono, fun z hz => (by cases hz), ?_⟩
        · show bcheck (getB (putB xs l.block l.tok) j) c.tokens = 0
          rw [get_put]
          split
          · rename_i hj
            rw [hj.2]
            have hv := join_right (bself (h.val l.block)) (bself htk.1) (by omega)
            refine bmore hv ?_
            show wrap64 ((getB xs l.block).c + l.tok.c) ≤ c.tokens
            unfold wrap64
            omega
          · exact h.val j
        · show addT (cnts xs) l = cnts (putB xs l.block l.tok)
          unfold putB
          rw [if_pos hi, cnts_set]
          unfold addT
          rw [cnts_get hi, wrap_i64]
          first | done | rfl
    have ez : there0 c xs l = cnts xs := by rw [et]; exact add_zero h s k1
    by_cases k2 : l.kind = 2
    · refine main (askO (hsC c xs rows) l d) (tk2 (h := hsC c xs rows) s ⟨k2⟩) ?_
      rw [ez]
      have he := (lck s.ok).2.2.1
      have hfr : 0 ≤ l.frm ∧ l.frm < c.nodes := by
        unfold endsE at he
        split at he
        · cases he
        · simp [nodeE] at he
          exact he.1
      obtain ⟨p1, p2, p3⟩ := hi_part h hi (reply c.policy (getB xs l.block) l.wr d).1 (reply c.policy (getB xs l.block) l.wr d).2.1 (reply c.policy (getB xs l.block) l.wr d).2.2
      exact ⟨p1, h.rn.mono, p2 l.frm hfr, p3 l.frm⟩
    by_cases k3 : l.kind = 3
    · refine main (persO (hsC c xs rows) l) (tk3 (h := hsC c xs rows) s ⟨k3⟩) ?_
      rw [ez]
      have hr := h.rn.ask h.ih.kl l.block l.frm
      rw [← hnn] at hr
      obtain ⟨b1, b2, b3⟩ := hi_beg h hi (rows' := (askA (newN c.nodes) rows l.block l.frm).1) hr.2
      exact ⟨b1, hr.1, b2, b3⟩
    by_cases k5 : l.kind = 5
    · refine main (doneO (hsC c xs rows) l) (tk5 (h := hsC c xs rows) s ⟨k5⟩) ?_
      rw [ez]
      have hsq : 1 ≤ l.seq := by
        have h0 := s.ok
        rw [lcheck_eq] at h0
        unfold rlcheck at h0
        split at h0
        · exact absurd h0 (by decide)
        split at h0
        · exact absurd h0 (by decide)
        split at h0
        · exact absurd h0 (by decide)
        split at h0
        · exact absurd h0 (by decide)
        omega
      unfold doneO
      dsimp only
      have hl2 : 0 ≤ (cnts xs).getD l.block.toNat 0 ∧ (cnts xs).getD l.block.toNat 0 ≤ 1099511627776 := by rw [cnts_get hi]; omega
      split
      · refine ⟨h.val, (h.rn.done _ _).mono, fun z hz => ?_, ?_⟩
        · unfold spreadL at hz
          rw [spreadN_id (by omega) hf.1.2] at hz
          obtain ⟨j, hj, rfl⟩ := spr_mem hz
          exact lk_dea h.ih.cfg ⟨by omega, by omega⟩ hb hsq
        · unfold spreadL
          exact fold_spr hl hl2 _
      · exact ⟨h.val, (h.rn.done _ _).mono, fun z hz => (by cases hz), rfl⟩
    by_cases k7 : l.kind = 7
    · refine main (acksO (hsC c xs rows) l) (tk7 (h := hsC c xs rows) s ⟨k7⟩) ?_
      rw [ez]
      have hr := h.rn.ack h.ih.kl l.block l.seq l.frm
      rw [← hnn] at hr
      obtain ⟨b1, b2, b3⟩ := hi_beg h hi (rows' := (ackA (newN c.nodes) rows l.block l.seq l.frm).1) hr.2
      exact ⟨b1, hr.1, b2, b3⟩
    · refine main ⟨xs, rows, []⟩ (tk0 (h := hsC c xs rows) s ⟨fun h0 => by unfold oneOf at h0; omega⟩) ?_
      rw [ez]
      exact ⟨h.val, h.rn.mono, fun z hz => (by cases hz), rfl⟩
  · refine main ⟨xs, rows, []⟩ (if_neg s) ⟨h.val, h.rn.mono, fun z hz => (by cases hz), ?_⟩
    unfold there0
    rw [if_neg s]
    rfl
/-! ### for the walk -/
theorem cnts_new {c : Cfg} (h : cfgE c = 0) : cnts (newB c.blocks c.tokens) = List.replicate c.blocks.toNat c.tokens := by
  have hf := cfg_facts h
  unfold cnts newB
  rw [List.map_replicate]
  have e : clamp c.blocks 0 64 = c.blocks := by unfold clamp; omega
  rw [e]
  unfold full
  rw [if_neg (by omega)]
def minB (c : Cfg) : Int := if (64 : Int) < c.blocks then 64 else c.blocks
theorem minB_eq {c : Cfg} (h : cfgE c = 0) : minB c = c.blocks := by
  have hf := cfg_facts h
  unfold minB
  rw [if_neg (by omega)]
structure SAl (c : Cfg) (i : Nat) : Prop where
  cfg : cfgE c = 0
  le : (i : Int) ≤ c.blocks
structure SBl (c : Cfg) (m i : Nat) (xs : List Bun) (rows : List Row12) : Prop where
  le : i ≤ m
  m200 : m ≤ 200
  hi : HI c i xs rows
/-- What is left of them behind so many letters. -/
def thereM (t : List Int) (out : List Ltr) (m : Nat) : List Int := (out.take m).foldl subT t
theorem subT_len (t : List Int) (z : Ltr) : (subT t z).length = t.length := by simp [subT]
theorem fold_len : ∀ (out : List Ltr) (t : List Int), (out.foldl subT t).length = t.length
  | [], t => rfl
  | z :: out, t => by rw [List.foldl_cons, fold_len out, subT_len]
theorem there_len (c : Cfg) (xs : List Bun) (l : Ltr) : (there0 c xs l).length = xs.length := by
  unfold there0 addT
  split
  · rw [List.length_set, cnts_len]
  · rw [cnts_len]
theorem thereM_len (c : Cfg) (xs : List Bun) (l : Ltr) (out : List Ltr) (m : Nat) : (thereM (there0 c xs l) out m).length = xs.length := by
  unfold thereM
  rw [fold_len, there_len]
theorem thereM_succ {t : List Int} {out : List Ltr} {m : Nat} {z : Ltr} (h : m < out.length) : thereM t out (m + 1) = subT (thereM t out m) (out.getD m z) := by
  unfold thereM
  rw [List.take_add_one, List.getElem?_eq_getElem h, List.foldl_append, List.getD_eq_getElem?_getD, List.getElem?_eq_getElem h]
  rfl
theorem out_ok {c : Cfg} {out : List Ltr} (h : ∀ z ∈ out, LOk c z) {m : Nat} (hm : m < out.length) (z : Ltr) : LOk c (out.getD m z) := by
  rw [List.getD_eq_getElem?_getD, List.getElem?_eq_getElem hm]
  exact h _ (List.getElem_mem _)
structure SMl (n m : Nat) : Prop where
  le : m ≤ n
theorem HI.mono {c : Cfg} {k : Nat} {xs : List Bun} {rows : List Row12} (h : HI c k xs rows) (hk : k + 1 ≤ 1000) : HI c (k + 1) xs rows := ⟨⟨h.ih.cfg, hk, inv_mono h.ih.x, h.ih.rl, ql_mono h.ih.q⟩, h.val, h.rn.mono⟩
theorem cd_no1 {c : Cfg} {xs : List Bun} {l : Ltr} (h : (lcheck c l == 0) = false) : Cd c xs l ∧ there0 c xs l = cnts xs := by
  have hn : ¬ Sk1 c l := fun s => by rw [s.ok] at h; cases h
  exact ⟨⟨fun s => absurd s hn⟩, if_neg hn⟩
theorem cd_no2 {c : Cfg} {xs : List Bun} {l : Ltr} (h : (bif true then l.to == c.nodes else false) = false) : Cd c xs l ∧ there0 c xs l = cnts xs := by
  have hn : ¬ Sk1 c l := fun s => by
    have h : (l.to == c.nodes) = false := h
    rw [s.dest] at h
    simp at h
  exact ⟨⟨fun s => absurd s hn⟩, if_neg hn⟩
theorem sk_yes {c : Cfg} {l : Ltr} (h : (lcheck c l == 0) = true) (h2 : (bif true then l.to == c.nodes else false) = true) : Sk1 c l := ⟨by simpa using h, by simpa using h2⟩
theorem sm_idx {c : Cfg} {k : Nat} {xs : List Bun} {rows : List Row12} (h : HI c k xs rows) {l : Ltr} (s : Sk1 c l) : 0 ≤ l.block ∧ l.block < ((cnts xs).length : Int) ∧ l.block.toNat < (cnts xs).length := by
  have := inB_iff.1 (h.inb s)
  rw [cnts_len]
  omega
theorem cnts_getD {xs : List Bun} {j : Nat} (h : j < xs.length) (z : Bun) (y : Int) : (cnts xs).getD j y = (xs.getD j z).c := by
  unfold cnts
  rw [List.getD_eq_getElem?_getD, List.getD_eq_getElem?_getD, List.getElem?_map, List.getElem?_eq_getElem h]
  rfl
theorem sm_b1 {c : Cfg} {z : Ltr} (h : LOk c z) (hx : (lcheck c z != 0) = true) : False := by rw [h.1] at hx; cases hx
theorem sm_b2 {c : Cfg} {z : Ltr} (h : LOk c z) (hx : (z.frm != c.nodes) = true) : False := by rw [h.2] at hx; simp at hx
theorem sm_b3 {c : Cfg} {k : Nat} {xs : List Bun} {rows : List Row12} (h : HI c k xs rows) (hx : ((xs.length : Int) != c.blocks) = true) : False := by rw [(ih_len h.ih).2.2] at hx; simp at hx
theorem sm_b4 {xs : List Bun} {j : Nat} {z : Bun} {y : Int} (hj : j < xs.length) (hx : ((xs.getD (j : Int).toNat z).c != (cnts xs).getD (j : Int).toNat y) = true) : False := by
  rw [Int.toNat_natCast, cnts_getD hj z y] at hx
  simp at hx
theorem cd_ok {c : Cfg} {k : Nat} {xs : List Bun} {rows : List Row12} (h : HI c k xs rows) {l : Ltr} (s : Sk1 c l) (k1 : (l.kind == 1) = true) (hx : decide (c.tokens < IntKind.i64.wrap ((cnts xs).getD l.block.toNat 0 + l.tok.c)) = false) : Cd c xs l := by
  have hf := cfg_facts h.ih.cfg
  have hi := h.inb s
  have hc := h.cnt l.block
  have hk : l.kind = 1 := by simpa using k1
  have ht := right_cnt ((lck s.ok).2.2.2.1 hk).1
  have h1 := of_decide_eq_false hx
  rw [cnts_get hi, wrap_i64] at h1
  unfold wrap64 at h1
  exact ⟨fun _ _ => by omega⟩
theorem cd_k {c : Cfg} {xs : List Bun} {l : Ltr} (k1 : (l.kind == 1) = false) : Cd c xs l := ⟨fun _ k => by rw [k] at k1; cases k1⟩
theorem there_sk {c : Cfg} {xs : List Bun} {l : Ltr} (s : Sk1 c l) : there0 c xs l = (cnts xs).set l.block.toNat (IntKind.i64.wrap ((cnts xs).getD l.block.toNat 0 + l.tok.c)) := if_pos s
theorem sm_z {c : Cfg} {k : Nat} {xs : List Bun} {rows : List Row12} (h : HI c k xs rows) {t : List Int} (ht : t.length = xs.length) {z : Ltr} (hz : LOk c z) : 0 ≤ z.block ∧ z.block < (t.length : Int) ∧ z.block.toNat < t.length := by
  have := (lck hz.1).2.1
  have := (ih_len h.ih).2.2
  omega
theorem thereM_all {t : List Int} {out : List Ltr} {m : Nat} (h : ¬ m < out.length) : thereM t out m = out.foldl subT t := by
  unfold thereM
  rw [List.take_of_length_le (by omega)]
structure SDl (n j : Nat) : Prop where
  le : j ≤ n
  n64 : n ≤ 64
end Go.Proofs.Ytipibgamajhgbaa
