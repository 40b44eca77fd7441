/- HomeServes of layer 16: what it comes to. No program. -/
import Derived.Test.YtipibgamajhgbaaGWd
namespace Go.Proofs.Ytipibgamajhgbaa
open Go.RowKit
set_option linter.unusedVariables false
set_option linter.unusedSimpArgs false
/-- Of those that asked so many ended; the next one is active, or nobody. -/
structure SV (want : List Int) (q : Nat) (rows : List Row12) (got : List Int) : Prop where
  len : 0 < rows.length
  endg : (getR rows 0).ending = false
  act : q < want.length → (getR rows 0).on = true ∧ (getR rows 0).act.seq = ((q + 1 : Nat) : Int)
  rest : ¬ q < want.length → (getR rows 0).on = false
  seq : (getR rows 0).seq = ((min (q + 1) want.length : Nat) : Int)
  queue : (getR rows 0).queue = want.drop (q + 1)
  got : got = want.take (q + 1)
  le : q ≤ want.length
def knowsU (m : Nat) : List Bool := List.replicate m true ++ List.replicate (64 - m) false
theorem knowsU_set {m : Nat} (h : m < 64) : (knowsU m).set m true = knowsU (m + 1) := by
  unfold knowsU
  rw [List.set_append_right _ _ (by simp), List.length_replicate, Nat.sub_self, show 64 - m = (64 - (m + 1)) + 1 from by omega, List.replicate_succ (n := 64 - (m + 1)), List.set_cons_zero, List.replicate_succ' (n := m), List.append_assoc]
  rfl
theorem knowsU_n (n : Int) : knowsU n.toNat = allN n := rfl
theorem knowsU_ne {n : Int} {m : Nat} (h : (m : Int) < n) (h2 : n ≤ 64) : ¬ knowsU m = allN n := fun e => by
  have h2 := congrArg (fun l => l.getD m false) e
  unfold knowsU allN at h2
  simp only [List.getD_eq_getElem?_getD] at h2
  rw [List.getElem?_append_right (by simp), List.getElem?_append_left (by rw [List.length_replicate]; omega), List.getElem?_replicate, List.getElem?_replicate, List.length_replicate, if_pos (by omega), if_pos (by omega)] at h2
  cases h2
structure EP (want : List Int) (q m : Nat) (rows : List Row12) (got : List Int) : Prop where
  len : 0 < rows.length
  on : (getR rows 0).on = false
  ending : (getR rows 0).ending = true
  act : (getR rows 0).act.seq = ((q + 1 : Nat) : Int)
  seq : (getR rows 0).seq = ((q + 1 : Nat) : Int)
  queue : (getR rows 0).queue = want.drop (q + 1)
  got : got = want.take (q + 1)
  knows : (getR rows 0).knows = knowsU m
  lt : q < want.length
structure SE (n : Int) (want : List Int) (q m : Nat) (rows : List Row12) (got : List Int) : Prop where
  le : (m : Int) ≤ n
  mid : (m : Int) < n → EP want q m rows got
  fin : (m : Int) = n → SV want (q + 1) rows got
theorem sv_start {rows : List Row12} (h : 0 < rows.length) (h2 : getR rows 0 = zRow) : SV [] 0 rows [] :=
  ⟨h, by rw [h2]; rfl, fun h => absurd h (by decide), fun _ => by rw [h2]; rfl, by rw [h2]; rfl, by rw [h2]; rfl, rfl, Nat.le_refl _⟩
theorem drop_app {l : List Int} {a : Int} (h : 0 < l.length) : (l ++ [a]).drop 1 = l.drop 1 ++ [a] := by
  cases l with
  | nil => simp at h
  | cons x l => rfl
theorem take_app {l : List Int} {a : Int} (h : 0 < l.length) : (l ++ [a]).take 1 = l.take 1 := by
  cases l with
  | nil => simp at h
  | cons x l => rfl
theorem sv_ask {n : Int} {want : List Int} {rows : List Row12} {got : List Int} (h : SV want 0 rows got) {a : Int} (h0 : 0 ≤ a) (h1 : a < n) : SV (want ++ [a]) 0 (askA n rows 0 a).1 (gotA got (askA n rows 0 a)) := by
  have hlt : (0 : Int).toNat < rows.length := h.len
  have hx : isR n rows 0 a = true := isR_iff.2 ⟨⟨Int.le_refl _, by have := h.len; omega⟩, h0, h1⟩
  rw [ask_t hx]
  by_cases hw : 0 < want.length
  · have hq : quiet (addQ (getR rows 0) a) = true := quiet_on (h.act hw).1
    rw [next_q hq]
    unfold gotA
    rw [if_neg (by simp)]
    refine ⟨by rw [len_setR]; exact h.len, ?_, fun _ => ?_, fun h0 => absurd (by simp) h0, ?_, ?_, ?_, Nat.zero_le _⟩
    · dsimp only; rw [getR_setR hlt]; exact h.endg
    · dsimp only; rw [getR_setR hlt]; exact h.act hw
    · dsimp only; rw [getR_setR hlt]
      show (getR rows 0).seq = _
      rw [h.seq, List.length_append, List.length_singleton]
      congr 1
      omega
    · dsimp only; rw [getR_setR hlt]
      show (getR rows 0).queue ++ [a] = _
      rw [h.queue, drop_app hw]
    · rw [h.got]; exact (take_app hw).symm
  · have hw0 : want = [] := List.eq_nil_of_length_eq_zero (by omega)
    subst hw0
    have hq0 : (getR rows 0).queue = [] := by rw [h.queue]; rfl
    have hq : quiet (addQ (getR rows 0) a) = false := by
      have h1 := h.rest hw
      have h2 := h.endg
      simp [quiet, addQ, h1, h2]
    have hs : IntKind.i64.wrap ((getR rows 0).seq + 1) = 1 := by rw [h.seq]; decide
    rw [next_n hq]
    unfold gotA
    rw [if_pos rfl]
    refine ⟨by rw [len_setR]; exact h.len, ?_, fun _ => ?_, fun h0 => absurd (by simp) h0, ?_, ?_, ?_, Nat.zero_le _⟩
    · dsimp only; rw [getR_setR hlt]; exact h.endg
    · dsimp only; rw [getR_setR hlt]
      exact ⟨rfl, hs⟩
    · dsimp only; rw [getR_setR hlt]
      exact hs
    · dsimp only; rw [getR_setR hlt]
      show ((getR rows 0).queue ++ [a]).drop 1 = _
      simp [hq0]
    · rw [h.got]
      show [] ++ [((getR rows 0).queue ++ [a]).getD 0 0] = _
      simp [hq0]
theorem sv_done {n : Int} {want : List Int} {q : Nat} {rows : List Row12} {got : List Int} (h : SV want q rows got) (hq : q < want.length) (h1 : 1 ≤ n) :
    (doneA rows 0 ((q + 1 : Nat) : Int)).2 = true ∧ SE n want q 0 (doneA rows 0 ((q + 1 : Nat) : Int)).1 got := by
  have hlt : (0 : Int).toNat < rows.length := h.len
  have hi : inR rows 0 = true := inR_iff.2 ⟨by omega, by have := h.len; omega⟩
  obtain ⟨a1, a2⟩ := h.act hq
  have hd : doneA rows 0 ((q + 1 : Nat) : Int) = (setR rows 0 (overR (getR rows 0)), true) := done_t (by simp [isOn, hi, a1, a2])
  rw [hd]
  refine ⟨rfl, ⟨by omega, fun _ => ?_, fun h0 => by omega⟩⟩
  refine ⟨by rw [len_setR]; exact h.len, ?_, ?_, ?_, ?_, ?_, h.got, ?_, hq⟩ <;> dsimp only <;> rw [getR_setR hlt]
  · rfl
  · rfl
  · exact a2
  · show (getR rows 0).seq = _
    rw [h.seq]
    congr 1
    omega
  · exact h.queue
  · rfl
theorem sv_ack {n : Int} {want : List Int} {q m : Nat} {rows : List Row12} {got : List Int} (h : SE n want q m rows got) (hm : (m : Int) < n) (h2 : n ≤ 64) (hw : want.length ≤ 1000) :
    SE n want q (m + 1) (ackA n rows 0 ((q + 1 : Nat) : Int) (m : Int)).1 (gotA got (ackA n rows 0 ((q + 1 : Nat) : Int) (m : Int))) := by
  have e := h.mid hm
  have hlt : (0 : Int).toNat < rows.length := e.len
  have hx : isEnd n rows 0 ((q + 1 : Nat) : Int) (m : Int) = true := isEnd_t (isR_iff.2 ⟨⟨by omega, by have := e.len; omega⟩, by omega, by omega⟩) (by rw [e.ending]; rfl) (by rw [e.act]; simp)
  have hk : (getR rows 0).knows.set (m : Int).toNat true = knowsU (m + 1) := by
    rw [e.knows, Int.toNat_natCast]
    exact knowsU_set (by omega)
  rcases Int.lt_or_le (((m + 1 : Nat) : Int)) n with h0 | h0
  · have hne : ¬ (getR rows 0).knows.set (m : Int).toNat true = allN n := by rw [hk]; exact knowsU_ne h0 h2
    rw [ack_1 hx hne]
    refine ⟨by omega, fun _ => ?_, fun h1 => by omega⟩
    unfold gotA
    rw [if_neg (by simp)]
    refine ⟨by rw [len_setR]; exact e.len, ?_, ?_, ?_, ?_, ?_, e.got, ?_, e.lt⟩ <;> dsimp only <;> rw [getR_setR hlt]
    · exact e.on
    · exact e.ending
    · exact e.act
    · exact e.seq
    · exact e.queue
    · exact hk
  · have hmn : ((m + 1 : Nat) : Int) = n := by omega
    have hk' : (getR rows 0).knows.set (m : Int).toNat true = allN n := by rw [hk, ← hmn]; rfl
    rw [ack_2 hx hk']
    refine ⟨by omega, fun h1 => by omega, fun _ => ?_⟩
    by_cases hq : q + 1 < want.length
    · have hqn : ¬ (getR rows 0).queue.length = 0 := by rw [e.queue, List.length_drop]; omega
      have hn : quiet (endR (getR rows 0) (m : Int)) = false := by
        have h1 := e.on
        simp only [quiet, endR, h1, Bool.false_or, decide_eq_false_iff_not]
        exact hqn
      have hs : IntKind.i64.wrap ((getR rows 0).seq + 1) = ((q + 1 + 1 : Nat) : Int) := by
        rw [e.seq]; exact wrap_succ (by omega)
      rw [next_n hn]
      unfold gotA
      rw [if_pos rfl]
      refine ⟨by rw [len_setR]; exact e.len, ?_, fun _ => ?_, fun h0 => absurd hq h0, ?_, ?_, ?_, by omega⟩
      · dsimp only; rw [getR_setR hlt]; rfl
      · dsimp only; rw [getR_setR hlt]; exact ⟨rfl, hs⟩
      · dsimp only; rw [getR_setR hlt]
        show IntKind.i64.wrap ((getR rows 0).seq + 1) = _
        rw [hs]
        congr 1
        omega
      · dsimp only; rw [getR_setR hlt]
        show (getR rows 0).queue.drop 1 = _
        rw [e.queue, List.drop_drop]
      · rw [e.got]
        show want.take (q + 1) ++ [(getR rows 0).queue.getD 0 0] = want.take (q + 1 + 1)
        rw [e.queue, List.take_add_one (i := q + 1), List.getD_eq_getElem?_getD, List.getElem?_drop, show q + 1 + 0 = q + 1 from rfl, List.getElem?_eq_getElem hq]
        rfl
    · have hqn : (getR rows 0).queue.length = 0 := by rw [e.queue, List.length_drop]; omega
      have hn : quiet (endR (getR rows 0) (m : Int)) = true := by
        unfold quiet
        rw [Bool.or_eq_true]
        exact .inr (decide_eq_true hqn)
      have hlen : want.length = q + 1 := by have := e.lt; omega
      rw [next_q hn]
      unfold gotA
      rw [if_neg (by simp)]
      refine ⟨by rw [len_setR]; exact e.len, ?_, fun h0 => absurd h0 hq, fun h0 => ?_, ?_, ?_, ?_, by omega⟩
      · dsimp only; rw [getR_setR hlt]; rfl
      · dsimp only; rw [getR_setR hlt]; exact e.on
      · dsimp only; rw [getR_setR hlt]
        show (getR rows 0).seq = _
        rw [e.seq]
        congr 1
        omega
      · dsimp only; rw [getR_setR hlt]
        show (getR rows 0).queue = _
        rw [List.eq_nil_of_length_eq_zero hqn, List.drop_of_length_le (by omega)]
      · rw [e.got, List.take_of_length_le (by omega), List.take_of_length_le (by omega)]
theorem sv_end {want : List Int} {q : Nat} {rows : List Row12} {got : List Int} (h : SV want q rows got) (hq : ¬ q < want.length) : curR rows 0 = (zA, false) ∧ got = want := by
  refine ⟨by simp [curR, h.rest hq], ?_⟩
  rw [h.got]; exact List.take_of_length_le (by omega)
/-! ### the letters -/
abbrev lPers (c : Cfg) (a : Int) : Ltr := ⟨3, a, c.nodes, 0, 0, 0, false, ⟨0, false, false, 0⟩⟩
abbrev lDone (c : Cfg) (s : Int) : Ltr := ⟨5, 0, c.nodes, 0, s, 0, false, ⟨0, false, false, 0⟩⟩
abbrev lAck (c : Cfg) (a s : Int) : Ltr := ⟨7, a, c.nodes, 0, s, 0, false, ⟨0, false, false, 0⟩⟩
theorem sk_of {c : Cfg} {l : Ltr} (h0 : l.to = c.nodes) (h1 : 3 ≤ l.kind ∧ l.kind ≤ 7) (hk4 : l.kind ≠ 4) (hk6 : l.kind ≠ 6) (hb : 0 ≤ l.block ∧ l.block < c.blocks) (hn : 0 ≤ l.frm ∧ l.frm < c.nodes) (hs : (l.kind = 3 ∧ l.seq = 0) ∨ (4 ≤ l.kind ∧ 1 ≤ l.seq)) (hw : l.who = 0) (hr : l.wr = false) (ht : l.tok = bun0) : Sk1 c l := by
  refine ⟨?_, h0⟩
  rw [lcheck_eq]
  have e : endsE c l = true := by
    unfold endsE
    rw [if_neg (by omega), if_neg (by omega), if_neg (by omega), if_neg (by omega)]
    simp [nodeE, hn.1, hn.2, h0]
  unfold rlcheck
  rw [if_neg (by omega), if_neg (by omega), if_neg (by rw [e]; decide), if_neg (by omega), if_neg (fun h => h.elim (fun h => hk4 h.1) (fun h => h.2 hw)), if_neg (by rw [hr]; simp), if_pos (by omega), if_pos ht]
theorem sk_pers {c : Cfg} (h : cfgE c = 0) {a : Int} (h0 : 0 ≤ a) (h1 : a < c.nodes) : Sk1 c (lPers c a) := by
  have hf := cfg_facts h
  exact sk_of rfl (by dsimp only; omega) (by dsimp only; omega) (by dsimp only; omega) (by dsimp only; omega) ⟨h0, h1⟩ (.inl ⟨rfl, rfl⟩) rfl rfl rfl
theorem sk_done {c : Cfg} (h : cfgE c = 0) {s : Int} (hs : 1 ≤ s) : Sk1 c (lDone c s) := by
  have hf := cfg_facts h
  exact sk_of rfl (by dsimp only; omega) (by dsimp only; omega) (by dsimp only; omega) (by dsimp only; omega) (by dsimp only; omega) (.inr ⟨by dsimp only; omega, hs⟩) rfl rfl rfl
theorem sk_ack {c : Cfg} (h : cfgE c = 0) {a s : Int} (h0 : 0 ≤ a) (h1 : a < c.nodes) (hs : 1 ≤ s) : Sk1 c (lAck c a s) := by
  have hf := cfg_facts h
  exact sk_of rfl (by dsimp only; omega) (by dsimp only; omega) (by dsimp only; omega) (by dsimp only; omega) ⟨h0, h1⟩ (.inr ⟨by dsimp only; omega, hs⟩) rfl rfl rfl
abbrev d0 : I3 := ⟨(List.replicate 3 (0 : Int)).getD 0 0, (List.replicate 3 (0 : Int)).getD 1 0, (List.replicate 3 (0 : Int)).getD 2 0⟩
/-- Home, as it stands. -/
abbrev hsC (c : Cfg) (xs : List Bun) (rows : List Row12) : HS := ⟨c, newN c.nodes, xs, rows⟩
structure T1 (c : Cfg) (m i : Nat) (want : List Int) (xs : List Bun) (rows : List Row12) (got : List Int) : Prop where
  cfg : cfgE c = 0
  le : i ≤ m
  m50 : m ≤ 50
  wl : want.length ≤ i
  x : inv c.blocks.toNat 0 xs
  sv : SV want 0 rows got
structure T2 (c : Cfg) (want : List Int) (q : Nat) (xs : List Bun) (rows : List Row12) (got : List Int) : Prop where
  cfg : cfgE c = 0
  wl : want.length ≤ 50
  x : inv c.blocks.toNat 0 xs
  sv : SV want q rows got
structure T3 (c : Cfg) (want : List Int) (q m : Nat) (xs : List Bun) (rows : List Row12) (got : List Int) : Prop where
  cfg : cfgE c = 0
  wl : want.length ≤ 50
  x : inv c.blocks.toNat 0 xs
  sv : SE c.nodes want q m rows got
/-- What becomes of one that asks. -/
def askP (c : Cfg) (want : List Int) (xs : List Bun) (rows : List Row12) (got : List Int) (a : Int) : List Int × List Bun × List Row12 × List Int :=
  if nodeE c a = true then (want ++ [a], (takeO (hsC c xs rows) (lPers c a) d0).xs, (takeO (hsC c xs rows) (lPers c a) d0).rows, got ++ begunL (takeO (hsC c xs rows) (lPers c a) d0).out) else (want, xs, rows, got)
theorem t1_start {c : Cfg} (h : cfgE c = 0) {m : Nat} (hm : m ≤ 50) : T1 c m 0 [] (newB c.blocks c.tokens) (newR c.blocks) [] := by
  have hf := cfg_facts h
  have hl := newR_len h
  refine ⟨h, Nat.zero_le _, hm, Nat.zero_le _, (ih_new h).x, sv_start (by omega) ?_⟩
  unfold getR newR
  rw [List.getD_eq_getElem?_getD, List.getElem?_replicate, if_pos (by rw [wid (by omega) (by omega)]; omega)]
  rfl
theorem t1_next {c : Cfg} {m i : Nat} {want : List Int} {xs : List Bun} {rows : List Row12} {got : List Int} (h : T1 c m i want xs rows got) (hi : i < m) (a : Int) :
    T1 c m (i + 1) (askP c want xs rows got a).1 (askP c want xs rows got a).2.1 (askP c want xs rows got a).2.2.1 (askP c want xs rows got a).2.2.2 := by
  have hf := cfg_facts h.cfg
  unfold askP
  split
  · rename_i hn
    have ha : 0 ≤ a ∧ a < c.nodes := by simpa [nodeE] using hn
    have e := tk3 (h := hsC c xs rows) (d := d0) (sk_pers h.cfg ha.1 ha.2) ⟨rfl⟩
    refine ⟨h.cfg, hi, h.m50, ?_, take_inv0 (h := hsC c xs rows) h.x (by omega) (by dsimp only; omega), ?_⟩
    · rw [List.length_append, List.length_singleton]; have := h.wl; omega
    · have h2 := sv_ask h.sv ha.1 ha.2
      rw [e]
      show SV _ 0 (begO (hsC c xs rows) (askA (newN c.nodes) rows 0 a)).rows (got ++ begunL (begO (hsC c xs rows) (askA (newN c.nodes) rows 0 a)).out)
      rw [beg_got (h := hsC c xs rows) hf.1.1 hf.1.2, wid (by omega) hf.1.2]
      exact h2
  · exact ⟨h.cfg, hi, h.m50, Nat.le_succ_of_le h.wl, h.x, h.sv⟩
theorem t1_pre {c : Cfg} {m i : Nat} {want : List Int} {xs : List Bun} {rows : List Row12} {got : List Int} (h : T1 c m i want xs rows got) (a : Int) : PTH (hsC c xs rows) (lPers c a) := by
  refine ⟨inv_nn h.x, (newN_le _).2, fun _ _ => ⟨fun _ => ⟨?_⟩⟩⟩
  show (getR rows 0).queue.length ≤ _
  rw [h.sv.queue, List.length_drop]
  have := h.wl; have := h.le; have := h.m50
  omega
theorem t1_len {c : Cfg} {m i : Nat} {want : List Int} {xs : List Bun} {rows : List Row12} {got : List Int} (h : T1 c m i want xs rows got) : got.length ≤ 50 ∧ want.length ≤ 50 := by
  have := h.wl; have := h.le; have := h.m50
  rw [h.sv.got, List.length_take]
  omega
theorem t1_end {c : Cfg} {m i : Nat} {want : List Int} {xs : List Bun} {rows : List Row12} {got : List Int} (h : T1 c m i want xs rows got) : T2 c want 0 xs rows got := ⟨h.cfg, (t1_len h).2, h.x, h.sv⟩
theorem t2_pre {c : Cfg} {want : List Int} {q : Nat} {xs : List Bun} {rows : List Row12} {got : List Int} (h : T2 c want q xs rows got) (s : Int) : PTH (hsC c xs rows) (lDone c s) := ⟨inv_nn h.x, (newN_le _).2, fun _ k => absurd k (by dsimp only; omega)⟩
theorem t2_done {c : Cfg} {want : List Int} {q : Nat} {xs : List Bun} {rows : List Row12} {got : List Int} (h : T2 c want q xs rows got) (hq : q < want.length) :
    ((takeO (hsC c xs rows) (lDone c ((q + 1 : Nat) : Int)) d0).out.length : Int) = c.nodes ∧ T3 c want q 0 (takeO (hsC c xs rows) (lDone c ((q + 1 : Nat) : Int)) d0).xs (takeO (hsC c xs rows) (lDone c ((q + 1 : Nat) : Int)) d0).rows got := by
  have hf := cfg_facts h.cfg
  have e := tk5 (h := hsC c xs rows) (d := d0) (sk_done h.cfg (s := ((q + 1 : Nat) : Int)) (by omega)) ⟨rfl⟩
  obtain ⟨h1, h2⟩ := sv_done (n := c.nodes) h.sv hq hf.1.1
  rw [e]
  unfold doneO
  dsimp only
  rw [if_pos h1]
  refine ⟨?_, h.cfg, h.wl, h.x, h2⟩
  unfold spreadL
  rw [sprI_len, spreadN_id (by omega) hf.1.2]
  omega
theorem t3_pre {c : Cfg} {want : List Int} {q m : Nat} {xs : List Bun} {rows : List Row12} {got : List Int} (h : T3 c want q m xs rows got) (a s : Int) : PTH (hsC c xs rows) (lAck c a s) := ⟨inv_nn h.x, (newN_le _).2, fun _ k => absurd k (by dsimp only; omega)⟩
theorem t3_next {c : Cfg} {want : List Int} {q m : Nat} {xs : List Bun} {rows : List Row12} {got : List Int} (h : T3 c want q m xs rows got) (hm : (m : Int) < c.nodes) :
    T3 c want q (m + 1) (takeO (hsC c xs rows) (lAck c (m : Int) ((q + 1 : Nat) : Int)) d0).xs (takeO (hsC c xs rows) (lAck c (m : Int) ((q + 1 : Nat) : Int)) d0).rows (got ++ begunL (takeO (hsC c xs rows) (lAck c (m : Int) ((q + 1 : Nat) : Int)) d0).out) := by
  have hf := cfg_facts h.cfg
  have e := tk7 (h := hsC c xs rows) (d := d0) (sk_ack h.cfg (a := (m : Int)) (s := ((q + 1 : Nat) : Int)) (by omega) hm (by omega)) ⟨rfl⟩
  refine ⟨h.cfg, h.wl, take_inv0 (h := hsC c xs rows) h.x (by omega) (by dsimp only; omega), ?_⟩
  have h2 := sv_ack h.sv hm hf.1.2 (by have := h.wl; omega)
  rw [e]
  show SE _ _ q _ (begO (hsC c xs rows) (ackA (newN c.nodes) rows 0 ((q + 1 : Nat) : Int) (m : Int))).rows (got ++ begunL (begO (hsC c xs rows) (ackA (newN c.nodes) rows 0 ((q + 1 : Nat) : Int) (m : Int))).out)
  rw [beg_got (h := hsC c xs rows) hf.1.1 hf.1.2, wid (by omega) hf.1.2]
  exact h2
theorem t3_len {c : Cfg} {want : List Int} {q m : Nat} {xs : List Bun} {rows : List Row12} {got : List Int} (h : T3 c want q m xs rows got) : got.length ≤ 50 := by
  have := h.wl
  rcases Int.lt_or_le (m : Int) c.nodes with h1 | h1
  · rw [(h.sv.mid h1).got, List.length_take]; omega
  · rw [(h.sv.fin (by have := h.sv.le; omega)).got, List.length_take]; omega
theorem t3_end {c : Cfg} {want : List Int} {q m : Nat} {xs : List Bun} {rows : List Row12} {got : List Int} (h : T3 c want q m xs rows got) (hm : ¬ (m : Int) < c.nodes) : T2 c want (q + 1) xs rows got := ⟨h.cfg, h.wl, h.x, h.sv.fin (by have := h.sv.le; omega)⟩
theorem app_le {h : HS} {l : Ltr} {d : I3} {g : List Int} (hg : g.length ≤ 50) : (g.length + (begunL (takeO h l d).out).length) * 8 ≤ 140737488355328 := by
  have h1 := begun_len (takeO h l d).out
  have h2 := out_len h l d
  omega
theorem t2_bad {c : Cfg} {want : List Int} {q : Nat} {xs : List Bun} {rows : List Row12} {got : List Int} (h : T2 c want q xs rows got) (hq : q < want.length) (hb : (((takeO (hsC c xs rows) (lDone c ((q + 1 : Nat) : Int)) d0).out.length : Int) != c.nodes) = true) : False := by
  rw [(t2_done h hq).1] at hb
  simp at hb
theorem t2_end {c : Cfg} {want : List Int} {q : Nat} {xs : List Bun} {rows : List Row12} {got : List Int} (h : T2 c want q xs rows got) (hq : ¬ q < want.length) : (bif true then !(curR rows 0).2 else false) = true := by
  rw [(sv_end h.sv hq).1]
  rfl
theorem t2_end2 {c : Cfg} {want : List Int} {q : Nat} {xs : List Bun} {rows : List Row12} {got : List Int} (h : T2 c want q xs rows got) (hq : ¬ q < want.length) (hb : decide (got = want) = false) : False := by
  rw [(sv_end h.sv hq).2] at hb
  simp at hb
end Go.Proofs.Ytipibgamajhgbaa
