/- ArbiterServes of layer 12: what it comes to. No condition. -/
import Derived.Test.YtpjdicndjakeoaaV6
namespace Go.Proofs.Ytpjdicndjakeoaa
open Go.RowKit
set_option linter.unusedVariables false
set_option linter.unusedSimpArgs false
theorem wid9 {n : Int} (h1 : 0 ≤ n) (h2 : n ≤ 64) : newN n = n := by
  unfold newN
  repeat' split
  all_goals omega
theorem newR1' : newR 1 = [zRow] := by decide
/-- Of those that asked so many ended; the next one is active, or nobody. -/
structure SV (want : List Int) (q : Nat) (rows : List Row12) (got : List Int) : Prop where
  len : rows.length = 1
  endg : (getR rows 0).ending = false
  act : q < want.length → (getR rows 0).on = true ∧ (getR rows 0).act.seq = ((q + 1 : Nat) : Int)
  rest : ¬ q < want.length → (getR rows 0).on = false
  seq : (getR rows 0).seq = ((min (q + 1) want.length : Nat) : Int)
  queue : (getR rows 0).queue = want.drop (q + 1)
  got : got = want.take (q + 1)
  le : q ≤ want.length
def knowsM (n m : Nat) : List Bool := List.replicate m false ++ (List.replicate (n - m) true ++ List.replicate (64 - n) false)
theorem knowsM_set {n m : Nat} (h : m < n) : (knowsM n (m + 1)).set m true = knowsM n m := by
  unfold knowsM
  rw [List.replicate_succ', List.append_assoc, List.set_append_right _ _ (by simp), List.length_replicate, Nat.sub_self, List.singleton_append, List.set_cons_zero, show n - m = n - (m + 1) + 1 from by omega, List.replicate_succ, List.cons_append]
theorem knowsM_0 (n : Int) : knowsM n.toNat 0 = allN n := by
  unfold knowsM allN
  rw [List.replicate_zero, List.nil_append, Nat.sub_zero]
theorem knowsM_ne {n : Int} {m : Nat} (h : 0 < m) (h1 : 1 ≤ n) : ¬ knowsM n.toNat m = allN n := fun e => by
  have h2 := congrArg (fun l => l.getD 0 false) e
  obtain ⟨k, rfl⟩ : ∃ k, m = k + 1 := ⟨m - 1, by omega⟩
  obtain ⟨j, hj⟩ : ∃ j, n.toNat = j + 1 := ⟨n.toNat - 1, by omega⟩
  unfold knowsM allN at h2
  rw [hj, List.replicate_succ, List.replicate_succ] at h2
  simp at h2
theorem knowsM_n {n : Nat} (h : n ≤ 64) : knowsM n n = List.replicate 64 false := by
  unfold knowsM
  rw [Nat.sub_self, List.replicate_zero, List.nil_append, List.replicate_append_replicate, show n + (64 - n) = 64 from by omega]
structure EP (n : Int) (want : List Int) (q m : Nat) (rows : List Row12) (got : List Int) : Prop where
  len : rows.length = 1
  on : (getR rows 0).on = false
  ending : (getR rows 0).ending = true
  act : (getR rows 0).act.seq = ((q + 1 : Nat) : Int)
  seq : (getR rows 0).seq = ((q + 1 : Nat) : Int)
  queue : (getR rows 0).queue = want.drop (q + 1)
  got : got = want.take (q + 1)
  knows : (getR rows 0).knows = knowsM n.toNat m
  lt : q < want.length
structure SE (n : Int) (want : List Int) (q m : Nat) (rows : List Row12) (got : List Int) : Prop where
  le : (m : Int) ≤ n
  pos : 0 < m → EP n want q m rows got
  zero : m = 0 → SV want (q + 1) rows got
def wantN (n : Int) (want : List Int) (a : Int) : List Int := if 0 ≤ a ∧ a < n then want ++ [a] else want
def gotA (got : List Int) (x : List Row12 × Atv × Bool) : List Int := if x.2.2 = true then got ++ [x.2.1.node] else got
theorem sv_start : SV [] 0 (newR 1) [] := by
  rw [newR1']
  exact ⟨rfl, rfl, fun h => absurd h (by decide), fun _ => rfl, rfl, rfl, rfl, Nat.le_refl _⟩
theorem drop_app {l : List Int} {a : Int} (h : 0 < l.length) : (l ++ [a]).drop 1 = l.drop 1 ++ [a] := by
  cases l with
  | nil => simp at h
  | cons x l => rfl
theorem take_app {l : List Int} {a : Int} (h : 0 < l.length) : (l ++ [a]).take 1 = l.take 1 := by
  cases l with
  | nil => simp at h
  | cons x l => rfl
theorem sv_ask {n : Int} {want : List Int} {rows : List Row12} {got : List Int} (h : SV want 0 rows got) (hn : 1 ≤ n) (a : Int) : SV (wantN n want a) 0 (askA n rows 0 a).1 (gotA got (askA n rows 0 a)) ∧ ((askA n rows 0 a).2.2 = true → 0 ≤ a ∧ a < n) := by
  have hlt : (0 : Int).toNat < rows.length := by rw [h.len]; decide
  by_cases hx : isR n rows 0 a = true
  · have ha := (isR_iff.1 hx).2
    unfold wantN
    rw [if_pos ha, ask_t hx]
    by_cases hw : 0 < want.length
    · have hq : quiet (addQ (getR rows 0) a) = true := quiet_on (h.act hw).1
      rw [next_q hq]
      unfold gotA
      rw [if_neg (by simp)]
      refine ⟨⟨by rw [len_setR]; exact h.len, ?_, fun _ => ?_, fun h0 => absurd (by simp) h0, ?_, ?_, ?_, Nat.zero_le _⟩, fun _ => ha⟩
      · dsimp only; rw [getR_setR hlt]; exact h.endg
      · dsimp only; rw [getR_setR hlt]; exact h.act hw
      · dsimp only; rw [getR_setR hlt]
        show (getR rows 0).seq = _
        rw [h.seq, List.length_append, List.length_singleton]
        congr 1
        omega
      · dsimp only; rw [getR_setR hlt]
        show (getR rows 0).queue ++ [a] = _
        rw [h.queue, drop_app hw]
      · rw [h.got]; exact (take_app hw).symm
    · have hw0 : want = [] := List.eq_nil_of_length_eq_zero (by omega)
      subst hw0
      have hq0 : (getR rows 0).queue = [] := by rw [h.queue]; rfl
      have hq : quiet (addQ (getR rows 0) a) = false := by
        have h1 := h.rest hw
        have h2 := h.endg
        simp [quiet, addQ, h1, h2]
      have hs : IntKind.i64.wrap ((getR rows 0).seq + 1) = 1 := by rw [h.seq]; decide
      rw [next_n hq]
      unfold gotA
      rw [if_pos rfl]
      refine ⟨⟨by rw [len_setR]; exact h.len, ?_, fun _ => ?_, fun h0 => absurd (by simp) h0, ?_, ?_, ?_, Nat.zero_le _⟩, fun _ => ha⟩
      · dsimp only; rw [getR_setR hlt]; exact h.endg
      · dsimp only; rw [getR_setR hlt]
        exact ⟨rfl, hs⟩
      · dsimp only; rw [getR_setR hlt]
        exact hs
      · dsimp only; rw [getR_setR hlt]
        show ((getR rows 0).queue ++ [a]).drop 1 = _
        simp [hq0]
      · rw [h.got]
        show [] ++ [((getR rows 0).queue ++ [a]).getD 0 0] = _
        simp [hq0]
  · have hx : isR n rows 0 a = false := by simpa using hx
    have ha : ¬ (0 ≤ a ∧ a < n) := fun h' => by
      have := (isR_iff (n := n) (rows := rows) (b := 0) (nd := a)).2 ⟨⟨by omega, by rw [h.len]; decide⟩, h'⟩
      rw [hx] at this; cases this
    rw [ask_f hx]
    unfold wantN gotA
    rw [if_neg ha, if_neg (by simp)]
    exact ⟨h, fun h0 => by cases h0⟩
theorem sv_done {n : Int} {want : List Int} {q : Nat} {rows : List Row12} {got : List Int} (h : SV want q rows got) (hq : q < want.length) (h1 : 1 ≤ n) (h2 : n ≤ 64) :
    curR rows 0 = ((getR rows 0).act, true) ∧ (getR rows 0).act.seq = ((q + 1 : Nat) : Int) ∧ (doneA rows 0 ((q + 1 : Nat) : Int)).2 = true ∧ SE n want q n.toNat (doneA rows 0 ((q + 1 : Nat) : Int)).1 got := by
  have hlt : (0 : Int).toNat < rows.length := by rw [h.len]; decide
  have hi : inR rows 0 = true := inR_iff.2 ⟨by omega, by rw [h.len]; decide⟩
  obtain ⟨a1, a2⟩ := h.act hq
  have hd : doneA rows 0 ((q + 1 : Nat) : Int) = (setR rows 0 (overR (getR rows 0)), true) := done_t (by simp [isOn, hi, a1, a2])
  rw [hd]
  refine ⟨by simp [curR, hi, a1], a2, rfl, ⟨by omega, fun _ => ?_, fun h0 => by omega⟩⟩
  refine ⟨by rw [len_setR]; exact h.len, ?_, ?_, ?_, ?_, ?_, h.got, ?_, hq⟩ <;> dsimp only <;> rw [getR_setR hlt]
  · rfl
  · rfl
  · exact a2
  · show (getR rows 0).seq = _
    rw [h.seq]
    congr 1
    omega
  · exact h.queue
  · exact (knowsM_n (by omega)).symm
theorem sv_ack {n : Int} {want : List Int} {q m : Nat} {rows : List Row12} {got : List Int} (h : SE n want q (m + 1) rows got) (h2 : n ≤ 64) (hw : want.length ≤ 1000) :
    ((ackA n rows 0 ((q + 1 : Nat) : Int) (m : Int)).2.2 = true ↔ m = 0 ∧ q + 1 < want.length) ∧ SE n want q m (ackA n rows 0 ((q + 1 : Nat) : Int) (m : Int)).1 (gotA got (ackA n rows 0 ((q + 1 : Nat) : Int) (m : Int))) := by
  have e := h.pos (Nat.succ_pos _)
  have hle := h.le
  have hlt : (0 : Int).toNat < rows.length := by rw [e.len]; decide
  have hx : isEnd n rows 0 ((q + 1 : Nat) : Int) (m : Int) = true := isEnd_t (isR_iff.2 ⟨⟨by omega, by rw [e.len]; decide⟩, by omega, by omega⟩) (by rw [e.ending]; rfl) (by rw [e.act]; simp)
  have hk : (getR rows 0).knows.set (m : Int).toNat true = knowsM n.toNat m := by
    rw [e.knows, Int.toNat_natCast]
    exact knowsM_set (by omega)
  rcases Nat.eq_zero_or_pos m with h0 | h0
  · subst h0
    have hk' : (getR rows 0).knows.set ((0 : Nat) : Int).toNat true = allN n := by rw [hk, knowsM_0]
    rw [ack_2 hx hk']
    by_cases hq : q + 1 < want.length
    · have hqn : ¬ (getR rows 0).queue.length = 0 := by rw [e.queue, List.length_drop]; omega
      have hn : quiet (endR (getR rows 0) ((0 : Nat) : Int)) = false := by
        have h1 := e.on
        simp only [quiet, endR, h1, Bool.false_or, decide_eq_false_iff_not]
        exact hqn
      have hs : IntKind.i64.wrap ((getR rows 0).seq + 1) = ((q + 1 + 1 : Nat) : Int) := by
        rw [e.seq]; exact wrap_succ (by omega)
      rw [next_n hn]
      refine ⟨⟨fun _ => ⟨rfl, hq⟩, fun _ => rfl⟩, ⟨by omega, fun h0 => absurd h0 (Nat.lt_irrefl _), fun _ => ?_⟩⟩
      unfold gotA
      rw [if_pos rfl]
      refine ⟨by rw [len_setR]; exact e.len, ?_, fun _ => ?_, fun h0 => absurd hq h0, ?_, ?_, ?_, by omega⟩
      · dsimp only; rw [getR_setR hlt]; rfl
      · dsimp only; rw [getR_setR hlt]; exact ⟨rfl, hs⟩
      · dsimp only; rw [getR_setR hlt]
        show IntKind.i64.wrap ((getR rows 0).seq + 1) = _
        rw [hs]
        congr 1
        omega
      · dsimp only; rw [getR_setR hlt]
        show (getR rows 0).queue.drop 1 = _
        rw [e.queue, List.drop_drop]
      · rw [e.got]
        show want.take (q + 1) ++ [(getR rows 0).queue.getD 0 0] = want.take (q + 1 + 1)
        rw [e.queue, List.take_add_one (i := q + 1), List.getD_eq_getElem?_getD, List.getElem?_drop, show q + 1 + 0 = q + 1 from rfl, List.getElem?_eq_getElem hq]
        rfl
    · have hqn : (getR rows 0).queue.length = 0 := by rw [e.queue, List.length_drop]; omega
      have hn : quiet (endR (getR rows 0) ((0 : Nat) : Int)) = true := by
        unfold quiet
        rw [Bool.or_eq_true]
        exact .inr (decide_eq_true hqn)
      have hlen : want.length = q + 1 := by have := e.lt; omega
      rw [next_q hn]
      refine ⟨⟨fun h0 => (by cases h0), fun h0 => absurd h0.2 hq⟩, ⟨by omega, fun h0 => absurd h0 (Nat.lt_irrefl _), fun _ => ?_⟩⟩
      unfold gotA
      rw [if_neg (by simp)]
      refine ⟨by rw [len_setR]; exact e.len, ?_, fun h0 => absurd h0 hq, fun h0 => ?_, ?_, ?_, ?_, by omega⟩
      · dsimp only; rw [getR_setR hlt]; rfl
      · dsimp only; rw [getR_setR hlt]; exact e.on
      · dsimp only; rw [getR_setR hlt]
        show (getR rows 0).seq = _
        rw [e.seq]
        congr 1
        omega
      · dsimp only; rw [getR_setR hlt]
        show (getR rows 0).queue = _
        rw [List.eq_nil_of_length_eq_zero hqn, List.drop_of_length_le (by omega)]
      · rw [e.got, List.take_of_length_le (by omega), List.take_of_length_le (by omega)]
  · have hne : ¬ (getR rows 0).knows.set (m : Int).toNat true = allN n := by rw [hk]; exact knowsM_ne h0 (by omega)
    rw [ack_1 hx hne]
    refine ⟨⟨fun h1 => (by cases h1), fun h1 => (by omega)⟩, ⟨by omega, fun _ => ?_, fun h1 => by omega⟩⟩
    unfold gotA
    rw [if_neg (by simp)]
    refine ⟨by rw [len_setR]; exact e.len, ?_, ?_, ?_, ?_, ?_, e.got, ?_, e.lt⟩ <;> dsimp only <;> rw [getR_setR hlt]
    · exact e.on
    · exact e.ending
    · exact e.act
    · exact e.seq
    · exact e.queue
    · exact hk
theorem sv_end {want : List Int} {q : Nat} {rows : List Row12} {got : List Int} (h : SV want q rows got) (hq : ¬ q < want.length) : curR rows 0 = (zA, false) ∧ got = want ∧ waitR rows 0 = [] := by
  have hi : inR rows 0 = true := inR_iff.2 ⟨by omega, by rw [h.len]; decide⟩
  refine ⟨by simp [curR, h.rest hq], ?_, ?_⟩
  · rw [h.got]; exact List.take_of_length_le (by omega)
  · unfold waitR
    rw [if_pos hi, h.queue]
    exact List.drop_of_length_le (by omega)
end Go.Proofs.Ytpjdicndjakeoaa
