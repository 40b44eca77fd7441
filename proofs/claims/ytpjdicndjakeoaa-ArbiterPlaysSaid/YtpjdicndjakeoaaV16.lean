/- Layer 12's plain law: the arbiter's rows and its reference's. No program. -/
import Derived.Test.YtpjdicndjakeoaaV6
import Derived.Test.YtpjdicndjakeoaaV11
import Derived.Test.YtpjdicndjakeoaaV15
namespace Go.Proofs.Ytpjdicndjakeoaa
open Go.RowKit
set_option linter.unusedVariables false
set_option linter.unusedSimpArgs false
/-- A row and the reference's. -/
structure RR (n b : Int) (ka kk : Nat) (r : Row12) (m : RRow12) : Prop where
  seq : r.seq = m.begun
  b0 : 0 ≤ m.begun
  bl : m.begun ≤ m.asked.length
  ph : m.phase = 0 ∨ m.phase = 1 ∨ m.phase = 2
  b1 : m.phase ≠ 0 → 1 ≤ m.begun
  queue : r.queue = m.asked.drop m.begun.toNat
  on : r.on = decide (m.phase = 1)
  en : r.ending = decide (m.phase = 2)
  act : m.phase ≠ 0 → r.act = lastM b m
  kl : m.phase = 2 → r.knows.length = 64
  ki : m.phase = 2 → ∀ j : Nat, j < 64 → (r.knows.getD j false = true ↔ (j : Int) ∈ m.knows)
  kb : m.phase = 2 → ∀ x ∈ m.knows, 0 ≤ x ∧ x < n
  la : m.asked.length ≤ ka
  lk : m.knows.length ≤ kk
theorem RR.mono {n b : Int} {ka kk ka' kk' : Nat} {r : Row12} {m : RRow12} (h : RR n b ka kk r m) (h1 : ka ≤ ka') (h2 : kk ≤ kk') : RR n b ka' kk' r m :=
  { h with la := Nat.le_trans h.la h1, lk := Nat.le_trans h.lk h2 }
theorem RR.rowM {n b : Int} {ka kk : Nat} {r : Row12} {m : RRow12} (h : RR n b ka kk r m) (h1 : ka ≤ 1000) (h2 : kk ≤ 100000) : RowM m :=
  ⟨h.b0, h.bl, (Decidable.em (m.phase = 0)).elim .inl (fun e => .inr (h.b1 e)), by have := h.la; omega, by have := h.lk; omega⟩
theorem last_add {m : RRow12} {b nd : Int} (h1 : 1 ≤ m.begun) (h2 : m.begun ≤ m.asked.length) (h3 : m.asked.length ≤ 1000) : lastM b (addM m nd) = lastM b m := by
  have hw : IntKind.i64.wrap (m.begun - 1) = m.begun - 1 := wrap_id (by omega) (by omega)
  unfold lastM addM
  dsimp only
  rw [hw, List.getD_eq_getElem?_getD, List.getElem?_append_left (by omega), ← List.getD_eq_getElem?_getD]
theorem RR.add {n b : Int} {ka kk : Nat} {r : Row12} {m : RRow12} (h : RR n b ka kk r m) (hk : ka ≤ 1000) (nd : Int) : RR n b (ka + 1) kk (addQ r nd) (addM m nd) where
  seq := h.seq
  b0 := h.b0
  bl := by show m.begun ≤ ((m.asked ++ [nd]).length : Int); rw [List.length_append]; have := h.bl; push_cast; omega
  ph := h.ph
  b1 := h.b1
  queue := by
    show r.queue ++ [nd] = (m.asked ++ [nd]).drop m.begun.toNat
    rw [h.queue, List.drop_append_of_le_length (by have := h.bl; omega)]
  on := h.on
  en := h.en
  act := fun hp => (h.act hp).trans (last_add (h.b1 hp) h.bl (by have := h.la; omega)).symm
  kl := h.kl
  ki := h.ki
  kb := h.kb
  la := by show (m.asked ++ [nd]).length ≤ ka + 1; rw [List.length_append, List.length_singleton]; have := h.la; omega
  lk := h.lk
theorem RR.quiet {n b : Int} {ka kk : Nat} {r : Row12} {m : RRow12} (h : RR n b ka kk r m) : quiet r = restM m := by
  have hq : decide (r.queue.length = 0) = decide ((m.asked.length : Int) ≤ m.begun) := by
    rw [h.queue, List.length_drop]
    have := h.b0
    exact decide_eq_decide.2 ⟨fun h => by omega, fun h => by omega⟩
  unfold Go.Proofs.Ytpjdicndjakeoaa.quiet restM
  rw [h.on, h.en, hq]
  rcases h.ph with e | e | e <;> rw [e] <;> simp
theorem RR.next {n b : Int} {ka kk : Nat} {r : Row12} {m : RRow12} (h : RR n b ka kk r m) (hk : ka ≤ 1001) : (nextR b r).2 = (beginM b m).2 ∧ RR n b ka kk (nextR b r).1 (beginM b m).1 := by
  have hq := h.quiet
  cases hr : restM m with
  | true =>
    rw [hr] at hq
    rw [next_q hq, beginM_t hr]
    exact ⟨rfl, h⟩
  | false =>
    rw [hr] at hq
    rw [next_n hq, beginM_f hr]
    have hlt : m.begun < m.asked.length := by
      unfold restM at hr
      simp only [Bool.or_eq_false_iff, Bool.not_eq_false', decide_eq_true_eq, decide_eq_false_iff_not] at hr
      omega
    have hp0 : m.phase = 0 := by
      unfold restM at hr
      simp only [Bool.or_eq_false_iff, Bool.not_eq_false', decide_eq_true_eq, decide_eq_false_iff_not] at hr
      exact hr.1
    have hen : r.ending = false := by rw [h.en, hp0]; rfl
    have h0 := h.b0
    have hla := h.la
    have hw : IntKind.i64.wrap (m.begun + 1) = m.begun + 1 := wrap_id (by omega) (by omega)
    have hw2 : IntKind.i64.wrap (m.begun + 1 - 1) = m.begun := by rw [show m.begun + 1 - 1 = m.begun from by omega]; exact wrap_id (by omega) (by omega)
    have hact : nextA b r = lastM b (begunM m) := by
      unfold nextA lastM begunM
      dsimp only
      rw [h.seq, hw, hw2, h.queue]
      congr 1
      rw [List.getD_eq_getElem?_getD, List.getElem?_drop, Nat.add_zero, ← List.getD_eq_getElem?_getD]
    refine ⟨by rw [hact], ?_⟩
    exact
      { seq := by show IntKind.i64.wrap (r.seq + 1) = IntKind.i64.wrap (m.begun + 1); rw [h.seq]
        b0 := by show 0 ≤ IntKind.i64.wrap (m.begun + 1); rw [hw]; omega
        bl := by show IntKind.i64.wrap (m.begun + 1) ≤ _; rw [hw]; show m.begun + 1 ≤ (m.asked.length : Int); omega
        ph := .inr (.inl rfl)
        b1 := fun _ => by show 1 ≤ IntKind.i64.wrap (m.begun + 1); rw [hw]; omega
        queue := by
          show r.queue.drop 1 = m.asked.drop (IntKind.i64.wrap (m.begun + 1)).toNat
          rw [h.queue, List.drop_drop, hw]
          congr 1
          omega
        on := rfl
        en := hen
        act := fun _ => hact
        kl := fun h' => by cases h'
        ki := fun h' => by cases h'
        kb := fun h' => by cases h'
        la := h.la
        lk := h.lk }
theorem RR.over {n b : Int} {ka kk : Nat} {r : Row12} {m : RRow12} (h : RR n b ka kk r m) (hp : m.phase = 1) : RR n b ka kk (overR r) ⟨m.asked, m.begun, 2, []⟩ where
  seq := h.seq
  b0 := h.b0
  bl := h.bl
  ph := .inr (.inr rfl)
  b1 := fun _ => h.b1 (by rw [hp]; decide)
  queue := h.queue
  on := rfl
  en := rfl
  act := fun _ => h.act (by rw [hp]; decide)
  kl := fun _ => by show (List.replicate 64 false).length = 64; simp
  ki := fun _ j hj => by
    show ((List.replicate 64 false).getD j false = true) ↔ (j : Int) ∈ []
    rw [List.getD_eq_getElem?_getD, List.getElem?_replicate, if_pos hj]
    simp
  kb := fun _ x hx => by cases hx
  la := h.la
  lk := Nat.zero_le _
theorem RR.know {n b : Int} {ka kk : Nat} {r : Row12} {m : RRow12} (h : RR n b ka kk r m) (hp : m.phase = 2) {nd : Int} (h1 : 0 ≤ nd) (h2 : nd < n) (h3 : n ≤ 64) :
    (r.knows.set nd.toNat true).length = 64 ∧ (∀ j : Nat, j < 64 → ((r.knows.set nd.toNat true).getD j false = true ↔ (j : Int) ∈ m.knows ++ [nd])) ∧ ∀ x ∈ m.knows ++ [nd], 0 ≤ x ∧ x < n := by
  refine ⟨by rw [List.length_set]; exact h.kl hp, fun j hj => ?_, fun x hx => ?_⟩
  · rw [List.mem_append, List.mem_singleton, List.getD_eq_getElem?_getD]
    by_cases e : j = nd.toNat
    · subst e
      rw [List.getElem?_set_self (by rw [h.kl hp]; omega)]
      exact ⟨fun _ => .inr (by omega), fun _ => rfl⟩
    · rw [List.getElem?_set_ne (by omega), ← List.getD_eq_getElem?_getD, h.ki hp j hj]
      exact ⟨.inl, fun h' => h'.elim id fun h' => absurd h' (by omega)⟩
  · rcases List.mem_append.1 hx with hx | hx
    · exact h.kb hp x hx
    · rw [List.mem_singleton] at hx; omega
theorem all_iff {n : Int} {k : List Bool} {km : List Int} (h0 : 0 ≤ n) (h3 : n ≤ 64) (hl : k.length = 64) (hi : ∀ j : Nat, j < 64 → (k.getD j false = true ↔ (j : Int) ∈ km)) (hb : ∀ x ∈ km, 0 ≤ x ∧ x < n) : k = allN n ↔ allM n km := by
  have hget : ∀ j : Nat, j < 64 → (allN n)[j]? = some (decide ((j : Int) < n)) := fun j hj => by
    unfold allN
    by_cases e : j < n.toNat
    · rw [List.getElem?_append_left (by simpa using e), List.getElem?_replicate, if_pos e, decide_eq_true (by omega)]
    · rw [List.getElem?_append_right (by simpa using e), List.length_replicate, List.getElem?_replicate, if_pos (by omega), decide_eq_false (by omega)]
  have hla : (allN n).length = 64 := by unfold allN; simp; omega
  have hk : ∀ j : Nat, j < 64 → k[j]? = some (k.getD j false) := fun j hj => by
    rw [List.getD_eq_getElem?_getD, List.getElem?_eq_getElem (by omega)]; rfl
  constructor
  · intro e j hj
    rw [← hi j (by omega)]
    have := hk j (by omega)
    rw [e, hget j (by omega)] at this
    injection this with this
    rw [e, ← this]
    exact decide_eq_true hj
  · intro h
    apply List.ext_getElem?
    intro j
    rcases Nat.lt_or_ge j 64 with hj | hj
    · rw [hk j hj, hget j hj]
      congr 1
      by_cases e : (j : Int) < n
      · rw [decide_eq_true e]; exact (hi j hj).2 (h j e)
      · rw [decide_eq_false e]
        cases hc : k.getD j false with
        | false => rfl
        | true => exact absurd (hb _ ((hi j hj).1 hc)).2 e
    · rw [List.getElem?_eq_none (by omega), List.getElem?_eq_none (by omega)]
theorem RR.hear {n b : Int} {ka kk : Nat} {r : Row12} {m : RRow12} (h : RR n b ka kk r m) (hp : m.phase = 2) {nd : Int} (h1 : 0 ≤ nd) (h2 : nd < n) (h3 : n ≤ 64) : RR n b ka (kk + 1) (knowR r nd) (hearM m nd) :=
  { seq := h.seq, b0 := h.b0, bl := h.bl, ph := h.ph, b1 := h.b1, queue := h.queue, on := h.on, en := h.en, act := h.act
    kl := fun _ => (h.know hp h1 h2 h3).1
    ki := fun _ => (h.know hp h1 h2 h3).2.1
    kb := fun _ => (h.know hp h1 h2 h3).2.2
    la := h.la
    lk := by show (m.knows ++ [nd]).length ≤ kk + 1; rw [List.length_append, List.length_singleton]; have := h.lk; omega }
theorem RR.rest {n b : Int} {ka kk : Nat} {r : Row12} {m : RRow12} (h : RR n b ka kk r m) (hp : m.phase = 2) (nd : Int) : RR n b ka (kk + 1) (endR r nd) (overM m nd) :=
  { seq := h.seq, b0 := h.b0, bl := h.bl, ph := .inl rfl, b1 := fun h' => absurd rfl h', queue := h.queue
    on := by show r.on = decide ((0 : Int) = 1); rw [h.on, hp]; rfl
    en := rfl
    act := fun h' => absurd rfl h'
    kl := fun h' => by cases h'
    ki := fun h' => by cases h'
    kb := fun h' => by cases h'
    la := h.la
    lk := by show (m.knows ++ [nd]).length ≤ kk + 1; rw [List.length_append, List.length_singleton]; have := h.lk; omega }
/-- All rows. -/
structure RA (n : Int) (ka kk : Nat) (rows : List Row12) (ms : List RRow12) : Prop where
  n0 : 0 ≤ n
  n64 : n ≤ 64
  le64 : rows.length ≤ 64
  len : rows.length = ms.length
  row : ∀ b, inR rows b = true → RR n b ka kk (getR rows b) (getM ms b)
theorem RA.inM {n : Int} {ka kk : Nat} {rows : List Row12} {ms : List RRow12} (h : RA n ka kk rows ms) (b : Int) : inM ms b = inR rows b := by unfold Go.Proofs.Ytpjdicndjakeoaa.inM inR; rw [h.len]
theorem RA.isM {n : Int} {ka kk : Nat} {rows : List Row12} {ms : List RRow12} (h : RA n ka kk rows ms) (b nd : Int) : isM n ms b nd = isR n rows b nd := by unfold Go.Proofs.Ytpjdicndjakeoaa.isM isR; rw [h.inM]
theorem RA.mono {n : Int} {ka kk ka' kk' : Nat} {rows : List Row12} {ms : List RRow12} (h : RA n ka kk rows ms) (h1 : ka ≤ ka') (h2 : kk ≤ kk') : RA n ka' kk' rows ms := ⟨h.n0, h.n64, h.le64, h.len, fun b hb => (h.row b hb).mono h1 h2⟩
theorem getM_ite {rows : List RRow12} {b c : Int} {v : RRow12} (hb : Go.Proofs.Ytpjdicndjakeoaa.inM rows b = true) (hc : Go.Proofs.Ytpjdicndjakeoaa.inM rows c = true) : getM (setM rows b v) c = if c = b then v else getM rows c := by
  have hb := inM_iff.1 hb
  have hc := inM_iff.1 hc
  split
  · rename_i e
    subst e
    exact getM_setM (by omega)
  · rename_i e
    unfold getM setM
    rw [List.getD_eq_getElem?_getD, List.getElem?_set_ne (by omega), ← List.getD_eq_getElem?_getD]
theorem RA.set {n : Int} {ka kk : Nat} {rows : List Row12} {ms : List RRow12} (h : RA n ka kk rows ms) {b : Int} (hb : inR rows b = true) {r : Row12} {m : RRow12} (hr : RR n b ka kk r m) : RA n ka kk (setR rows b r) (setM ms b m) := by
  refine ⟨h.n0, h.n64, by rw [len_setR]; exact h.le64, by rw [len_setR, len_setM]; exact h.len, fun c hc => ?_⟩
  rw [inR_setR] at hc
  rw [getR_ite hb hc, getM_ite (by rw [h.inM]; exact hb) (by rw [h.inM]; exact hc)]
  split
  · rename_i e; subst e; exact hr
  · exact h.row c hc
theorem RA.ask {n : Int} {ka kk : Nat} {rows : List Row12} {ms : List RRow12} (h : RA n ka kk rows ms) (hk : ka ≤ 1000) (b nd : Int) : (askA n rows b nd).2 = (askM n ms b nd).2 ∧ RA n (ka + 1) kk (askA n rows b nd).1 (askM n ms b nd).1 := by
  cases hx : isR n rows b nd with
  | true =>
    have hb := inR_iff.2 (isR_iff.1 hx).1
    have hn := ((h.row b hb).add hk nd).next (by omega)
    rw [ask_t hx, askM_t (by rw [h.isM]; exact hx)]
    exact ⟨hn.1, (h.mono (Nat.le_succ ka) (Nat.le_refl _)).set hb hn.2⟩
  | false =>
    rw [ask_f hx, askM_f (by rw [h.isM]; exact hx)]
    exact ⟨rfl, h.mono (Nat.le_succ ka) (Nat.le_refl _)⟩
theorem RR.seq_act {n b : Int} {ka kk : Nat} {r : Row12} {m : RRow12} (h : RR n b ka kk r m) (hp : m.phase ≠ 0) : r.act.seq = m.begun := by rw [h.act hp]; rfl
theorem RA.done {n : Int} {ka kk : Nat} {rows : List Row12} {ms : List RRow12} (h : RA n ka kk rows ms) (b s : Int) : (doneA rows b s).2 = (doneM ms b s).2 ∧ RA n ka kk (doneA rows b s).1 (doneM ms b s).1 := by
  have e : isOn rows b s = onM ms b s 1 := by
    unfold isOn onM
    rw [h.inM]
    cases hb : inR rows b with
    | false => rfl
    | true =>
      have hr := h.row b hb
      rw [hr.on, Bool.true_and, Bool.true_and]
      by_cases hp : (getM ms b).phase = 1
      · rw [hr.seq_act (by rw [hp]; decide)]
      · rw [decide_eq_false hp]; rfl
  cases hx : isOn rows b s with
  | true =>
    have hb : inR rows b = true := by unfold isOn at hx; simp only [Bool.and_eq_true] at hx; exact hx.1
    have hp : (getM ms b).phase = 1 := by rw [e] at hx; unfold onM at hx; simp only [Bool.and_eq_true, decide_eq_true_eq] at hx; exact hx.2.1
    rw [done_t hx, doneM_t (by rw [← e]; exact hx)]
    exact ⟨rfl, h.set hb ((h.row b hb).over hp)⟩
  | false =>
    rw [done_f hx, doneM_f (by rw [← e]; exact hx)]
    exact ⟨rfl, h⟩
theorem RA.ack {n : Int} {ka kk : Nat} {rows : List Row12} {ms : List RRow12} (h : RA n ka kk rows ms) (hk : ka ≤ 1000) (b s nd : Int) : (ackA n rows b s nd).2 = (ackM n ms b s nd).2 ∧ RA n ka (kk + 1) (ackA n rows b s nd).1 (ackM n ms b s nd).1 := by
  have e : isEnd n rows b s nd = (Go.Proofs.Ytpjdicndjakeoaa.isM n ms b nd && onM ms b s 2) := by
    unfold isEnd onM
    rw [h.isM, h.inM]
    cases hx : isR n rows b nd with
    | false => rfl
    | true =>
      have hb := inR_iff.2 (isR_iff.1 hx).1
      have hr := h.row b hb
      rw [hb, hr.en, Bool.true_and, Bool.true_and, Bool.true_and]
      by_cases hp : (getM ms b).phase = 2
      · rw [hr.seq_act (by rw [hp]; decide)]
      · rw [decide_eq_false hp]; rfl
  cases hx : isEnd n rows b s nd with
  | true =>
    have hx' := hx
    rw [e] at hx'
    have hr1 : isR n rows b nd = true := by unfold isEnd at hx; simp only [Bool.and_eq_true] at hx; exact hx.1
    have hr2 := isR_iff.1 hr1
    have hb := inR_iff.2 hr2.1
    have hp : (getM ms b).phase = 2 := by
      have h2 := hx'
      simp only [onM, Bool.and_eq_true, decide_eq_true_eq] at h2
      exact h2.2.2.1
    have hr := h.row b hb
    have hkn := hr.know hp hr2.2.1 hr2.2.2 h.n64
    have hiff := all_iff h.n0 h.n64 hkn.1 hkn.2.1 hkn.2.2
    by_cases hall : (getR rows b).knows.set nd.toNat true = allN n
    · rw [ack_2 hx hall, ackM_2 hx' (hiff.1 hall)]
      have hn := (hr.rest hp nd).next (by omega)
      exact ⟨hn.1, (h.mono (Nat.le_refl _) (Nat.le_succ kk)).set hb hn.2⟩
    · rw [ack_1 hx hall, ackM_1 hx' (fun h' => hall (hiff.2 h'))]
      exact ⟨rfl, (h.mono (Nat.le_refl _) (Nat.le_succ kk)).set hb (hr.hear hp hr2.2.1 hr2.2.2 h.n64)⟩
  | false =>
    rw [ack_f hx, ackM_f (by rw [← e]; exact hx)]
    exact ⟨rfl, h.mono (Nat.le_refl _) (Nat.le_succ kk)⟩
theorem RA.cur {n : Int} {ka kk : Nat} {rows : List Row12} {ms : List RRow12} (h : RA n ka kk rows ms) (b : Int) : curR rows b = curM ms b ∧ waitR rows b = waitM ms b := by
  unfold curR curM waitR waitM
  rw [h.inM]
  cases hb : inR rows b with
  | false => exact ⟨rfl, rfl⟩
  | true =>
    have hr := h.row b hb
    rw [Bool.true_and, Bool.true_and, hr.on]
    refine ⟨?_, by rw [if_pos rfl, if_pos rfl]; exact hr.queue⟩
    by_cases hp : (getM ms b).phase = 1
    · rw [decide_eq_true hp, if_pos rfl, if_pos rfl, hr.act (by rw [hp]; decide)]
    · rw [decide_eq_false hp]; rfl
theorem RA.new (sa sb : Int) : RA (newN sa) 0 0 (newR sb) (newM sb) := by
  refine ⟨(newN_le sa).1, (newN_le sa).2, ?_, by simp [newR, newM], fun b hb => ?_⟩
  · have := newN_le sb
    unfold newR
    rw [List.length_replicate]
    omega
  · have h := inR_iff.1 hb
    unfold newR at h
    rw [List.length_replicate] at h
    have e1 : getR (newR sb) b = zRow := by
      unfold getR newR
      rw [List.getD_eq_getElem?_getD, List.getElem?_replicate, if_pos (by omega)]
      rfl
    have e2 : getM (newM sb) b = zM := by
      unfold getM newM
      rw [List.getD_eq_getElem?_getD, List.getElem?_replicate, if_pos (by omega)]
      rfl
    rw [e1, e2]
    exact
      { seq := rfl, b0 := Int.le_refl _, bl := Int.le_refl _, ph := .inl rfl, b1 := fun h => absurd rfl h, queue := rfl, on := rfl, en := rfl, act := fun h => absurd rfl h
        kl := fun h => by cases h
        ki := fun h => by cases h
        kb := fun h => by cases h
        la := Nat.le_refl _, lk := Nat.le_refl _ }
end Go.Proofs.Ytpjdicndjakeoaa
