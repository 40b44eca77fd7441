/- MemorySums of layer 10: what it comes to. No condition. -/
import Derived.Test.YtopbgpmajkcboaaY8
import Derived.Test.YtopbgpmajkcboaaZ10
namespace Go.Proofs.Ytopbgpmajkcboaa
open Go.RowKit
set_option linter.unusedVariables false
set_option linter.unusedSimpArgs false
structure SP (L : Nat) (b : Int) (k : Nat) (xs : List Bun) (n : Int) : Prop where
  iv : inv L k xs
  eq : inB xs b = true → n = (getB xs b).c
theorem SP.mono {L : Nat} {b : Int} {k : Nat} {xs : List Bun} {n : Int} (h : SP L b k xs n) : SP L b (k + 1) xs n :=
  ⟨⟨h.iv.1, h.iv.2.1, fun j => by have := h.iv.2.2 j; push_cast; omega⟩, h.eq⟩
theorem sp1 {L : Nat} {b : Int} {k : Nat} {xs : List Bun} {n i : Int} {t : Bun} (h : SP L b k xs n) (hk : k ≤ 200) (ht : bcheck t 1048576 = 0) (hi : i = b) (hin : inB xs i = true) : SP L b (k + 1) (putB xs i t) (IntKind.i64.wrap (n + t.c)) := by
  obtain ⟨h0, h1⟩ := right_cnt ht
  obtain ⟨g1, g2⟩ := inv_put h.iv (by omega) h0 h1 i
  refine ⟨g1, fun hb => ?_⟩
  subst hi
  have e := h.eq hin
  have := h.iv.2.2 i
  rw [g2, if_pos ⟨hin, rfl⟩, wrap_i64, e]
  unfold wrap64
  omega
theorem sp2 {L : Nat} {b : Int} {k : Nat} {xs : List Bun} {n i : Int} {t : Bun} (h : SP L b k xs n) (hk : k ≤ 200) (ht : bcheck t 1048576 = 0) (hi : i ≠ b ∨ inB xs i = false) : SP L b (k + 1) (putB xs i t) n := by
  obtain ⟨h0, h1⟩ := right_cnt ht
  obtain ⟨g1, g2⟩ := inv_put h.iv (by omega) h0 h1 i
  refine ⟨g1, fun hb => ?_⟩
  rw [inB_put] at hb
  rw [g2, if_neg ?_, h.eq hb]
  · omega
  · rintro ⟨e1, e2⟩
    rcases hi with hi | hi
    · exact hi e2.symm
    · rw [hi] at e1; cases e1
theorem st1 {L : Nat} {b : Int} {k : Nat} {xs : List Bun} {n i c : Int} {o d : Bool} (h : SP L b k xs n) (hk : k ≤ 300) (hi : i = b) : SP L b k (takeB xs i c o d).2 (IntKind.i64.wrap (n - (takeB xs i c o d).1.c)) := by
  obtain ⟨g1, g2, g3, g4⟩ := inv_take h.iv (by omega) i c o d
  refine ⟨g1, fun hb => ?_⟩
  subst hi
  rw [inB_take] at hb
  have e := h.eq hb
  have := h.iv.2.2 i
  have h5 := g1.2.2 i
  rw [g2, if_pos rfl] at h5 ⊢
  rw [wrap_i64, e]
  unfold wrap64
  omega
theorem st2 {L : Nat} {b : Int} {k : Nat} {xs : List Bun} {n i c : Int} {o d : Bool} (h : SP L b k xs n) (hk : k ≤ 300) (hi : i ≠ b) : SP L b k (takeB xs i c o d).2 n := by
  obtain ⟨g1, g2, g3, g4⟩ := inv_take h.iv (by omega) i c o d
  refine ⟨g1, fun hb => ?_⟩
  rw [inB_take] at hb
  rw [g2, if_neg (fun e => hi e.symm), h.eq hb]
  omega
def putS (xs : List Bun) (a : Act10) : List Bun := if a.kind = 1 then putB xs a.block a.tok else xs
def putN (b n : Int) (xs : List Bun) (a : Act10) : Int := if a.kind = 1 ∧ inB xs a.block = true ∧ a.block = b then IntKind.i64.wrap (n + a.tok.c) else n
def takeS (xs : List Bun) (a : Act10) : List Bun := if a.kind = 2 then (takeB xs a.block a.count a.owner a.data).2 else xs
def takeN (b n : Int) (xs : List Bun) (a : Act10) : Int := if a.kind = 2 ∧ a.block = b then IntKind.i64.wrap (n - (takeB xs a.block a.count a.owner a.data).1.c) else n
theorem spP {L : Nat} {b : Int} {k : Nat} {xs : List Bun} {n : Int} {a : Act10} (h : SP L b k xs n) (hk : k ≤ 200) (ha : bcheck a.tok 1048576 = 0) : SP L b (k + 1) (putS xs a) (putN b n xs a) := by
  unfold putS putN
  by_cases h1 : a.kind = 1
  · rw [if_pos h1]
    by_cases h2 : inB xs a.block = true ∧ a.block = b
    · rw [if_pos ⟨h1, h2⟩]
      exact sp1 h hk ha h2.2 h2.1
    · rw [if_neg (fun e => h2 e.2)]
      refine sp2 h hk ha ?_
      by_cases h3 : a.block = b
      · right
        cases e : inB xs a.block
        · rfl
        · exact absurd ⟨e, h3⟩ h2
      · exact .inl h3
  · rw [if_neg h1, if_neg (fun e => h1 e.1)]
    exact h.mono
theorem spT {L : Nat} {b : Int} {k : Nat} {xs : List Bun} {n : Int} {a : Act10} (h : SP L b k xs n) (hk : k ≤ 300) : SP L b k (takeS xs a) (takeN b n xs a) := by
  unfold takeS takeN
  by_cases h1 : a.kind = 2
  · rw [if_pos h1]
    by_cases h2 : a.block = b
    · rw [if_pos ⟨h1, h2⟩]
      exact st1 h hk h2
    · rw [if_neg (fun e => h2 e.2)]
      exact st2 h hk h2
  · rw [if_neg h1, if_neg (fun e => h1 e.1)]
    exact h
theorem right_at2 {l : List Act10} {i : Nat} {z : Act10} (hr : (bif false then true else !rightL l) = false) (hi : decide ((i : Int) < (l.length : Int)) = true) : i < l.length ∧ i ≤ 200 ∧ bcheck (l.getD i z).tok 1048576 = 0 := by
  have hr2 : rightL l = true := by simpa using hr
  have h1 : i < l.length := by have := of_decide_eq_true hi; omega
  have h2 := rightL_get (z := z) hr2
  exact ⟨h1, by omega, h2.2 i h1⟩
theorem len_sz {sa sb : Int} (h1 : 1 ≤ sa) (h2 : sa ≤ 64) : ((newB sa sb).length : Int) = sa := by rw [len_new]; unfold clamp; omega
theorem fin_out {sa sb b n : Int} {k : Nat} {xs : List Bun} (h : SP (newB sa sb).length b k xs n) (h1 : 1 ≤ sa) (h2 : sa ≤ 64) (hb : b < 0 ∨ sa ≤ b) : getB xs b = bun0 := by
  refine get_out ?_
  cases e : inB xs b with
  | false => rfl
  | true =>
    have g1 := inB_iff.1 e
    have g2 := h.iv.1
    have g3 := len_sz (sb := sb) h1 h2
    omega
theorem fin_in {sa sb b n : Int} {k : Nat} {xs : List Bun} (h : SP (newB sa sb).length b k xs n) (h1 : 1 ≤ sa) (h2 : sa ≤ 64) (hb : 0 ≤ b) (hb' : b < sa) : (getB xs b).c = n := by
  have g2 := h.iv.1
  have g3 := len_sz (sb := sb) h1 h2
  exact (h.eq (inB_iff.2 ⟨hb, by omega⟩)).symm
theorem start_in {sa sb b : Int} (h1 : 1 ≤ sb) (hb : inB (newB sa sb) b = true) : sb = (getB (newB sa sb) b).c := by
  rw [get_new, if_pos hb]
  unfold full
  rw [if_neg (by omega)]
def setM (ys : List Bun) (j : Nat) : List Bun := ys.set j ⟨-1, (ys.getD j bun0).o, (ys.getD j bun0).h, (ys.getD j bun0).d⟩
structure SI (m L : Nat) (b : Int) (i : Nat) (xs : List Bun) (n : Int) : Prop where
  le : i ≤ m
  sp : SP L b i xs n
structure SJ (j : Nat) (ys : List Bun) : Prop where
  le : j ≤ ys.length
  le64 : ys.length ≤ 64
def cMS : Con where
  X := I2 × List Act10 × Int
  args := fun ⟨s, l, b⟩ => [.agg [.arr 2 .int [s.a, s.b]], .vsl .act10 l, AI b]
  heap := fun _ => hp0
  pre := fun _ => True
  res := fun _ => AB true
  heap' := fun _ => hp0
  pure := true
  find := fun _ _ => none
set_option maxHeartbeats 8000000 in
theorem cMS_ok : cMS.Ok Try.prog 4 := by
  refine fun_ok (env_ok (Cons.cons cawake_ok (Cons.cons cright_ok (Cons.cons cNew_ok (Cons.cons cTake_ok (Cons.cons cPut_ok (Cons.cons cGet_ok (Cons.cons cAll_ok Cons.nil)))))))) mixedP Try.func4 (by decide) rfl cMS [(1000012, 1), (1000016, 1)] (fun _ => rfl) (fun _ _ => ⟨rfl, fun id k h => by cases h⟩) (fun _ => Nat.le_of_ble_eq_true rfl) ?_
  rintro ⟨⟨sa, sb⟩, l, b⟩ hp ha hb
  clear hp ha hb
  all_goals (repeat' (first
    | with_reducible refine iTr ?_
    | with_reducible refine iB ?_
    | intro _
    | exact True.intro
    | (show _ ∧ _
       first
        | refine aTT ?_
        | refine aTB ?_
        | refine aT ?_
        | refine aB ?_
        | refine a11 ?_
        | refine a01 ?_
        | refine a00 ?_
        | refine a10 ?_
        | (with_reducible refine And.intro rfl ?_)
        | refine And.intro ?_ ?_)
    | with_reducible exact rfl
    | with_reducible exact HEq.rfl
    | (show (_ : Option Nat) = _; exact rfl)
    | (show (_ : Option Blk) = _; exact rfl)
    | (with_reducible show (nodupB _ && _ && _ && _ && _) = true; exact (Eq.refl true))
    | (with_reducible show (nodupB _ && _ && _ && _) = true; exact (Eq.refl true))
    | (with_reducible show (nodupB _ && _ && _) = true; exact (Eq.refl true))
    | (with_reducible show freeOk _ _ = true; exact (Eq.refl true))
    | (with_reducible show (_ || !_) = true; exact (Eq.refl true))
    | (with_reducible show Nat.beq _ _ = true; exact (Eq.refl true))))
  all_goals (first | (show (_ : Int) = _) | (show (_ : Bool) = _) | (show HEq _ _) | (show ∃ _ : LInv, _) | skip)
  all_goals (try (with_reducible exact rfl))
  all_goals try (refine ⟨⟨{s : Nat × List Bun × Int // SI l.length (newB sa sb).length b s.1 s.2.1 s.2.2}, fun s => [(53, AI s.1.1), (52, AI l.length), (51, .vsl .act10 l), (7, .ptr 0 ⟨0,0,0,none⟩), (8, AI s.1.2.2), (3, .ptr 2 ⟨0,0,0,none⟩), (2, AI b)], fun s => ⟨3, [(2, some (.obj false [.arr 2 .int [sa, sb]])), (1, some (.seq false 31 .bun s.1.2.1)), (0, some (.obj false [.slc 1]))]⟩, fun s => l.length - s.1.1⟩, ⟨⟨(0, newB sa sb, sb), ?_⟩, [], ?_⟩, ?_⟩; rotate_right; rintro ⟨⟨i, xs, n⟩, hS⟩)
  all_goals (repeat' (first
    | with_reducible refine iTr ?_
    | with_reducible refine iB ?_
    | intro _
    | exact True.intro
    | (show _ ∧ _
       first
        | refine aTT ?_
        | refine aTB ?_
        | refine aT ?_
        | refine aB ?_
        | refine a11 ?_
        | refine a01 ?_
        | refine a00 ?_
        | refine a10 ?_
        | (with_reducible refine And.intro rfl ?_)
        | refine And.intro ?_ ?_)
    | with_reducible exact rfl
    | with_reducible exact HEq.rfl
    | (show (_ : Option Nat) = _; exact rfl)
    | (show (_ : Option Blk) = _; exact rfl)
    | (with_reducible show (nodupB _ && _ && _ && _ && _) = true; exact (Eq.refl true))
    | (with_reducible show (nodupB _ && _ && _ && _) = true; exact (Eq.refl true))
    | (with_reducible show (nodupB _ && _ && _) = true; exact (Eq.refl true))
    | (with_reducible show freeOk _ _ = true; exact (Eq.refl true))
    | (with_reducible show (_ || !_) = true; exact (Eq.refl true))
    | (with_reducible show Nat.beq _ _ = true; exact (Eq.refl true))))
  all_goals (first | (show (_ : Int) = _) | (show (_ : Bool) = _) | (show HEq _ _) | (show ∃ _ : LInv, _) | skip)
  all_goals (try (with_reducible exact rfl))
  all_goals try (refine ⟨⟨{s : List Bun × Int // SP (newB sa sb).length b (i + 1) s.1 s.2}, fun s => [(10, .ptr 3 ⟨0,0,0,none⟩), (53, AI i), (52, AI l.length), (51, .vsl .act10 l), (7, .ptr 0 ⟨0,0,0,none⟩), (8, AI s.1.2), (3, .ptr 2 ⟨0,0,0,none⟩), (2, AI b)], fun s => ⟨4, [(3, some (.obj false (enc .act10 (l.getD i Ty.act10.dflt)))), (2, some (.obj false [.arr 2 .int [sa, sb]])), (1, some (.seq false 31 .bun s.1.1)), (0, some (.obj false [.slc 1]))]⟩, fun _ => 0⟩, ?_, ?_⟩; rotate_right; rintro ⟨⟨xs1, n1⟩, h1⟩)
  all_goals (repeat' (first
    | with_reducible refine iTr ?_
    | with_reducible refine iB ?_
    | intro _
    | exact True.intro
    | (show _ ∧ _
       first
        | refine aTT ?_
        | refine aTB ?_
        | refine aT ?_
        | refine aB ?_
        | refine a11 ?_
        | refine a01 ?_
        | refine a00 ?_
        | refine a10 ?_
        | (with_reducible refine And.intro rfl ?_)
        | refine And.intro ?_ ?_)
    | with_reducible exact rfl
    | with_reducible exact HEq.rfl
    | (show (_ : Option Nat) = _; exact rfl)
    | (show (_ : Option Blk) = _; exact rfl)
    | (with_reducible show (nodupB _ && _ && _ && _ && _) = true; exact (Eq.refl true))
    | (with_reducible show (nodupB _ && _ && _ && _) = true; exact (Eq.refl true))
    | (with_reducible show (nodupB _ && _ && _) = true; exact (Eq.refl true))
    | (with_reducible show freeOk _ _ = true; exact (Eq.refl true))
    | (with_reducible show (_ || !_) = true; exact (Eq.refl true))
    | (with_reducible show Nat.beq _ _ = true; exact (Eq.refl true))))
  all_goals (first | (show (_ : Int) = _) | (show (_ : Bool) = _) | (show HEq _ _) | (show ∃ _ : LInv, _) | skip)
  all_goals (try (with_reducible exact rfl))
  all_goals try (refine ⟨⟨(putS xs (l.getD i Ty.act10.dflt), putN b n xs (l.getD i Ty.act10.dflt)), ?_⟩, [], ?_⟩)
  all_goals (repeat' (first
    | with_reducible refine iTr ?_
    | with_reducible refine iB ?_
    | intro _
    | exact True.intro
    | (show _ ∧ _
       first
        | refine aTT ?_
        | refine aTB ?_
        | refine aT ?_
        | refine aB ?_
        | refine a11 ?_
        | refine a01 ?_
        | refine a00 ?_
        | refine a10 ?_
        | (with_reducible refine And.intro rfl ?_)
        | refine And.intro ?_ ?_)
    | with_reducible exact rfl
    | with_reducible exact HEq.rfl
    | (show (_ : Option Nat) = _; exact rfl)
    | (show (_ : Option Blk) = _; exact rfl)
    | (with_reducible show (nodupB _ && _ && _ && _ && _) = true; exact (Eq.refl true))
    | (with_reducible show (nodupB _ && _ && _ && _) = true; exact (Eq.refl true))
    | (with_reducible show (nodupB _ && _ && _) = true; exact (Eq.refl true))
    | (with_reducible show freeOk _ _ = true; exact (Eq.refl true))
    | (with_reducible show (_ || !_) = true; exact (Eq.refl true))
    | (with_reducible show Nat.beq _ _ = true; exact (Eq.refl true))))
  all_goals (first | (show (_ : Int) = _) | (show (_ : Bool) = _) | (show HEq _ _) | (show ∃ _ : LInv, _) | skip)
  all_goals (try (with_reducible exact rfl))
  all_goals try (refine ⟨⟨{s : List Bun × Int // SP (newB sa sb).length b (i + 1) s.1 s.2}, fun s => [(53, AI i), (52, AI l.length), (51, .vsl .act10 l), (7, .ptr 0 ⟨0,0,0,none⟩), (8, AI s.1.2), (3, .ptr 2 ⟨0,0,0,none⟩), (2, AI b)], fun s => ⟨3, [(2, some (.obj false [.arr 2 .int [sa, sb]])), (1, some (.seq false 31 .bun s.1.1)), (0, some (.obj false [.slc 1]))]⟩, fun _ => 0⟩, ?_, ?_⟩; rotate_right; rintro ⟨⟨xs2, n2⟩, h2⟩)
  all_goals (repeat' (first
    | with_reducible refine iTr ?_
    | with_reducible refine iB ?_
    | intro _
    | exact True.intro
    | (show _ ∧ _
       first
        | refine aTT ?_
        | refine aTB ?_
        | refine aT ?_
        | refine aB ?_
        | refine a11 ?_
        | refine a01 ?_
        | refine a00 ?_
        | refine a10 ?_
        | (with_reducible refine And.intro rfl ?_)
        | refine And.intro ?_ ?_)
    | with_reducible exact rfl
    | with_reducible exact HEq.rfl
    | (show (_ : Option Nat) = _; exact rfl)
    | (show (_ : Option Blk) = _; exact rfl)
    | (with_reducible show (nodupB _ && _ && _ && _ && _) = true; exact (Eq.refl true))
    | (with_reducible show (nodupB _ && _ && _ && _) = true; exact (Eq.refl true))
    | (with_reducible show (nodupB _ && _ && _) = true; exact (Eq.refl true))
    | (with_reducible show freeOk _ _ = true; exact (Eq.refl true))
    | (with_reducible show (_ || !_) = true; exact (Eq.refl true))
    | (with_reducible show Nat.beq _ _ = true; exact (Eq.refl true))))
  all_goals (first | (show (_ : Int) = _) | (show (_ : Bool) = _) | (show HEq _ _) | (show ∃ _ : LInv, _) | skip)
  all_goals (try (with_reducible exact rfl))
  all_goals try (refine ⟨⟨(takeS xs1 (l.getD i Ty.act10.dflt), takeN b n1 xs1 (l.getD i Ty.act10.dflt)), ?_⟩, [], ?_⟩)
  all_goals (repeat' (first
    | with_reducible refine iTr ?_
    | with_reducible refine iB ?_
    | intro _
    | exact True.intro
    | (show _ ∧ _
       first
        | refine aTT ?_
        | refine aTB ?_
        | refine aT ?_
        | refine aB ?_
        | refine a11 ?_
        | refine a01 ?_
        | refine a00 ?_
        | refine a10 ?_
        | (with_reducible refine And.intro rfl ?_)
        | refine And.intro ?_ ?_)
    | with_reducible exact rfl
    | with_reducible exact HEq.rfl
    | (show (_ : Option Nat) = _; exact rfl)
    | (show (_ : Option Blk) = _; exact rfl)
    | (with_reducible show (nodupB _ && _ && _ && _ && _) = true; exact (Eq.refl true))
    | (with_reducible show (nodupB _ && _ && _ && _) = true; exact (Eq.refl true))
    | (with_reducible show (nodupB _ && _ && _) = true; exact (Eq.refl true))
    | (with_reducible show freeOk _ _ = true; exact (Eq.refl true))
    | (with_reducible show (_ || !_) = true; exact (Eq.refl true))
    | (with_reducible show Nat.beq _ _ = true; exact (Eq.refl true))))
  all_goals (first | (show (_ : Int) = _) | (show (_ : Bool) = _) | (show HEq _ _) | (show ∃ _ : LInv, _) | skip)
  all_goals (try (with_reducible exact rfl))
  all_goals try (refine ⟨⟨{s : Nat × List Bun // SJ s.1 s.2}, fun s => [(104, AI s.1.1), (103, AI s.1.2.length), (12, .slc 3), (53, AI i), (52, AI l.length), (51, .vsl .act10 l), (7, .ptr 0 ⟨0,0,0,none⟩), (8, AI n2), (3, .ptr 2 ⟨0,0,0,none⟩), (2, AI b)], fun s => ⟨4, [(3, some (.seq false 31 .bun s.1.2)), (2, some (.obj false [.arr 2 .int [sa, sb]])), (1, some (.seq false 31 .bun xs2)), (0, some (.obj false [.slc 1]))]⟩, fun s => s.1.2.length - s.1.1⟩, ⟨⟨(0, xs2), ?_⟩, [], ?_⟩, ?_⟩; rotate_right; rintro ⟨⟨j, ys⟩, hJ⟩)
  all_goals (repeat' (first
    | with_reducible refine iTr ?_
    | with_reducible refine iB ?_
    | intro _
    | exact True.intro
    | (show _ ∧ _
       first
        | refine aTT ?_
        | refine aTB ?_
        | refine aT ?_
        | refine aB ?_
        | refine a11 ?_
        | refine a01 ?_
        | refine a00 ?_
        | refine a10 ?_
        | (with_reducible refine And.intro rfl ?_)
        | refine And.intro ?_ ?_)
    | with_reducible exact rfl
    | with_reducible exact HEq.rfl
    | (show (_ : Option Nat) = _; exact rfl)
    | (show (_ : Option Blk) = _; exact rfl)
    | (with_reducible show (nodupB _ && _ && _ && _ && _) = true; exact (Eq.refl true))
    | (with_reducible show (nodupB _ && _ && _ && _) = true; exact (Eq.refl true))
    | (with_reducible show (nodupB _ && _ && _) = true; exact (Eq.refl true))
    | (with_reducible show freeOk _ _ = true; exact (Eq.refl true))
    | (with_reducible show (_ || !_) = true; exact (Eq.refl true))
    | (with_reducible show Nat.beq _ _ = true; exact (Eq.refl true))))
  all_goals (first | (show (_ : Int) = _) | (show (_ : Bool) = _) | (show HEq _ _) | (show ∃ _ : LInv, _) | skip)
  all_goals (try (with_reducible exact rfl))
  all_goals try (refine ⟨⟨(j + 1, setM ys j), ?_⟩, ?_, ?_⟩)
  all_goals (repeat' (first
    | with_reducible refine iTr ?_
    | with_reducible refine iB ?_
    | intro _
    | exact True.intro
    | (show _ ∧ _
       first
        | refine aTT ?_
        | refine aTB ?_
        | refine aT ?_
        | refine aB ?_
        | refine a11 ?_
        | refine a01 ?_
        | refine a00 ?_
        | refine a10 ?_
        | (with_reducible refine And.intro rfl ?_)
        | refine And.intro ?_ ?_)
    | with_reducible exact rfl
    | with_reducible exact HEq.rfl
    | (show (_ : Option Nat) = _; exact rfl)
    | (show (_ : Option Blk) = _; exact rfl)
    | (with_reducible show (nodupB _ && _ && _ && _ && _) = true; exact (Eq.refl true))
    | (with_reducible show (nodupB _ && _ && _ && _) = true; exact (Eq.refl true))
    | (with_reducible show (nodupB _ && _ && _) = true; exact (Eq.refl true))
    | (with_reducible show freeOk _ _ = true; exact (Eq.refl true))
    | (with_reducible show (_ || !_) = true; exact (Eq.refl true))
    | (with_reducible show Nat.beq _ _ = true; exact (Eq.refl true))))
  all_goals (first | (show (_ : Int) = _) | (show (_ : Bool) = _) | (show HEq _ _) | (show ∃ _ : LInv, _) | skip)
  all_goals (try (with_reducible exact rfl))
  all_goals try (refine ⟨⟨(i + 1, xs2, n2), ?_⟩, ?_, ?_⟩)
  all_goals (repeat' (first
    | with_reducible refine iTr ?_
    | with_reducible refine iB ?_
    | intro _
    | exact True.intro
    | (show _ ∧ _
       first
        | refine aTT ?_
        | refine aTB ?_
        | refine aT ?_
        | refine aB ?_
        | refine a11 ?_
        | refine a01 ?_
        | refine a00 ?_
        | refine a10 ?_
        | (with_reducible refine And.intro rfl ?_)
        | refine And.intro ?_ ?_)
    | with_reducible exact rfl
    | with_reducible exact HEq.rfl
    | (show (_ : Option Nat) = _; exact rfl)
    | (show (_ : Option Blk) = _; exact rfl)
    | (with_reducible show (nodupB _ && _ && _ && _ && _) = true; exact (Eq.refl true))
    | (with_reducible show (nodupB _ && _ && _ && _) = true; exact (Eq.refl true))
    | (with_reducible show (nodupB _ && _ && _) = true; exact (Eq.refl true))
    | (with_reducible show freeOk _ _ = true; exact (Eq.refl true))
    | (with_reducible show (_ || !_) = true; exact (Eq.refl true))
    | (with_reducible show Nat.beq _ _ = true; exact (Eq.refl true))))
  all_goals (first | (show (_ : Int) = _) | (show (_ : Bool) = _) | (show HEq _ _) | (show ∃ _ : LInv, _) | skip)
  all_goals (try (with_reducible exact rfl))
  all_goals (try dsimp only)
  all_goals (try apply heq_of_eq)
  all_goals (first
    | omega
    | (rw [Int.toNat_natCast]; done)
    | (show xs2.length ≤ 64; rw [h2.iv.1]; exact h2.iv.2.1)
    | (show SJ 0 xs2; exact ⟨Nat.zero_le _, by rw [h2.iv.1]; exact h2.iv.2.1⟩)
    | (show 0 ≤ (getB xs1 _).c; exact (h1.iv.2.2 _).1)
    | (show SJ (j + 1) (setM ys j); have hj := of_decide_eq_true ‹decide (((j : Nat) : Int) < ((List.length ys : Nat) : Int)) = true›; exact ⟨by unfold setM; rw [List.length_set]; omega, by unfold setM; rw [List.length_set]; exact hJ.le64⟩)
    | (show SI _ _ _ (i + 1) xs2 n2; exact ⟨(right_at2 (z := Ty.act10.dflt) ‹(bif false then true else !rightL l) = false› ‹decide (((i : Nat) : Int) < (l.length : Int)) = true›).1, h2⟩)
    | (show SP _ _ (i + 1) (takeS xs1 _) _; exact spT h1 (by have := (right_at2 (z := Ty.act10.dflt) ‹(bif false then true else !rightL l) = false› ‹decide (((i : Nat) : Int) < (l.length : Int)) = true›).2.1; omega))
    | (show SP _ _ (i + 1) (putS xs _) _; exact spP hS.sp (right_at2 (z := Ty.act10.dflt) ‹(bif false then true else !rightL l) = false› ‹decide (((i : Nat) : Int) < (l.length : Int)) = true›).2.1 (right_at2 (z := Ty.act10.dflt) ‹(bif false then true else !rightL l) = false› ‹decide (((i : Nat) : Int) < (l.length : Int)) = true›).2.2)
    | (show SI _ _ _ 0 _ _; refine ⟨Nat.zero_le _, inv_new ?_, fun hb => ?_⟩ <;> skip)
    | (have hj := of_decide_eq_true ‹decide (((j : Nat) : Int) < ((List.length ys : Nat) : Int)) = true›; exact hj)
    | (have hj := of_decide_eq_true ‹decide (((j : Nat) : Int) < ((List.length ys : Nat) : Int)) = true›; show Int.toNat (j : Int) < ys.length; omega)
    | (have hj := of_decide_eq_true ‹decide (((j : Nat) : Int) < ((List.length ys : Nat) : Int)) = true›; show (setM ys j).length - (j + 1) < ys.length - j; unfold setM; rw [List.length_set]; omega)
    | (show ((List.length ys : Nat) : Int) = ((List.length (setM ys j) : Nat) : Int); unfold setM; rw [List.length_set])
    | (have hj := of_decide_eq_true ‹decide (((j : Nat) : Int) < ((List.length ys : Nat) : Int)) = true›; exact wrap_succ (by have h64 : ys.length ≤ 64 := hJ.le64; omega))
    | (show l.length - (i + 1) < l.length - i; have := (right_at2 (z := Ty.act10.dflt) ‹(bif false then true else !rightL l) = false› ‹decide (((i : Nat) : Int) < (l.length : Int)) = true›).1; omega)
    | exact wrap_succ (by have := (right_at2 (z := Ty.act10.dflt) ‹(bif false then true else !rightL l) = false› ‹decide (((i : Nat) : Int) < (l.length : Int)) = true›).2.1; omega)
    | exact of_decide_eq_true ‹decide (((i : Nat) : Int) < (l.length : Int)) = true›
    | (simp_all [takeS, takeN, putS, putN]; done)
    | (with_reducible rfl)
    | (show _ = setM ys j; rfl)
    | (simp only [show Int.toNat 0 = 0 from rfl, show Int.toNat 1 = 1 from rfl, List.getD_cons_zero, List.getD_cons_succ, cond_false, cond_true, Bool.not_false, Bool.not_true, decide_eq_false_iff_not, decide_eq_true_eq] at *; first | omega | (rw [fin_out (show SP (newB sa sb).length b i xs n from hS.sp) (by omega) (by omega) (by omega)]; rfl) | (rw [fin_in (show SP (newB sa sb).length b i xs n from hS.sp) (by omega) (by omega) (by omega) (by omega)]; exact beq_self_eq_true _) | exact start_in (by omega) (by assumption))
    | skip)
  all_goals (simp only [show Int.toNat 0 = 0 from rfl, show Int.toNat 1 = 1 from rfl, List.getD_cons_zero, List.getD_cons_succ, cond_false, cond_true, Bool.not_false, Bool.not_true, decide_eq_false_iff_not, decide_eq_true_eq] at *; first | omega | exact start_in (by omega) (by assumption))
end Go.Proofs.Ytopbgpmajkcboaa

