/- MemoryPlays of layer 10: what it comes to. No condition. -/
import Derived.Test.YtopbgpmajkcboaaY8
import Derived.Test.YtopbgpmajkcboaaZ10
namespace Go.Proofs.Ytopbgpmajkcboaa
open Go.RowKit
set_option linter.unusedVariables false
set_option linter.unusedSimpArgs false
theorem bself {b : Bun} {t : Int} (h : bcheck b t = 0) : bcheck b b.c = 0 := by
  obtain ⟨c, o, hs, d⟩ := b
  rw [right_iff] at h ⊢
  exact ⟨⟨h.1.1, Int.le_refl _⟩, h.2⟩
theorem bself0 {b : Bun} (h : bcheck b b.c = 0) : bcheck b (max b.c 0) = 0 := by
  have := right_cnt h
  rwa [show max b.c 0 = b.c from by omega]
theorem full_right (t : Int) : bcheck (full t 0) (full t 0).c = 0 := by
  unfold full
  split
  · decide
  · rw [right_iff]; simp; omega
theorem join_right {a b : Bun} (ha : bcheck a a.c = 0) (hb : bcheck b b.c = 0) (h : a.c + b.c ≤ 9223372036854775807) : bcheck (join a b) (join a b).c = 0 := by
  obtain ⟨c1, o1, h1, d1⟩ := a
  obtain ⟨c2, o2, h2, d2⟩ := b
  rw [right_iff] at ha hb
  have hw : wrap64 (c1 + c2) = c1 + c2 := by
    have := ha.1.1; have := hb.1.1
    simp only at h
    unfold wrap64
    omega
  unfold join valued
  simp only [hw]
  rw [right_iff]
  obtain ⟨⟨p1, -⟩, p2, p3, p4⟩ := ha
  obtain ⟨⟨q1, -⟩, q2, q3, q4⟩ := hb
  refine ⟨⟨by omega, by omega⟩, fun h0 => ?_, fun ho => ?_, fun hh => ?_⟩
  · have := p2 (by omega)
    have := q2 (by omega)
    simp_all
  · cases o1 <;> cases o2 <;> simp_all
  · cases h1 <;> cases h2 <;> simp_all
structure PL (k : Nat) (xs : List Bun) : Prop where
  len : xs.length ≤ 64
  ok : ∀ j, bcheck (getB xs j) (getB xs j).c = 0 ∧ (getB xs j).c ≤ (k + 1) * 1048576
theorem PL.nn {k : Nat} {xs : List Bun} (h : PL k xs) (j : Int) : 0 ≤ (getB xs j).c := (right_cnt (h.ok j).1).1
theorem PL.new {s t : Int} (ht : t ≤ 1048576) : PL 0 (newB s t) := by
  refine ⟨len_new64 s t, fun j => ⟨?_, ((inv_new ht).2.2 j).2⟩⟩
  rw [get_new]
  split
  · exact full_right t
  · decide
theorem PL.put {k : Nat} {xs : List Bun} (h : PL k xs) (hk : k ≤ 1000) {b : Bun} (hb : bcheck b 1048576 = 0) (i : Int) : PL (k + 1) (putB xs i b) ∧ rputB xs i b = putB xs i b := by
  obtain ⟨h0, h1⟩ := right_cnt hb
  have g := (inv_put (L := xs.length) (k := k) (xs := xs) ⟨rfl, h.len, fun j => ⟨h.nn j, (h.ok j).2⟩⟩ hk h0 h1 i).1
  refine ⟨⟨by rw [g.1]; exact h.len, fun j => ⟨?_, (g.2.2 j).2⟩⟩, ?_⟩
  · rw [get_put]
    split
    · have := (h.ok j).2
      exact join_right (h.ok j).1 (bself hb) (by omega)
    · exact (h.ok j).1
  · unfold rputB putB
    split
    · rw [rjoin_join (bself0 (h.ok i).1) (bself0 (bself hb))]
    · rfl
theorem PL.take {k : Nat} {xs : List Bun} (h : PL k xs) (hk : k ≤ 1000) (i n : Int) (o d : Bool) : PL (k + 1) (takeB xs i n o d).2 ∧ rtakeB xs i n o d = takeB xs i n o d := by
  have g := (inv_take (L := xs.length) (k := k) (xs := xs) ⟨rfl, h.len, fun j => ⟨h.nn j, (h.ok j).2⟩⟩ hk i n o d).1
  refine ⟨⟨by rw [g.1]; exact h.len, fun j => ⟨?_, by have := (g.2.2 j).2; push_cast; omega⟩⟩, ?_⟩
  · rw [get_take]
    split
    · have := (h.ok j).2
      exact bself (split_facts (x := (split (getB xs j) n o d).1) (y := (split (getB xs j) n o d).2) (by omega) (h.ok j).1 rfl).2.1
    · exact (h.ok j).1
  · unfold rtakeB takeB
    split
    · have := (h.ok i).2
      rw [rsplit_split (by omega) (h.ok i).1]
    · rfl
theorem PL.mono {k : Nat} {xs : List Bun} (h : PL k xs) : PL (k + 1) xs := ⟨h.len, fun j => ⟨(h.ok j).1, by have := (h.ok j).2; push_cast; omega⟩⟩
def nxS (xs : List Bun) (a : Act10) : List Bun := if a.kind = 1 then putB xs a.block a.tok else if a.kind = 2 then (takeB xs a.block a.count a.owner a.data).2 else xs
theorem PL.nx {k : Nat} {xs : List Bun} (h : PL k xs) (hk : k ≤ 1000) {a : Act10} (ha : bcheck a.tok 1048576 = 0) : PL (k + 1) (nxS xs a) := by
  unfold nxS
  split
  · exact (h.put hk ha _).1
  · split
    · exact (h.take hk _ _ _ _).1
    · exact h.mono
theorem ne_id {b : Bool} (h : (!b == b) = true) : False := by cases b <;> cases h
theorem px {xs : List Bun} {i : Int} {t : Bun} (h : rputB xs i t = putB xs i t) (hx : (!decide (putB xs i t = rputB xs i t)) = true) : False := by rw [h] at hx; simp at hx
theorem ex1 {xs : List Bun} (hx : (!decide (xs = xs)) = true) : False := by simp at hx
theorem tx1 {a b : Bun × List Bun} (h : b = a) (hx : (!(a.1.c == b.1.c && (a.1.o == b.1.o && (a.1.h == b.1.h && (a.1.d == b.1.d && true))))) = true) : False := by subst h; simp at hx
theorem tx2 {a b : Bun × List Bun} (h : b = a) (hx : (!decide (a.2 = b.2)) = true) : False := by subst h; simp at hx
theorem nx1 {xs : List Bun} {a : Act10} (h : (a.kind == 1) = true) : nxS xs a = putB xs a.block a.tok := by unfold nxS; rw [if_pos (by simpa using h)]
theorem nx2 {xs : List Bun} {a : Act10} (h : (a.kind == 2) = true) : nxS xs a = (takeB xs a.block a.count a.owner a.data).2 := by have h : a.kind = 2 := (by simpa using h); unfold nxS; rw [if_neg (by omega), if_pos h]
theorem nx0 {xs : List Bun} {a : Act10} (h : (a.kind == 1) = false) (h' : (a.kind == 2) = false) : nxS xs a = xs := by unfold nxS; rw [if_neg (by simpa using h), if_neg (by simpa using h')]
structure SW (m i : Nat) (xs : List Bun) : Prop where
  le : i ≤ m
  pl : PL i xs
theorem right_at3 {l : List Act10} {i : Nat} {z : Act10} (hr : (bif false then true else !rightL l) = false) (hi : decide ((i : Int) < (l.length : Int)) = true) : i < l.length ∧ i ≤ 200 ∧ bcheck (l.getD i z).tok 1048576 = 0 := by
  have hr2 : rightL l = true := by simpa using hr
  have h1 : i < l.length := by have := of_decide_eq_true hi; omega
  have h2 := rightL_get (z := z) hr2
  exact ⟨h1, by omega, h2.2 i h1⟩
def cMP : Con where
  X := I2 × List Act10
  args := fun ⟨s, l⟩ => [.agg [.arr 2 .int [s.a, s.b]], .vsl .act10 l]
  heap := fun _ => hp0
  pre := fun _ => True
  res := fun _ => AB true
  heap' := fun _ => hp0
  pure := true
  find := fun _ _ => none
set_option maxHeartbeats 8000000 in
theorem cMP_ok : cMP.Ok Try.prog 3 := by
  refine fun_ok (env_ok (Cons.cons cawake_ok (Cons.cons cright_ok (Cons.cons cNew_ok (Cons.cons crNew_ok (Cons.cons cTake_ok (Cons.cons cPut_ok (Cons.cons cAll_ok (Cons.cons crTake_ok (Cons.cons crPut_ok (Cons.cons cSame_ok Cons.nil))))))))))) mixedP Try.func3 (by decide) rfl cMP [(3, 9), (18, 11), (2000003, 4), (3000003, 5), (3000003, 6), (3000003, 7), (3000003, 8), (2000018, 9), (3000018, 10)] (fun _ => rfl) (fun _ _ => ⟨rfl, fun id k h => by cases h⟩) (fun _ => Nat.le_of_ble_eq_true rfl) ?_
  rintro ⟨⟨sa, sb⟩, l⟩ hp ha hb
  clear hp ha hb
  all_goals (repeat' (first
    | with_reducible refine iTr ?_
    | with_reducible refine iB ?_
    | intro _
    | exact True.intro
    | (show _ ∧ _
       first
        | refine aTT ?_
        | refine aTB ?_
        | refine aT ?_
        | refine aB ?_
        | refine a11 ?_
        | refine a01 ?_
        | refine a00 ?_
        | refine a10 ?_
        | (with_reducible refine And.intro rfl ?_)
        | refine And.intro ?_ ?_)
    | with_reducible exact rfl
    | with_reducible exact HEq.rfl
    | (show (_ : Option Nat) = _; exact rfl)
    | (show (_ : Option Blk) = _; exact rfl)
    | (with_reducible show (nodupB _ && _ && _ && _ && _) = true; exact (Eq.refl true))
    | (with_reducible show (nodupB _ && _ && _ && _) = true; exact (Eq.refl true))
    | (with_reducible show (nodupB _ && _ && _) = true; exact (Eq.refl true))
    | (with_reducible show freeOk _ _ = true; exact (Eq.refl true))
    | (with_reducible show wrOk _ _ _ _ _ = true; exact (Eq.refl true))
    | (show (_ : AV) = _; exact rfl)
    | (with_reducible show (_ || !_) = true; exact (Eq.refl true))
    | (with_reducible show Nat.beq _ _ = true; exact (Eq.refl true))))
  all_goals (first | (show (_ : Int) = _) | (show (_ : Bool) = _) | (show HEq _ _) | (show ∃ _ : LInv, _) | skip)
  all_goals (try (with_reducible exact rfl))
  all_goals try (refine ⟨⟨{s : Nat × List Bun // SW l.length s.1 s.2}, fun s => [(38, AI s.1.1), (37, AI l.length), (36, .vsl .act10 l), (6, .vsl .bun s.1.2), (5, .ptr 0 ⟨0,0,0,none⟩)], fun s => ⟨2, [(1, some (.seq false 31 .bun s.1.2)), (0, some (.obj false [.slc 1]))]⟩, fun s => l.length - s.1.1⟩, ⟨⟨(0, newB sa sb), ?_⟩, [], ?_⟩, ?_⟩; rotate_right; rintro ⟨⟨i, xs⟩, hS⟩)
  all_goals (repeat' (first
    | with_reducible refine iTr ?_
    | with_reducible refine iB ?_
    | intro _
    | exact True.intro
    | (show _ ∧ _
       first
        | refine aTT ?_
        | refine aTB ?_
        | refine aT ?_
        | refine aB ?_
        | refine a11 ?_
        | refine a01 ?_
        | refine a00 ?_
        | refine a10 ?_
        | (with_reducible refine And.intro rfl ?_)
        | refine And.intro ?_ ?_)
    | with_reducible exact rfl
    | with_reducible exact HEq.rfl
    | (show (_ : Option Nat) = _; exact rfl)
    | (show (_ : Option Blk) = _; exact rfl)
    | (with_reducible show (nodupB _ && _ && _ && _ && _) = true; exact (Eq.refl true))
    | (with_reducible show (nodupB _ && _ && _ && _) = true; exact (Eq.refl true))
    | (with_reducible show (nodupB _ && _ && _) = true; exact (Eq.refl true))
    | (with_reducible show freeOk _ _ = true; exact (Eq.refl true))
    | (with_reducible show wrOk _ _ _ _ _ = true; exact (Eq.refl true))
    | (show (_ : AV) = _; exact rfl)
    | (with_reducible show (_ || !_) = true; exact (Eq.refl true))
    | (with_reducible show Nat.beq _ _ = true; exact (Eq.refl true))))
  all_goals (first | (show (_ : Int) = _) | (show (_ : Bool) = _) | (show HEq _ _) | (show ∃ _ : LInv, _) | skip)
  all_goals (try (with_reducible exact rfl))
  all_goals try (refine ⟨⟨(i + 1, nxS xs (l.getD i Ty.act10.dflt)), ?_⟩, ?_, ?_⟩)
  all_goals (repeat' (first
    | with_reducible refine iTr ?_
    | with_reducible refine iB ?_
    | intro _
    | exact True.intro
    | (show _ ∧ _
       first
        | refine aTT ?_
        | refine aTB ?_
        | refine aT ?_
        | refine aB ?_
        | refine a11 ?_
        | refine a01 ?_
        | refine a00 ?_
        | refine a10 ?_
        | (with_reducible refine And.intro rfl ?_)
        | refine And.intro ?_ ?_)
    | with_reducible exact rfl
    | with_reducible exact HEq.rfl
    | (show (_ : Option Nat) = _; exact rfl)
    | (show (_ : Option Blk) = _; exact rfl)
    | (with_reducible show (nodupB _ && _ && _ && _ && _) = true; exact (Eq.refl true))
    | (with_reducible show (nodupB _ && _ && _ && _) = true; exact (Eq.refl true))
    | (with_reducible show (nodupB _ && _ && _) = true; exact (Eq.refl true))
    | (with_reducible show freeOk _ _ = true; exact (Eq.refl true))
    | (with_reducible show wrOk _ _ _ _ _ = true; exact (Eq.refl true))
    | (show (_ : AV) = _; exact rfl)
    | (with_reducible show (_ || !_) = true; exact (Eq.refl true))
    | (with_reducible show Nat.beq _ _ = true; exact (Eq.refl true))))
  all_goals (first | (show (_ : Int) = _) | (show (_ : Bool) = _) | (show HEq _ _) | (show ∃ _ : LInv, _) | skip)
  all_goals (try (with_reducible exact rfl))
  all_goals (try dsimp only at *)
  all_goals (try simp only [Int.toNat_natCast] at *)
  all_goals (first
    | (show (0:Int) ≤ _; omega)
    | (show (_:Int) < ((2:Nat):Int); omega)
    | (show Int.toNat _ < 2; decide)
    | (show (0:Int) = ((0:Nat):Int); rfl)
    | (apply heq_of_eq; rfl)
    | (show SW _ 0 _; exact ⟨Nat.zero_le _, PL.new (by simpa using ‹(bif false then true else decide ((1048576 : Int) < _)) = false›)⟩)
    | skip)
  all_goals (have hi := right_at3 (z := Ty.act10.dflt) ‹(bif false then true else !rightL l) = false› ‹decide (((i : Nat) : Int) < (l.length : Int)) = true›)
  all_goals (have hput := hS.pl.put (by have := hi.2.1; dsimp only; omega) hi.2.2 (l.getD i Ty.act10.dflt).block; have htake := hS.pl.take (by have := hi.2.1; dsimp only; omega) (l.getD i Ty.act10.dflt).block (l.getD i Ty.act10.dflt).count (l.getD i Ty.act10.dflt).owner (l.getD i Ty.act10.dflt).data)
  all_goals (first
    | omega
    | exact hS.pl.len
    | exact hput.1.len
    | exact htake.1.len
    | exact hS.pl.nn _
    | exact wrap_succ (by omega)
    | (show SW _ (i + 1) _; exact ⟨hi.1, hS.pl.nx (by have := hi.2.1; dsimp only; omega) hi.2.2⟩)
    | (exfalso; exact ne_id (by assumption))
    | (exfalso; exact px hput.2 (by assumption))
    | (exfalso; exact tx1 htake.2 (by assumption))
    | (exfalso; exact tx2 htake.2 (by assumption))
    | (exfalso; have hx : (!decide True) = true := (by assumption); simp at hx)
    | exact heq_of_eq (nx0 (by assumption) (by assumption)).symm
    | exact heq_of_eq (nx1 (by assumption)).symm
    | exact heq_of_eq (hput.2.trans (nx1 (by assumption)).symm)
    | exact heq_of_eq (nx2 (by assumption)).symm
    | exact heq_of_eq ((congrArg Prod.snd htake.2).trans (nx2 (by assumption)).symm)
    | skip)
end Go.Proofs.Ytopbgpmajkcboaa

