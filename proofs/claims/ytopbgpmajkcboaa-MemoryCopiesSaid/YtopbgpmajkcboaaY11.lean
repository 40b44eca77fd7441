/- MemoryCopies of layer 10: what it comes to. No condition. -/
import Derived.Test.YtopbgpmajkcboaaY8
import Derived.Test.YtopbgpmajkcboaaZ10
namespace Go.Proofs.Ytopbgpmajkcboaa
open Go.RowKit
set_option linter.unusedVariables false
set_option linter.unusedSimpArgs false
def stepC (xs : List Bun) (a : Act10) : List Bun := (takeB (putB xs a.block a.tok) a.block a.count a.owner a.data).2
theorem inv_step {L i : Nat} {xs : List Bun} {a : Act10} (h : inv L i xs) (hi : i ≤ 200) (ha : bcheck a.tok 1048576 = 0) : inv L (i + 1) (stepC xs a) := by
  obtain ⟨h0, h1⟩ := right_cnt ha
  exact (inv_take (inv_put h (by omega) h0 h1 a.block).1 (by omega) _ _ _ _).1
structure SC (m L i : Nat) (xs : List Bun) : Prop where
  le : i ≤ m
  iv : inv L i xs
theorem right_at {l : List Act10} {i : Nat} {z : Act10} (hr : (bif false then true else !rightL l) = false) (hi : decide ((i : Int) < (l.length : Int)) = true) : i < l.length ∧ i ≤ 200 ∧ bcheck (l.getD i z).tok 1048576 = 0 := by
  have hr2 : rightL l = true := by simpa using hr
  have h1 : i < l.length := by have := of_decide_eq_true hi; omega
  have h2 := rightL_get (z := z) hr2
  exact ⟨h1, by omega, h2.2 i h1⟩
theorem stepC_pre {m L i : Nat} {xs : List Bun} {a : Act10} (h : SC m L i xs) (hi : i ≤ 200) (ha : bcheck a.tok 1048576 = 0) : 0 ≤ (getB (putB xs a.block a.tok) a.block).c := by
  obtain ⟨h0, h1⟩ := right_cnt ha
  exact ((inv_put h.iv (by omega) h0 h1 a.block).1.2.2 _).1
def cMC : Con where
  X := I2 × List Act10
  args := fun ⟨s, l⟩ => [.agg [.arr 2 .int [s.a, s.b]], .vsl .act10 l]
  heap := fun _ => hp0
  pre := fun _ => True
  res := fun _ => AB true
  heap' := fun _ => hp0
  pure := true
  find := fun _ _ => none
set_option maxHeartbeats 8000000 in
theorem cMC_ok : cMC.Ok Try.prog 7 := by
  refine fun_ok (env_ok (Cons.cons cawake_ok (Cons.cons cright_ok (Cons.cons cNew_ok (Cons.cons cTake_ok (Cons.cons cPut_ok (Cons.cons cAll_ok (Cons.cons cCopy_ok (Cons.cons cSame_ok Cons.nil))))))))) mixedP Try.func7 (by decide) rfl cMC [] (fun _ => rfl) (fun _ _ => ⟨rfl, fun id k h => by cases h⟩) (fun _ => Nat.le_of_ble_eq_true rfl) ?_
  rintro ⟨⟨sa, sb⟩, l⟩ hp ha hb
  clear hp ha hb
  all_goals (repeat' (first
    | with_reducible refine iTr ?_
    | with_reducible refine iB ?_
    | intro _
    | exact True.intro
    | (show _ ∧ _
       first
        | refine aTT ?_
        | refine aTB ?_
        | refine aT ?_
        | refine aB ?_
        | refine a11 ?_
        | refine a01 ?_
        | refine a00 ?_
        | refine a10 ?_
        | (with_reducible refine And.intro rfl ?_)
        | refine And.intro ?_ ?_)
    | with_reducible exact rfl
    | with_reducible exact HEq.rfl
    | (show (_ : Option Nat) = _; exact rfl)
    | (show (_ : Option Blk) = _; exact rfl)
    | (show (_ : Nat) = _; exact rfl)
    | (show (_ : Bool) = true; exact (Eq.refl true))))
  all_goals (first | (show (_ : Int) = _) | (show (_ : Bool) = _) | (show HEq _ _) | (show ∃ _ : LInv, _) | skip)
  all_goals (try (with_reducible exact rfl))
  all_goals try (refine ⟨⟨{s : Nat × List Bun // SC l.length (newB sa sb).length s.1 s.2}, fun s => [(40, AI s.1.1), (39, AI l.length), (38, .vsl .act10 l), (7, .ptr 2 ⟨0,0,0,none⟩), (6, .slc 4), (5, .ptr 0 ⟨0,0,0,none⟩)], fun s => ⟨5, [(4, some (.seq false 31 .bun (newB sa sb))), (3, some (.seq false 31 .bun (newB sa sb))), (2, some (.obj false [.slc 3])), (1, some (.seq false 31 .bun s.1.2)), (0, some (.obj false [.slc 1]))]⟩, fun s => l.length - s.1.1⟩, ⟨⟨(0, newB sa sb), ?_⟩, [], ?_⟩, ?_⟩; rotate_right; rintro ⟨⟨i, xs⟩, hS⟩)
  all_goals (repeat' (first
    | with_reducible refine iTr ?_
    | with_reducible refine iB ?_
    | intro _
    | exact True.intro
    | (show _ ∧ _
       first
        | refine aTT ?_
        | refine aTB ?_
        | refine aT ?_
        | refine aB ?_
        | refine a11 ?_
        | refine a01 ?_
        | refine a00 ?_
        | refine a10 ?_
        | (with_reducible refine And.intro rfl ?_)
        | refine And.intro ?_ ?_)
    | with_reducible exact rfl
    | with_reducible exact HEq.rfl
    | (show (_ : Option Nat) = _; exact rfl)
    | (show (_ : Option Blk) = _; exact rfl)
    | (show (_ : Nat) = _; exact rfl)
    | (show (_ : Bool) = true; exact (Eq.refl true))))
  all_goals (first | (show (_ : Int) = _) | (show (_ : Bool) = _) | (show HEq _ _) | (show ∃ _ : LInv, _) | skip)
  all_goals (try (with_reducible exact rfl))
  all_goals try (refine ⟨⟨(i + 1, stepC xs (l.getD i Ty.act10.dflt)), ?_⟩, ?_, ?_⟩)
  all_goals (repeat' (first
    | with_reducible refine iTr ?_
    | with_reducible refine iB ?_
    | intro _
    | exact True.intro
    | (show _ ∧ _
       first
        | refine aTT ?_
        | refine aTB ?_
        | refine aT ?_
        | refine aB ?_
        | refine a11 ?_
        | refine a01 ?_
        | refine a00 ?_
        | refine a10 ?_
        | (with_reducible refine And.intro rfl ?_)
        | refine And.intro ?_ ?_)
    | with_reducible exact rfl
    | with_reducible exact HEq.rfl
    | (show (_ : Option Nat) = _; exact rfl)
    | (show (_ : Option Blk) = _; exact rfl)
    | (show (_ : Nat) = _; exact rfl)
    | (show (_ : Bool) = true; exact (Eq.refl true))))
  all_goals (first | (show (_ : Int) = _) | (show (_ : Bool) = _) | (show HEq _ _) | (show ∃ _ : LInv, _) | skip)
  all_goals (try (with_reducible exact rfl))
  all_goals (try dsimp only)
  all_goals (first
    | omega
    | rfl
    | (show xs.length ≤ 64; rw [hS.iv.1]; exact hS.iv.2.1)
    | (show List.length (newB _ _) ≤ 64; exact len_new64 _ _)
    | (show 0 ≤ (getB (newB _ _) _).c; exact new_nn _ _ _)
    | (show 0 ≤ (getB (putB xs _ _) _).c; exact stepC_pre hS (right_at (z := Ty.act10.dflt) ‹(bif false then true else !rightL l) = false› ‹decide (((i : Nat) : Int) < (l.length : Int)) = true›).2.1 (right_at (z := Ty.act10.dflt) ‹(bif false then true else !rightL l) = false› ‹decide (((i : Nat) : Int) < (l.length : Int)) = true›).2.2)
    | (show SC _ _ (i + 1) _; exact ⟨(right_at (z := Ty.act10.dflt) ‹(bif false then true else !rightL l) = false› ‹decide (((i : Nat) : Int) < (l.length : Int)) = true›).1, inv_step hS.iv (right_at (z := Ty.act10.dflt) ‹(bif false then true else !rightL l) = false› ‹decide (((i : Nat) : Int) < (l.length : Int)) = true›).2.1 (right_at (z := Ty.act10.dflt) ‹(bif false then true else !rightL l) = false› ‹decide (((i : Nat) : Int) < (l.length : Int)) = true›).2.2⟩)
    | (show SC _ _ 0 _; exact ⟨Nat.zero_le _, inv_new (by simpa using ‹(bif false then true else decide ((1048576 : Int) < _)) = false›)⟩)
    | (show l.length - (i + 1) < l.length - i; have := (right_at (z := Ty.act10.dflt) ‹(bif false then true else !rightL l) = false› ‹decide (((i : Nat) : Int) < (l.length : Int)) = true›).1; omega)
    | exact wrap_succ (by have := (right_at (z := Ty.act10.dflt) ‹(bif false then true else !rightL l) = false› ‹decide (((i : Nat) : Int) < (l.length : Int)) = true›).2.1; omega)
    | exact HEq.rfl
    | (simp; done)
    | (exfalso; simp at *; done)
    | exact of_decide_eq_true ‹decide (((i : Nat) : Int) < (l.length : Int)) = true›)
end Go.Proofs.Ytopbgpmajkcboaa
