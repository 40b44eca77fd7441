/- The contracts of the memory's functions and of its reference's. No condition. -/
import Derived.Test.YtopbgpmajkcboaaY2
namespace Go.Proofs.Ytopbgpmajkcboaa
open Go.RowKit
set_option linter.unusedVariables false
set_option linter.unusedSimpArgs false
def crClamp : Con where
  X := Int × Int × Int
  args := fun ⟨n, lo, hi⟩ => [AI n, AI lo, AI hi]
  heap := fun _ => hp0
  pre := fun _ => True
  res := fun ⟨n, lo, hi⟩ => AI (clamp n lo hi)
  heap' := fun _ => hp0
  pure := true
  find := fun args _ => match args with
    | [.int _ n, .int _ lo, .int _ hi] => some (n, lo, hi)
    | _ => none
theorem crClamp_ok : crClamp.Ok Try.prog 24 := by
  refine fun_ok (env_ok Cons.nil) mixedP Try.func24 (by decide) rfl crClamp [] (fun _ => rfl) (fun _ _ => ⟨rfl, fun id k h => by cases h⟩) (fun _ => Nat.le_of_ble_eq_true rfl) ?_
  rintro ⟨n, lo, hi⟩ - ha -
  all_goals (repeat' (first
    | with_reducible refine iTr ?_
    | with_reducible refine iB ?_
    | intro _
    | exact True.intro
    | (show _ ∧ _
       first
        | refine aTT ?_
        | refine aTB ?_
        | refine aT ?_
        | refine aB ?_
        | refine a11 ?_
        | refine a01 ?_
        | refine a00 ?_
        | refine a10 ?_
        | (with_reducible refine And.intro rfl ?_)
        | refine And.intro ?_ ?_)
    | with_reducible exact rfl
    | with_reducible exact HEq.rfl
    | (show (_ : Option Nat) = _; exact rfl)
    | (show (_ : Option Blk) = _; exact rfl)
    | (show (_ : Nat) = _; exact rfl)
    | (show (_ : Bool) = true; exact (Eq.refl true))))
  all_goals (first | (show (_ : Int) = _) | (show (_ : Bool) = _) | (show HEq _ _) | (show ∃ _ : LInv, _) | skip)
  all_goals (try (with_reducible exact rfl))
  all_goals (simp_all [clamp]; omega)
/-- The memory: an object, and the slice of its blocks. -/
def mH (ro : Bool) (xs : List Bun) : Heap := ⟨2, [(1, some (.seq ro 31 .bun xs)), (0, some (.obj true [.slc 1]))]⟩
def pM : AV := .ptr 0 ⟨0, 0, 0, none⟩
def seqB (H : Heap) (id : Nat) : Option (List Bun) := match H.get id with
  | some (.seq _ _ .bun xs) => some xs
  | _ => none
def findM (id : Nat) (H : Heap) : Option (List Bun) := match H.get id with
  | some (.obj _ [.slc s]) => seqB H s
  | _ => none
theorem mH_ro (xs : List Bun) : ∀ id k, (mH true xs).get id = some k → k.ro = true
  | 0, k, h => by cases h; rfl
  | 1, k, h => by cases h; rfl
  | _ + 2, k, h => by cases h
def inB (xs : List Bun) (i : Int) : Bool := decide (0 ≤ i) && decide (i < xs.length)
def getB (xs : List Bun) (i : Int) : Bun := if inB xs i then xs.getD i.toNat bun0 else bun0
def newB (b t : Int) : List Bun := List.replicate (clamp b 0 64).toNat (full t 0)
def putB (xs : List Bun) (i : Int) (b : Bun) : List Bun := if inB xs i then xs.set i.toNat (join (getB xs i) b) else xs
def takeB (xs : List Bun) (i n : Int) (o d : Bool) : Bun × List Bun := if inB xs i then ((split (getB xs i) n o d).1, xs.set i.toNat (split (getB xs i) n o d).2) else (bun0, xs)
def rputB (xs : List Bun) (i : Int) (b : Bun) : List Bun := if inB xs i then xs.set i.toNat (rjoin (getB xs i) b) else xs
def rtakeB (xs : List Bun) (i n : Int) (o d : Bool) : Bun × List Bun := if inB xs i then ((rsplit (getB xs i) n o d).1, xs.set i.toNat (rsplit (getB xs i) n o d).2) else (bun0, xs)
def slB (H : Heap) : AV → Option (List Bun)
  | .vsl .bun xs => some xs
  | .nils => some []
  | .slc id => seqB H id
  | _ => none
end Go.Proofs.Ytopbgpmajkcboaa
