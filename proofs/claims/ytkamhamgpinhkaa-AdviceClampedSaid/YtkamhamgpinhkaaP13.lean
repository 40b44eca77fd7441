/- Plain words of layer 13: whom a node asks, and what it gives. -/
import Derived.Test.YtkamhamgpinhkaaB13
import Derived.Test.YtkamhamgpinhkaaI13
namespace Go.Proofs.Ytkamhamgpinhkaa
open Go.RowKit
set_option linter.unusedVariables false
/-- Whether a node is asked. -/
def asked (p self : Int) (d : I3) (k : Nat) : Bool :=
  (decide (p = 1) || (decide (p = 2) && (if k < 64 then bit d.a k else bit d.b 0))) && decide ((k : Int) ≠ self)
def tl (p self : Int) (d : I3) : Nat → List Int
  | 0 => []
  | k + 1 => tl p self d k ++ (if asked p self d k then [(k : Int)] else [])
def tgts (c : Cfg) (self : Int) (d : I3) : List Int := if 64 < c.nodes then [] else tl c.policy self d (c.nodes + 1).toNat
theorem tl_le (p self : Int) (d : I3) : ∀ k, (tl p self d k).length ≤ k
  | 0 => Nat.le_refl _
  | k + 1 => by
    have := tl_le p self d k
    rw [tl, List.length_append]
    split <;> simp <;> omega
theorem tl_yes {p self : Int} {d : I3} {k : Nat} (h : asked p self d k = true) : tl p self d (k + 1) = tl p self d k ++ [(k : Int)] := by rw [tl, if_pos h]
theorem tl_no {p self : Int} {d : I3} {k : Nat} (h : asked p self d k = false) : tl p self d (k + 1) = tl p self d k := by rw [tl, h]; simp
theorem ownsRow_below {w w' : World} {base : Nat} {e : TypeId} {size : Nat} {v : Value} {n : Nat} {xs : List Value} (h : w.ownsRow base e size v n xs) (hb : Below w.heap.size w w') : w'.ownsRow base e size v n xs :=
  h.kept (row := none) ⟨hb.os, hb.tape, hb.output, hb.size, fun k hk _ => hb.block k hk⟩ (by cases v.ownBlock <;> simp)
theorem int_info : (Try.prog.info? 3).map (fun i => (i.zero, i.size, i.bytes)) = some (some (.int .i64 0), 1, 8) := by kernel_rfl
theorem one_new {w : World} {v : Value} {t : TypeId} : ∀ (j : Nat) (u : Value), [v][j]? = some u → (w.alloc (.cells #[v] t)).cell? ((⟨w.heap.size, 0, none⟩ : Addr).add j) = some u := by
  intro j u hj
  match j, hj with
  | 0, hj => simp at hj; subst hj; simp [Addr.add]
/-- A list, one number longer. -/
theorem push_row {w1 : World} {B : Nat} {e : TypeId} {v : Value} {xs : List Int} {x : Int} (h : w1.ownsRow B e 1 v (xs.length + 1) (xs.map (Value.int .i64) ++ [.int .i64 x])) :
    w1.ownsRow B e 1 v (xs ++ [x]).length ((xs ++ [x]).map (Value.int .i64)) := by simpa using h
end Go.Proofs.Ytkamhamgpinhkaa
