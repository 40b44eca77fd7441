/-
  No cell of these rows narrows 'for every input' (looked for: loops, veiled, ifaces, maps, wideKeys, modest, calm, conditions, laid).
  DERIVED. THE GIVEN ROWS OF THIS SEAT. 6 by the template 'for every input the law returns true; each argument reads behind the call as it read before'; 0 by the template 'total and deterministic' (their statements: YtldjanjnohkmdaaTotals.lean).
  GIVEN WITH THE SEED: the statements are not yours to turn. If you find one false, say at which input.
  Laid BY PROGRAM, IN A SANDBOX (cutbox-rows.mjs): the forced cells as the released guide's own fill.sh prints them over the translation 1176b44aa0ec8c78… (all of the seat's roots in one cut). By AI agents, Wed Nov 11 2026. No macro, syntax, notation, axiom, sorry.
-/
import Derived.Test.YtldjanjnohkmdaaChecked
import GoSem.Claim
import GoSem.ClaimJoined
import GoSem.ClaimMapViews
import Derived.JoinedTies
import Derived.KernelRfl
namespace Go.Proofs.Ytldjanjnohkmdaa
/- THE CELL 'sum', in the pinned program and in every row, IS THE sha256 OF THE DUMP (.gsa) THAT YtldjanjnohkmdaaProg.lean LOADS. Nothing in Lean hashes anything: it is a label: what it is worth is what the hold of that sum in a sandbox is worth. -/
noncomputable def Try.pinned : Pinned := { name := "ytldjanjnohkmdaa", sum := "1176b44aa0ec8c78a8bf086deb0968c3374b51031d8bdb20c77810fe113a9e2c", checked := Try.checked }
namespace Rows
def none {H : Type} : Left H := { results := [], args := [] }

/-- 'jetonlaw03.PermTells': WHATEVER THE INPUT: true; the input reads as it did. -/
def permTellsSpec : ChangeSpec := { name := "permTells", fn := fun _ => fun
  | [d1, d2] => { results := [.lit (.bool true)], args := [d1, d2] }
  | _ => none }
def permTellsRow : OpenClaim := { program := "ytldjanjnohkmdaa", sum := "1176b44aa0ec8c78a8bf086deb0968c3374b51031d8bdb20c77810fe113a9e2c", func := "jeton/jetonlaw03.PermTells", spec := "permTells", apart := false }
def PermTellsSaid : Prop := permTellsRow.holds Try.pinned (OpenSpec.ofChange permTellsSpec)

/-- ITS FALSE NEIGHBOUR: 'it returns false'. Refute it at one input. -/
def permTellsWrong : ChangeSpec := { name := "permTells", fn := fun _ => fun
  | [d1, d2] => { results := [.lit (.bool false)], args := [d1, d2] }
  | _ => none }
def PermTellsWrongFalsely : Prop := permTellsRow.holds Try.pinned (OpenSpec.ofChange permTellsWrong)

/-- 'jetonlaw03.PermStores': WHATEVER THE INPUT: true; the input reads as it did. -/
def permStoresSpec : ChangeSpec := { name := "permStores", fn := fun _ => fun
  | [d1, d2, d3] => { results := [.lit (.bool true)], args := [d1, d2, d3] }
  | _ => none }
def permStoresRow : OpenClaim := { program := "ytldjanjnohkmdaa", sum := "1176b44aa0ec8c78a8bf086deb0968c3374b51031d8bdb20c77810fe113a9e2c", func := "jeton/jetonlaw03.PermStores", spec := "permStores", apart := false }
def PermStoresSaid : Prop := permStoresRow.holds Try.pinned (OpenSpec.ofChange permStoresSpec)

/-- ITS FALSE NEIGHBOUR: 'it returns false'. Refute it at one input. -/
def permStoresWrong : ChangeSpec := { name := "permStores", fn := fun _ => fun
  | [d1, d2, d3] => { results := [.lit (.bool false)], args := [d1, d2, d3] }
  | _ => none }
def PermStoresWrongFalsely : Prop := permStoresRow.holds Try.pinned (OpenSpec.ofChange permStoresWrong)

/-- 'jetonlaw03.PermLoads': WHATEVER THE INPUT: true; the input reads as it did. -/
def permLoadsSpec : ChangeSpec := { name := "permLoads", fn := fun _ => fun
  | [d1, d2, d3] => { results := [.lit (.bool true)], args := [d1, d2, d3] }
  | _ => none }
def permLoadsRow : OpenClaim := { program := "ytldjanjnohkmdaa", sum := "1176b44aa0ec8c78a8bf086deb0968c3374b51031d8bdb20c77810fe113a9e2c", func := "jeton/jetonlaw03.PermLoads", spec := "permLoads", apart := false }
def PermLoadsSaid : Prop := permLoadsRow.holds Try.pinned (OpenSpec.ofChange permLoadsSpec)

/-- ITS FALSE NEIGHBOUR: 'it returns false'. Refute it at one input. -/
def permLoadsWrong : ChangeSpec := { name := "permLoads", fn := fun _ => fun
  | [d1, d2, d3] => { results := [.lit (.bool false)], args := [d1, d2, d3] }
  | _ => none }
def PermLoadsWrongFalsely : Prop := permLoadsRow.holds Try.pinned (OpenSpec.ofChange permLoadsWrong)

/-- 'jetonlaw03.PermKeeps': WHATEVER THE INPUT: true; the input reads as it did. -/
def permKeepsSpec : ChangeSpec := { name := "permKeeps", fn := fun _ => fun
  | [d1, d2, d3] => { results := [.lit (.bool true)], args := [d1, d2, d3] }
  | _ => none }
def permKeepsRow : OpenClaim := { program := "ytldjanjnohkmdaa", sum := "1176b44aa0ec8c78a8bf086deb0968c3374b51031d8bdb20c77810fe113a9e2c", func := "jeton/jetonlaw03.PermKeeps", spec := "permKeeps", apart := false }
def PermKeepsSaid : Prop := permKeepsRow.holds Try.pinned (OpenSpec.ofChange permKeepsSpec)

/-- ITS FALSE NEIGHBOUR: 'it returns false'. Refute it at one input. -/
def permKeepsWrong : ChangeSpec := { name := "permKeeps", fn := fun _ => fun
  | [d1, d2, d3] => { results := [.lit (.bool false)], args := [d1, d2, d3] }
  | _ => none }
def PermKeepsWrongFalsely : Prop := permKeepsRow.holds Try.pinned (OpenSpec.ofChange permKeepsWrong)

/-- 'jetonlaw03.PermMore': WHATEVER THE INPUT: true; the input reads as it did. -/
def permMoreSpec : ChangeSpec := { name := "permMore", fn := fun _ => fun
  | [d1, d2, d3] => { results := [.lit (.bool true)], args := [d1, d2, d3] }
  | _ => none }
def permMoreRow : OpenClaim := { program := "ytldjanjnohkmdaa", sum := "1176b44aa0ec8c78a8bf086deb0968c3374b51031d8bdb20c77810fe113a9e2c", func := "jeton/jetonlaw03.PermMore", spec := "permMore", apart := false }
def PermMoreSaid : Prop := permMoreRow.holds Try.pinned (OpenSpec.ofChange permMoreSpec)

/-- ITS FALSE NEIGHBOUR: 'it returns false'. Refute it at one input. -/
def permMoreWrong : ChangeSpec := { name := "permMore", fn := fun _ => fun
  | [d1, d2, d3] => { results := [.lit (.bool false)], args := [d1, d2, d3] }
  | _ => none }
def PermMoreWrongFalsely : Prop := permMoreRow.holds Try.pinned (OpenSpec.ofChange permMoreWrong)

/-- 'jetonlaw03.PermSole': WHATEVER THE INPUT: true; the input reads as it did. -/
def permSoleSpec : ChangeSpec := { name := "permSole", fn := fun _ => fun
  | [d1, d2, d3] => { results := [.lit (.bool true)], args := [d1, d2, d3] }
  | _ => none }
def permSoleRow : OpenClaim := { program := "ytldjanjnohkmdaa", sum := "1176b44aa0ec8c78a8bf086deb0968c3374b51031d8bdb20c77810fe113a9e2c", func := "jeton/jetonlaw03.PermSole", spec := "permSole", apart := false }
def PermSoleSaid : Prop := permSoleRow.holds Try.pinned (OpenSpec.ofChange permSoleSpec)

/-- ITS FALSE NEIGHBOUR: 'it returns false'. Refute it at one input. -/
def permSoleWrong : ChangeSpec := { name := "permSole", fn := fun _ => fun
  | [d1, d2, d3] => { results := [.lit (.bool false)], args := [d1, d2, d3] }
  | _ => none }
def PermSoleWrongFalsely : Prop := permSoleRow.holds Try.pinned (OpenSpec.ofChange permSoleWrong)

/- THE SECOND FORM. 'bulk': how many values and letters a reading holds, each counted each time it is reached (what is shared counts as often as it is met; a slice's spare places count too). A statement '..UptoSaid' is the law's where the arguments, and the package variables that the reading takes, are together of bulk at most 1048576: NARROWER than '..Said'. Prove '..Said' where nothing that the law and all that it calls make is longer than what came in: it says more and counts as full. Else prove '..UptoSaid'. A law counts once. -/
mutual
def uptoBulk {H : Type} : DataW H → Nat
  | .lit (.string bytes) => bytes.length + 1
  | .lit _ => 1
  | .nil => 1
  | .ptr d => uptoBulk d + 1
  | .slice elems spare => uptoBulkAll elems + uptoBulkAll spare + 1
  | .agg parts => uptoBulkAll parts + 1
  | .iface _ d => uptoBulk d + 1
  | .map entries => uptoBulkEntries entries + 1
  | .held _ => 1
def uptoBulkAll {H : Type} : List (DataW H) → Nat
  | [] => 0
  | d :: r => uptoBulk d + uptoBulkAll r
def uptoBulkEntries {H : Type} : List (Lit × DataW H) → Nat
  | [] => 0
  | x :: r => uptoBulkEntry x + uptoBulkEntries r
def uptoBulkEntry {H : Type} : Lit × DataW H → Nat
  | (.string bytes, d) => bytes.length + uptoBulk d + 1
  | (_, d) => uptoBulk d + 1
 end
def uptoSmall : (H : Type) → List (DataW H) → Bool := fun _ ds => decide (uptoBulkAll ds ≤ 1048576)
def OpenSpec.upto (s : _root_.Go.ChangeSpec) : _root_.Go.OpenSpec := { _root_.Go.OpenSpec.ofChange s with cond := some uptoSmall }

/-- 'jetonlaw03.PermTells', WHERE WHAT IT READS IS OF BULK AT MOST 1048576: true; the input reads as it did. -/
def permTellsUptoRow : OpenClaim := { program := "ytldjanjnohkmdaa", sum := "1176b44aa0ec8c78a8bf086deb0968c3374b51031d8bdb20c77810fe113a9e2c", func := "jeton/jetonlaw03.PermTells", spec := "permTells", apart := false, narrowed := true }
def PermTellsUptoSaid : Prop := permTellsUptoRow.holds Try.pinned (OpenSpec.upto permTellsSpec)

/-- 'jetonlaw03.PermStores', WHERE WHAT IT READS IS OF BULK AT MOST 1048576: true; the input reads as it did. -/
def permStoresUptoRow : OpenClaim := { program := "ytldjanjnohkmdaa", sum := "1176b44aa0ec8c78a8bf086deb0968c3374b51031d8bdb20c77810fe113a9e2c", func := "jeton/jetonlaw03.PermStores", spec := "permStores", apart := false, narrowed := true }
def PermStoresUptoSaid : Prop := permStoresUptoRow.holds Try.pinned (OpenSpec.upto permStoresSpec)

/-- 'jetonlaw03.PermLoads', WHERE WHAT IT READS IS OF BULK AT MOST 1048576: true; the input reads as it did. -/
def permLoadsUptoRow : OpenClaim := { program := "ytldjanjnohkmdaa", sum := "1176b44aa0ec8c78a8bf086deb0968c3374b51031d8bdb20c77810fe113a9e2c", func := "jeton/jetonlaw03.PermLoads", spec := "permLoads", apart := false, narrowed := true }
def PermLoadsUptoSaid : Prop := permLoadsUptoRow.holds Try.pinned (OpenSpec.upto permLoadsSpec)

/-- 'jetonlaw03.PermKeeps', WHERE WHAT IT READS IS OF BULK AT MOST 1048576: true; the input reads as it did. -/
def permKeepsUptoRow : OpenClaim := { program := "ytldjanjnohkmdaa", sum := "1176b44aa0ec8c78a8bf086deb0968c3374b51031d8bdb20c77810fe113a9e2c", func := "jeton/jetonlaw03.PermKeeps", spec := "permKeeps", apart := false, narrowed := true }
def PermKeepsUptoSaid : Prop := permKeepsUptoRow.holds Try.pinned (OpenSpec.upto permKeepsSpec)

/-- 'jetonlaw03.PermMore', WHERE WHAT IT READS IS OF BULK AT MOST 1048576: true; the input reads as it did. -/
def permMoreUptoRow : OpenClaim := { program := "ytldjanjnohkmdaa", sum := "1176b44aa0ec8c78a8bf086deb0968c3374b51031d8bdb20c77810fe113a9e2c", func := "jeton/jetonlaw03.PermMore", spec := "permMore", apart := false, narrowed := true }
def PermMoreUptoSaid : Prop := permMoreUptoRow.holds Try.pinned (OpenSpec.upto permMoreSpec)

/-- 'jetonlaw03.PermSole', WHERE WHAT IT READS IS OF BULK AT MOST 1048576: true; the input reads as it did. -/
def permSoleUptoRow : OpenClaim := { program := "ytldjanjnohkmdaa", sum := "1176b44aa0ec8c78a8bf086deb0968c3374b51031d8bdb20c77810fe113a9e2c", func := "jeton/jetonlaw03.PermSole", spec := "permSole", apart := false, narrowed := true }
def PermSoleUptoSaid : Prop := permSoleUptoRow.holds Try.pinned (OpenSpec.upto permSoleSpec)

end Rows
end Go.Proofs.Ytldjanjnohkmdaa
