/-
  No cell of these rows narrows 'for every input' (looked for: loops, veiled, ifaces, maps, wideKeys, modest, calm, conditions, laid).
  DERIVED. THE GIVEN ROWS OF THIS SEAT. 7 by the template 'for every input the law returns true; each argument reads behind the call as it read before'; 0 by the template 'total and deterministic' (their statements: YtegcnbomndeinaaTotals.lean).
  GIVEN WITH THE SEED: the statements are not yours to turn. If you find one false, say at which input.
  Laid BY PROGRAM, IN A SANDBOX (cutbox-rows.mjs): the forced cells as the released guide's own fill.sh prints them over the translation 4839925d82721a53… (all of the seat's roots in one cut). By AI agents, Wed Nov 11 2026. No macro, syntax, notation, axiom, sorry.
-/
import Derived.Test.YtegcnbomndeinaaChecked
import GoSem.Claim
import GoSem.ClaimJoined
import GoSem.ClaimMapViews
import Derived.JoinedTies
import Derived.KernelRfl
namespace Go.Proofs.Ytegcnbomndeinaa
/- THE CELL 'sum', in the pinned program and in every row, IS THE sha256 OF THE DUMP (.gsa) THAT YtegcnbomndeinaaProg.lean LOADS. Nothing in Lean hashes anything: it is a label: what it is worth is what the hold of that sum in a sandbox is worth. -/
noncomputable def Try.pinned : Pinned := { name := "ytegcnbomndeinaa", sum := "4839925d82721a531b34da1359bf90ebab64638d6c6e24d17f640334dae092be", checked := Try.checked }
namespace Rows
def none {H : Type} : Left H := { results := [], args := [] }

/-- 'jetonlaw02.BundleChecks': WHATEVER THE INPUT: true; the input reads as it did. -/
def bundleChecksSpec : ChangeSpec := { name := "bundleChecks", fn := fun _ => fun
  | [d1, d2, d3] => { results := [.lit (.bool true)], args := [d1, d2, d3] }
  | _ => none }
def bundleChecksRow : OpenClaim := { program := "ytegcnbomndeinaa", sum := "4839925d82721a531b34da1359bf90ebab64638d6c6e24d17f640334dae092be", func := "jeton/jetonlaw02.BundleChecks", spec := "bundleChecks", apart := false }
def BundleChecksSaid : Prop := bundleChecksRow.holds Try.pinned (OpenSpec.ofChange bundleChecksSpec)

/-- ITS FALSE NEIGHBOUR: 'it returns false'. Refute it at one input. -/
def bundleChecksWrong : ChangeSpec := { name := "bundleChecks", fn := fun _ => fun
  | [d1, d2, d3] => { results := [.lit (.bool false)], args := [d1, d2, d3] }
  | _ => none }
def BundleChecksWrongFalsely : Prop := bundleChecksRow.holds Try.pinned (OpenSpec.ofChange bundleChecksWrong)

/-- 'jetonlaw02.BundleSplits': WHATEVER THE INPUT: true; the input reads as it did. -/
def bundleSplitsSpec : ChangeSpec := { name := "bundleSplits", fn := fun _ => fun
  | [d1, d2, d3] => { results := [.lit (.bool true)], args := [d1, d2, d3] }
  | _ => none }
def bundleSplitsRow : OpenClaim := { program := "ytegcnbomndeinaa", sum := "4839925d82721a531b34da1359bf90ebab64638d6c6e24d17f640334dae092be", func := "jeton/jetonlaw02.BundleSplits", spec := "bundleSplits", apart := false }
def BundleSplitsSaid : Prop := bundleSplitsRow.holds Try.pinned (OpenSpec.ofChange bundleSplitsSpec)

/-- ITS FALSE NEIGHBOUR: 'it returns false'. Refute it at one input. -/
def bundleSplitsWrong : ChangeSpec := { name := "bundleSplits", fn := fun _ => fun
  | [d1, d2, d3] => { results := [.lit (.bool false)], args := [d1, d2, d3] }
  | _ => none }
def BundleSplitsWrongFalsely : Prop := bundleSplitsRow.holds Try.pinned (OpenSpec.ofChange bundleSplitsWrong)

/-- 'jetonlaw02.BundleJoins': WHATEVER THE INPUT: true; the input reads as it did. -/
def bundleJoinsSpec : ChangeSpec := { name := "bundleJoins", fn := fun _ => fun
  | [d1, d2] => { results := [.lit (.bool true)], args := [d1, d2] }
  | _ => none }
def bundleJoinsRow : OpenClaim := { program := "ytegcnbomndeinaa", sum := "4839925d82721a531b34da1359bf90ebab64638d6c6e24d17f640334dae092be", func := "jeton/jetonlaw02.BundleJoins", spec := "bundleJoins", apart := false }
def BundleJoinsSaid : Prop := bundleJoinsRow.holds Try.pinned (OpenSpec.ofChange bundleJoinsSpec)

/-- ITS FALSE NEIGHBOUR: 'it returns false'. Refute it at one input. -/
def bundleJoinsWrong : ChangeSpec := { name := "bundleJoins", fn := fun _ => fun
  | [d1, d2] => { results := [.lit (.bool false)], args := [d1, d2] }
  | _ => none }
def BundleJoinsWrongFalsely : Prop := bundleJoinsRow.holds Try.pinned (OpenSpec.ofChange bundleJoinsWrong)

/-- 'jetonlaw02.BundleBack': WHATEVER THE INPUT: true; the input reads as it did. -/
def bundleBackSpec : ChangeSpec := { name := "bundleBack", fn := fun _ => fun
  | [d1, d2, d3] => { results := [.lit (.bool true)], args := [d1, d2, d3] }
  | _ => none }
def bundleBackRow : OpenClaim := { program := "ytegcnbomndeinaa", sum := "4839925d82721a531b34da1359bf90ebab64638d6c6e24d17f640334dae092be", func := "jeton/jetonlaw02.BundleBack", spec := "bundleBack", apart := false }
def BundleBackSaid : Prop := bundleBackRow.holds Try.pinned (OpenSpec.ofChange bundleBackSpec)

/-- ITS FALSE NEIGHBOUR: 'it returns false'. Refute it at one input. -/
def bundleBackWrong : ChangeSpec := { name := "bundleBack", fn := fun _ => fun
  | [d1, d2, d3] => { results := [.lit (.bool false)], args := [d1, d2, d3] }
  | _ => none }
def BundleBackWrongFalsely : Prop := bundleBackRow.holds Try.pinned (OpenSpec.ofChange bundleBackWrong)

/-- 'jetonlaw02.BundleSums': WHATEVER THE INPUT: true; the input reads as it did. -/
def bundleSumsSpec : ChangeSpec := { name := "bundleSums", fn := fun _ => fun
  | [d1, d2, d3] => { results := [.lit (.bool true)], args := [d1, d2, d3] }
  | _ => none }
def bundleSumsRow : OpenClaim := { program := "ytegcnbomndeinaa", sum := "4839925d82721a531b34da1359bf90ebab64638d6c6e24d17f640334dae092be", func := "jeton/jetonlaw02.BundleSums", spec := "bundleSums", apart := false }
def BundleSumsSaid : Prop := bundleSumsRow.holds Try.pinned (OpenSpec.ofChange bundleSumsSpec)

/-- ITS FALSE NEIGHBOUR: 'it returns false'. Refute it at one input. -/
def bundleSumsWrong : ChangeSpec := { name := "bundleSums", fn := fun _ => fun
  | [d1, d2, d3] => { results := [.lit (.bool false)], args := [d1, d2, d3] }
  | _ => none }
def BundleSumsWrongFalsely : Prop := bundleSumsRow.holds Try.pinned (OpenSpec.ofChange bundleSumsWrong)

/-- 'jetonlaw02.BundleOrder': WHATEVER THE INPUT: true; the input reads as it did. -/
def bundleOrderSpec : ChangeSpec := { name := "bundleOrder", fn := fun _ => fun
  | [d1, d2, d3] => { results := [.lit (.bool true)], args := [d1, d2, d3] }
  | _ => none }
def bundleOrderRow : OpenClaim := { program := "ytegcnbomndeinaa", sum := "4839925d82721a531b34da1359bf90ebab64638d6c6e24d17f640334dae092be", func := "jeton/jetonlaw02.BundleOrder", spec := "bundleOrder", apart := false }
def BundleOrderSaid : Prop := bundleOrderRow.holds Try.pinned (OpenSpec.ofChange bundleOrderSpec)

/-- ITS FALSE NEIGHBOUR: 'it returns false'. Refute it at one input. -/
def bundleOrderWrong : ChangeSpec := { name := "bundleOrder", fn := fun _ => fun
  | [d1, d2, d3] => { results := [.lit (.bool false)], args := [d1, d2, d3] }
  | _ => none }
def BundleOrderWrongFalsely : Prop := bundleOrderRow.holds Try.pinned (OpenSpec.ofChange bundleOrderWrong)

/-- 'jetonlaw02.BundleAll': WHATEVER THE INPUT: true; the input reads as it did. -/
def bundleAllSpec : ChangeSpec := { name := "bundleAll", fn := fun _ => fun
  | [d1, d2] => { results := [.lit (.bool true)], args := [d1, d2] }
  | _ => none }
def bundleAllRow : OpenClaim := { program := "ytegcnbomndeinaa", sum := "4839925d82721a531b34da1359bf90ebab64638d6c6e24d17f640334dae092be", func := "jeton/jetonlaw02.BundleAll", spec := "bundleAll", apart := false }
def BundleAllSaid : Prop := bundleAllRow.holds Try.pinned (OpenSpec.ofChange bundleAllSpec)

/-- ITS FALSE NEIGHBOUR: 'it returns false'. Refute it at one input. -/
def bundleAllWrong : ChangeSpec := { name := "bundleAll", fn := fun _ => fun
  | [d1, d2] => { results := [.lit (.bool false)], args := [d1, d2] }
  | _ => none }
def BundleAllWrongFalsely : Prop := bundleAllRow.holds Try.pinned (OpenSpec.ofChange bundleAllWrong)

/- THE SECOND FORM. 'bulk': how many values and letters a reading holds, each counted each time it is reached (what is shared counts as often as it is met; a slice's spare places count too). A statement '..UptoSaid' is the law's where the arguments, and the package variables that the reading takes, are together of bulk at most 1048576: NARROWER than '..Said'. Prove '..Said' where nothing that the law and all that it calls make is longer than what came in: it says more and counts as full. Else prove '..UptoSaid'. A law counts once. -/
mutual
def uptoBulk {H : Type} : DataW H → Nat
  | .lit (.string bytes) => bytes.length + 1
  | .lit _ => 1
  | .nil => 1
  | .ptr d => uptoBulk d + 1
  | .slice elems spare => uptoBulkAll elems + uptoBulkAll spare + 1
  | .agg parts => uptoBulkAll parts + 1
  | .iface _ d => uptoBulk d + 1
  | .map entries => uptoBulkEntries entries + 1
  | .held _ => 1
def uptoBulkAll {H : Type} : List (DataW H) → Nat
  | [] => 0
  | d :: r => uptoBulk d + uptoBulkAll r
def uptoBulkEntries {H : Type} : List (Lit × DataW H) → Nat
  | [] => 0
  | x :: r => uptoBulkEntry x + uptoBulkEntries r
def uptoBulkEntry {H : Type} : Lit × DataW H → Nat
  | (.string bytes, d) => bytes.length + uptoBulk d + 1
  | (_, d) => uptoBulk d + 1
 end
def uptoSmall : (H : Type) → List (DataW H) → Bool := fun _ ds => decide (uptoBulkAll ds ≤ 1048576)
def OpenSpec.upto (s : _root_.Go.ChangeSpec) : _root_.Go.OpenSpec := { _root_.Go.OpenSpec.ofChange s with cond := some uptoSmall }

/-- 'jetonlaw02.BundleChecks', WHERE WHAT IT READS IS OF BULK AT MOST 1048576: true; the input reads as it did. -/
def bundleChecksUptoRow : OpenClaim := { program := "ytegcnbomndeinaa", sum := "4839925d82721a531b34da1359bf90ebab64638d6c6e24d17f640334dae092be", func := "jeton/jetonlaw02.BundleChecks", spec := "bundleChecks", apart := false, narrowed := true }
def BundleChecksUptoSaid : Prop := bundleChecksUptoRow.holds Try.pinned (OpenSpec.upto bundleChecksSpec)

/-- 'jetonlaw02.BundleSplits', WHERE WHAT IT READS IS OF BULK AT MOST 1048576: true; the input reads as it did. -/
def bundleSplitsUptoRow : OpenClaim := { program := "ytegcnbomndeinaa", sum := "4839925d82721a531b34da1359bf90ebab64638d6c6e24d17f640334dae092be", func := "jeton/jetonlaw02.BundleSplits", spec := "bundleSplits", apart := false, narrowed := true }
def BundleSplitsUptoSaid : Prop := bundleSplitsUptoRow.holds Try.pinned (OpenSpec.upto bundleSplitsSpec)

/-- 'jetonlaw02.BundleJoins', WHERE WHAT IT READS IS OF BULK AT MOST 1048576: true; the input reads as it did. -/
def bundleJoinsUptoRow : OpenClaim := { program := "ytegcnbomndeinaa", sum := "4839925d82721a531b34da1359bf90ebab64638d6c6e24d17f640334dae092be", func := "jeton/jetonlaw02.BundleJoins", spec := "bundleJoins", apart := false, narrowed := true }
def BundleJoinsUptoSaid : Prop := bundleJoinsUptoRow.holds Try.pinned (OpenSpec.upto bundleJoinsSpec)

/-- 'jetonlaw02.BundleBack', WHERE WHAT IT READS IS OF BULK AT MOST 1048576: true; the input reads as it did. -/
def bundleBackUptoRow : OpenClaim := { program := "ytegcnbomndeinaa", sum := "4839925d82721a531b34da1359bf90ebab64638d6c6e24d17f640334dae092be", func := "jeton/jetonlaw02.BundleBack", spec := "bundleBack", apart := false, narrowed := true }
def BundleBackUptoSaid : Prop := bundleBackUptoRow.holds Try.pinned (OpenSpec.upto bundleBackSpec)

/-- 'jetonlaw02.BundleSums', WHERE WHAT IT READS IS OF BULK AT MOST 1048576: true; the input reads as it did. -/
def bundleSumsUptoRow : OpenClaim := { program := "ytegcnbomndeinaa", sum := "4839925d82721a531b34da1359bf90ebab64638d6c6e24d17f640334dae092be", func := "jeton/jetonlaw02.BundleSums", spec := "bundleSums", apart := false, narrowed := true }
def BundleSumsUptoSaid : Prop := bundleSumsUptoRow.holds Try.pinned (OpenSpec.upto bundleSumsSpec)

/-- 'jetonlaw02.BundleOrder', WHERE WHAT IT READS IS OF BULK AT MOST 1048576: true; the input reads as it did. -/
def bundleOrderUptoRow : OpenClaim := { program := "ytegcnbomndeinaa", sum := "4839925d82721a531b34da1359bf90ebab64638d6c6e24d17f640334dae092be", func := "jeton/jetonlaw02.BundleOrder", spec := "bundleOrder", apart := false, narrowed := true }
def BundleOrderUptoSaid : Prop := bundleOrderUptoRow.holds Try.pinned (OpenSpec.upto bundleOrderSpec)

/-- 'jetonlaw02.BundleAll', WHERE WHAT IT READS IS OF BULK AT MOST 1048576: true; the input reads as it did. -/
def bundleAllUptoRow : OpenClaim := { program := "ytegcnbomndeinaa", sum := "4839925d82721a531b34da1359bf90ebab64638d6c6e24d17f640334dae092be", func := "jeton/jetonlaw02.BundleAll", spec := "bundleAll", apart := false, narrowed := true }
def BundleAllUptoSaid : Prop := bundleAllUptoRow.holds Try.pinned (OpenSpec.upto bundleAllSpec)

end Rows
end Go.Proofs.Ytegcnbomndeinaa
