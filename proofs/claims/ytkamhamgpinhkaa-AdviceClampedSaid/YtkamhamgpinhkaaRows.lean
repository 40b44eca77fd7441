/-
  No cell of these rows narrows 'for every input' (looked for: loops, veiled, ifaces, maps, wideKeys, modest, calm, conditions, laid).
  DERIVED. THE GIVEN ROWS OF THIS SEAT. 5 by the template 'for every input the law returns true; each argument reads behind the call as it read before'; 0 by the template 'total and deterministic' (their statements: YtkamhamgpinhkaaTotals.lean).
  GIVEN WITH THE SEED: the statements are not yours to turn. If you find one false, say at which input.
  Laid BY PROGRAM, IN A SANDBOX (cutbox-rows.mjs): the forced cells as the released guide's own fill.sh prints them over the translation 188114aa14b36e58… (all of the seat's roots in one cut). By AI agents, Wed Nov 11 2026. No macro, syntax, notation, axiom, sorry.
-/
import Derived.Test.YtkamhamgpinhkaaChecked
import GoSem.Claim
import GoSem.ClaimJoined
import GoSem.ClaimMapViews
import Derived.JoinedTies
import Derived.KernelRfl
namespace Go.Proofs.Ytkamhamgpinhkaa
/- THE CELL 'sum', in the pinned program and in every row, IS THE sha256 OF THE DUMP (.gsa) THAT YtkamhamgpinhkaaProg.lean LOADS. Nothing in Lean hashes anything: it is a label: what it is worth is what the hold of that sum in a sandbox is worth. -/
noncomputable def Try.pinned : Pinned := { name := "ytkamhamgpinhkaa", sum := "188114aa14b36e58b8217558bb84cb9a16df042e3212b2e71bc7a01d08125cbe", checked := Try.checked }
namespace Rows
def none {H : Type} : Left H := { results := [], args := [] }

/-- 'jetonlaw13.AdviceTargets': WHATEVER THE INPUT: true; the input reads as it did. -/
def adviceTargetsSpec : ChangeSpec := { name := "adviceTargets", fn := fun _ => fun
  | [d1, d2, d3] => { results := [.lit (.bool true)], args := [d1, d2, d3] }
  | _ => none }
def adviceTargetsRow : OpenClaim := { program := "ytkamhamgpinhkaa", sum := "188114aa14b36e58b8217558bb84cb9a16df042e3212b2e71bc7a01d08125cbe", func := "jeton/jetonlaw13.AdviceTargets", spec := "adviceTargets", apart := false }
def AdviceTargetsSaid : Prop := adviceTargetsRow.holds Try.pinned (OpenSpec.ofChange adviceTargetsSpec)

/-- ITS FALSE NEIGHBOUR: 'it returns false'. Refute it at one input. -/
def adviceTargetsWrong : ChangeSpec := { name := "adviceTargets", fn := fun _ => fun
  | [d1, d2, d3] => { results := [.lit (.bool false)], args := [d1, d2, d3] }
  | _ => none }
def AdviceTargetsWrongFalsely : Prop := adviceTargetsRow.holds Try.pinned (OpenSpec.ofChange adviceTargetsWrong)

/-- 'jetonlaw13.AdviceReplies': WHATEVER THE INPUT: true; the input reads as it did. -/
def adviceRepliesSpec : ChangeSpec := { name := "adviceReplies", fn := fun _ => fun
  | [d1, d2, d3] => { results := [.lit (.bool true)], args := [d1, d2, d3] }
  | _ => none }
def adviceRepliesRow : OpenClaim := { program := "ytkamhamgpinhkaa", sum := "188114aa14b36e58b8217558bb84cb9a16df042e3212b2e71bc7a01d08125cbe", func := "jeton/jetonlaw13.AdviceReplies", spec := "adviceReplies", apart := false }
def AdviceRepliesSaid : Prop := adviceRepliesRow.holds Try.pinned (OpenSpec.ofChange adviceRepliesSpec)

/-- ITS FALSE NEIGHBOUR: 'it returns false'. Refute it at one input. -/
def adviceRepliesWrong : ChangeSpec := { name := "adviceReplies", fn := fun _ => fun
  | [d1, d2, d3] => { results := [.lit (.bool false)], args := [d1, d2, d3] }
  | _ => none }
def AdviceRepliesWrongFalsely : Prop := adviceRepliesRow.holds Try.pinned (OpenSpec.ofChange adviceRepliesWrong)

/-- 'jetonlaw13.AdviceAsks': WHATEVER THE INPUT: true; the input reads as it did. -/
def adviceAsksSpec : ChangeSpec := { name := "adviceAsks", fn := fun _ => fun
  | [d1, d2, d3] => { results := [.lit (.bool true)], args := [d1, d2, d3] }
  | _ => none }
def adviceAsksRow : OpenClaim := { program := "ytkamhamgpinhkaa", sum := "188114aa14b36e58b8217558bb84cb9a16df042e3212b2e71bc7a01d08125cbe", func := "jeton/jetonlaw13.AdviceAsks", spec := "adviceAsks", apart := false }
def AdviceAsksSaid : Prop := adviceAsksRow.holds Try.pinned (OpenSpec.ofChange adviceAsksSpec)

/-- ITS FALSE NEIGHBOUR: 'it returns false'. Refute it at one input. -/
def adviceAsksWrong : ChangeSpec := { name := "adviceAsks", fn := fun _ => fun
  | [d1, d2, d3] => { results := [.lit (.bool false)], args := [d1, d2, d3] }
  | _ => none }
def AdviceAsksWrongFalsely : Prop := adviceAsksRow.holds Try.pinned (OpenSpec.ofChange adviceAsksWrong)

/-- 'jetonlaw13.AdviceDraws': WHATEVER THE INPUT: true; the input reads as it did. -/
def adviceDrawsSpec : ChangeSpec := { name := "adviceDraws", fn := fun _ => fun
  | [d1, d2, d3] => { results := [.lit (.bool true)], args := [d1, d2, d3] }
  | _ => none }
def adviceDrawsRow : OpenClaim := { program := "ytkamhamgpinhkaa", sum := "188114aa14b36e58b8217558bb84cb9a16df042e3212b2e71bc7a01d08125cbe", func := "jeton/jetonlaw13.AdviceDraws", spec := "adviceDraws", apart := false }
def AdviceDrawsSaid : Prop := adviceDrawsRow.holds Try.pinned (OpenSpec.ofChange adviceDrawsSpec)

/-- ITS FALSE NEIGHBOUR: 'it returns false'. Refute it at one input. -/
def adviceDrawsWrong : ChangeSpec := { name := "adviceDraws", fn := fun _ => fun
  | [d1, d2, d3] => { results := [.lit (.bool false)], args := [d1, d2, d3] }
  | _ => none }
def AdviceDrawsWrongFalsely : Prop := adviceDrawsRow.holds Try.pinned (OpenSpec.ofChange adviceDrawsWrong)

/-- 'jetonlaw13.AdviceClamped': WHATEVER THE INPUT: true; the input reads as it did. -/
def adviceClampedSpec : ChangeSpec := { name := "adviceClamped", fn := fun _ => fun
  | [d1, d2, d3] => { results := [.lit (.bool true)], args := [d1, d2, d3] }
  | _ => none }
def adviceClampedRow : OpenClaim := { program := "ytkamhamgpinhkaa", sum := "188114aa14b36e58b8217558bb84cb9a16df042e3212b2e71bc7a01d08125cbe", func := "jeton/jetonlaw13.AdviceClamped", spec := "adviceClamped", apart := false }
def AdviceClampedSaid : Prop := adviceClampedRow.holds Try.pinned (OpenSpec.ofChange adviceClampedSpec)

/-- ITS FALSE NEIGHBOUR: 'it returns false'. Refute it at one input. -/
def adviceClampedWrong : ChangeSpec := { name := "adviceClamped", fn := fun _ => fun
  | [d1, d2, d3] => { results := [.lit (.bool false)], args := [d1, d2, d3] }
  | _ => none }
def AdviceClampedWrongFalsely : Prop := adviceClampedRow.holds Try.pinned (OpenSpec.ofChange adviceClampedWrong)

/- THE SECOND FORM. 'bulk': how many values and letters a reading holds, each counted each time it is reached (what is shared counts as often as it is met; a slice's spare places count too). A statement '..UptoSaid' is the law's where the arguments, and the package variables that the reading takes, are together of bulk at most 1048576: NARROWER than '..Said'. Prove '..Said' where nothing that the law and all that it calls make is longer than what came in: it says more and counts as full. Else prove '..UptoSaid'. A law counts once. -/
mutual
def uptoBulk {H : Type} : DataW H → Nat
  | .lit (.string bytes) => bytes.length + 1
  | .lit _ => 1
  | .nil => 1
  | .ptr d => uptoBulk d + 1
  | .slice elems spare => uptoBulkAll elems + uptoBulkAll spare + 1
  | .agg parts => uptoBulkAll parts + 1
  | .iface _ d => uptoBulk d + 1
  | .map entries => uptoBulkEntries entries + 1
  | .held _ => 1
def uptoBulkAll {H : Type} : List (DataW H) → Nat
  | [] => 0
  | d :: r => uptoBulk d + uptoBulkAll r
def uptoBulkEntries {H : Type} : List (Lit × DataW H) → Nat
  | [] => 0
  | x :: r => uptoBulkEntry x + uptoBulkEntries r
def uptoBulkEntry {H : Type} : Lit × DataW H → Nat
  | (.string bytes, d) => bytes.length + uptoBulk d + 1
  | (_, d) => uptoBulk d + 1
 end
def uptoSmall : (H : Type) → List (DataW H) → Bool := fun _ ds => decide (uptoBulkAll ds ≤ 1048576)
def OpenSpec.upto (s : _root_.Go.ChangeSpec) : _root_.Go.OpenSpec := { _root_.Go.OpenSpec.ofChange s with cond := some uptoSmall }

/-- 'jetonlaw13.AdviceTargets', WHERE WHAT IT READS IS OF BULK AT MOST 1048576: true; the input reads as it did. -/
def adviceTargetsUptoRow : OpenClaim := { program := "ytkamhamgpinhkaa", sum := "188114aa14b36e58b8217558bb84cb9a16df042e3212b2e71bc7a01d08125cbe", func := "jeton/jetonlaw13.AdviceTargets", spec := "adviceTargets", apart := false, narrowed := true }
def AdviceTargetsUptoSaid : Prop := adviceTargetsUptoRow.holds Try.pinned (OpenSpec.upto adviceTargetsSpec)

/-- 'jetonlaw13.AdviceReplies', WHERE WHAT IT READS IS OF BULK AT MOST 1048576: true; the input reads as it did. -/
def adviceRepliesUptoRow : OpenClaim := { program := "ytkamhamgpinhkaa", sum := "188114aa14b36e58b8217558bb84cb9a16df042e3212b2e71bc7a01d08125cbe", func := "jeton/jetonlaw13.AdviceReplies", spec := "adviceReplies", apart := false, narrowed := true }
def AdviceRepliesUptoSaid : Prop := adviceRepliesUptoRow.holds Try.pinned (OpenSpec.upto adviceRepliesSpec)

/-- 'jetonlaw13.AdviceAsks', WHERE WHAT IT READS IS OF BULK AT MOST 1048576: true; the input reads as it did. -/
def adviceAsksUptoRow : OpenClaim := { program := "ytkamhamgpinhkaa", sum := "188114aa14b36e58b8217558bb84cb9a16df042e3212b2e71bc7a01d08125cbe", func := "jeton/jetonlaw13.AdviceAsks", spec := "adviceAsks", apart := false, narrowed := true }
def AdviceAsksUptoSaid : Prop := adviceAsksUptoRow.holds Try.pinned (OpenSpec.upto adviceAsksSpec)

/-- 'jetonlaw13.AdviceDraws', WHERE WHAT IT READS IS OF BULK AT MOST 1048576: true; the input reads as it did. -/
def adviceDrawsUptoRow : OpenClaim := { program := "ytkamhamgpinhkaa", sum := "188114aa14b36e58b8217558bb84cb9a16df042e3212b2e71bc7a01d08125cbe", func := "jeton/jetonlaw13.AdviceDraws", spec := "adviceDraws", apart := false, narrowed := true }
def AdviceDrawsUptoSaid : Prop := adviceDrawsUptoRow.holds Try.pinned (OpenSpec.upto adviceDrawsSpec)

/-- 'jetonlaw13.AdviceClamped', WHERE WHAT IT READS IS OF BULK AT MOST 1048576: true; the input reads as it did. -/
def adviceClampedUptoRow : OpenClaim := { program := "ytkamhamgpinhkaa", sum := "188114aa14b36e58b8217558bb84cb9a16df042e3212b2e71bc7a01d08125cbe", func := "jeton/jetonlaw13.AdviceClamped", spec := "adviceClamped", apart := false, narrowed := true }
def AdviceClampedUptoSaid : Prop := adviceClampedUptoRow.holds Try.pinned (OpenSpec.upto adviceClampedSpec)

end Rows
end Go.Proofs.Ytkamhamgpinhkaa
