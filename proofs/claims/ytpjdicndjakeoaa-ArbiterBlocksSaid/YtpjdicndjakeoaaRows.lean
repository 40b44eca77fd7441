/-
  No cell of these rows narrows 'for every input' (looked for: loops, veiled, ifaces, maps, wideKeys, modest, calm, conditions, laid).
  DERIVED. THE GIVEN ROWS OF THIS SEAT. 6 by the template 'for every input the law returns true; each argument reads behind the call as it read before'; 0 by the template 'total and deterministic' (their statements: YtpjdicndjakeoaaTotals.lean).
  GIVEN WITH THE SEED: the statements are not yours to turn. If you find one false, say at which input.
  Laid BY PROGRAM, IN A SANDBOX (cutbox-rows.mjs): the forced cells as the released guide's own fill.sh prints them over the translation 9c124a8905dda55b… (all of the seat's roots in one cut). By AI agents, Wed Nov 11 2026. No macro, syntax, notation, axiom, sorry.
-/
import Derived.Test.YtpjdicndjakeoaaChecked
import GoSem.Claim
import GoSem.ClaimJoined
import GoSem.ClaimMapViews
import Derived.JoinedTies
import Derived.KernelRfl
namespace Go.Proofs.Ytpjdicndjakeoaa
/- THE CELL 'sum', in the pinned program and in every row, IS THE sha256 OF THE DUMP (.gsa) THAT YtpjdicndjakeoaaProg.lean LOADS. Nothing in Lean hashes anything: it is a label: what it is worth is what the hold of that sum in a sandbox is worth. -/
noncomputable def Try.pinned : Pinned := { name := "ytpjdicndjakeoaa", sum := "9c124a8905dda55b779e092d6e299876b6fe102d1a0b8421b068122abed61120", checked := Try.checked }
namespace Rows
def none {H : Type} : Left H := { results := [], args := [] }

/-- 'jetonlaw12.ArbiterServes': WHATEVER THE INPUT: true; the input reads as it did. -/
def arbiterServesSpec : ChangeSpec := { name := "arbiterServes", fn := fun _ => fun
  | [d1, d2] => { results := [.lit (.bool true)], args := [d1, d2] }
  | _ => none }
def arbiterServesRow : OpenClaim := { program := "ytpjdicndjakeoaa", sum := "9c124a8905dda55b779e092d6e299876b6fe102d1a0b8421b068122abed61120", func := "jeton/jetonlaw12.ArbiterServes", spec := "arbiterServes", apart := false }
def ArbiterServesSaid : Prop := arbiterServesRow.holds Try.pinned (OpenSpec.ofChange arbiterServesSpec)

/-- ITS FALSE NEIGHBOUR: 'it returns false'. Refute it at one input. -/
def arbiterServesWrong : ChangeSpec := { name := "arbiterServes", fn := fun _ => fun
  | [d1, d2] => { results := [.lit (.bool false)], args := [d1, d2] }
  | _ => none }
def ArbiterServesWrongFalsely : Prop := arbiterServesRow.holds Try.pinned (OpenSpec.ofChange arbiterServesWrong)

/-- 'jetonlaw12.ArbiterOnce': WHATEVER THE INPUT: true; the input reads as it did. -/
def arbiterOnceSpec : ChangeSpec := { name := "arbiterOnce", fn := fun _ => fun
  | [d1, d2] => { results := [.lit (.bool true)], args := [d1, d2] }
  | _ => none }
def arbiterOnceRow : OpenClaim := { program := "ytpjdicndjakeoaa", sum := "9c124a8905dda55b779e092d6e299876b6fe102d1a0b8421b068122abed61120", func := "jeton/jetonlaw12.ArbiterOnce", spec := "arbiterOnce", apart := false }
def ArbiterOnceSaid : Prop := arbiterOnceRow.holds Try.pinned (OpenSpec.ofChange arbiterOnceSpec)

/-- ITS FALSE NEIGHBOUR: 'it returns false'. Refute it at one input. -/
def arbiterOnceWrong : ChangeSpec := { name := "arbiterOnce", fn := fun _ => fun
  | [d1, d2] => { results := [.lit (.bool false)], args := [d1, d2] }
  | _ => none }
def ArbiterOnceWrongFalsely : Prop := arbiterOnceRow.holds Try.pinned (OpenSpec.ofChange arbiterOnceWrong)

/-- 'jetonlaw12.ArbiterNothing': WHATEVER THE INPUT: true; the input reads as it did. -/
def arbiterNothingSpec : ChangeSpec := { name := "arbiterNothing", fn := fun _ => fun
  | [d1, d2] => { results := [.lit (.bool true)], args := [d1, d2] }
  | _ => none }
def arbiterNothingRow : OpenClaim := { program := "ytpjdicndjakeoaa", sum := "9c124a8905dda55b779e092d6e299876b6fe102d1a0b8421b068122abed61120", func := "jeton/jetonlaw12.ArbiterNothing", spec := "arbiterNothing", apart := false }
def ArbiterNothingSaid : Prop := arbiterNothingRow.holds Try.pinned (OpenSpec.ofChange arbiterNothingSpec)

/-- ITS FALSE NEIGHBOUR: 'it returns false'. Refute it at one input. -/
def arbiterNothingWrong : ChangeSpec := { name := "arbiterNothing", fn := fun _ => fun
  | [d1, d2] => { results := [.lit (.bool false)], args := [d1, d2] }
  | _ => none }
def ArbiterNothingWrongFalsely : Prop := arbiterNothingRow.holds Try.pinned (OpenSpec.ofChange arbiterNothingWrong)

/-- 'jetonlaw12.ArbiterBlocks': WHATEVER THE INPUT: true; the input reads as it did. -/
def arbiterBlocksSpec : ChangeSpec := { name := "arbiterBlocks", fn := fun _ => fun
  | [d1, d2, d3] => { results := [.lit (.bool true)], args := [d1, d2, d3] }
  | _ => none }
def arbiterBlocksRow : OpenClaim := { program := "ytpjdicndjakeoaa", sum := "9c124a8905dda55b779e092d6e299876b6fe102d1a0b8421b068122abed61120", func := "jeton/jetonlaw12.ArbiterBlocks", spec := "arbiterBlocks", apart := false }
def ArbiterBlocksSaid : Prop := arbiterBlocksRow.holds Try.pinned (OpenSpec.ofChange arbiterBlocksSpec)

/-- ITS FALSE NEIGHBOUR: 'it returns false'. Refute it at one input. -/
def arbiterBlocksWrong : ChangeSpec := { name := "arbiterBlocks", fn := fun _ => fun
  | [d1, d2, d3] => { results := [.lit (.bool false)], args := [d1, d2, d3] }
  | _ => none }
def ArbiterBlocksWrongFalsely : Prop := arbiterBlocksRow.holds Try.pinned (OpenSpec.ofChange arbiterBlocksWrong)

/-- 'jetonlaw12.ArbiterPlays': WHATEVER THE INPUT: true; the input reads as it did. -/
def arbiterPlaysSpec : ChangeSpec := { name := "arbiterPlays", fn := fun _ => fun
  | [d1, d2, d3] => { results := [.lit (.bool true)], args := [d1, d2, d3] }
  | _ => none }
def arbiterPlaysRow : OpenClaim := { program := "ytpjdicndjakeoaa", sum := "9c124a8905dda55b779e092d6e299876b6fe102d1a0b8421b068122abed61120", func := "jeton/jetonlaw12.ArbiterPlays", spec := "arbiterPlays", apart := false }
def ArbiterPlaysSaid : Prop := arbiterPlaysRow.holds Try.pinned (OpenSpec.ofChange arbiterPlaysSpec)

/-- ITS FALSE NEIGHBOUR: 'it returns false'. Refute it at one input. -/
def arbiterPlaysWrong : ChangeSpec := { name := "arbiterPlays", fn := fun _ => fun
  | [d1, d2, d3] => { results := [.lit (.bool false)], args := [d1, d2, d3] }
  | _ => none }
def ArbiterPlaysWrongFalsely : Prop := arbiterPlaysRow.holds Try.pinned (OpenSpec.ofChange arbiterPlaysWrong)

/-- 'jetonlaw12.ArbiterCopies': WHATEVER THE INPUT: true; the input reads as it did. -/
def arbiterCopiesSpec : ChangeSpec := { name := "arbiterCopies", fn := fun _ => fun
  | [d1, d2, d3] => { results := [.lit (.bool true)], args := [d1, d2, d3] }
  | _ => none }
def arbiterCopiesRow : OpenClaim := { program := "ytpjdicndjakeoaa", sum := "9c124a8905dda55b779e092d6e299876b6fe102d1a0b8421b068122abed61120", func := "jeton/jetonlaw12.ArbiterCopies", spec := "arbiterCopies", apart := false }
def ArbiterCopiesSaid : Prop := arbiterCopiesRow.holds Try.pinned (OpenSpec.ofChange arbiterCopiesSpec)

/-- ITS FALSE NEIGHBOUR: 'it returns false'. Refute it at one input. -/
def arbiterCopiesWrong : ChangeSpec := { name := "arbiterCopies", fn := fun _ => fun
  | [d1, d2, d3] => { results := [.lit (.bool false)], args := [d1, d2, d3] }
  | _ => none }
def ArbiterCopiesWrongFalsely : Prop := arbiterCopiesRow.holds Try.pinned (OpenSpec.ofChange arbiterCopiesWrong)

/- THE SECOND FORM. 'bulk': how many values and letters a reading holds, each counted each time it is reached (what is shared counts as often as it is met; a slice's spare places count too). A statement '..UptoSaid' is the law's where the arguments, and the package variables that the reading takes, are together of bulk at most 1048576: NARROWER than '..Said'. Prove '..Said' where nothing that the law and all that it calls make is longer than what came in: it says more and counts as full. Else prove '..UptoSaid'. A law counts once. -/
mutual
def uptoBulk {H : Type} : DataW H → Nat
  | .lit (.string bytes) => bytes.length + 1
  | .lit _ => 1
  | .nil => 1
  | .ptr d => uptoBulk d + 1
  | .slice elems spare => uptoBulkAll elems + uptoBulkAll spare + 1
  | .agg parts => uptoBulkAll parts + 1
  | .iface _ d => uptoBulk d + 1
  | .map entries => uptoBulkEntries entries + 1
  | .held _ => 1
def uptoBulkAll {H : Type} : List (DataW H) → Nat
  | [] => 0
  | d :: r => uptoBulk d + uptoBulkAll r
def uptoBulkEntries {H : Type} : List (Lit × DataW H) → Nat
  | [] => 0
  | x :: r => uptoBulkEntry x + uptoBulkEntries r
def uptoBulkEntry {H : Type} : Lit × DataW H → Nat
  | (.string bytes, d) => bytes.length + uptoBulk d + 1
  | (_, d) => uptoBulk d + 1
 end
def uptoSmall : (H : Type) → List (DataW H) → Bool := fun _ ds => decide (uptoBulkAll ds ≤ 1048576)
def OpenSpec.upto (s : _root_.Go.ChangeSpec) : _root_.Go.OpenSpec := { _root_.Go.OpenSpec.ofChange s with cond := some uptoSmall }

/-- 'jetonlaw12.ArbiterServes', WHERE WHAT IT READS IS OF BULK AT MOST 1048576: true; the input reads as it did. -/
def arbiterServesUptoRow : OpenClaim := { program := "ytpjdicndjakeoaa", sum := "9c124a8905dda55b779e092d6e299876b6fe102d1a0b8421b068122abed61120", func := "jeton/jetonlaw12.ArbiterServes", spec := "arbiterServes", apart := false, narrowed := true }
def ArbiterServesUptoSaid : Prop := arbiterServesUptoRow.holds Try.pinned (OpenSpec.upto arbiterServesSpec)

/-- 'jetonlaw12.ArbiterOnce', WHERE WHAT IT READS IS OF BULK AT MOST 1048576: true; the input reads as it did. -/
def arbiterOnceUptoRow : OpenClaim := { program := "ytpjdicndjakeoaa", sum := "9c124a8905dda55b779e092d6e299876b6fe102d1a0b8421b068122abed61120", func := "jeton/jetonlaw12.ArbiterOnce", spec := "arbiterOnce", apart := false, narrowed := true }
def ArbiterOnceUptoSaid : Prop := arbiterOnceUptoRow.holds Try.pinned (OpenSpec.upto arbiterOnceSpec)

/-- 'jetonlaw12.ArbiterNothing', WHERE WHAT IT READS IS OF BULK AT MOST 1048576: true; the input reads as it did. -/
def arbiterNothingUptoRow : OpenClaim := { program := "ytpjdicndjakeoaa", sum := "9c124a8905dda55b779e092d6e299876b6fe102d1a0b8421b068122abed61120", func := "jeton/jetonlaw12.ArbiterNothing", spec := "arbiterNothing", apart := false, narrowed := true }
def ArbiterNothingUptoSaid : Prop := arbiterNothingUptoRow.holds Try.pinned (OpenSpec.upto arbiterNothingSpec)

/-- 'jetonlaw12.ArbiterBlocks', WHERE WHAT IT READS IS OF BULK AT MOST 1048576: true; the input reads as it did. -/
def arbiterBlocksUptoRow : OpenClaim := { program := "ytpjdicndjakeoaa", sum := "9c124a8905dda55b779e092d6e299876b6fe102d1a0b8421b068122abed61120", func := "jeton/jetonlaw12.ArbiterBlocks", spec := "arbiterBlocks", apart := false, narrowed := true }
def ArbiterBlocksUptoSaid : Prop := arbiterBlocksUptoRow.holds Try.pinned (OpenSpec.upto arbiterBlocksSpec)

/-- 'jetonlaw12.ArbiterPlays', WHERE WHAT IT READS IS OF BULK AT MOST 1048576: true; the input reads as it did. -/
def arbiterPlaysUptoRow : OpenClaim := { program := "ytpjdicndjakeoaa", sum := "9c124a8905dda55b779e092d6e299876b6fe102d1a0b8421b068122abed61120", func := "jeton/jetonlaw12.ArbiterPlays", spec := "arbiterPlays", apart := false, narrowed := true }
def ArbiterPlaysUptoSaid : Prop := arbiterPlaysUptoRow.holds Try.pinned (OpenSpec.upto arbiterPlaysSpec)

/-- 'jetonlaw12.ArbiterCopies', WHERE WHAT IT READS IS OF BULK AT MOST 1048576: true; the input reads as it did. -/
def arbiterCopiesUptoRow : OpenClaim := { program := "ytpjdicndjakeoaa", sum := "9c124a8905dda55b779e092d6e299876b6fe102d1a0b8421b068122abed61120", func := "jeton/jetonlaw12.ArbiterCopies", spec := "arbiterCopies", apart := false, narrowed := true }
def ArbiterCopiesUptoSaid : Prop := arbiterCopiesUptoRow.holds Try.pinned (OpenSpec.upto arbiterCopiesSpec)

end Rows
end Go.Proofs.Ytpjdicndjakeoaa
