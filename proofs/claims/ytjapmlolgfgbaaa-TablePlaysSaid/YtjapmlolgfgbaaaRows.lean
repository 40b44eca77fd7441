/-
  No cell of these rows narrows 'for every input' (looked for: loops, veiled, ifaces, maps, wideKeys, modest, calm, conditions, laid).
  DERIVED. THE GIVEN ROWS OF THIS SEAT. 5 by the template 'for every input the law returns true; each argument reads behind the call as it read before'; 0 by the template 'total and deterministic' (their statements: YtjapmlolgfgbaaaTotals.lean).
  GIVEN WITH THE SEED: the statements are not yours to turn. If you find one false, say at which input.
  Laid BY PROGRAM, IN A SANDBOX (cutbox-rows.mjs): the forced cells as the released guide's own fill.sh prints them over the translation ae9d071c368af5f7… (all of the seat's roots in one cut). By AI agents, Wed Nov 11 2026. No macro, syntax, notation, axiom, sorry.
-/
import Derived.Test.YtjapmlolgfgbaaaChecked
import GoSem.Claim
import GoSem.ClaimJoined
import GoSem.ClaimMapViews
import Derived.JoinedTies
import Derived.KernelRfl
namespace Go.Proofs.Ytjapmlolgfgbaaa
/- THE CELL 'sum', in the pinned program and in every row, IS THE sha256 OF THE DUMP (.gsa) THAT YtjapmlolgfgbaaaProg.lean LOADS. Nothing in Lean hashes anything: it is a label: what it is worth is what the hold of that sum in a sandbox is worth. -/
noncomputable def Try.pinned : Pinned := { name := "ytjapmlolgfgbaaa", sum := "ae9d071c368af5f7d5df9a7be9fb10fc66b5449f7c0a3bd98bda34cb971bda71", checked := Try.checked }
namespace Rows
def none {H : Type} : Left H := { results := [], args := [] }

/-- 'jetonlaw11.TableStale': WHATEVER THE INPUT: true; the input reads as it did. -/
def tableStaleSpec : ChangeSpec := { name := "tableStale", fn := fun _ => fun
  | [d1, d2, d3] => { results := [.lit (.bool true)], args := [d1, d2, d3] }
  | _ => none }
def tableStaleRow : OpenClaim := { program := "ytjapmlolgfgbaaa", sum := "ae9d071c368af5f7d5df9a7be9fb10fc66b5449f7c0a3bd98bda34cb971bda71", func := "jeton/jetonlaw11.TableStale", spec := "tableStale", unfollowed := true, recurses := true, apart := false }
def TableStaleSaid : Prop := tableStaleRow.holds Try.pinned (OpenSpec.ofChange tableStaleSpec)

/-- ITS FALSE NEIGHBOUR: 'it returns false'. Refute it at one input. -/
def tableStaleWrong : ChangeSpec := { name := "tableStale", fn := fun _ => fun
  | [d1, d2, d3] => { results := [.lit (.bool false)], args := [d1, d2, d3] }
  | _ => none }
def TableStaleWrongFalsely : Prop := tableStaleRow.holds Try.pinned (OpenSpec.ofChange tableStaleWrong)

/-- 'jetonlaw11.TableOne': WHATEVER THE INPUT: true; the input reads as it did. -/
def tableOneSpec : ChangeSpec := { name := "tableOne", fn := fun _ => fun
  | [d] => { results := [.lit (.bool true)], args := [d] }
  | _ => none }
def tableOneRow : OpenClaim := { program := "ytjapmlolgfgbaaa", sum := "ae9d071c368af5f7d5df9a7be9fb10fc66b5449f7c0a3bd98bda34cb971bda71", func := "jeton/jetonlaw11.TableOne", spec := "tableOne", unfollowed := true, recurses := true, apart := false }
def TableOneSaid : Prop := tableOneRow.holds Try.pinned (OpenSpec.ofChange tableOneSpec)

/-- ITS FALSE NEIGHBOUR: 'it returns false'. Refute it at one input. -/
def tableOneWrong : ChangeSpec := { name := "tableOne", fn := fun _ => fun
  | [d] => { results := [.lit (.bool false)], args := [d] }
  | _ => none }
def TableOneWrongFalsely : Prop := tableOneRow.holds Try.pinned (OpenSpec.ofChange tableOneWrong)

/-- 'jetonlaw11.TableBlocks': WHATEVER THE INPUT: true; the input reads as it did. -/
def tableBlocksSpec : ChangeSpec := { name := "tableBlocks", fn := fun _ => fun
  | [d1, d2] => { results := [.lit (.bool true)], args := [d1, d2] }
  | _ => none }
def tableBlocksRow : OpenClaim := { program := "ytjapmlolgfgbaaa", sum := "ae9d071c368af5f7d5df9a7be9fb10fc66b5449f7c0a3bd98bda34cb971bda71", func := "jeton/jetonlaw11.TableBlocks", spec := "tableBlocks", unfollowed := true, recurses := true, apart := false }
def TableBlocksSaid : Prop := tableBlocksRow.holds Try.pinned (OpenSpec.ofChange tableBlocksSpec)

/-- ITS FALSE NEIGHBOUR: 'it returns false'. Refute it at one input. -/
def tableBlocksWrong : ChangeSpec := { name := "tableBlocks", fn := fun _ => fun
  | [d1, d2] => { results := [.lit (.bool false)], args := [d1, d2] }
  | _ => none }
def TableBlocksWrongFalsely : Prop := tableBlocksRow.holds Try.pinned (OpenSpec.ofChange tableBlocksWrong)

/-- 'jetonlaw11.TablePlays': WHATEVER THE INPUT: true; the input reads as it did. -/
def tablePlaysSpec : ChangeSpec := { name := "tablePlays", fn := fun _ => fun
  | [d1, d2] => { results := [.lit (.bool true)], args := [d1, d2] }
  | _ => none }
def tablePlaysRow : OpenClaim := { program := "ytjapmlolgfgbaaa", sum := "ae9d071c368af5f7d5df9a7be9fb10fc66b5449f7c0a3bd98bda34cb971bda71", func := "jeton/jetonlaw11.TablePlays", spec := "tablePlays", inPlace := ["maps.clone"], unfollowed := true, recurses := true, apart := false }
def TablePlaysSaid : Prop := tablePlaysRow.holds Try.pinned (OpenSpec.ofChange tablePlaysSpec)

/-- ITS FALSE NEIGHBOUR: 'it returns false'. Refute it at one input. -/
def tablePlaysWrong : ChangeSpec := { name := "tablePlays", fn := fun _ => fun
  | [d1, d2] => { results := [.lit (.bool false)], args := [d1, d2] }
  | _ => none }
def TablePlaysWrongFalsely : Prop := tablePlaysRow.holds Try.pinned (OpenSpec.ofChange tablePlaysWrong)

/-- 'jetonlaw11.TableCopies': WHATEVER THE INPUT: true; the input reads as it did. -/
def tableCopiesSpec : ChangeSpec := { name := "tableCopies", fn := fun _ => fun
  | [d1, d2] => { results := [.lit (.bool true)], args := [d1, d2] }
  | _ => none }
def tableCopiesRow : OpenClaim := { program := "ytjapmlolgfgbaaa", sum := "ae9d071c368af5f7d5df9a7be9fb10fc66b5449f7c0a3bd98bda34cb971bda71", func := "jeton/jetonlaw11.TableCopies", spec := "tableCopies", inPlace := ["maps.clone"], unfollowed := true, recurses := true, apart := false }
def TableCopiesSaid : Prop := tableCopiesRow.holds Try.pinned (OpenSpec.ofChange tableCopiesSpec)

/-- ITS FALSE NEIGHBOUR: 'it returns false'. Refute it at one input. -/
def tableCopiesWrong : ChangeSpec := { name := "tableCopies", fn := fun _ => fun
  | [d1, d2] => { results := [.lit (.bool false)], args := [d1, d2] }
  | _ => none }
def TableCopiesWrongFalsely : Prop := tableCopiesRow.holds Try.pinned (OpenSpec.ofChange tableCopiesWrong)

/- THE SECOND FORM. 'bulk': how many values and letters a reading holds, each counted each time it is reached (what is shared counts as often as it is met; a slice's spare places count too). A statement '..UptoSaid' is the law's where the arguments, and the package variables that the reading takes, are together of bulk at most 1048576: NARROWER than '..Said'. Prove '..Said' where nothing that the law and all that it calls make is longer than what came in: it says more and counts as full. Else prove '..UptoSaid'. A law counts once. -/
mutual
def uptoBulk {H : Type} : DataW H → Nat
  | .lit (.string bytes) => bytes.length + 1
  | .lit _ => 1
  | .nil => 1
  | .ptr d => uptoBulk d + 1
  | .slice elems spare => uptoBulkAll elems + uptoBulkAll spare + 1
  | .agg parts => uptoBulkAll parts + 1
  | .iface _ d => uptoBulk d + 1
  | .map entries => uptoBulkEntries entries + 1
  | .held _ => 1
def uptoBulkAll {H : Type} : List (DataW H) → Nat
  | [] => 0
  | d :: r => uptoBulk d + uptoBulkAll r
def uptoBulkEntries {H : Type} : List (Lit × DataW H) → Nat
  | [] => 0
  | x :: r => uptoBulkEntry x + uptoBulkEntries r
def uptoBulkEntry {H : Type} : Lit × DataW H → Nat
  | (.string bytes, d) => bytes.length + uptoBulk d + 1
  | (_, d) => uptoBulk d + 1
 end
def uptoSmall : (H : Type) → List (DataW H) → Bool := fun _ ds => decide (uptoBulkAll ds ≤ 1048576)
def OpenSpec.upto (s : _root_.Go.ChangeSpec) : _root_.Go.OpenSpec := { _root_.Go.OpenSpec.ofChange s with cond := some uptoSmall }

/-- 'jetonlaw11.TableStale', WHERE WHAT IT READS IS OF BULK AT MOST 1048576: true; the input reads as it did. -/
def tableStaleUptoRow : OpenClaim := { program := "ytjapmlolgfgbaaa", sum := "ae9d071c368af5f7d5df9a7be9fb10fc66b5449f7c0a3bd98bda34cb971bda71", func := "jeton/jetonlaw11.TableStale", spec := "tableStale", unfollowed := true, recurses := true, apart := false, narrowed := true }
def TableStaleUptoSaid : Prop := tableStaleUptoRow.holds Try.pinned (OpenSpec.upto tableStaleSpec)

/-- 'jetonlaw11.TableOne', WHERE WHAT IT READS IS OF BULK AT MOST 1048576: true; the input reads as it did. -/
def tableOneUptoRow : OpenClaim := { program := "ytjapmlolgfgbaaa", sum := "ae9d071c368af5f7d5df9a7be9fb10fc66b5449f7c0a3bd98bda34cb971bda71", func := "jeton/jetonlaw11.TableOne", spec := "tableOne", unfollowed := true, recurses := true, apart := false, narrowed := true }
def TableOneUptoSaid : Prop := tableOneUptoRow.holds Try.pinned (OpenSpec.upto tableOneSpec)

/-- 'jetonlaw11.TableBlocks', WHERE WHAT IT READS IS OF BULK AT MOST 1048576: true; the input reads as it did. -/
def tableBlocksUptoRow : OpenClaim := { program := "ytjapmlolgfgbaaa", sum := "ae9d071c368af5f7d5df9a7be9fb10fc66b5449f7c0a3bd98bda34cb971bda71", func := "jeton/jetonlaw11.TableBlocks", spec := "tableBlocks", unfollowed := true, recurses := true, apart := false, narrowed := true }
def TableBlocksUptoSaid : Prop := tableBlocksUptoRow.holds Try.pinned (OpenSpec.upto tableBlocksSpec)

/-- 'jetonlaw11.TablePlays', WHERE WHAT IT READS IS OF BULK AT MOST 1048576: true; the input reads as it did. -/
def tablePlaysUptoRow : OpenClaim := { program := "ytjapmlolgfgbaaa", sum := "ae9d071c368af5f7d5df9a7be9fb10fc66b5449f7c0a3bd98bda34cb971bda71", func := "jeton/jetonlaw11.TablePlays", spec := "tablePlays", inPlace := ["maps.clone"], unfollowed := true, recurses := true, apart := false, narrowed := true }
def TablePlaysUptoSaid : Prop := tablePlaysUptoRow.holds Try.pinned (OpenSpec.upto tablePlaysSpec)

/-- 'jetonlaw11.TableCopies', WHERE WHAT IT READS IS OF BULK AT MOST 1048576: true; the input reads as it did. -/
def tableCopiesUptoRow : OpenClaim := { program := "ytjapmlolgfgbaaa", sum := "ae9d071c368af5f7d5df9a7be9fb10fc66b5449f7c0a3bd98bda34cb971bda71", func := "jeton/jetonlaw11.TableCopies", spec := "tableCopies", inPlace := ["maps.clone"], unfollowed := true, recurses := true, apart := false, narrowed := true }
def TableCopiesUptoSaid : Prop := tableCopiesUptoRow.holds Try.pinned (OpenSpec.upto tableCopiesSpec)

end Rows
end Go.Proofs.Ytjapmlolgfgbaaa
