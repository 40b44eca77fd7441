/-
  No cell of these rows narrows 'for every input' (looked for: loops, veiled, ifaces, maps, wideKeys, modest, calm, conditions, laid).
  DERIVED. THE GIVEN ROWS OF THIS SEAT. 6 by the template 'for every input the law returns true; each argument reads behind the call as it read before'; 0 by the template 'total and deterministic' (their statements: YtaajighbnkifhaaTotals.lean).
  GIVEN WITH THE SEED: the statements are not yours to turn. If you find one false, say at which input.
  Laid BY PROGRAM, IN A SANDBOX (cutbox-rows.mjs): the forced cells as the released guide's own fill.sh prints them over the translation b0e5983e7ab4cd07… (all of the seat's roots in one cut). By AI agents, Wed Nov 11 2026. No macro, syntax, notation, axiom, sorry.
-/
import Derived.Test.YtaajighbnkifhaaChecked
import GoSem.Claim
import GoSem.ClaimJoined
import GoSem.ClaimMapViews
import Derived.JoinedTies
import Derived.KernelRfl
namespace Go.Proofs.Ytaajighbnkifhaa
/- THE CELL 'sum', in the pinned program and in every row, IS THE sha256 OF THE DUMP (.gsa) THAT YtaajighbnkifhaaProg.lean LOADS. Nothing in Lean hashes anything: it is a label: what it is worth is what the hold of that sum in a sandbox is worth. -/
noncomputable def Try.pinned : Pinned := { name := "ytaajighbnkifhaa", sum := "b0e5983e7ab4cd076b4d3462dff95f8f994166dae6ef46311d45fbd626dfca08", checked := Try.checked }
namespace Rows
def none {H : Type} : Left H := { results := [], args := [] }

/-- 'jetonlaw04.LetterConfigs': WHATEVER THE INPUT: true; the input reads as it did. -/
def letterConfigsSpec : ChangeSpec := { name := "letterConfigs", fn := fun _ => fun
  | [d] => { results := [.lit (.bool true)], args := [d] }
  | _ => none }
def letterConfigsRow : OpenClaim := { program := "ytaajighbnkifhaa", sum := "b0e5983e7ab4cd076b4d3462dff95f8f994166dae6ef46311d45fbd626dfca08", func := "jeton/jetonlaw04.LetterConfigs", spec := "letterConfigs", apart := false }
def LetterConfigsSaid : Prop := letterConfigsRow.holds Try.pinned (OpenSpec.ofChange letterConfigsSpec)

/-- ITS FALSE NEIGHBOUR: 'it returns false'. Refute it at one input. -/
def letterConfigsWrong : ChangeSpec := { name := "letterConfigs", fn := fun _ => fun
  | [d] => { results := [.lit (.bool false)], args := [d] }
  | _ => none }
def LetterConfigsWrongFalsely : Prop := letterConfigsRow.holds Try.pinned (OpenSpec.ofChange letterConfigsWrong)

/-- 'jetonlaw04.LetterChecks': WHATEVER THE INPUT: true; the input reads as it did. -/
def letterChecksSpec : ChangeSpec := { name := "letterChecks", fn := fun _ => fun
  | [d1, d2] => { results := [.lit (.bool true)], args := [d1, d2] }
  | _ => none }
def letterChecksRow : OpenClaim := { program := "ytaajighbnkifhaa", sum := "b0e5983e7ab4cd076b4d3462dff95f8f994166dae6ef46311d45fbd626dfca08", func := "jeton/jetonlaw04.LetterChecks", spec := "letterChecks", apart := false }
def LetterChecksSaid : Prop := letterChecksRow.holds Try.pinned (OpenSpec.ofChange letterChecksSpec)

/-- ITS FALSE NEIGHBOUR: 'it returns false'. Refute it at one input. -/
def letterChecksWrong : ChangeSpec := { name := "letterChecks", fn := fun _ => fun
  | [d1, d2] => { results := [.lit (.bool false)], args := [d1, d2] }
  | _ => none }
def LetterChecksWrongFalsely : Prop := letterChecksRow.holds Try.pinned (OpenSpec.ofChange letterChecksWrong)

/-- 'jetonlaw04.LetterDrops': WHATEVER THE INPUT: true; the input reads as it did. -/
def letterDropsSpec : ChangeSpec := { name := "letterDrops", fn := fun _ => fun
  | [d1, d2] => { results := [.lit (.bool true)], args := [d1, d2] }
  | _ => none }
def letterDropsRow : OpenClaim := { program := "ytaajighbnkifhaa", sum := "b0e5983e7ab4cd076b4d3462dff95f8f994166dae6ef46311d45fbd626dfca08", func := "jeton/jetonlaw04.LetterDrops", spec := "letterDrops", apart := false }
def LetterDropsSaid : Prop := letterDropsRow.holds Try.pinned (OpenSpec.ofChange letterDropsSpec)

/-- ITS FALSE NEIGHBOUR: 'it returns false'. Refute it at one input. -/
def letterDropsWrong : ChangeSpec := { name := "letterDrops", fn := fun _ => fun
  | [d1, d2] => { results := [.lit (.bool false)], args := [d1, d2] }
  | _ => none }
def LetterDropsWrongFalsely : Prop := letterDropsRow.holds Try.pinned (OpenSpec.ofChange letterDropsWrong)

/-- 'jetonlaw04.LetterTokens': WHATEVER THE INPUT: true; the input reads as it did. -/
def letterTokensSpec : ChangeSpec := { name := "letterTokens", fn := fun _ => fun
  | [d1, d2, d3] => { results := [.lit (.bool true)], args := [d1, d2, d3] }
  | _ => none }
def letterTokensRow : OpenClaim := { program := "ytaajighbnkifhaa", sum := "b0e5983e7ab4cd076b4d3462dff95f8f994166dae6ef46311d45fbd626dfca08", func := "jeton/jetonlaw04.LetterTokens", spec := "letterTokens", apart := false }
def LetterTokensSaid : Prop := letterTokensRow.holds Try.pinned (OpenSpec.ofChange letterTokensSpec)

/-- ITS FALSE NEIGHBOUR: 'it returns false'. Refute it at one input. -/
def letterTokensWrong : ChangeSpec := { name := "letterTokens", fn := fun _ => fun
  | [d1, d2, d3] => { results := [.lit (.bool false)], args := [d1, d2, d3] }
  | _ => none }
def LetterTokensWrongFalsely : Prop := letterTokensRow.holds Try.pinned (OpenSpec.ofChange letterTokensWrong)

/-- 'jetonlaw04.LetterMakes': WHATEVER THE INPUT: true; the input reads as it did. -/
def letterMakesSpec : ChangeSpec := { name := "letterMakes", fn := fun _ => fun
  | [d1, d2, d3] => { results := [.lit (.bool true)], args := [d1, d2, d3] }
  | _ => none }
def letterMakesRow : OpenClaim := { program := "ytaajighbnkifhaa", sum := "b0e5983e7ab4cd076b4d3462dff95f8f994166dae6ef46311d45fbd626dfca08", func := "jeton/jetonlaw04.LetterMakes", spec := "letterMakes", apart := false }
def LetterMakesSaid : Prop := letterMakesRow.holds Try.pinned (OpenSpec.ofChange letterMakesSpec)

/-- ITS FALSE NEIGHBOUR: 'it returns false'. Refute it at one input. -/
def letterMakesWrong : ChangeSpec := { name := "letterMakes", fn := fun _ => fun
  | [d1, d2, d3] => { results := [.lit (.bool false)], args := [d1, d2, d3] }
  | _ => none }
def LetterMakesWrongFalsely : Prop := letterMakesRow.holds Try.pinned (OpenSpec.ofChange letterMakesWrong)

/-- 'jetonlaw04.LetterSelf': WHATEVER THE INPUT: true; the input reads as it did. -/
def letterSelfSpec : ChangeSpec := { name := "letterSelf", fn := fun _ => fun
  | [d1, d2] => { results := [.lit (.bool true)], args := [d1, d2] }
  | _ => none }
def letterSelfRow : OpenClaim := { program := "ytaajighbnkifhaa", sum := "b0e5983e7ab4cd076b4d3462dff95f8f994166dae6ef46311d45fbd626dfca08", func := "jeton/jetonlaw04.LetterSelf", spec := "letterSelf", apart := false }
def LetterSelfSaid : Prop := letterSelfRow.holds Try.pinned (OpenSpec.ofChange letterSelfSpec)

/-- ITS FALSE NEIGHBOUR: 'it returns false'. Refute it at one input. -/
def letterSelfWrong : ChangeSpec := { name := "letterSelf", fn := fun _ => fun
  | [d1, d2] => { results := [.lit (.bool false)], args := [d1, d2] }
  | _ => none }
def LetterSelfWrongFalsely : Prop := letterSelfRow.holds Try.pinned (OpenSpec.ofChange letterSelfWrong)

/- THE SECOND FORM. 'bulk': how many values and letters a reading holds, each counted each time it is reached (what is shared counts as often as it is met; a slice's spare places count too). A statement '..UptoSaid' is the law's where the arguments, and the package variables that the reading takes, are together of bulk at most 1048576: NARROWER than '..Said'. Prove '..Said' where nothing that the law and all that it calls make is longer than what came in: it says more and counts as full. Else prove '..UptoSaid'. A law counts once. -/
mutual
def uptoBulk {H : Type} : DataW H → Nat
  | .lit (.string bytes) => bytes.length + 1
  | .lit _ => 1
  | .nil => 1
  | .ptr d => uptoBulk d + 1
  | .slice elems spare => uptoBulkAll elems + uptoBulkAll spare + 1
  | .agg parts => uptoBulkAll parts + 1
  | .iface _ d => uptoBulk d + 1
  | .map entries => uptoBulkEntries entries + 1
  | .held _ => 1
def uptoBulkAll {H : Type} : List (DataW H) → Nat
  | [] => 0
  | d :: r => uptoBulk d + uptoBulkAll r
def uptoBulkEntries {H : Type} : List (Lit × DataW H) → Nat
  | [] => 0
  | x :: r => uptoBulkEntry x + uptoBulkEntries r
def uptoBulkEntry {H : Type} : Lit × DataW H → Nat
  | (.string bytes, d) => bytes.length + uptoBulk d + 1
  | (_, d) => uptoBulk d + 1
 end
def uptoSmall : (H : Type) → List (DataW H) → Bool := fun _ ds => decide (uptoBulkAll ds ≤ 1048576)
def OpenSpec.upto (s : _root_.Go.ChangeSpec) : _root_.Go.OpenSpec := { _root_.Go.OpenSpec.ofChange s with cond := some uptoSmall }

/-- 'jetonlaw04.LetterConfigs', WHERE WHAT IT READS IS OF BULK AT MOST 1048576: true; the input reads as it did. -/
def letterConfigsUptoRow : OpenClaim := { program := "ytaajighbnkifhaa", sum := "b0e5983e7ab4cd076b4d3462dff95f8f994166dae6ef46311d45fbd626dfca08", func := "jeton/jetonlaw04.LetterConfigs", spec := "letterConfigs", apart := false, narrowed := true }
def LetterConfigsUptoSaid : Prop := letterConfigsUptoRow.holds Try.pinned (OpenSpec.upto letterConfigsSpec)

/-- 'jetonlaw04.LetterChecks', WHERE WHAT IT READS IS OF BULK AT MOST 1048576: true; the input reads as it did. -/
def letterChecksUptoRow : OpenClaim := { program := "ytaajighbnkifhaa", sum := "b0e5983e7ab4cd076b4d3462dff95f8f994166dae6ef46311d45fbd626dfca08", func := "jeton/jetonlaw04.LetterChecks", spec := "letterChecks", apart := false, narrowed := true }
def LetterChecksUptoSaid : Prop := letterChecksUptoRow.holds Try.pinned (OpenSpec.upto letterChecksSpec)

/-- 'jetonlaw04.LetterDrops', WHERE WHAT IT READS IS OF BULK AT MOST 1048576: true; the input reads as it did. -/
def letterDropsUptoRow : OpenClaim := { program := "ytaajighbnkifhaa", sum := "b0e5983e7ab4cd076b4d3462dff95f8f994166dae6ef46311d45fbd626dfca08", func := "jeton/jetonlaw04.LetterDrops", spec := "letterDrops", apart := false, narrowed := true }
def LetterDropsUptoSaid : Prop := letterDropsUptoRow.holds Try.pinned (OpenSpec.upto letterDropsSpec)

/-- 'jetonlaw04.LetterTokens', WHERE WHAT IT READS IS OF BULK AT MOST 1048576: true; the input reads as it did. -/
def letterTokensUptoRow : OpenClaim := { program := "ytaajighbnkifhaa", sum := "b0e5983e7ab4cd076b4d3462dff95f8f994166dae6ef46311d45fbd626dfca08", func := "jeton/jetonlaw04.LetterTokens", spec := "letterTokens", apart := false, narrowed := true }
def LetterTokensUptoSaid : Prop := letterTokensUptoRow.holds Try.pinned (OpenSpec.upto letterTokensSpec)

/-- 'jetonlaw04.LetterMakes', WHERE WHAT IT READS IS OF BULK AT MOST 1048576: true; the input reads as it did. -/
def letterMakesUptoRow : OpenClaim := { program := "ytaajighbnkifhaa", sum := "b0e5983e7ab4cd076b4d3462dff95f8f994166dae6ef46311d45fbd626dfca08", func := "jeton/jetonlaw04.LetterMakes", spec := "letterMakes", apart := false, narrowed := true }
def LetterMakesUptoSaid : Prop := letterMakesUptoRow.holds Try.pinned (OpenSpec.upto letterMakesSpec)

/-- 'jetonlaw04.LetterSelf', WHERE WHAT IT READS IS OF BULK AT MOST 1048576: true; the input reads as it did. -/
def letterSelfUptoRow : OpenClaim := { program := "ytaajighbnkifhaa", sum := "b0e5983e7ab4cd076b4d3462dff95f8f994166dae6ef46311d45fbd626dfca08", func := "jeton/jetonlaw04.LetterSelf", spec := "letterSelf", apart := false, narrowed := true }
def LetterSelfUptoSaid : Prop := letterSelfUptoRow.holds Try.pinned (OpenSpec.upto letterSelfSpec)

end Rows
end Go.Proofs.Ytaajighbnkifhaa
