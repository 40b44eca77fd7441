/-
  No cell of these rows narrows 'for every input' (looked for: loops, veiled, ifaces, maps, wideKeys, modest, calm, conditions, laid).
  DERIVED. THE GIVEN ROWS OF THIS SEAT. 5 by the template 'for every input the law returns true; each argument reads behind the call as it read before'; 0 by the template 'total and deterministic' (their statements: YtopbgpmajkcboaaTotals.lean).
  GIVEN WITH THE SEED: the statements are not yours to turn. If you find one false, say at which input.
  Laid BY PROGRAM, IN A SANDBOX (cutbox-rows.mjs): the forced cells as the released guide's own fill.sh prints them over the translation ab2d0429bfda4bdd… (all of the seat's roots in one cut). By AI agents, Wed Nov 11 2026. No macro, syntax, notation, axiom, sorry.
-/
import Derived.Test.YtopbgpmajkcboaaChecked
import GoSem.Claim
import GoSem.ClaimJoined
import GoSem.ClaimMapViews
import Derived.JoinedTies
import Derived.KernelRfl
namespace Go.Proofs.Ytopbgpmajkcboaa
/- THE CELL 'sum', in the pinned program and in every row, IS THE sha256 OF THE DUMP (.gsa) THAT YtopbgpmajkcboaaProg.lean LOADS. Nothing in Lean hashes anything: it is a label: what it is worth is what the hold of that sum in a sandbox is worth. -/
noncomputable def Try.pinned : Pinned := { name := "ytopbgpmajkcboaa", sum := "ab2d0429bfda4bdd6a25e04deb64439c440ff2fa3a96c264536b9b9e6940f601", checked := Try.checked }
namespace Rows
def none {H : Type} : Left H := { results := [], args := [] }

/-- 'jetonlaw10.MemoryPlays': WHATEVER THE INPUT: true; the input reads as it did. -/
def memoryPlaysSpec : ChangeSpec := { name := "memoryPlays", fn := fun _ => fun
  | [d1, d2] => { results := [.lit (.bool true)], args := [d1, d2] }
  | _ => none }
def memoryPlaysRow : OpenClaim := { program := "ytopbgpmajkcboaa", sum := "ab2d0429bfda4bdd6a25e04deb64439c440ff2fa3a96c264536b9b9e6940f601", func := "jeton/jetonlaw10.MemoryPlays", spec := "memoryPlays", apart := false }
def MemoryPlaysSaid : Prop := memoryPlaysRow.holds Try.pinned (OpenSpec.ofChange memoryPlaysSpec)

/-- ITS FALSE NEIGHBOUR: 'it returns false'. Refute it at one input. -/
def memoryPlaysWrong : ChangeSpec := { name := "memoryPlays", fn := fun _ => fun
  | [d1, d2] => { results := [.lit (.bool false)], args := [d1, d2] }
  | _ => none }
def MemoryPlaysWrongFalsely : Prop := memoryPlaysRow.holds Try.pinned (OpenSpec.ofChange memoryPlaysWrong)

/-- 'jetonlaw10.MemorySums': WHATEVER THE INPUT: true; the input reads as it did. -/
def memorySumsSpec : ChangeSpec := { name := "memorySums", fn := fun _ => fun
  | [d1, d2, d3] => { results := [.lit (.bool true)], args := [d1, d2, d3] }
  | _ => none }
def memorySumsRow : OpenClaim := { program := "ytopbgpmajkcboaa", sum := "ab2d0429bfda4bdd6a25e04deb64439c440ff2fa3a96c264536b9b9e6940f601", func := "jeton/jetonlaw10.MemorySums", spec := "memorySums", apart := false }
def MemorySumsSaid : Prop := memorySumsRow.holds Try.pinned (OpenSpec.ofChange memorySumsSpec)

/-- ITS FALSE NEIGHBOUR: 'it returns false'. Refute it at one input. -/
def memorySumsWrong : ChangeSpec := { name := "memorySums", fn := fun _ => fun
  | [d1, d2, d3] => { results := [.lit (.bool false)], args := [d1, d2, d3] }
  | _ => none }
def MemorySumsWrongFalsely : Prop := memorySumsRow.holds Try.pinned (OpenSpec.ofChange memorySumsWrong)

/-- 'jetonlaw10.MemoryTakes': WHATEVER THE INPUT: true; the input reads as it did. -/
def memoryTakesSpec : ChangeSpec := { name := "memoryTakes", fn := fun _ => fun
  | [d1, d2, d3] => { results := [.lit (.bool true)], args := [d1, d2, d3] }
  | _ => none }
def memoryTakesRow : OpenClaim := { program := "ytopbgpmajkcboaa", sum := "ab2d0429bfda4bdd6a25e04deb64439c440ff2fa3a96c264536b9b9e6940f601", func := "jeton/jetonlaw10.MemoryTakes", spec := "memoryTakes", apart := false }
def MemoryTakesSaid : Prop := memoryTakesRow.holds Try.pinned (OpenSpec.ofChange memoryTakesSpec)

/-- ITS FALSE NEIGHBOUR: 'it returns false'. Refute it at one input. -/
def memoryTakesWrong : ChangeSpec := { name := "memoryTakes", fn := fun _ => fun
  | [d1, d2, d3] => { results := [.lit (.bool false)], args := [d1, d2, d3] }
  | _ => none }
def MemoryTakesWrongFalsely : Prop := memoryTakesRow.holds Try.pinned (OpenSpec.ofChange memoryTakesWrong)

/-- 'jetonlaw10.MemoryBack': WHATEVER THE INPUT: true; the input reads as it did. -/
def memoryBackSpec : ChangeSpec := { name := "memoryBack", fn := fun _ => fun
  | [d1, d2, d3] => { results := [.lit (.bool true)], args := [d1, d2, d3] }
  | _ => none }
def memoryBackRow : OpenClaim := { program := "ytopbgpmajkcboaa", sum := "ab2d0429bfda4bdd6a25e04deb64439c440ff2fa3a96c264536b9b9e6940f601", func := "jeton/jetonlaw10.MemoryBack", spec := "memoryBack", apart := false }
def MemoryBackSaid : Prop := memoryBackRow.holds Try.pinned (OpenSpec.ofChange memoryBackSpec)

/-- ITS FALSE NEIGHBOUR: 'it returns false'. Refute it at one input. -/
def memoryBackWrong : ChangeSpec := { name := "memoryBack", fn := fun _ => fun
  | [d1, d2, d3] => { results := [.lit (.bool false)], args := [d1, d2, d3] }
  | _ => none }
def MemoryBackWrongFalsely : Prop := memoryBackRow.holds Try.pinned (OpenSpec.ofChange memoryBackWrong)

/-- 'jetonlaw10.MemoryCopies': WHATEVER THE INPUT: true; the input reads as it did. -/
def memoryCopiesSpec : ChangeSpec := { name := "memoryCopies", fn := fun _ => fun
  | [d1, d2] => { results := [.lit (.bool true)], args := [d1, d2] }
  | _ => none }
def memoryCopiesRow : OpenClaim := { program := "ytopbgpmajkcboaa", sum := "ab2d0429bfda4bdd6a25e04deb64439c440ff2fa3a96c264536b9b9e6940f601", func := "jeton/jetonlaw10.MemoryCopies", spec := "memoryCopies", apart := false }
def MemoryCopiesSaid : Prop := memoryCopiesRow.holds Try.pinned (OpenSpec.ofChange memoryCopiesSpec)

/-- ITS FALSE NEIGHBOUR: 'it returns false'. Refute it at one input. -/
def memoryCopiesWrong : ChangeSpec := { name := "memoryCopies", fn := fun _ => fun
  | [d1, d2] => { results := [.lit (.bool false)], args := [d1, d2] }
  | _ => none }
def MemoryCopiesWrongFalsely : Prop := memoryCopiesRow.holds Try.pinned (OpenSpec.ofChange memoryCopiesWrong)

/- THE SECOND FORM. 'bulk': how many values and letters a reading holds, each counted each time it is reached (what is shared counts as often as it is met; a slice's spare places count too). A statement '..UptoSaid' is the law's where the arguments, and the package variables that the reading takes, are together of bulk at most 1048576: NARROWER than '..Said'. Prove '..Said' where nothing that the law and all that it calls make is longer than what came in: it says more and counts as full. Else prove '..UptoSaid'. A law counts once. -/
mutual
def uptoBulk {H : Type} : DataW H → Nat
  | .lit (.string bytes) => bytes.length + 1
  | .lit _ => 1
  | .nil => 1
  | .ptr d => uptoBulk d + 1
  | .slice elems spare => uptoBulkAll elems + uptoBulkAll spare + 1
  | .agg parts => uptoBulkAll parts + 1
  | .iface _ d => uptoBulk d + 1
  | .map entries => uptoBulkEntries entries + 1
  | .held _ => 1
def uptoBulkAll {H : Type} : List (DataW H) → Nat
  | [] => 0
  | d :: r => uptoBulk d + uptoBulkAll r
def uptoBulkEntries {H : Type} : List (Lit × DataW H) → Nat
  | [] => 0
  | x :: r => uptoBulkEntry x + uptoBulkEntries r
def uptoBulkEntry {H : Type} : Lit × DataW H → Nat
  | (.string bytes, d) => bytes.length + uptoBulk d + 1
  | (_, d) => uptoBulk d + 1
 end
def uptoSmall : (H : Type) → List (DataW H) → Bool := fun _ ds => decide (uptoBulkAll ds ≤ 1048576)
def OpenSpec.upto (s : _root_.Go.ChangeSpec) : _root_.Go.OpenSpec := { _root_.Go.OpenSpec.ofChange s with cond := some uptoSmall }

/-- 'jetonlaw10.MemoryPlays', WHERE WHAT IT READS IS OF BULK AT MOST 1048576: true; the input reads as it did. -/
def memoryPlaysUptoRow : OpenClaim := { program := "ytopbgpmajkcboaa", sum := "ab2d0429bfda4bdd6a25e04deb64439c440ff2fa3a96c264536b9b9e6940f601", func := "jeton/jetonlaw10.MemoryPlays", spec := "memoryPlays", apart := false, narrowed := true }
def MemoryPlaysUptoSaid : Prop := memoryPlaysUptoRow.holds Try.pinned (OpenSpec.upto memoryPlaysSpec)

/-- 'jetonlaw10.MemorySums', WHERE WHAT IT READS IS OF BULK AT MOST 1048576: true; the input reads as it did. -/
def memorySumsUptoRow : OpenClaim := { program := "ytopbgpmajkcboaa", sum := "ab2d0429bfda4bdd6a25e04deb64439c440ff2fa3a96c264536b9b9e6940f601", func := "jeton/jetonlaw10.MemorySums", spec := "memorySums", apart := false, narrowed := true }
def MemorySumsUptoSaid : Prop := memorySumsUptoRow.holds Try.pinned (OpenSpec.upto memorySumsSpec)

/-- 'jetonlaw10.MemoryTakes', WHERE WHAT IT READS IS OF BULK AT MOST 1048576: true; the input reads as it did. -/
def memoryTakesUptoRow : OpenClaim := { program := "ytopbgpmajkcboaa", sum := "ab2d0429bfda4bdd6a25e04deb64439c440ff2fa3a96c264536b9b9e6940f601", func := "jeton/jetonlaw10.MemoryTakes", spec := "memoryTakes", apart := false, narrowed := true }
def MemoryTakesUptoSaid : Prop := memoryTakesUptoRow.holds Try.pinned (OpenSpec.upto memoryTakesSpec)

/-- 'jetonlaw10.MemoryBack', WHERE WHAT IT READS IS OF BULK AT MOST 1048576: true; the input reads as it did. -/
def memoryBackUptoRow : OpenClaim := { program := "ytopbgpmajkcboaa", sum := "ab2d0429bfda4bdd6a25e04deb64439c440ff2fa3a96c264536b9b9e6940f601", func := "jeton/jetonlaw10.MemoryBack", spec := "memoryBack", apart := false, narrowed := true }
def MemoryBackUptoSaid : Prop := memoryBackUptoRow.holds Try.pinned (OpenSpec.upto memoryBackSpec)

/-- 'jetonlaw10.MemoryCopies', WHERE WHAT IT READS IS OF BULK AT MOST 1048576: true; the input reads as it did. -/
def memoryCopiesUptoRow : OpenClaim := { program := "ytopbgpmajkcboaa", sum := "ab2d0429bfda4bdd6a25e04deb64439c440ff2fa3a96c264536b9b9e6940f601", func := "jeton/jetonlaw10.MemoryCopies", spec := "memoryCopies", apart := false, narrowed := true }
def MemoryCopiesUptoSaid : Prop := memoryCopiesUptoRow.holds Try.pinned (OpenSpec.upto memoryCopiesSpec)

end Rows
end Go.Proofs.Ytopbgpmajkcboaa
