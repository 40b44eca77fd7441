/-
  No cell of these rows narrows 'for every input' (looked for: loops, veiled, ifaces, maps, wideKeys, modest, calm, conditions, laid).
  DERIVED. THE GIVEN ROWS OF THIS SEAT. 6 by the template 'for every input the law returns true; each argument reads behind the call as it read before'; 0 by the template 'total and deterministic' (their statements: YtipibgamajhgbaaTotals.lean).
  GIVEN WITH THE SEED: the statements are not yours to turn. If you find one false, say at which input.
  Laid BY PROGRAM, IN A SANDBOX (cutbox-rows.mjs): the forced cells as the released guide's own fill.sh prints them over the translation 0acdd0f883566b56… (all of the seat's roots in one cut). By AI agents, Wed Nov 11 2026. No macro, syntax, notation, axiom, sorry.
-/
import Derived.Test.YtipibgamajhgbaaChecked
import GoSem.Claim
import GoSem.ClaimJoined
import GoSem.ClaimMapViews
import Derived.JoinedTies
import Derived.KernelRfl
namespace Go.Proofs.Ytipibgamajhgbaa
/- THE CELL 'sum', in the pinned program and in every row, IS THE sha256 OF THE DUMP (.gsa) THAT YtipibgamajhgbaaProg.lean LOADS. Nothing in Lean hashes anything: it is a label: what it is worth is what the hold of that sum in a sandbox is worth. -/
noncomputable def Try.pinned : Pinned := { name := "ytipibgamajhgbaa", sum := "0acdd0f883566b567d6bc9d230660b94f7ab2383044c3d69a67e4e39c10bb580", checked := Try.checked }
namespace Rows
def none {H : Type} : Left H := { results := [], args := [] }

/-- 'jetonlaw16.HomeSums': WHATEVER THE INPUT: true; the input reads as it did. -/
def homeSumsSpec : ChangeSpec := { name := "homeSums", fn := fun _ => fun
  | [d1, d2] => { results := [.lit (.bool true)], args := [d1, d2] }
  | _ => none }
def homeSumsRow : OpenClaim := { program := "ytipibgamajhgbaa", sum := "0acdd0f883566b567d6bc9d230660b94f7ab2383044c3d69a67e4e39c10bb580", func := "jeton/jetonlaw16.HomeSums", spec := "homeSums", unfollowed := true, recurses := true, apart := false }
def HomeSumsSaid : Prop := homeSumsRow.holds Try.pinned (OpenSpec.ofChange homeSumsSpec)

/-- ITS FALSE NEIGHBOUR: 'it returns false'. Refute it at one input. -/
def homeSumsWrong : ChangeSpec := { name := "homeSums", fn := fun _ => fun
  | [d1, d2] => { results := [.lit (.bool false)], args := [d1, d2] }
  | _ => none }
def HomeSumsWrongFalsely : Prop := homeSumsRow.holds Try.pinned (OpenSpec.ofChange homeSumsWrong)

/-- 'jetonlaw16.HomeForwards': WHATEVER THE INPUT: true; the input reads as it did. -/
def homeForwardsSpec : ChangeSpec := { name := "homeForwards", fn := fun _ => fun
  | [d1, d2, d3] => { results := [.lit (.bool true)], args := [d1, d2, d3] }
  | _ => none }
def homeForwardsRow : OpenClaim := { program := "ytipibgamajhgbaa", sum := "0acdd0f883566b567d6bc9d230660b94f7ab2383044c3d69a67e4e39c10bb580", func := "jeton/jetonlaw16.HomeForwards", spec := "homeForwards", unfollowed := true, recurses := true, apart := false }
def HomeForwardsSaid : Prop := homeForwardsRow.holds Try.pinned (OpenSpec.ofChange homeForwardsSpec)

/-- ITS FALSE NEIGHBOUR: 'it returns false'. Refute it at one input. -/
def homeForwardsWrong : ChangeSpec := { name := "homeForwards", fn := fun _ => fun
  | [d1, d2, d3] => { results := [.lit (.bool false)], args := [d1, d2, d3] }
  | _ => none }
def HomeForwardsWrongFalsely : Prop := homeForwardsRow.holds Try.pinned (OpenSpec.ofChange homeForwardsWrong)

/-- 'jetonlaw16.HomeServes': WHATEVER THE INPUT: true; the input reads as it did. -/
def homeServesSpec : ChangeSpec := { name := "homeServes", fn := fun _ => fun
  | [d1, d2] => { results := [.lit (.bool true)], args := [d1, d2] }
  | _ => none }
def homeServesRow : OpenClaim := { program := "ytipibgamajhgbaa", sum := "0acdd0f883566b567d6bc9d230660b94f7ab2383044c3d69a67e4e39c10bb580", func := "jeton/jetonlaw16.HomeServes", spec := "homeServes", unfollowed := true, recurses := true, apart := false }
def HomeServesSaid : Prop := homeServesRow.holds Try.pinned (OpenSpec.ofChange homeServesSpec)

/-- ITS FALSE NEIGHBOUR: 'it returns false'. Refute it at one input. -/
def homeServesWrong : ChangeSpec := { name := "homeServes", fn := fun _ => fun
  | [d1, d2] => { results := [.lit (.bool false)], args := [d1, d2] }
  | _ => none }
def HomeServesWrongFalsely : Prop := homeServesRow.holds Try.pinned (OpenSpec.ofChange homeServesWrong)

/-- 'jetonlaw16.HomeRest': WHATEVER THE INPUT: true; the input reads as it did. -/
def homeRestSpec : ChangeSpec := { name := "homeRest", fn := fun _ => fun
  | [d1, d2] => { results := [.lit (.bool true)], args := [d1, d2] }
  | _ => none }
def homeRestRow : OpenClaim := { program := "ytipibgamajhgbaa", sum := "0acdd0f883566b567d6bc9d230660b94f7ab2383044c3d69a67e4e39c10bb580", func := "jeton/jetonlaw16.HomeRest", spec := "homeRest", unfollowed := true, recurses := true, apart := false }
def HomeRestSaid : Prop := homeRestRow.holds Try.pinned (OpenSpec.ofChange homeRestSpec)

/-- ITS FALSE NEIGHBOUR: 'it returns false'. Refute it at one input. -/
def homeRestWrong : ChangeSpec := { name := "homeRest", fn := fun _ => fun
  | [d1, d2] => { results := [.lit (.bool false)], args := [d1, d2] }
  | _ => none }
def HomeRestWrongFalsely : Prop := homeRestRow.holds Try.pinned (OpenSpec.ofChange homeRestWrong)

/-- 'jetonlaw16.HomePlays': WHATEVER THE INPUT: true; the input reads as it did. -/
def homePlaysSpec : ChangeSpec := { name := "homePlays", fn := fun _ => fun
  | [d1, d2, d3] => { results := [.lit (.bool true)], args := [d1, d2, d3] }
  | _ => none }
def homePlaysRow : OpenClaim := { program := "ytipibgamajhgbaa", sum := "0acdd0f883566b567d6bc9d230660b94f7ab2383044c3d69a67e4e39c10bb580", func := "jeton/jetonlaw16.HomePlays", spec := "homePlays", unfollowed := true, recurses := true, apart := false }
def HomePlaysSaid : Prop := homePlaysRow.holds Try.pinned (OpenSpec.ofChange homePlaysSpec)

/-- ITS FALSE NEIGHBOUR: 'it returns false'. Refute it at one input. -/
def homePlaysWrong : ChangeSpec := { name := "homePlays", fn := fun _ => fun
  | [d1, d2, d3] => { results := [.lit (.bool false)], args := [d1, d2, d3] }
  | _ => none }
def HomePlaysWrongFalsely : Prop := homePlaysRow.holds Try.pinned (OpenSpec.ofChange homePlaysWrong)

/-- 'jetonlaw16.HomeCopies': WHATEVER THE INPUT: true; the input reads as it did. -/
def homeCopiesSpec : ChangeSpec := { name := "homeCopies", fn := fun _ => fun
  | [d1, d2] => { results := [.lit (.bool true)], args := [d1, d2] }
  | _ => none }
def homeCopiesRow : OpenClaim := { program := "ytipibgamajhgbaa", sum := "0acdd0f883566b567d6bc9d230660b94f7ab2383044c3d69a67e4e39c10bb580", func := "jeton/jetonlaw16.HomeCopies", spec := "homeCopies", unfollowed := true, recurses := true, apart := false }
def HomeCopiesSaid : Prop := homeCopiesRow.holds Try.pinned (OpenSpec.ofChange homeCopiesSpec)

/-- ITS FALSE NEIGHBOUR: 'it returns false'. Refute it at one input. -/
def homeCopiesWrong : ChangeSpec := { name := "homeCopies", fn := fun _ => fun
  | [d1, d2] => { results := [.lit (.bool false)], args := [d1, d2] }
  | _ => none }
def HomeCopiesWrongFalsely : Prop := homeCopiesRow.holds Try.pinned (OpenSpec.ofChange homeCopiesWrong)

/- THE SECOND FORM. 'bulk': how many values and letters a reading holds, each counted each time it is reached (what is shared counts as often as it is met; a slice's spare places count too). A statement '..UptoSaid' is the law's where the arguments, and the package variables that the reading takes, are together of bulk at most 1048576: NARROWER than '..Said'. Prove '..Said' where nothing that the law and all that it calls make is longer than what came in: it says more and counts as full. Else prove '..UptoSaid'. A law counts once. -/
mutual
def uptoBulk {H : Type} : DataW H → Nat
  | .lit (.string bytes) => bytes.length + 1
  | .lit _ => 1
  | .nil => 1
  | .ptr d => uptoBulk d + 1
  | .slice elems spare => uptoBulkAll elems + uptoBulkAll spare + 1
  | .agg parts => uptoBulkAll parts + 1
  | .iface _ d => uptoBulk d + 1
  | .map entries => uptoBulkEntries entries + 1
  | .held _ => 1
def uptoBulkAll {H : Type} : List (DataW H) → Nat
  | [] => 0
  | d :: r => uptoBulk d + uptoBulkAll r
def uptoBulkEntries {H : Type} : List (Lit × DataW H) → Nat
  | [] => 0
  | x :: r => uptoBulkEntry x + uptoBulkEntries r
def uptoBulkEntry {H : Type} : Lit × DataW H → Nat
  | (.string bytes, d) => bytes.length + uptoBulk d + 1
  | (_, d) => uptoBulk d + 1
 end
def uptoSmall : (H : Type) → List (DataW H) → Bool := fun _ ds => decide (uptoBulkAll ds ≤ 1048576)
def OpenSpec.upto (s : _root_.Go.ChangeSpec) : _root_.Go.OpenSpec := { _root_.Go.OpenSpec.ofChange s with cond := some uptoSmall }

/-- 'jetonlaw16.HomeSums', WHERE WHAT IT READS IS OF BULK AT MOST 1048576: true; the input reads as it did. -/
def homeSumsUptoRow : OpenClaim := { program := "ytipibgamajhgbaa", sum := "0acdd0f883566b567d6bc9d230660b94f7ab2383044c3d69a67e4e39c10bb580", func := "jeton/jetonlaw16.HomeSums", spec := "homeSums", unfollowed := true, recurses := true, apart := false, narrowed := true }
def HomeSumsUptoSaid : Prop := homeSumsUptoRow.holds Try.pinned (OpenSpec.upto homeSumsSpec)

/-- 'jetonlaw16.HomeForwards', WHERE WHAT IT READS IS OF BULK AT MOST 1048576: true; the input reads as it did. -/
def homeForwardsUptoRow : OpenClaim := { program := "ytipibgamajhgbaa", sum := "0acdd0f883566b567d6bc9d230660b94f7ab2383044c3d69a67e4e39c10bb580", func := "jeton/jetonlaw16.HomeForwards", spec := "homeForwards", unfollowed := true, recurses := true, apart := false, narrowed := true }
def HomeForwardsUptoSaid : Prop := homeForwardsUptoRow.holds Try.pinned (OpenSpec.upto homeForwardsSpec)

/-- 'jetonlaw16.HomeServes', WHERE WHAT IT READS IS OF BULK AT MOST 1048576: true; the input reads as it did. -/
def homeServesUptoRow : OpenClaim := { program := "ytipibgamajhgbaa", sum := "0acdd0f883566b567d6bc9d230660b94f7ab2383044c3d69a67e4e39c10bb580", func := "jeton/jetonlaw16.HomeServes", spec := "homeServes", unfollowed := true, recurses := true, apart := false, narrowed := true }
def HomeServesUptoSaid : Prop := homeServesUptoRow.holds Try.pinned (OpenSpec.upto homeServesSpec)

/-- 'jetonlaw16.HomeRest', WHERE WHAT IT READS IS OF BULK AT MOST 1048576: true; the input reads as it did. -/
def homeRestUptoRow : OpenClaim := { program := "ytipibgamajhgbaa", sum := "0acdd0f883566b567d6bc9d230660b94f7ab2383044c3d69a67e4e39c10bb580", func := "jeton/jetonlaw16.HomeRest", spec := "homeRest", unfollowed := true, recurses := true, apart := false, narrowed := true }
def HomeRestUptoSaid : Prop := homeRestUptoRow.holds Try.pinned (OpenSpec.upto homeRestSpec)

/-- 'jetonlaw16.HomePlays', WHERE WHAT IT READS IS OF BULK AT MOST 1048576: true; the input reads as it did. -/
def homePlaysUptoRow : OpenClaim := { program := "ytipibgamajhgbaa", sum := "0acdd0f883566b567d6bc9d230660b94f7ab2383044c3d69a67e4e39c10bb580", func := "jeton/jetonlaw16.HomePlays", spec := "homePlays", unfollowed := true, recurses := true, apart := false, narrowed := true }
def HomePlaysUptoSaid : Prop := homePlaysUptoRow.holds Try.pinned (OpenSpec.upto homePlaysSpec)

/-- 'jetonlaw16.HomeCopies', WHERE WHAT IT READS IS OF BULK AT MOST 1048576: true; the input reads as it did. -/
def homeCopiesUptoRow : OpenClaim := { program := "ytipibgamajhgbaa", sum := "0acdd0f883566b567d6bc9d230660b94f7ab2383044c3d69a67e4e39c10bb580", func := "jeton/jetonlaw16.HomeCopies", spec := "homeCopies", unfollowed := true, recurses := true, apart := false, narrowed := true }
def HomeCopiesUptoSaid : Prop := homeCopiesUptoRow.holds Try.pinned (OpenSpec.upto homeCopiesSpec)

end Rows
end Go.Proofs.Ytipibgamajhgbaa
