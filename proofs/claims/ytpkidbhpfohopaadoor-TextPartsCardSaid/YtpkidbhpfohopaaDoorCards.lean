/-
  DERIVED. GIVEN WITH THE SEED: THE CARDS: each row of YtpkidbhpfohopaaDoorRows.lean that lists a variable, with what it lists TIED to the program's text (the seventh form; the later family's looks); each row that meets fmt, with fmt's text TOLD by the authors' own Lean function (tested against real Go, not proved from fmt's source: count such statements apart). THE CARD IS WHAT COUNTS. Prove the row's statement (the work); the ties are given (YtpkidbhpfohopaaDoorTie.lean); close each card by the builder's one call (the guide's Derived/Test/ToyasCard.lean, 'card_holds'). Laid BY PROGRAM, IN A SANDBOX (cutbox-door.mjs). By AI agents, Wed Nov 11 2026. No macro, syntax, notation, axiom, sorry.
-/
import Derived.Test.YtpkidbhpfohopaaDoorRows
import GoSem.ClaimSeven
namespace Go.Proofs.YtpkidbhpfohopaaDoor
namespace Rows

/-- THE TIED CARD OF 'jetonlaw24.TextParses'. -/
def textParsesCard : Claim7 := { stood := { row := textParsesRow, standIns := [], harness := (true, "1ca2d2fbaec5a366ce85f243f93eeed3d51e0759966d2c1cc53a155b43274478"), looks := true }, kinds := [], alts := [], laidByText := true, laidKinds := [.data, .data, .data, .data, .sentinel, .sentinel, .pinned], laidTests := true, laidLooks := .later }
def TextParsesCardSaid : Prop := Claim7.holds Tryd.pinned (.plain (OpenSpec.ofChange textParsesSpec)) textParsesCard

/-- THE TIED CARD OF 'jetonlaw24.TextPrints'. -/
def textPrintsCard : Claim7 := { stood := { row := textPrintsRow, standIns := [], harness := (true, "1ca2d2fbaec5a366ce85f243f93eeed3d51e0759966d2c1cc53a155b43274478"), looks := true }, kinds := [], alts := [], laidByText := true, laidKinds := [.data, .data, .data, .data, .sentinel, .sentinel, .pinned], laidTests := true, laidLooks := .later }
def TextPrintsCardSaid : Prop := Claim7.holds Tryd.pinned (.plain (OpenSpec.ofChange textPrintsSpec)) textPrintsCard

/-- THE TIED CARD OF 'jetonlaw24.TextBack'. -/
def textBackCard : Claim7 := { stood := { row := textBackRow, standIns := [], harness := (true, "1ca2d2fbaec5a366ce85f243f93eeed3d51e0759966d2c1cc53a155b43274478"), looks := true }, kinds := [], alts := [], laidByText := true, laidKinds := [.data, .data, .data, .data, .sentinel, .sentinel, .pinned], laidTests := true, laidLooks := .later }
def TextBackCardSaid : Prop := Claim7.holds Tryd.pinned (.plain (OpenSpec.ofChange textBackSpec)) textBackCard

/-- THE TIED CARD OF 'jetonlaw24.TextOne'. -/
def textOneCard : Claim7 := { stood := { row := textOneRow, standIns := [], harness := (true, "1ca2d2fbaec5a366ce85f243f93eeed3d51e0759966d2c1cc53a155b43274478"), looks := true }, kinds := [], alts := [], laidByText := true, laidKinds := [.data, .data, .data, .data, .sentinel, .sentinel, .pinned], laidTests := true, laidLooks := .later }
def TextOneCardSaid : Prop := Claim7.holds Tryd.pinned (.plain (OpenSpec.ofChange textOneSpec)) textOneCard

/-- THE TIED CARD OF 'jetonlaw24.TextShows'. -/
def textShowsCard : Claim7 := { stood := { row := textShowsRow, standIns := [], harness := (true, "1ca2d2fbaec5a366ce85f243f93eeed3d51e0759966d2c1cc53a155b43274478"), looks := true }, kinds := [], alts := [], laidByText := true, laidKinds := [.data, .data, .data, .data, .sentinel, .sentinel, .pinned], laidTests := true, laidLooks := .later }
def TextShowsCardSaid : Prop := Claim7.holds Tryd.pinned (.plain (OpenSpec.ofChange textShowsSpec)) textShowsCard

/-- THE TIED CARD OF 'jetonlaw24.TextParts'. -/
def textPartsCard : Claim7 := { stood := { row := textPartsRow, standIns := [], harness := (true, "1ca2d2fbaec5a366ce85f243f93eeed3d51e0759966d2c1cc53a155b43274478"), looks := true }, kinds := [], alts := [], laidByText := true, laidKinds := [.data, .data, .data, .data, .sentinel, .sentinel, .pinned], laidTests := true, laidLooks := .later }
def TextPartsCardSaid : Prop := Claim7.holds Tryd.pinned (.plain (OpenSpec.ofChange textPartsSpec)) textPartsCard

/-- THE SECOND FORM's CARD OF 'jetonlaw24.TextParses'. -/
def textParsesUptoCard : Claim7 := { stood := { row := textParsesUptoRow, standIns := [], harness := (true, "1ca2d2fbaec5a366ce85f243f93eeed3d51e0759966d2c1cc53a155b43274478"), looks := true }, kinds := [], alts := [], laidByText := true, laidKinds := [.data, .data, .data, .data, .sentinel, .sentinel, .pinned], laidTests := true, laidLooks := .later }
def TextParsesUptoCardSaid : Prop := Claim7.holds Tryd.pinned (.plain (OpenSpec.upto textParsesSpec)) textParsesUptoCard

/-- THE SECOND FORM's CARD OF 'jetonlaw24.TextPrints'. -/
def textPrintsUptoCard : Claim7 := { stood := { row := textPrintsUptoRow, standIns := [], harness := (true, "1ca2d2fbaec5a366ce85f243f93eeed3d51e0759966d2c1cc53a155b43274478"), looks := true }, kinds := [], alts := [], laidByText := true, laidKinds := [.data, .data, .data, .data, .sentinel, .sentinel, .pinned], laidTests := true, laidLooks := .later }
def TextPrintsUptoCardSaid : Prop := Claim7.holds Tryd.pinned (.plain (OpenSpec.upto textPrintsSpec)) textPrintsUptoCard

/-- THE SECOND FORM's CARD OF 'jetonlaw24.TextBack'. -/
def textBackUptoCard : Claim7 := { stood := { row := textBackUptoRow, standIns := [], harness := (true, "1ca2d2fbaec5a366ce85f243f93eeed3d51e0759966d2c1cc53a155b43274478"), looks := true }, kinds := [], alts := [], laidByText := true, laidKinds := [.data, .data, .data, .data, .sentinel, .sentinel, .pinned], laidTests := true, laidLooks := .later }
def TextBackUptoCardSaid : Prop := Claim7.holds Tryd.pinned (.plain (OpenSpec.upto textBackSpec)) textBackUptoCard

/-- THE SECOND FORM's CARD OF 'jetonlaw24.TextOne'. -/
def textOneUptoCard : Claim7 := { stood := { row := textOneUptoRow, standIns := [], harness := (true, "1ca2d2fbaec5a366ce85f243f93eeed3d51e0759966d2c1cc53a155b43274478"), looks := true }, kinds := [], alts := [], laidByText := true, laidKinds := [.data, .data, .data, .data, .sentinel, .sentinel, .pinned], laidTests := true, laidLooks := .later }
def TextOneUptoCardSaid : Prop := Claim7.holds Tryd.pinned (.plain (OpenSpec.upto textOneSpec)) textOneUptoCard

/-- THE SECOND FORM's CARD OF 'jetonlaw24.TextShows'. -/
def textShowsUptoCard : Claim7 := { stood := { row := textShowsUptoRow, standIns := [], harness := (true, "1ca2d2fbaec5a366ce85f243f93eeed3d51e0759966d2c1cc53a155b43274478"), looks := true }, kinds := [], alts := [], laidByText := true, laidKinds := [.data, .data, .data, .data, .sentinel, .sentinel, .pinned], laidTests := true, laidLooks := .later }
def TextShowsUptoCardSaid : Prop := Claim7.holds Tryd.pinned (.plain (OpenSpec.upto textShowsSpec)) textShowsUptoCard

/-- THE SECOND FORM's CARD OF 'jetonlaw24.TextParts'. -/
def textPartsUptoCard : Claim7 := { stood := { row := textPartsUptoRow, standIns := [], harness := (true, "1ca2d2fbaec5a366ce85f243f93eeed3d51e0759966d2c1cc53a155b43274478"), looks := true }, kinds := [], alts := [], laidByText := true, laidKinds := [.data, .data, .data, .data, .sentinel, .sentinel, .pinned], laidTests := true, laidLooks := .later }
def TextPartsUptoCardSaid : Prop := Claim7.holds Tryd.pinned (.plain (OpenSpec.upto textPartsSpec)) textPartsUptoCard
end Rows
end Go.Proofs.YtpkidbhpfohopaaDoor
