/-
  DERIVED. GIVEN WITH THE SEED: THE CARDS: each row of YtbmdocjeepnhmaaGreatDoorRows.lean that lists a variable, with what it lists TIED to the program's text (the seventh form; the later family's looks); each row that meets fmt, with fmt's text TOLD by the authors' own Lean function (tested against real Go, not proved from fmt's source: count such statements apart). THE CARD IS WHAT COUNTS. Prove the row's statement (the work); the ties are given (YtbmdocjeepnhmaaGreatDoorTie.lean); close each card by the builder's one call (the guide's Derived/Test/ToyasCard.lean, 'card_holds'). Laid BY PROGRAM, IN A SANDBOX (cutbox-door.mjs). By AI agents, Wed Nov 11 2026. No macro, syntax, notation, axiom, sorry.
-/
import Derived.Test.YtbmdocjeepnhmaaGreatDoorRows
import GoSem.ClaimSeven
namespace Go.Proofs.YtbmdocjeepnhmaaGreatDoor
namespace Rows

/-- THE TIED CARD OF 'cellarettop.TopSpills'. -/
def topSpillsCard : Claim7 := { stood := { row := topSpillsRow, standIns := [], harness := (true, "d359250e031eb3528f4e9434ca534c99e802d2f2a4ac9c21a1e2b11e7e65ebe4"), looks := true }, kinds := [], alts := [], laidByText := true, laidKinds := [.data, .data, .data, .data, .sentinel, .sentinel, .pinned], laidTests := true, laidLooks := .later }
def TopSpillsCardSaid : Prop := Claim7.holds Tryz.pinned (.plain (OpenSpec.ofChange topSpillsSpec)) topSpillsCard

/-- THE TIED CARD OF 'cellarettop.TopCount'. -/
def topCountCard : Claim7 := { stood := { row := topCountRow, standIns := [], harness := (true, "d359250e031eb3528f4e9434ca534c99e802d2f2a4ac9c21a1e2b11e7e65ebe4"), looks := true }, kinds := [], alts := [], laidByText := true, laidKinds := [.data, .data, .data, .data, .sentinel, .sentinel, .pinned], laidTests := true, laidLooks := .later }
def TopCountCardSaid : Prop := Claim7.holds Tryz.pinned (.plain (OpenSpec.ofChange topCountSpec)) topCountCard

/-- THE TIED CARD OF 'cellarettop.TopPieces'. -/
def topPiecesCard : Claim7 := { stood := { row := topPiecesRow, standIns := [], harness := (true, "d359250e031eb3528f4e9434ca534c99e802d2f2a4ac9c21a1e2b11e7e65ebe4"), looks := true }, kinds := [], alts := [], laidByText := true, laidKinds := [.data, .data, .data, .data, .sentinel, .sentinel, .pinned], laidTests := true, laidLooks := .later }
def TopPiecesCardSaid : Prop := Claim7.holds Tryz.pinned (.plain (OpenSpec.ofChange topPiecesSpec)) topPiecesCard

/-- THE TIED CARD OF 'cellarettop.TopCas'. -/
def topCasCard : Claim7 := { stood := { row := topCasRow, standIns := [], harness := (true, "d359250e031eb3528f4e9434ca534c99e802d2f2a4ac9c21a1e2b11e7e65ebe4"), looks := true }, kinds := [], alts := [], laidByText := true, laidKinds := [.data, .data, .data, .data, .sentinel, .sentinel, .pinned], laidTests := true, laidLooks := .later }
def TopCasCardSaid : Prop := Claim7.holds Tryz.pinned (.plain (OpenSpec.ofChange topCasSpec)) topCasCard

/-- THE TIED CARD OF 'cellarettop.TopOrder'. -/
def topOrderCard : Claim7 := { stood := { row := topOrderRow, standIns := [], harness := (true, "d359250e031eb3528f4e9434ca534c99e802d2f2a4ac9c21a1e2b11e7e65ebe4"), looks := true }, kinds := [], alts := [], laidByText := true, laidKinds := [.data, .data, .data, .data, .sentinel, .sentinel, .pinned], laidTests := true, laidLooks := .later }
def TopOrderCardSaid : Prop := Claim7.holds Tryz.pinned (.plain (OpenSpec.ofChange topOrderSpec)) topOrderCard

/-- THE SECOND FORM's CARD OF 'cellarettop.TopSpills'. -/
def topSpillsUptoCard : Claim7 := { stood := { row := topSpillsUptoRow, standIns := [], harness := (true, "d359250e031eb3528f4e9434ca534c99e802d2f2a4ac9c21a1e2b11e7e65ebe4"), looks := true }, kinds := [], alts := [], laidByText := true, laidKinds := [.data, .data, .data, .data, .sentinel, .sentinel, .pinned], laidTests := true, laidLooks := .later }
def TopSpillsUptoCardSaid : Prop := Claim7.holds Tryz.pinned (.plain (OpenSpec.upto topSpillsSpec)) topSpillsUptoCard

/-- THE SECOND FORM's CARD OF 'cellarettop.TopCount'. -/
def topCountUptoCard : Claim7 := { stood := { row := topCountUptoRow, standIns := [], harness := (true, "d359250e031eb3528f4e9434ca534c99e802d2f2a4ac9c21a1e2b11e7e65ebe4"), looks := true }, kinds := [], alts := [], laidByText := true, laidKinds := [.data, .data, .data, .data, .sentinel, .sentinel, .pinned], laidTests := true, laidLooks := .later }
def TopCountUptoCardSaid : Prop := Claim7.holds Tryz.pinned (.plain (OpenSpec.upto topCountSpec)) topCountUptoCard

/-- THE SECOND FORM's CARD OF 'cellarettop.TopPieces'. -/
def topPiecesUptoCard : Claim7 := { stood := { row := topPiecesUptoRow, standIns := [], harness := (true, "d359250e031eb3528f4e9434ca534c99e802d2f2a4ac9c21a1e2b11e7e65ebe4"), looks := true }, kinds := [], alts := [], laidByText := true, laidKinds := [.data, .data, .data, .data, .sentinel, .sentinel, .pinned], laidTests := true, laidLooks := .later }
def TopPiecesUptoCardSaid : Prop := Claim7.holds Tryz.pinned (.plain (OpenSpec.upto topPiecesSpec)) topPiecesUptoCard

/-- THE SECOND FORM's CARD OF 'cellarettop.TopCas'. -/
def topCasUptoCard : Claim7 := { stood := { row := topCasUptoRow, standIns := [], harness := (true, "d359250e031eb3528f4e9434ca534c99e802d2f2a4ac9c21a1e2b11e7e65ebe4"), looks := true }, kinds := [], alts := [], laidByText := true, laidKinds := [.data, .data, .data, .data, .sentinel, .sentinel, .pinned], laidTests := true, laidLooks := .later }
def TopCasUptoCardSaid : Prop := Claim7.holds Tryz.pinned (.plain (OpenSpec.upto topCasSpec)) topCasUptoCard

/-- THE SECOND FORM's CARD OF 'cellarettop.TopOrder'. -/
def topOrderUptoCard : Claim7 := { stood := { row := topOrderUptoRow, standIns := [], harness := (true, "d359250e031eb3528f4e9434ca534c99e802d2f2a4ac9c21a1e2b11e7e65ebe4"), looks := true }, kinds := [], alts := [], laidByText := true, laidKinds := [.data, .data, .data, .data, .sentinel, .sentinel, .pinned], laidTests := true, laidLooks := .later }
def TopOrderUptoCardSaid : Prop := Claim7.holds Tryz.pinned (.plain (OpenSpec.upto topOrderSpec)) topOrderUptoCard
end Rows
end Go.Proofs.YtbmdocjeepnhmaaGreatDoor
