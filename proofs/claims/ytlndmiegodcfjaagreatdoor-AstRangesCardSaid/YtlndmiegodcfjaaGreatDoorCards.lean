/-
  DERIVED. GIVEN WITH THE SEED: THE CARDS: each row of YtlndmiegodcfjaaGreatDoorRows.lean that lists a variable, with what it lists TIED to the program's text (the seventh form; the later family's looks); each row that meets fmt, with fmt's text TOLD by the authors' own Lean function (tested against real Go, not proved from fmt's source: count such statements apart). THE CARD IS WHAT COUNTS. Prove the row's statement (the work); the ties are given (YtlndmiegodcfjaaGreatDoorTie.lean); close each card by the builder's one call (the guide's Derived/Test/ToyasCard.lean, 'card_holds'). Laid BY PROGRAM, IN A SANDBOX (cutbox-door.mjs). By AI agents, Wed Nov 11 2026. No macro, syntax, notation, axiom, sorry.
-/
import Derived.Test.YtlndmiegodcfjaaGreatDoorRows
import GoSem.ClaimSeven
namespace Go.Proofs.YtlndmiegodcfjaaGreatDoor
namespace Rows

/-- THE TIED CARD OF 'glossatorkeep1.AstRanges'. -/
def astRangesCard : Claim7 := { stood := { row := astRangesRow, standIns := [], harness := (true, "d5af50dbb370b59fc5b450a2e4cad1d6133335fa14562cb848915dd60cdc62a9"), looks := true }, kinds := [], alts := [], laidByText := true, laidKinds := [.data, .data, .data, .sentinel, .sentinel, .listed, .data], laidTests := true, laidLooks := .later }
def AstRangesCardSaid : Prop := Claim7.holds Tryz.pinned (.plain (OpenSpec.ofChange astRangesSpec)) astRangesCard

/-- THE TIED CARD OF 'glossatorkeep1.AstQuote'. -/
def astQuoteCard : Claim7 := { stood := { row := astQuoteRow, standIns := [], harness := (true, "d5af50dbb370b59fc5b450a2e4cad1d6133335fa14562cb848915dd60cdc62a9"), looks := true }, kinds := [], alts := [], laidByText := true, laidKinds := [.data, .data, .data, .sentinel, .sentinel, .listed, .data], laidTests := true, laidLooks := .later }
def AstQuoteCardSaid : Prop := Claim7.holds Tryz.pinned (.plain (OpenSpec.ofChange astQuoteSpec)) astQuoteCard

/-- THE TIED CARD OF 'glossatorkeep1.AstPrintRoundTrip'. -/
def astPrintRoundTripCard : Claim7 := { stood := { row := astPrintRoundTripRow, standIns := [], harness := (true, "d5af50dbb370b59fc5b450a2e4cad1d6133335fa14562cb848915dd60cdc62a9"), looks := true }, kinds := [], alts := [], laidByText := true, laidKinds := [.data, .data, .data, .sentinel, .sentinel, .listed, .data], laidTests := true, laidLooks := .later }
def AstPrintRoundTripCardSaid : Prop := Claim7.holds Tryz.pinned (.plain (OpenSpec.ofChange astPrintRoundTripSpec)) astPrintRoundTripCard

/-- THE TIED CARD OF 'glossatorkeep1.AstStrip'. -/
def astStripCard : Claim7 := { stood := { row := astStripRow, standIns := [], harness := (true, "d5af50dbb370b59fc5b450a2e4cad1d6133335fa14562cb848915dd60cdc62a9"), looks := true }, kinds := [], alts := [], laidByText := true, laidKinds := [.data, .data, .data, .sentinel, .sentinel, .listed, .data], laidTests := true, laidLooks := .later }
def AstStripCardSaid : Prop := Claim7.holds Tryz.pinned (.plain (OpenSpec.ofChange astStripSpec)) astStripCard

/-- THE TIED CARD OF 'glossatorkeep1.AstPath'. -/
def astPathCard : Claim7 := { stood := { row := astPathRow, standIns := [], harness := (true, "d5af50dbb370b59fc5b450a2e4cad1d6133335fa14562cb848915dd60cdc62a9"), looks := true }, kinds := [], alts := [], laidByText := true, laidKinds := [.data, .data, .data, .sentinel, .sentinel, .listed, .data], laidTests := true, laidLooks := .later }
def AstPathCardSaid : Prop := Claim7.holds Tryz.pinned (.plain (OpenSpec.ofChange astPathSpec)) astPathCard

/-- THE SECOND FORM's CARD OF 'glossatorkeep1.AstRanges'. -/
def astRangesUptoCard : Claim7 := { stood := { row := astRangesUptoRow, standIns := [], harness := (true, "d5af50dbb370b59fc5b450a2e4cad1d6133335fa14562cb848915dd60cdc62a9"), looks := true }, kinds := [], alts := [], laidByText := true, laidKinds := [.data, .data, .data, .sentinel, .sentinel, .listed, .data], laidTests := true, laidLooks := .later }
def AstRangesUptoCardSaid : Prop := Claim7.holds Tryz.pinned (.plain (OpenSpec.upto astRangesSpec)) astRangesUptoCard

/-- THE SECOND FORM's CARD OF 'glossatorkeep1.AstQuote'. -/
def astQuoteUptoCard : Claim7 := { stood := { row := astQuoteUptoRow, standIns := [], harness := (true, "d5af50dbb370b59fc5b450a2e4cad1d6133335fa14562cb848915dd60cdc62a9"), looks := true }, kinds := [], alts := [], laidByText := true, laidKinds := [.data, .data, .data, .sentinel, .sentinel, .listed, .data], laidTests := true, laidLooks := .later }
def AstQuoteUptoCardSaid : Prop := Claim7.holds Tryz.pinned (.plain (OpenSpec.upto astQuoteSpec)) astQuoteUptoCard

/-- THE SECOND FORM's CARD OF 'glossatorkeep1.AstPrintRoundTrip'. -/
def astPrintRoundTripUptoCard : Claim7 := { stood := { row := astPrintRoundTripUptoRow, standIns := [], harness := (true, "d5af50dbb370b59fc5b450a2e4cad1d6133335fa14562cb848915dd60cdc62a9"), looks := true }, kinds := [], alts := [], laidByText := true, laidKinds := [.data, .data, .data, .sentinel, .sentinel, .listed, .data], laidTests := true, laidLooks := .later }
def AstPrintRoundTripUptoCardSaid : Prop := Claim7.holds Tryz.pinned (.plain (OpenSpec.upto astPrintRoundTripSpec)) astPrintRoundTripUptoCard

/-- THE SECOND FORM's CARD OF 'glossatorkeep1.AstStrip'. -/
def astStripUptoCard : Claim7 := { stood := { row := astStripUptoRow, standIns := [], harness := (true, "d5af50dbb370b59fc5b450a2e4cad1d6133335fa14562cb848915dd60cdc62a9"), looks := true }, kinds := [], alts := [], laidByText := true, laidKinds := [.data, .data, .data, .sentinel, .sentinel, .listed, .data], laidTests := true, laidLooks := .later }
def AstStripUptoCardSaid : Prop := Claim7.holds Tryz.pinned (.plain (OpenSpec.upto astStripSpec)) astStripUptoCard

/-- THE SECOND FORM's CARD OF 'glossatorkeep1.AstPath'. -/
def astPathUptoCard : Claim7 := { stood := { row := astPathUptoRow, standIns := [], harness := (true, "d5af50dbb370b59fc5b450a2e4cad1d6133335fa14562cb848915dd60cdc62a9"), looks := true }, kinds := [], alts := [], laidByText := true, laidKinds := [.data, .data, .data, .sentinel, .sentinel, .listed, .data], laidTests := true, laidLooks := .later }
def AstPathUptoCardSaid : Prop := Claim7.holds Tryz.pinned (.plain (OpenSpec.upto astPathSpec)) astPathUptoCard
end Rows
end Go.Proofs.YtlndmiegodcfjaaGreatDoor
