/-
  DERIVED. GIVEN WITH THE SEED: THE CARDS: each row of YteopmfijfgaldaaDoorRows.lean that lists a variable, with what it lists TIED to the program's text (the seventh form; the later family's looks); each row that meets fmt, with fmt's text TOLD by the authors' own Lean function (tested against real Go, not proved from fmt's source: count such statements apart). THE CARD IS WHAT COUNTS. Prove the row's statement (the work); the ties are given (YteopmfijfgaldaaDoorTie.lean); close each card by the builder's one call (the guide's Derived/Test/ToyasCard.lean, 'card_holds'). Laid BY PROGRAM, IN A SANDBOX (cutbox-door.mjs). By AI agents, Wed Nov 11 2026. No macro, syntax, notation, axiom, sorry.
-/
import Derived.Test.YteopmfijfgaldaaDoorRows
import GoSem.ClaimSeven
namespace Go.Proofs.YteopmfijfgaldaaDoor
namespace Rows

/-- THE TIED CARD OF 'glossatorkeep1.PositionMonotone'. -/
def positionMonotoneCard : Claim7 := { stood := { row := positionMonotoneRow, standIns := [], harness := (true, "a2df65d9ff534a6f1bd4b01dacb6e8c695180af4c2933d80e454626425e0da85"), looks := false }, kinds := [], alts := [], laidByText := true, laidKinds := [.data, .pinned], laidTests := true, laidLooks := .later }
def PositionMonotoneCardSaid : Prop := Claim7.holds Tryd.pinned (.plain (OpenSpec.ofChange positionMonotoneSpec)) positionMonotoneCard

/-- THE TIED CARD OF 'glossatorkeep1.PositionLines'. -/
def positionLinesCard : Claim7 := { stood := { row := positionLinesRow, standIns := [], harness := (true, "a2df65d9ff534a6f1bd4b01dacb6e8c695180af4c2933d80e454626425e0da85"), looks := false }, kinds := [], alts := [], laidByText := true, laidKinds := [.data, .pinned], laidTests := true, laidLooks := .later }
def PositionLinesCardSaid : Prop := Claim7.holds Tryd.pinned (.plain (OpenSpec.ofChange positionLinesSpec)) positionLinesCard

/-- THE TIED CARD OF 'glossatorkeep1.PositionRoundTrip'. -/
def positionRoundTripCard : Claim7 := { stood := { row := positionRoundTripRow, standIns := [], harness := (true, "a2df65d9ff534a6f1bd4b01dacb6e8c695180af4c2933d80e454626425e0da85"), looks := false }, kinds := [], alts := [], laidByText := true, laidKinds := [.data, .pinned], laidTests := true, laidLooks := .later }
def PositionRoundTripCardSaid : Prop := Claim7.holds Tryd.pinned (.plain (OpenSpec.ofChange positionRoundTripSpec)) positionRoundTripCard

/-- THE TIED CARD OF 'glossatorkeep1.LexerLossless'. -/
def lexerLosslessCard : Claim7 := { stood := { row := lexerLosslessRow, standIns := [], harness := (true, "a2df65d9ff534a6f1bd4b01dacb6e8c695180af4c2933d80e454626425e0da85"), looks := false }, kinds := [], alts := [], laidByText := true, laidKinds := [.listed, .data], laidTests := true, laidLooks := .later }
def LexerLosslessCardSaid : Prop := Claim7.holds Tryd.pinned (.plain (OpenSpec.ofChange lexerLosslessSpec)) lexerLosslessCard

/-- THE TIED CARD OF 'glossatorkeep1.LexerResumes'. -/
def lexerResumesCard : Claim7 := { stood := { row := lexerResumesRow, standIns := [], harness := (true, "a2df65d9ff534a6f1bd4b01dacb6e8c695180af4c2933d80e454626425e0da85"), looks := false }, kinds := [], alts := [], laidByText := true, laidKinds := [.listed, .data], laidTests := true, laidLooks := .later }
def LexerResumesCardSaid : Prop := Claim7.holds Tryd.pinned (.plain (OpenSpec.ofChange lexerResumesSpec)) lexerResumesCard

/-- THE TIED CARD OF 'glossatorkeep1.LexerLines'. -/
def lexerLinesCard : Claim7 := { stood := { row := lexerLinesRow, standIns := [], harness := (true, "a2df65d9ff534a6f1bd4b01dacb6e8c695180af4c2933d80e454626425e0da85"), looks := false }, kinds := [], alts := [], laidByText := true, laidKinds := [.listed, .data], laidTests := true, laidLooks := .later }
def LexerLinesCardSaid : Prop := Claim7.holds Tryd.pinned (.plain (OpenSpec.ofChange lexerLinesSpec)) lexerLinesCard

/-- THE TIED CARD OF 'glossatorkeep1.RelexSequence'. -/
def relexSequenceCard : Claim7 := { stood := { row := relexSequenceRow, standIns := [], harness := (true, "a2df65d9ff534a6f1bd4b01dacb6e8c695180af4c2933d80e454626425e0da85"), looks := false }, kinds := [], alts := [], laidByText := true, laidKinds := [.listed, .data], laidTests := true, laidLooks := .later }
def RelexSequenceCardSaid : Prop := Claim7.holds Tryd.pinned (.plain (OpenSpec.ofChange relexSequenceSpec)) relexSequenceCard

/-- THE TIED CARD OF 'glossatorkeep1.RelexIdentity'. -/
def relexIdentityCard : Claim7 := { stood := { row := relexIdentityRow, standIns := [], harness := (true, "a2df65d9ff534a6f1bd4b01dacb6e8c695180af4c2933d80e454626425e0da85"), looks := false }, kinds := [], alts := [], laidByText := true, laidKinds := [.listed, .data], laidTests := true, laidLooks := .later }
def RelexIdentityCardSaid : Prop := Claim7.holds Tryd.pinned (.plain (OpenSpec.ofChange relexIdentitySpec)) relexIdentityCard

/-- THE SECOND FORM's CARD OF 'glossatorkeep1.PositionMonotone'. -/
def positionMonotoneUptoCard : Claim7 := { stood := { row := positionMonotoneUptoRow, standIns := [], harness := (true, "a2df65d9ff534a6f1bd4b01dacb6e8c695180af4c2933d80e454626425e0da85"), looks := false }, kinds := [], alts := [], laidByText := true, laidKinds := [.data, .pinned], laidTests := true, laidLooks := .later }
def PositionMonotoneUptoCardSaid : Prop := Claim7.holds Tryd.pinned (.plain (OpenSpec.upto positionMonotoneSpec)) positionMonotoneUptoCard

/-- THE SECOND FORM's CARD OF 'glossatorkeep1.PositionLines'. -/
def positionLinesUptoCard : Claim7 := { stood := { row := positionLinesUptoRow, standIns := [], harness := (true, "a2df65d9ff534a6f1bd4b01dacb6e8c695180af4c2933d80e454626425e0da85"), looks := false }, kinds := [], alts := [], laidByText := true, laidKinds := [.data, .pinned], laidTests := true, laidLooks := .later }
def PositionLinesUptoCardSaid : Prop := Claim7.holds Tryd.pinned (.plain (OpenSpec.upto positionLinesSpec)) positionLinesUptoCard

/-- THE SECOND FORM's CARD OF 'glossatorkeep1.PositionRoundTrip'. -/
def positionRoundTripUptoCard : Claim7 := { stood := { row := positionRoundTripUptoRow, standIns := [], harness := (true, "a2df65d9ff534a6f1bd4b01dacb6e8c695180af4c2933d80e454626425e0da85"), looks := false }, kinds := [], alts := [], laidByText := true, laidKinds := [.data, .pinned], laidTests := true, laidLooks := .later }
def PositionRoundTripUptoCardSaid : Prop := Claim7.holds Tryd.pinned (.plain (OpenSpec.upto positionRoundTripSpec)) positionRoundTripUptoCard

/-- THE SECOND FORM's CARD OF 'glossatorkeep1.LexerLossless'. -/
def lexerLosslessUptoCard : Claim7 := { stood := { row := lexerLosslessUptoRow, standIns := [], harness := (true, "a2df65d9ff534a6f1bd4b01dacb6e8c695180af4c2933d80e454626425e0da85"), looks := false }, kinds := [], alts := [], laidByText := true, laidKinds := [.listed, .data], laidTests := true, laidLooks := .later }
def LexerLosslessUptoCardSaid : Prop := Claim7.holds Tryd.pinned (.plain (OpenSpec.upto lexerLosslessSpec)) lexerLosslessUptoCard

/-- THE SECOND FORM's CARD OF 'glossatorkeep1.LexerResumes'. -/
def lexerResumesUptoCard : Claim7 := { stood := { row := lexerResumesUptoRow, standIns := [], harness := (true, "a2df65d9ff534a6f1bd4b01dacb6e8c695180af4c2933d80e454626425e0da85"), looks := false }, kinds := [], alts := [], laidByText := true, laidKinds := [.listed, .data], laidTests := true, laidLooks := .later }
def LexerResumesUptoCardSaid : Prop := Claim7.holds Tryd.pinned (.plain (OpenSpec.upto lexerResumesSpec)) lexerResumesUptoCard

/-- THE SECOND FORM's CARD OF 'glossatorkeep1.LexerLines'. -/
def lexerLinesUptoCard : Claim7 := { stood := { row := lexerLinesUptoRow, standIns := [], harness := (true, "a2df65d9ff534a6f1bd4b01dacb6e8c695180af4c2933d80e454626425e0da85"), looks := false }, kinds := [], alts := [], laidByText := true, laidKinds := [.listed, .data], laidTests := true, laidLooks := .later }
def LexerLinesUptoCardSaid : Prop := Claim7.holds Tryd.pinned (.plain (OpenSpec.upto lexerLinesSpec)) lexerLinesUptoCard

/-- THE SECOND FORM's CARD OF 'glossatorkeep1.RelexSequence'. -/
def relexSequenceUptoCard : Claim7 := { stood := { row := relexSequenceUptoRow, standIns := [], harness := (true, "a2df65d9ff534a6f1bd4b01dacb6e8c695180af4c2933d80e454626425e0da85"), looks := false }, kinds := [], alts := [], laidByText := true, laidKinds := [.listed, .data], laidTests := true, laidLooks := .later }
def RelexSequenceUptoCardSaid : Prop := Claim7.holds Tryd.pinned (.plain (OpenSpec.upto relexSequenceSpec)) relexSequenceUptoCard

/-- THE SECOND FORM's CARD OF 'glossatorkeep1.RelexIdentity'. -/
def relexIdentityUptoCard : Claim7 := { stood := { row := relexIdentityUptoRow, standIns := [], harness := (true, "a2df65d9ff534a6f1bd4b01dacb6e8c695180af4c2933d80e454626425e0da85"), looks := false }, kinds := [], alts := [], laidByText := true, laidKinds := [.listed, .data], laidTests := true, laidLooks := .later }
def RelexIdentityUptoCardSaid : Prop := Claim7.holds Tryd.pinned (.plain (OpenSpec.upto relexIdentitySpec)) relexIdentityUptoCard
end Rows
end Go.Proofs.YteopmfijfgaldaaDoor
