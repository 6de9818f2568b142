/-
  DERIVED. GIVEN WITH THE SEED: THE CARDS: each row of YtcelfjbajdffkaaGreatDoorRows.lean that lists a variable, with what it lists TIED to the program's text (the seventh form; the later family's looks); each row that meets fmt, with fmt's text TOLD by the authors' own Lean function (tested against real Go, not proved from fmt's source: count such statements apart). THE CARD IS WHAT COUNTS. Prove the row's statement (the work); the ties are given (YtcelfjbajdffkaaGreatDoorTie.lean); close each card by the builder's one call (the guide's Derived/Test/ToyasCard.lean, 'card_holds'). Laid BY PROGRAM, IN A SANDBOX (cutbox-door.mjs). By AI agents, Wed Nov 11 2026. No macro, syntax, notation, axiom, sorry.
-/
import Derived.Test.YtcelfjbajdffkaaGreatDoorRows
import GoSem.ClaimSeven
namespace Go.Proofs.YtcelfjbajdffkaaGreatDoor
namespace Rows

/-- THE TIED CARD OF 'glossatorkeep1.GreentreeRoundTrip'. -/
def greentreeRoundTripCard : Claim7 := { stood := { row := greentreeRoundTripRow, standIns := [], harness := (true, "73b8fb9ebe5d04e0f2f8259756229e261507133d9bca7d640e6d4c1c6a06a925"), looks := false }, kinds := [], alts := [], laidByText := true, laidKinds := [.listed, .data], laidTests := true, laidLooks := .later }
def GreentreeRoundTripCardSaid : Prop := Claim7.holds Tryz.pinned (.plain (OpenSpec.ofChange greentreeRoundTripSpec)) greentreeRoundTripCard

/-- THE TIED CARD OF 'glossatorkeep1.GreentreeIdentity'. -/
def greentreeIdentityCard : Claim7 := { stood := { row := greentreeIdentityRow, standIns := [], harness := (true, "73b8fb9ebe5d04e0f2f8259756229e261507133d9bca7d640e6d4c1c6a06a925"), looks := false }, kinds := [], alts := [], laidByText := true, laidKinds := [.listed, .data], laidTests := true, laidLooks := .later }
def GreentreeIdentityCardSaid : Prop := Claim7.holds Tryz.pinned (.plain (OpenSpec.ofChange greentreeIdentitySpec)) greentreeIdentityCard

/-- THE TIED CARD OF 'glossatorkeep1.GreentreeShares'. -/
def greentreeSharesCard : Claim7 := { stood := { row := greentreeSharesRow, standIns := [], harness := (true, "73b8fb9ebe5d04e0f2f8259756229e261507133d9bca7d640e6d4c1c6a06a925"), looks := false }, kinds := [], alts := [], laidByText := true, laidKinds := [.listed, .data], laidTests := true, laidLooks := .later }
def GreentreeSharesCardSaid : Prop := Claim7.holds Tryz.pinned (.plain (OpenSpec.ofChange greentreeSharesSpec)) greentreeSharesCard

/-- THE TIED CARD OF 'glossatorkeep1.ReparseEqualsParse'. -/
def reparseEqualsParseCard : Claim7 := { stood := { row := reparseEqualsParseRow, standIns := [], harness := (true, "73b8fb9ebe5d04e0f2f8259756229e261507133d9bca7d640e6d4c1c6a06a925"), looks := false }, kinds := [], alts := [], laidByText := true, laidKinds := [.listed, .data], laidTests := true, laidLooks := .later }
def ReparseEqualsParseCardSaid : Prop := Claim7.holds Tryz.pinned (.plain (OpenSpec.ofChange reparseEqualsParseSpec)) reparseEqualsParseCard

/-- THE TIED CARD OF 'glossatorkeep1.ReparseReuses'. -/
def reparseReusesCard : Claim7 := { stood := { row := reparseReusesRow, standIns := [], harness := (true, "73b8fb9ebe5d04e0f2f8259756229e261507133d9bca7d640e6d4c1c6a06a925"), looks := false }, kinds := [], alts := [], laidByText := true, laidKinds := [.listed, .data], laidTests := true, laidLooks := .later }
def ReparseReusesCardSaid : Prop := Claim7.holds Tryz.pinned (.plain (OpenSpec.ofChange reparseReusesSpec)) reparseReusesCard

/-- THE TIED CARD OF 'glossatorkeep1.ReparseErrors'. -/
def reparseErrorsCard : Claim7 := { stood := { row := reparseErrorsRow, standIns := [], harness := (true, "73b8fb9ebe5d04e0f2f8259756229e261507133d9bca7d640e6d4c1c6a06a925"), looks := false }, kinds := [], alts := [], laidByText := true, laidKinds := [.listed, .data], laidTests := true, laidLooks := .later }
def ReparseErrorsCardSaid : Prop := Claim7.holds Tryz.pinned (.plain (OpenSpec.ofChange reparseErrorsSpec)) reparseErrorsCard

/-- THE SECOND FORM's CARD OF 'glossatorkeep1.GreentreeRoundTrip'. -/
def greentreeRoundTripUptoCard : Claim7 := { stood := { row := greentreeRoundTripUptoRow, standIns := [], harness := (true, "73b8fb9ebe5d04e0f2f8259756229e261507133d9bca7d640e6d4c1c6a06a925"), looks := false }, kinds := [], alts := [], laidByText := true, laidKinds := [.listed, .data], laidTests := true, laidLooks := .later }
def GreentreeRoundTripUptoCardSaid : Prop := Claim7.holds Tryz.pinned (.plain (OpenSpec.upto greentreeRoundTripSpec)) greentreeRoundTripUptoCard

/-- THE SECOND FORM's CARD OF 'glossatorkeep1.GreentreeIdentity'. -/
def greentreeIdentityUptoCard : Claim7 := { stood := { row := greentreeIdentityUptoRow, standIns := [], harness := (true, "73b8fb9ebe5d04e0f2f8259756229e261507133d9bca7d640e6d4c1c6a06a925"), looks := false }, kinds := [], alts := [], laidByText := true, laidKinds := [.listed, .data], laidTests := true, laidLooks := .later }
def GreentreeIdentityUptoCardSaid : Prop := Claim7.holds Tryz.pinned (.plain (OpenSpec.upto greentreeIdentitySpec)) greentreeIdentityUptoCard

/-- THE SECOND FORM's CARD OF 'glossatorkeep1.GreentreeShares'. -/
def greentreeSharesUptoCard : Claim7 := { stood := { row := greentreeSharesUptoRow, standIns := [], harness := (true, "73b8fb9ebe5d04e0f2f8259756229e261507133d9bca7d640e6d4c1c6a06a925"), looks := false }, kinds := [], alts := [], laidByText := true, laidKinds := [.listed, .data], laidTests := true, laidLooks := .later }
def GreentreeSharesUptoCardSaid : Prop := Claim7.holds Tryz.pinned (.plain (OpenSpec.upto greentreeSharesSpec)) greentreeSharesUptoCard

/-- THE SECOND FORM's CARD OF 'glossatorkeep1.ReparseEqualsParse'. -/
def reparseEqualsParseUptoCard : Claim7 := { stood := { row := reparseEqualsParseUptoRow, standIns := [], harness := (true, "73b8fb9ebe5d04e0f2f8259756229e261507133d9bca7d640e6d4c1c6a06a925"), looks := false }, kinds := [], alts := [], laidByText := true, laidKinds := [.listed, .data], laidTests := true, laidLooks := .later }
def ReparseEqualsParseUptoCardSaid : Prop := Claim7.holds Tryz.pinned (.plain (OpenSpec.upto reparseEqualsParseSpec)) reparseEqualsParseUptoCard

/-- THE SECOND FORM's CARD OF 'glossatorkeep1.ReparseReuses'. -/
def reparseReusesUptoCard : Claim7 := { stood := { row := reparseReusesUptoRow, standIns := [], harness := (true, "73b8fb9ebe5d04e0f2f8259756229e261507133d9bca7d640e6d4c1c6a06a925"), looks := false }, kinds := [], alts := [], laidByText := true, laidKinds := [.listed, .data], laidTests := true, laidLooks := .later }
def ReparseReusesUptoCardSaid : Prop := Claim7.holds Tryz.pinned (.plain (OpenSpec.upto reparseReusesSpec)) reparseReusesUptoCard

/-- THE SECOND FORM's CARD OF 'glossatorkeep1.ReparseErrors'. -/
def reparseErrorsUptoCard : Claim7 := { stood := { row := reparseErrorsUptoRow, standIns := [], harness := (true, "73b8fb9ebe5d04e0f2f8259756229e261507133d9bca7d640e6d4c1c6a06a925"), looks := false }, kinds := [], alts := [], laidByText := true, laidKinds := [.listed, .data], laidTests := true, laidLooks := .later }
def ReparseErrorsUptoCardSaid : Prop := Claim7.holds Tryz.pinned (.plain (OpenSpec.upto reparseErrorsSpec)) reparseErrorsUptoCard
end Rows
end Go.Proofs.YtcelfjbajdffkaaGreatDoor
