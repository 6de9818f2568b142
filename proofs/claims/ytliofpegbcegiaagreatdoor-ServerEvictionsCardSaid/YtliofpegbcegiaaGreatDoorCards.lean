/-
  DERIVED. GIVEN WITH THE SEED: THE CARDS: each row of YtliofpegbcegiaaGreatDoorRows.lean that lists a variable, with what it lists TIED to the program's text (the seventh form; the later family's looks); each row that meets fmt, with fmt's text TOLD by the authors' own Lean function (tested against real Go, not proved from fmt's source: count such statements apart). THE CARD IS WHAT COUNTS. Prove the row's statement (the work); the ties are given (YtliofpegbcegiaaGreatDoorTie.lean); close each card by the builder's one call (the guide's Derived/Test/ToyasCard.lean, 'card_holds'). Laid BY PROGRAM, IN A SANDBOX (cutbox-door.mjs). By AI agents, Wed Nov 11 2026. No macro, syntax, notation, axiom, sorry.
-/
import Derived.Test.YtliofpegbcegiaaGreatDoorRows
import GoSem.ClaimSeven
namespace Go.Proofs.YtliofpegbcegiaaGreatDoor
namespace Rows

/-- THE TIED CARD OF 'glossatorkeep1.ServerEvictions'. -/
def serverEvictionsCard : Claim7 := { stood := { row := serverEvictionsRow, standIns := [], harness := (true, "f84c6145a58a495a592737da850a4d17510b5233adb1dc91821b1a3b812fe3b1"), looks := true }, kinds := [], alts := [], laidByText := true, laidKinds := [.listed, .data], laidTests := true, laidLooks := .later }
def ServerEvictionsCardSaid : Prop := Claim7.holds Tryz.pinned (.plain (OpenSpec.ofChange serverEvictionsSpec)) serverEvictionsCard

/-- THE TIED CARD OF 'glossatorkeep1.ServerProgress'. -/
def serverProgressCard : Claim7 := { stood := { row := serverProgressRow, standIns := [], harness := (true, "f84c6145a58a495a592737da850a4d17510b5233adb1dc91821b1a3b812fe3b1"), looks := true }, kinds := [], alts := [], laidByText := true, laidKinds := [.listed, .data], laidTests := true, laidLooks := .later }
def ServerProgressCardSaid : Prop := Claim7.holds Tryz.pinned (.plain (OpenSpec.ofChange serverProgressSpec)) serverProgressCard

/-- THE TIED CARD OF 'glossatorkeep1.ServerCanceled'. -/
def serverCanceledCard : Claim7 := { stood := { row := serverCanceledRow, standIns := [], harness := (true, "f84c6145a58a495a592737da850a4d17510b5233adb1dc91821b1a3b812fe3b1"), looks := true }, kinds := [], alts := [], laidByText := true, laidKinds := [.listed, .data], laidTests := true, laidLooks := .later }
def ServerCanceledCardSaid : Prop := Claim7.holds Tryz.pinned (.plain (OpenSpec.ofChange serverCanceledSpec)) serverCanceledCard

/-- THE TIED CARD OF 'glossatorkeep1.ServerHistory'. -/
def serverHistoryCard : Claim7 := { stood := { row := serverHistoryRow, standIns := [], harness := (true, "f84c6145a58a495a592737da850a4d17510b5233adb1dc91821b1a3b812fe3b1"), looks := true }, kinds := [], alts := [], laidByText := true, laidKinds := [.listed, .data], laidTests := true, laidLooks := .later }
def ServerHistoryCardSaid : Prop := Claim7.holds Tryz.pinned (.plain (OpenSpec.ofChange serverHistorySpec)) serverHistoryCard

/-- THE TIED CARD OF 'glossatorkeep1.ServerErrors'. -/
def serverErrorsCard : Claim7 := { stood := { row := serverErrorsRow, standIns := [], harness := (true, "f84c6145a58a495a592737da850a4d17510b5233adb1dc91821b1a3b812fe3b1"), looks := true }, kinds := [], alts := [], laidByText := true, laidKinds := [.listed, .data], laidTests := true, laidLooks := .later }
def ServerErrorsCardSaid : Prop := Claim7.holds Tryz.pinned (.plain (OpenSpec.ofChange serverErrorsSpec)) serverErrorsCard

/-- THE SECOND FORM's CARD OF 'glossatorkeep1.ServerEvictions'. -/
def serverEvictionsUptoCard : Claim7 := { stood := { row := serverEvictionsUptoRow, standIns := [], harness := (true, "f84c6145a58a495a592737da850a4d17510b5233adb1dc91821b1a3b812fe3b1"), looks := true }, kinds := [], alts := [], laidByText := true, laidKinds := [.listed, .data], laidTests := true, laidLooks := .later }
def ServerEvictionsUptoCardSaid : Prop := Claim7.holds Tryz.pinned (.plain (OpenSpec.upto serverEvictionsSpec)) serverEvictionsUptoCard

/-- THE SECOND FORM's CARD OF 'glossatorkeep1.ServerProgress'. -/
def serverProgressUptoCard : Claim7 := { stood := { row := serverProgressUptoRow, standIns := [], harness := (true, "f84c6145a58a495a592737da850a4d17510b5233adb1dc91821b1a3b812fe3b1"), looks := true }, kinds := [], alts := [], laidByText := true, laidKinds := [.listed, .data], laidTests := true, laidLooks := .later }
def ServerProgressUptoCardSaid : Prop := Claim7.holds Tryz.pinned (.plain (OpenSpec.upto serverProgressSpec)) serverProgressUptoCard

/-- THE SECOND FORM's CARD OF 'glossatorkeep1.ServerCanceled'. -/
def serverCanceledUptoCard : Claim7 := { stood := { row := serverCanceledUptoRow, standIns := [], harness := (true, "f84c6145a58a495a592737da850a4d17510b5233adb1dc91821b1a3b812fe3b1"), looks := true }, kinds := [], alts := [], laidByText := true, laidKinds := [.listed, .data], laidTests := true, laidLooks := .later }
def ServerCanceledUptoCardSaid : Prop := Claim7.holds Tryz.pinned (.plain (OpenSpec.upto serverCanceledSpec)) serverCanceledUptoCard

/-- THE SECOND FORM's CARD OF 'glossatorkeep1.ServerHistory'. -/
def serverHistoryUptoCard : Claim7 := { stood := { row := serverHistoryUptoRow, standIns := [], harness := (true, "f84c6145a58a495a592737da850a4d17510b5233adb1dc91821b1a3b812fe3b1"), looks := true }, kinds := [], alts := [], laidByText := true, laidKinds := [.listed, .data], laidTests := true, laidLooks := .later }
def ServerHistoryUptoCardSaid : Prop := Claim7.holds Tryz.pinned (.plain (OpenSpec.upto serverHistorySpec)) serverHistoryUptoCard

/-- THE SECOND FORM's CARD OF 'glossatorkeep1.ServerErrors'. -/
def serverErrorsUptoCard : Claim7 := { stood := { row := serverErrorsUptoRow, standIns := [], harness := (true, "f84c6145a58a495a592737da850a4d17510b5233adb1dc91821b1a3b812fe3b1"), looks := true }, kinds := [], alts := [], laidByText := true, laidKinds := [.listed, .data], laidTests := true, laidLooks := .later }
def ServerErrorsUptoCardSaid : Prop := Claim7.holds Tryz.pinned (.plain (OpenSpec.upto serverErrorsSpec)) serverErrorsUptoCard
end Rows
end Go.Proofs.YtliofpegbcegiaaGreatDoor
