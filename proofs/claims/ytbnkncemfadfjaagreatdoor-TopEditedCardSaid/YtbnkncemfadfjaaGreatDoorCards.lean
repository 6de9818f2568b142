/-
  DERIVED. GIVEN WITH THE SEED: THE CARDS: each row of YtbnkncemfadfjaaGreatDoorRows.lean that lists a variable, with what it lists TIED to the program's text (the seventh form; the later family's looks); each row that meets fmt, with fmt's text TOLD by the authors' own Lean function (tested against real Go, not proved from fmt's source: count such statements apart). THE CARD IS WHAT COUNTS. Prove the row's statement (the work); the ties are given (YtbnkncemfadfjaaGreatDoorTie.lean); close each card by the builder's one call (the guide's Derived/Test/ToyasCard.lean, 'card_holds'). Laid BY PROGRAM, IN A SANDBOX (cutbox-door.mjs). By AI agents, Wed Nov 11 2026. No macro, syntax, notation, axiom, sorry.
-/
import Derived.Test.YtbnkncemfadfjaaGreatDoorRows
import GoSem.ClaimSeven
namespace Go.Proofs.YtbnkncemfadfjaaGreatDoor
namespace Rows

/-- THE TIED CARD OF 'glossatortop.TopEdited'. -/
def topEditedCard : Claim7 := { stood := { row := topEditedRow, standIns := [], harness := (true, "9243419475ef87774db2d1aea0f9a2d3a607d0206fd46c0eb69bfea5690bac57"), looks := true }, kinds := [], alts := [], laidByText := true, laidKinds := [.listed, .data], laidTests := true, laidLooks := .later }
def TopEditedCardSaid : Prop := Claim7.holds Tryz.pinned (.plain (OpenSpec.ofChange topEditedSpec)) topEditedCard

/-- THE SECOND FORM's CARD OF 'glossatortop.TopEdited'. -/
def topEditedUptoCard : Claim7 := { stood := { row := topEditedUptoRow, standIns := [], harness := (true, "9243419475ef87774db2d1aea0f9a2d3a607d0206fd46c0eb69bfea5690bac57"), looks := true }, kinds := [], alts := [], laidByText := true, laidKinds := [.listed, .data], laidTests := true, laidLooks := .later }
def TopEditedUptoCardSaid : Prop := Claim7.holds Tryz.pinned (.plain (OpenSpec.upto topEditedSpec)) topEditedUptoCard
end Rows
end Go.Proofs.YtbnkncemfadfjaaGreatDoor
