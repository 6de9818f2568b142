/-
  DERIVED. GIVEN WITH THE SEED: THE CARDS: each row of YtiogccmfmjhipaaGreatDoorRows.lean that lists a variable, with what it lists TIED to the program's text (the seventh form; the later family's looks); each row that meets fmt, with fmt's text TOLD by the authors' own Lean function (tested against real Go, not proved from fmt's source: count such statements apart). THE CARD IS WHAT COUNTS. Prove the row's statement (the work); the ties are given (YtiogccmfmjhipaaGreatDoorTie.lean); close each card by the builder's one call (the guide's Derived/Test/ToyasCard.lean, 'card_holds'). Laid BY PROGRAM, IN A SANDBOX (cutbox-door.mjs). By AI agents, Wed Nov 11 2026. No macro, syntax, notation, axiom, sorry.
-/
import Derived.Test.YtiogccmfmjhipaaGreatDoorRows
import GoSem.ClaimSeven
namespace Go.Proofs.YtiogccmfmjhipaaGreatDoor
namespace Rows

/-- THE TIED CARD OF 'glossatorkeep1.ParserResynchronizes'. -/
def parserResynchronizesCard : Claim7 := { stood := { row := parserResynchronizesRow, standIns := [], harness := (true, "8a8562147f3ee3390cc0a2d79021bfe423c3c5f45c5a4d9ee137e35afc334c1d"), looks := true }, kinds := [], alts := [], laidByText := true, laidKinds := [.data, .data, .data, .sentinel, .sentinel, .listed, .data], laidTests := true, laidLooks := .later }
def ParserResynchronizesCardSaid : Prop := Claim7.holds Tryz.pinned (.plain (OpenSpec.ofChange parserResynchronizesSpec)) parserResynchronizesCard

/-- THE TIED CARD OF 'glossatorkeep1.ParserTrivia'. -/
def parserTriviaCard : Claim7 := { stood := { row := parserTriviaRow, standIns := [], harness := (true, "8a8562147f3ee3390cc0a2d79021bfe423c3c5f45c5a4d9ee137e35afc334c1d"), looks := true }, kinds := [], alts := [], laidByText := true, laidKinds := [.data, .data, .data, .sentinel, .sentinel, .listed, .data], laidTests := true, laidLooks := .later }
def ParserTriviaCardSaid : Prop := Claim7.holds Tryz.pinned (.plain (OpenSpec.ofChange parserTriviaSpec)) parserTriviaCard

/-- THE TIED CARD OF 'glossatorkeep1.ParserLossless'. -/
def parserLosslessCard : Claim7 := { stood := { row := parserLosslessRow, standIns := [], harness := (true, "8a8562147f3ee3390cc0a2d79021bfe423c3c5f45c5a4d9ee137e35afc334c1d"), looks := true }, kinds := [], alts := [], laidByText := true, laidKinds := [.data, .data, .data, .sentinel, .sentinel, .listed, .data], laidTests := true, laidLooks := .later }
def ParserLosslessCardSaid : Prop := Claim7.holds Tryz.pinned (.plain (OpenSpec.ofChange parserLosslessSpec)) parserLosslessCard

/-- THE TIED CARD OF 'glossatorkeep1.SymbolsModules'. -/
def symbolsModulesCard : Claim7 := { stood := { row := symbolsModulesRow, standIns := [], harness := (true, "8a8562147f3ee3390cc0a2d79021bfe423c3c5f45c5a4d9ee137e35afc334c1d"), looks := true }, kinds := [], alts := [], laidByText := true, laidKinds := [.data, .data, .data, .sentinel, .sentinel, .listed, .data], laidTests := true, laidLooks := .later }
def SymbolsModulesCardSaid : Prop := Claim7.holds Tryz.pinned (.plain (OpenSpec.ofChange symbolsModulesSpec)) symbolsModulesCard

/-- THE TIED CARD OF 'glossatorkeep1.SymbolsFind'. -/
def symbolsFindCard : Claim7 := { stood := { row := symbolsFindRow, standIns := [], harness := (true, "8a8562147f3ee3390cc0a2d79021bfe423c3c5f45c5a4d9ee137e35afc334c1d"), looks := true }, kinds := [], alts := [], laidByText := true, laidKinds := [.data, .data, .data, .sentinel, .sentinel, .listed, .data], laidTests := true, laidLooks := .later }
def SymbolsFindCardSaid : Prop := Claim7.holds Tryz.pinned (.plain (OpenSpec.ofChange symbolsFindSpec)) symbolsFindCard

/-- THE TIED CARD OF 'glossatorkeep1.SymbolsTree'. -/
def symbolsTreeCard : Claim7 := { stood := { row := symbolsTreeRow, standIns := [], harness := (true, "8a8562147f3ee3390cc0a2d79021bfe423c3c5f45c5a4d9ee137e35afc334c1d"), looks := true }, kinds := [], alts := [], laidByText := true, laidKinds := [.data, .data, .data, .sentinel, .sentinel, .listed, .data], laidTests := true, laidLooks := .later }
def SymbolsTreeCardSaid : Prop := Claim7.holds Tryz.pinned (.plain (OpenSpec.ofChange symbolsTreeSpec)) symbolsTreeCard

/-- THE TIED CARD OF 'glossatorkeep1.ExportsOrder'. -/
def exportsOrderCard : Claim7 := { stood := { row := exportsOrderRow, standIns := [], harness := (true, "8a8562147f3ee3390cc0a2d79021bfe423c3c5f45c5a4d9ee137e35afc334c1d"), looks := true }, kinds := [], alts := [], laidByText := true, laidKinds := [.data, .data, .data, .sentinel, .sentinel, .listed, .data], laidTests := true, laidLooks := .later }
def ExportsOrderCardSaid : Prop := Claim7.holds Tryz.pinned (.plain (OpenSpec.ofChange exportsOrderSpec)) exportsOrderCard

/-- THE TIED CARD OF 'glossatorkeep1.ExportsDeclarations'. -/
def exportsDeclarationsCard : Claim7 := { stood := { row := exportsDeclarationsRow, standIns := [], harness := (true, "8a8562147f3ee3390cc0a2d79021bfe423c3c5f45c5a4d9ee137e35afc334c1d"), looks := true }, kinds := [], alts := [], laidByText := true, laidKinds := [.data, .data, .data, .sentinel, .sentinel, .listed, .data], laidTests := true, laidLooks := .later }
def ExportsDeclarationsCardSaid : Prop := Claim7.holds Tryz.pinned (.plain (OpenSpec.ofChange exportsDeclarationsSpec)) exportsDeclarationsCard

/-- THE TIED CARD OF 'glossatorkeep1.ResolveRange'. -/
def resolveRangeCard : Claim7 := { stood := { row := resolveRangeRow, standIns := [], harness := (true, "8a8562147f3ee3390cc0a2d79021bfe423c3c5f45c5a4d9ee137e35afc334c1d"), looks := true }, kinds := [], alts := [], laidByText := true, laidKinds := [.data, .data, .data, .sentinel, .sentinel, .listed, .data], laidTests := true, laidLooks := .later }
def ResolveRangeCardSaid : Prop := Claim7.holds Tryz.pinned (.plain (OpenSpec.ofChange resolveRangeSpec)) resolveRangeCard

/-- THE TIED CARD OF 'glossatorkeep1.ResolveExtraModule'. -/
def resolveExtraModuleCard : Claim7 := { stood := { row := resolveExtraModuleRow, standIns := [], harness := (true, "8a8562147f3ee3390cc0a2d79021bfe423c3c5f45c5a4d9ee137e35afc334c1d"), looks := true }, kinds := [], alts := [], laidByText := true, laidKinds := [.data, .data, .data, .sentinel, .sentinel, .listed, .data], laidTests := true, laidLooks := .later }
def ResolveExtraModuleCardSaid : Prop := Claim7.holds Tryz.pinned (.plain (OpenSpec.ofChange resolveExtraModuleSpec)) resolveExtraModuleCard

/-- THE TIED CARD OF 'glossatorkeep1.ResolveInnermost'. -/
def resolveInnermostCard : Claim7 := { stood := { row := resolveInnermostRow, standIns := [], harness := (true, "8a8562147f3ee3390cc0a2d79021bfe423c3c5f45c5a4d9ee137e35afc334c1d"), looks := true }, kinds := [], alts := [], laidByText := true, laidKinds := [.data, .data, .data, .sentinel, .sentinel, .listed, .data], laidTests := true, laidLooks := .later }
def ResolveInnermostCardSaid : Prop := Claim7.holds Tryz.pinned (.plain (OpenSpec.ofChange resolveInnermostSpec)) resolveInnermostCard

/-- THE TIED CARD OF 'glossatorkeep1.ResolveLayout'. -/
def resolveLayoutCard : Claim7 := { stood := { row := resolveLayoutRow, standIns := [], harness := (true, "8a8562147f3ee3390cc0a2d79021bfe423c3c5f45c5a4d9ee137e35afc334c1d"), looks := true }, kinds := [], alts := [], laidByText := true, laidKinds := [.data, .data, .data, .sentinel, .sentinel, .listed, .data], laidTests := true, laidLooks := .later }
def ResolveLayoutCardSaid : Prop := Claim7.holds Tryz.pinned (.plain (OpenSpec.ofChange resolveLayoutSpec)) resolveLayoutCard

/-- THE SECOND FORM's CARD OF 'glossatorkeep1.ParserResynchronizes'. -/
def parserResynchronizesUptoCard : Claim7 := { stood := { row := parserResynchronizesUptoRow, standIns := [], harness := (true, "8a8562147f3ee3390cc0a2d79021bfe423c3c5f45c5a4d9ee137e35afc334c1d"), looks := true }, kinds := [], alts := [], laidByText := true, laidKinds := [.data, .data, .data, .sentinel, .sentinel, .listed, .data], laidTests := true, laidLooks := .later }
def ParserResynchronizesUptoCardSaid : Prop := Claim7.holds Tryz.pinned (.plain (OpenSpec.upto parserResynchronizesSpec)) parserResynchronizesUptoCard

/-- THE SECOND FORM's CARD OF 'glossatorkeep1.ParserTrivia'. -/
def parserTriviaUptoCard : Claim7 := { stood := { row := parserTriviaUptoRow, standIns := [], harness := (true, "8a8562147f3ee3390cc0a2d79021bfe423c3c5f45c5a4d9ee137e35afc334c1d"), looks := true }, kinds := [], alts := [], laidByText := true, laidKinds := [.data, .data, .data, .sentinel, .sentinel, .listed, .data], laidTests := true, laidLooks := .later }
def ParserTriviaUptoCardSaid : Prop := Claim7.holds Tryz.pinned (.plain (OpenSpec.upto parserTriviaSpec)) parserTriviaUptoCard

/-- THE SECOND FORM's CARD OF 'glossatorkeep1.ParserLossless'. -/
def parserLosslessUptoCard : Claim7 := { stood := { row := parserLosslessUptoRow, standIns := [], harness := (true, "8a8562147f3ee3390cc0a2d79021bfe423c3c5f45c5a4d9ee137e35afc334c1d"), looks := true }, kinds := [], alts := [], laidByText := true, laidKinds := [.data, .data, .data, .sentinel, .sentinel, .listed, .data], laidTests := true, laidLooks := .later }
def ParserLosslessUptoCardSaid : Prop := Claim7.holds Tryz.pinned (.plain (OpenSpec.upto parserLosslessSpec)) parserLosslessUptoCard

/-- THE SECOND FORM's CARD OF 'glossatorkeep1.SymbolsModules'. -/
def symbolsModulesUptoCard : Claim7 := { stood := { row := symbolsModulesUptoRow, standIns := [], harness := (true, "8a8562147f3ee3390cc0a2d79021bfe423c3c5f45c5a4d9ee137e35afc334c1d"), looks := true }, kinds := [], alts := [], laidByText := true, laidKinds := [.data, .data, .data, .sentinel, .sentinel, .listed, .data], laidTests := true, laidLooks := .later }
def SymbolsModulesUptoCardSaid : Prop := Claim7.holds Tryz.pinned (.plain (OpenSpec.upto symbolsModulesSpec)) symbolsModulesUptoCard

/-- THE SECOND FORM's CARD OF 'glossatorkeep1.SymbolsFind'. -/
def symbolsFindUptoCard : Claim7 := { stood := { row := symbolsFindUptoRow, standIns := [], harness := (true, "8a8562147f3ee3390cc0a2d79021bfe423c3c5f45c5a4d9ee137e35afc334c1d"), looks := true }, kinds := [], alts := [], laidByText := true, laidKinds := [.data, .data, .data, .sentinel, .sentinel, .listed, .data], laidTests := true, laidLooks := .later }
def SymbolsFindUptoCardSaid : Prop := Claim7.holds Tryz.pinned (.plain (OpenSpec.upto symbolsFindSpec)) symbolsFindUptoCard

/-- THE SECOND FORM's CARD OF 'glossatorkeep1.SymbolsTree'. -/
def symbolsTreeUptoCard : Claim7 := { stood := { row := symbolsTreeUptoRow, standIns := [], harness := (true, "8a8562147f3ee3390cc0a2d79021bfe423c3c5f45c5a4d9ee137e35afc334c1d"), looks := true }, kinds := [], alts := [], laidByText := true, laidKinds := [.data, .data, .data, .sentinel, .sentinel, .listed, .data], laidTests := true, laidLooks := .later }
def SymbolsTreeUptoCardSaid : Prop := Claim7.holds Tryz.pinned (.plain (OpenSpec.upto symbolsTreeSpec)) symbolsTreeUptoCard

/-- THE SECOND FORM's CARD OF 'glossatorkeep1.ExportsOrder'. -/
def exportsOrderUptoCard : Claim7 := { stood := { row := exportsOrderUptoRow, standIns := [], harness := (true, "8a8562147f3ee3390cc0a2d79021bfe423c3c5f45c5a4d9ee137e35afc334c1d"), looks := true }, kinds := [], alts := [], laidByText := true, laidKinds := [.data, .data, .data, .sentinel, .sentinel, .listed, .data], laidTests := true, laidLooks := .later }
def ExportsOrderUptoCardSaid : Prop := Claim7.holds Tryz.pinned (.plain (OpenSpec.upto exportsOrderSpec)) exportsOrderUptoCard

/-- THE SECOND FORM's CARD OF 'glossatorkeep1.ExportsDeclarations'. -/
def exportsDeclarationsUptoCard : Claim7 := { stood := { row := exportsDeclarationsUptoRow, standIns := [], harness := (true, "8a8562147f3ee3390cc0a2d79021bfe423c3c5f45c5a4d9ee137e35afc334c1d"), looks := true }, kinds := [], alts := [], laidByText := true, laidKinds := [.data, .data, .data, .sentinel, .sentinel, .listed, .data], laidTests := true, laidLooks := .later }
def ExportsDeclarationsUptoCardSaid : Prop := Claim7.holds Tryz.pinned (.plain (OpenSpec.upto exportsDeclarationsSpec)) exportsDeclarationsUptoCard

/-- THE SECOND FORM's CARD OF 'glossatorkeep1.ResolveRange'. -/
def resolveRangeUptoCard : Claim7 := { stood := { row := resolveRangeUptoRow, standIns := [], harness := (true, "8a8562147f3ee3390cc0a2d79021bfe423c3c5f45c5a4d9ee137e35afc334c1d"), looks := true }, kinds := [], alts := [], laidByText := true, laidKinds := [.data, .data, .data, .sentinel, .sentinel, .listed, .data], laidTests := true, laidLooks := .later }
def ResolveRangeUptoCardSaid : Prop := Claim7.holds Tryz.pinned (.plain (OpenSpec.upto resolveRangeSpec)) resolveRangeUptoCard

/-- THE SECOND FORM's CARD OF 'glossatorkeep1.ResolveExtraModule'. -/
def resolveExtraModuleUptoCard : Claim7 := { stood := { row := resolveExtraModuleUptoRow, standIns := [], harness := (true, "8a8562147f3ee3390cc0a2d79021bfe423c3c5f45c5a4d9ee137e35afc334c1d"), looks := true }, kinds := [], alts := [], laidByText := true, laidKinds := [.data, .data, .data, .sentinel, .sentinel, .listed, .data], laidTests := true, laidLooks := .later }
def ResolveExtraModuleUptoCardSaid : Prop := Claim7.holds Tryz.pinned (.plain (OpenSpec.upto resolveExtraModuleSpec)) resolveExtraModuleUptoCard

/-- THE SECOND FORM's CARD OF 'glossatorkeep1.ResolveInnermost'. -/
def resolveInnermostUptoCard : Claim7 := { stood := { row := resolveInnermostUptoRow, standIns := [], harness := (true, "8a8562147f3ee3390cc0a2d79021bfe423c3c5f45c5a4d9ee137e35afc334c1d"), looks := true }, kinds := [], alts := [], laidByText := true, laidKinds := [.data, .data, .data, .sentinel, .sentinel, .listed, .data], laidTests := true, laidLooks := .later }
def ResolveInnermostUptoCardSaid : Prop := Claim7.holds Tryz.pinned (.plain (OpenSpec.upto resolveInnermostSpec)) resolveInnermostUptoCard

/-- THE SECOND FORM's CARD OF 'glossatorkeep1.ResolveLayout'. -/
def resolveLayoutUptoCard : Claim7 := { stood := { row := resolveLayoutUptoRow, standIns := [], harness := (true, "8a8562147f3ee3390cc0a2d79021bfe423c3c5f45c5a4d9ee137e35afc334c1d"), looks := true }, kinds := [], alts := [], laidByText := true, laidKinds := [.data, .data, .data, .sentinel, .sentinel, .listed, .data], laidTests := true, laidLooks := .later }
def ResolveLayoutUptoCardSaid : Prop := Claim7.holds Tryz.pinned (.plain (OpenSpec.upto resolveLayoutSpec)) resolveLayoutUptoCard
end Rows
end Go.Proofs.YtiogccmfmjhipaaGreatDoor
