/-
  DERIVED. GIVEN WITH THE SEED: THE CARDS: each row of YtaoeaaebafcegaaGreatDoorRows.lean that lists a variable, with what it lists TIED to the program's text (the seventh form; the later family's looks); each row that meets fmt, with fmt's text TOLD by the authors' own Lean function (tested against real Go, not proved from fmt's source: count such statements apart). THE CARD IS WHAT COUNTS. Prove the row's statement (the work); the ties are given (YtaoeaaebafcegaaGreatDoorTie.lean); close each card by the builder's one call (the guide's Derived/Test/ToyasCard.lean, 'card_holds'). Laid BY PROGRAM, IN A SANDBOX (cutbox-door.mjs). By AI agents, Wed Nov 11 2026. No macro, syntax, notation, axiom, sorry.
-/
import Derived.Test.YtaoeaaebafcegaaGreatDoorRows
import GoSem.ClaimSeven
namespace Go.Proofs.YtaoeaaebafcegaaGreatDoor
namespace Rows

/-- THE TIED CARD OF 'leadlinelaw04.StmtParses'. -/
def stmtParsesCard : Claim7 := { stood := { row := stmtParsesRow, standIns := [], harness := (true, "569b2b074e76010fb5b9eaf6df691f6ad11544446ae3515e5d3fa1879286e5c9"), looks := false }, kinds := [], alts := [], laidByText := true, laidKinds := [.data, .data, .data, .data, .pinned], laidTests := true, laidLooks := .later }
def StmtParsesCardSaid : Prop := Claim7.holds Tryz.pinned (.plain (OpenSpec.ofChange stmtParsesSpec)) stmtParsesCard

/-- THE TIED CARD OF 'leadlinelaw04.StmtTells'. -/
def stmtTellsCard : Claim7 := { stood := { row := stmtTellsRow, standIns := [], harness := (true, "569b2b074e76010fb5b9eaf6df691f6ad11544446ae3515e5d3fa1879286e5c9"), looks := false }, kinds := [], alts := [], laidByText := true, laidKinds := [.data, .data, .data, .data, .pinned], laidTests := true, laidLooks := .later }
def StmtTellsCardSaid : Prop := Claim7.holds Tryz.pinned (.plain (OpenSpec.ofChange stmtTellsSpec)) stmtTellsCard

/-- THE TIED CARD OF 'leadlinelaw04.StmtBack'. -/
def stmtBackCard : Claim7 := { stood := { row := stmtBackRow, standIns := [], harness := (true, "569b2b074e76010fb5b9eaf6df691f6ad11544446ae3515e5d3fa1879286e5c9"), looks := false }, kinds := [], alts := [], laidByText := true, laidKinds := [.data, .data, .data, .data, .pinned], laidTests := true, laidLooks := .later }
def StmtBackCardSaid : Prop := Claim7.holds Tryz.pinned (.plain (OpenSpec.ofChange stmtBackSpec)) stmtBackCard

/-- THE TIED CARD OF 'leadlinelaw04.StmtShown'. -/
def stmtShownCard : Claim7 := { stood := { row := stmtShownRow, standIns := [], harness := (true, "569b2b074e76010fb5b9eaf6df691f6ad11544446ae3515e5d3fa1879286e5c9"), looks := false }, kinds := [], alts := [], laidByText := true, laidKinds := [.data, .data, .data, .data, .pinned], laidTests := true, laidLooks := .later }
def StmtShownCardSaid : Prop := Claim7.holds Tryz.pinned (.plain (OpenSpec.ofChange stmtShownSpec)) stmtShownCard

/-- THE TIED CARD OF 'leadlinelaw04.StmtBodies'. -/
def stmtBodiesCard : Claim7 := { stood := { row := stmtBodiesRow, standIns := [], harness := (true, "569b2b074e76010fb5b9eaf6df691f6ad11544446ae3515e5d3fa1879286e5c9"), looks := false }, kinds := [], alts := [], laidByText := true, laidKinds := [.data, .data, .data, .data, .pinned], laidTests := true, laidLooks := .later }
def StmtBodiesCardSaid : Prop := Claim7.holds Tryz.pinned (.plain (OpenSpec.ofChange stmtBodiesSpec)) stmtBodiesCard

/-- THE TIED CARD OF 'leadlinelaw04.StmtJoins'. -/
def stmtJoinsCard : Claim7 := { stood := { row := stmtJoinsRow, standIns := [], harness := (true, "569b2b074e76010fb5b9eaf6df691f6ad11544446ae3515e5d3fa1879286e5c9"), looks := false }, kinds := [], alts := [], laidByText := true, laidKinds := [.data, .data, .data, .data, .pinned], laidTests := true, laidLooks := .later }
def StmtJoinsCardSaid : Prop := Claim7.holds Tryz.pinned (.plain (OpenSpec.ofChange stmtJoinsSpec)) stmtJoinsCard

/-- THE TIED CARD OF 'leadlinelaw04.StmtWraps'. -/
def stmtWrapsCard : Claim7 := { stood := { row := stmtWrapsRow, standIns := [], harness := (true, "569b2b074e76010fb5b9eaf6df691f6ad11544446ae3515e5d3fa1879286e5c9"), looks := false }, kinds := [], alts := [], laidByText := true, laidKinds := [.data, .data, .data, .data, .pinned], laidTests := true, laidLooks := .later }
def StmtWrapsCardSaid : Prop := Claim7.holds Tryz.pinned (.plain (OpenSpec.ofChange stmtWrapsSpec)) stmtWrapsCard

/-- THE SECOND FORM's CARD OF 'leadlinelaw04.StmtParses'. -/
def stmtParsesUptoCard : Claim7 := { stood := { row := stmtParsesUptoRow, standIns := [], harness := (true, "569b2b074e76010fb5b9eaf6df691f6ad11544446ae3515e5d3fa1879286e5c9"), looks := false }, kinds := [], alts := [], laidByText := true, laidKinds := [.data, .data, .data, .data, .pinned], laidTests := true, laidLooks := .later }
def StmtParsesUptoCardSaid : Prop := Claim7.holds Tryz.pinned (.plain (OpenSpec.upto stmtParsesSpec)) stmtParsesUptoCard

/-- THE SECOND FORM's CARD OF 'leadlinelaw04.StmtTells'. -/
def stmtTellsUptoCard : Claim7 := { stood := { row := stmtTellsUptoRow, standIns := [], harness := (true, "569b2b074e76010fb5b9eaf6df691f6ad11544446ae3515e5d3fa1879286e5c9"), looks := false }, kinds := [], alts := [], laidByText := true, laidKinds := [.data, .data, .data, .data, .pinned], laidTests := true, laidLooks := .later }
def StmtTellsUptoCardSaid : Prop := Claim7.holds Tryz.pinned (.plain (OpenSpec.upto stmtTellsSpec)) stmtTellsUptoCard

/-- THE SECOND FORM's CARD OF 'leadlinelaw04.StmtBack'. -/
def stmtBackUptoCard : Claim7 := { stood := { row := stmtBackUptoRow, standIns := [], harness := (true, "569b2b074e76010fb5b9eaf6df691f6ad11544446ae3515e5d3fa1879286e5c9"), looks := false }, kinds := [], alts := [], laidByText := true, laidKinds := [.data, .data, .data, .data, .pinned], laidTests := true, laidLooks := .later }
def StmtBackUptoCardSaid : Prop := Claim7.holds Tryz.pinned (.plain (OpenSpec.upto stmtBackSpec)) stmtBackUptoCard

/-- THE SECOND FORM's CARD OF 'leadlinelaw04.StmtShown'. -/
def stmtShownUptoCard : Claim7 := { stood := { row := stmtShownUptoRow, standIns := [], harness := (true, "569b2b074e76010fb5b9eaf6df691f6ad11544446ae3515e5d3fa1879286e5c9"), looks := false }, kinds := [], alts := [], laidByText := true, laidKinds := [.data, .data, .data, .data, .pinned], laidTests := true, laidLooks := .later }
def StmtShownUptoCardSaid : Prop := Claim7.holds Tryz.pinned (.plain (OpenSpec.upto stmtShownSpec)) stmtShownUptoCard

/-- THE SECOND FORM's CARD OF 'leadlinelaw04.StmtBodies'. -/
def stmtBodiesUptoCard : Claim7 := { stood := { row := stmtBodiesUptoRow, standIns := [], harness := (true, "569b2b074e76010fb5b9eaf6df691f6ad11544446ae3515e5d3fa1879286e5c9"), looks := false }, kinds := [], alts := [], laidByText := true, laidKinds := [.data, .data, .data, .data, .pinned], laidTests := true, laidLooks := .later }
def StmtBodiesUptoCardSaid : Prop := Claim7.holds Tryz.pinned (.plain (OpenSpec.upto stmtBodiesSpec)) stmtBodiesUptoCard

/-- THE SECOND FORM's CARD OF 'leadlinelaw04.StmtJoins'. -/
def stmtJoinsUptoCard : Claim7 := { stood := { row := stmtJoinsUptoRow, standIns := [], harness := (true, "569b2b074e76010fb5b9eaf6df691f6ad11544446ae3515e5d3fa1879286e5c9"), looks := false }, kinds := [], alts := [], laidByText := true, laidKinds := [.data, .data, .data, .data, .pinned], laidTests := true, laidLooks := .later }
def StmtJoinsUptoCardSaid : Prop := Claim7.holds Tryz.pinned (.plain (OpenSpec.upto stmtJoinsSpec)) stmtJoinsUptoCard

/-- THE SECOND FORM's CARD OF 'leadlinelaw04.StmtWraps'. -/
def stmtWrapsUptoCard : Claim7 := { stood := { row := stmtWrapsUptoRow, standIns := [], harness := (true, "569b2b074e76010fb5b9eaf6df691f6ad11544446ae3515e5d3fa1879286e5c9"), looks := false }, kinds := [], alts := [], laidByText := true, laidKinds := [.data, .data, .data, .data, .pinned], laidTests := true, laidLooks := .later }
def StmtWrapsUptoCardSaid : Prop := Claim7.holds Tryz.pinned (.plain (OpenSpec.upto stmtWrapsSpec)) stmtWrapsUptoCard
end Rows
end Go.Proofs.YtaoeaaebafcegaaGreatDoor
