/-
  DERIVED. GIVEN WITH THE SEED: THE CARDS: each row of YtcgcndmlgfnjbaaGreatDoorRows.lean that lists a variable, with what it lists TIED to the program's text (the seventh form; the later family's looks); each row that meets fmt, with fmt's text TOLD by the authors' own Lean function (tested against real Go, not proved from fmt's source: count such statements apart). THE CARD IS WHAT COUNTS. Prove the row's statement (the work); the ties are given (YtcgcndmlgfnjbaaGreatDoorTie.lean); close each card by the builder's one call (the guide's Derived/Test/ToyasCard.lean, 'card_holds'). Laid BY PROGRAM, IN A SANDBOX (cutbox-door.mjs). By AI agents, Wed Nov 11 2026. No macro, syntax, notation, axiom, sorry.
-/
import Derived.Test.YtcgcndmlgfnjbaaGreatDoorRows
import GoSem.ClaimSeven
namespace Go.Proofs.YtcgcndmlgfnjbaaGreatDoor
namespace Rows

/-- THE TIED CARD OF 'leadlinelaw23.ReportTells'. -/
def reportTellsCard : Claim7 := { stood := { row := reportTellsRow, standIns := [], harness := (true, "784ea45b0d1ac5bfff9bc696faacfd6d3a9c600702584ab68c79a21c884d3301"), looks := true }, kinds := [], alts := [], laidByText := true, laidKinds := [.data, .data, .data, .data, .sentinel, .sentinel, .pinned], laidTests := true, laidLooks := .later }
def ReportTellsCardSaid : Prop := Claim7.holds Tryz.pinned (.plain (OpenSpec.ofChange reportTellsSpec)) reportTellsCard

/-- THE TIED CARD OF 'leadlinelaw23.ReportParses'. -/
def reportParsesCard : Claim7 := { stood := { row := reportParsesRow, standIns := [], harness := (true, "784ea45b0d1ac5bfff9bc696faacfd6d3a9c600702584ab68c79a21c884d3301"), looks := true }, kinds := [], alts := [], laidByText := true, laidKinds := [.data, .data, .data, .data, .sentinel, .sentinel, .pinned], laidTests := true, laidLooks := .later }
def ReportParsesCardSaid : Prop := Claim7.holds Tryz.pinned (.plain (OpenSpec.ofChange reportParsesSpec)) reportParsesCard

/-- THE TIED CARD OF 'leadlinelaw23.ReportBack'. -/
def reportBackCard : Claim7 := { stood := { row := reportBackRow, standIns := [], harness := (true, "784ea45b0d1ac5bfff9bc696faacfd6d3a9c600702584ab68c79a21c884d3301"), looks := true }, kinds := [], alts := [], laidByText := true, laidKinds := [.data, .data, .data, .data, .sentinel, .sentinel, .pinned], laidTests := true, laidLooks := .later }
def ReportBackCardSaid : Prop := Claim7.holds Tryz.pinned (.plain (OpenSpec.ofChange reportBackSpec)) reportBackCard

/-- THE TIED CARD OF 'leadlinelaw23.ReportCounts'. -/
def reportCountsCard : Claim7 := { stood := { row := reportCountsRow, standIns := [], harness := (true, "784ea45b0d1ac5bfff9bc696faacfd6d3a9c600702584ab68c79a21c884d3301"), looks := true }, kinds := [], alts := [], laidByText := true, laidKinds := [.data, .data, .data, .data, .sentinel, .sentinel, .pinned], laidTests := true, laidLooks := .later }
def ReportCountsCardSaid : Prop := Claim7.holds Tryz.pinned (.plain (OpenSpec.ofChange reportCountsSpec)) reportCountsCard

/-- THE TIED CARD OF 'leadlinelaw23.ReportKinds'. -/
def reportKindsCard : Claim7 := { stood := { row := reportKindsRow, standIns := [], harness := (true, "784ea45b0d1ac5bfff9bc696faacfd6d3a9c600702584ab68c79a21c884d3301"), looks := true }, kinds := [], alts := [], laidByText := true, laidKinds := [.data, .data, .data, .data, .sentinel, .sentinel, .pinned], laidTests := true, laidLooks := .later }
def ReportKindsCardSaid : Prop := Claim7.holds Tryz.pinned (.plain (OpenSpec.ofChange reportKindsSpec)) reportKindsCard

/-- THE TIED CARD OF 'leadlinelaw23.ReportEnds'. -/
def reportEndsCard : Claim7 := { stood := { row := reportEndsRow, standIns := [], harness := (true, "784ea45b0d1ac5bfff9bc696faacfd6d3a9c600702584ab68c79a21c884d3301"), looks := true }, kinds := [], alts := [], laidByText := true, laidKinds := [.data, .data, .data, .data, .sentinel, .sentinel, .pinned], laidTests := true, laidLooks := .later }
def ReportEndsCardSaid : Prop := Claim7.holds Tryz.pinned (.plain (OpenSpec.ofChange reportEndsSpec)) reportEndsCard

/-- THE SECOND FORM's CARD OF 'leadlinelaw23.ReportTells'. -/
def reportTellsUptoCard : Claim7 := { stood := { row := reportTellsUptoRow, standIns := [], harness := (true, "784ea45b0d1ac5bfff9bc696faacfd6d3a9c600702584ab68c79a21c884d3301"), looks := true }, kinds := [], alts := [], laidByText := true, laidKinds := [.data, .data, .data, .data, .sentinel, .sentinel, .pinned], laidTests := true, laidLooks := .later }
def ReportTellsUptoCardSaid : Prop := Claim7.holds Tryz.pinned (.plain (OpenSpec.upto reportTellsSpec)) reportTellsUptoCard

/-- THE SECOND FORM's CARD OF 'leadlinelaw23.ReportParses'. -/
def reportParsesUptoCard : Claim7 := { stood := { row := reportParsesUptoRow, standIns := [], harness := (true, "784ea45b0d1ac5bfff9bc696faacfd6d3a9c600702584ab68c79a21c884d3301"), looks := true }, kinds := [], alts := [], laidByText := true, laidKinds := [.data, .data, .data, .data, .sentinel, .sentinel, .pinned], laidTests := true, laidLooks := .later }
def ReportParsesUptoCardSaid : Prop := Claim7.holds Tryz.pinned (.plain (OpenSpec.upto reportParsesSpec)) reportParsesUptoCard

/-- THE SECOND FORM's CARD OF 'leadlinelaw23.ReportBack'. -/
def reportBackUptoCard : Claim7 := { stood := { row := reportBackUptoRow, standIns := [], harness := (true, "784ea45b0d1ac5bfff9bc696faacfd6d3a9c600702584ab68c79a21c884d3301"), looks := true }, kinds := [], alts := [], laidByText := true, laidKinds := [.data, .data, .data, .data, .sentinel, .sentinel, .pinned], laidTests := true, laidLooks := .later }
def ReportBackUptoCardSaid : Prop := Claim7.holds Tryz.pinned (.plain (OpenSpec.upto reportBackSpec)) reportBackUptoCard

/-- THE SECOND FORM's CARD OF 'leadlinelaw23.ReportCounts'. -/
def reportCountsUptoCard : Claim7 := { stood := { row := reportCountsUptoRow, standIns := [], harness := (true, "784ea45b0d1ac5bfff9bc696faacfd6d3a9c600702584ab68c79a21c884d3301"), looks := true }, kinds := [], alts := [], laidByText := true, laidKinds := [.data, .data, .data, .data, .sentinel, .sentinel, .pinned], laidTests := true, laidLooks := .later }
def ReportCountsUptoCardSaid : Prop := Claim7.holds Tryz.pinned (.plain (OpenSpec.upto reportCountsSpec)) reportCountsUptoCard

/-- THE SECOND FORM's CARD OF 'leadlinelaw23.ReportKinds'. -/
def reportKindsUptoCard : Claim7 := { stood := { row := reportKindsUptoRow, standIns := [], harness := (true, "784ea45b0d1ac5bfff9bc696faacfd6d3a9c600702584ab68c79a21c884d3301"), looks := true }, kinds := [], alts := [], laidByText := true, laidKinds := [.data, .data, .data, .data, .sentinel, .sentinel, .pinned], laidTests := true, laidLooks := .later }
def ReportKindsUptoCardSaid : Prop := Claim7.holds Tryz.pinned (.plain (OpenSpec.upto reportKindsSpec)) reportKindsUptoCard

/-- THE SECOND FORM's CARD OF 'leadlinelaw23.ReportEnds'. -/
def reportEndsUptoCard : Claim7 := { stood := { row := reportEndsUptoRow, standIns := [], harness := (true, "784ea45b0d1ac5bfff9bc696faacfd6d3a9c600702584ab68c79a21c884d3301"), looks := true }, kinds := [], alts := [], laidByText := true, laidKinds := [.data, .data, .data, .data, .sentinel, .sentinel, .pinned], laidTests := true, laidLooks := .later }
def ReportEndsUptoCardSaid : Prop := Claim7.holds Tryz.pinned (.plain (OpenSpec.upto reportEndsSpec)) reportEndsUptoCard
end Rows
end Go.Proofs.YtcgcndmlgfnjbaaGreatDoor
