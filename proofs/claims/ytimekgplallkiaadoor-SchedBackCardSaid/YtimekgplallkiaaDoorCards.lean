/-
  DERIVED. GIVEN WITH THE SEED: THE CARDS: each row of YtimekgplallkiaaDoorRows.lean that lists a variable, with what it lists TIED to the program's text (the seventh form; the later family's looks); each row that meets fmt, with fmt's text TOLD by the authors' own Lean function (tested against real Go, not proved from fmt's source: count such statements apart). THE CARD IS WHAT COUNTS. Prove the row's statement (the work); the ties are given (YtimekgplallkiaaDoorTie.lean); close each card by the builder's one call (the guide's Derived/Test/ToyasCard.lean, 'card_holds'). Laid BY PROGRAM, IN A SANDBOX (cutbox-door.mjs). By AI agents, Wed Nov 11 2026. No macro, syntax, notation, axiom, sorry.
-/
import Derived.Test.YtimekgplallkiaaDoorRows
import GoSem.ClaimSeven
namespace Go.Proofs.YtimekgplallkiaaDoor
namespace Rows

/-- THE TIED CARD OF 'leadlinelaw18.SchedTells'. -/
def schedTellsCard : Claim7 := { stood := { row := schedTellsRow, standIns := [], harness := (true, "cee48f06c61d9b5dd707414bc9789d495e3c4da6dbdb81fa0f54ee8f9efaced6"), looks := true }, kinds := [], alts := [], laidByText := true, laidKinds := [.data, .data, .data, .data, .sentinel, .sentinel, .pinned], laidTests := true, laidLooks := .later }
def SchedTellsCardSaid : Prop := Claim7.holds Tryd.pinned (.plain (OpenSpec.ofChange schedTellsSpec)) schedTellsCard

/-- THE TIED CARD OF 'leadlinelaw18.SchedParses'. -/
def schedParsesCard : Claim7 := { stood := { row := schedParsesRow, standIns := [], harness := (true, "cee48f06c61d9b5dd707414bc9789d495e3c4da6dbdb81fa0f54ee8f9efaced6"), looks := true }, kinds := [], alts := [], laidByText := true, laidKinds := [.data, .data, .data, .data, .sentinel, .sentinel, .pinned], laidTests := true, laidLooks := .later }
def SchedParsesCardSaid : Prop := Claim7.holds Tryd.pinned (.plain (OpenSpec.ofChange schedParsesSpec)) schedParsesCard

/-- THE TIED CARD OF 'leadlinelaw18.SchedBack'. -/
def schedBackCard : Claim7 := { stood := { row := schedBackRow, standIns := [], harness := (true, "cee48f06c61d9b5dd707414bc9789d495e3c4da6dbdb81fa0f54ee8f9efaced6"), looks := true }, kinds := [], alts := [], laidByText := true, laidKinds := [.data, .data, .data, .data, .sentinel, .sentinel, .pinned], laidTests := true, laidLooks := .later }
def SchedBackCardSaid : Prop := Claim7.holds Tryd.pinned (.plain (OpenSpec.ofChange schedBackSpec)) schedBackCard

/-- THE TIED CARD OF 'leadlinelaw18.SchedCuts'. -/
def schedCutsCard : Claim7 := { stood := { row := schedCutsRow, standIns := [], harness := (true, "cee48f06c61d9b5dd707414bc9789d495e3c4da6dbdb81fa0f54ee8f9efaced6"), looks := true }, kinds := [], alts := [], laidByText := true, laidKinds := [.data, .data, .data, .data, .sentinel, .sentinel, .pinned], laidTests := true, laidLooks := .later }
def SchedCutsCardSaid : Prop := Claim7.holds Tryd.pinned (.plain (OpenSpec.ofChange schedCutsSpec)) schedCutsCard

/-- THE TIED CARD OF 'leadlinelaw18.SchedJoins'. -/
def schedJoinsCard : Claim7 := { stood := { row := schedJoinsRow, standIns := [], harness := (true, "cee48f06c61d9b5dd707414bc9789d495e3c4da6dbdb81fa0f54ee8f9efaced6"), looks := true }, kinds := [], alts := [], laidByText := true, laidKinds := [.data, .data, .data, .data, .sentinel, .sentinel, .pinned], laidTests := true, laidLooks := .later }
def SchedJoinsCardSaid : Prop := Claim7.holds Tryd.pinned (.plain (OpenSpec.ofChange schedJoinsSpec)) schedJoinsCard

/-- THE SECOND FORM's CARD OF 'leadlinelaw18.SchedTells'. -/
def schedTellsUptoCard : Claim7 := { stood := { row := schedTellsUptoRow, standIns := [], harness := (true, "cee48f06c61d9b5dd707414bc9789d495e3c4da6dbdb81fa0f54ee8f9efaced6"), looks := true }, kinds := [], alts := [], laidByText := true, laidKinds := [.data, .data, .data, .data, .sentinel, .sentinel, .pinned], laidTests := true, laidLooks := .later }
def SchedTellsUptoCardSaid : Prop := Claim7.holds Tryd.pinned (.plain (OpenSpec.upto schedTellsSpec)) schedTellsUptoCard

/-- THE SECOND FORM's CARD OF 'leadlinelaw18.SchedParses'. -/
def schedParsesUptoCard : Claim7 := { stood := { row := schedParsesUptoRow, standIns := [], harness := (true, "cee48f06c61d9b5dd707414bc9789d495e3c4da6dbdb81fa0f54ee8f9efaced6"), looks := true }, kinds := [], alts := [], laidByText := true, laidKinds := [.data, .data, .data, .data, .sentinel, .sentinel, .pinned], laidTests := true, laidLooks := .later }
def SchedParsesUptoCardSaid : Prop := Claim7.holds Tryd.pinned (.plain (OpenSpec.upto schedParsesSpec)) schedParsesUptoCard

/-- THE SECOND FORM's CARD OF 'leadlinelaw18.SchedBack'. -/
def schedBackUptoCard : Claim7 := { stood := { row := schedBackUptoRow, standIns := [], harness := (true, "cee48f06c61d9b5dd707414bc9789d495e3c4da6dbdb81fa0f54ee8f9efaced6"), looks := true }, kinds := [], alts := [], laidByText := true, laidKinds := [.data, .data, .data, .data, .sentinel, .sentinel, .pinned], laidTests := true, laidLooks := .later }
def SchedBackUptoCardSaid : Prop := Claim7.holds Tryd.pinned (.plain (OpenSpec.upto schedBackSpec)) schedBackUptoCard

/-- THE SECOND FORM's CARD OF 'leadlinelaw18.SchedCuts'. -/
def schedCutsUptoCard : Claim7 := { stood := { row := schedCutsUptoRow, standIns := [], harness := (true, "cee48f06c61d9b5dd707414bc9789d495e3c4da6dbdb81fa0f54ee8f9efaced6"), looks := true }, kinds := [], alts := [], laidByText := true, laidKinds := [.data, .data, .data, .data, .sentinel, .sentinel, .pinned], laidTests := true, laidLooks := .later }
def SchedCutsUptoCardSaid : Prop := Claim7.holds Tryd.pinned (.plain (OpenSpec.upto schedCutsSpec)) schedCutsUptoCard

/-- THE SECOND FORM's CARD OF 'leadlinelaw18.SchedJoins'. -/
def schedJoinsUptoCard : Claim7 := { stood := { row := schedJoinsUptoRow, standIns := [], harness := (true, "cee48f06c61d9b5dd707414bc9789d495e3c4da6dbdb81fa0f54ee8f9efaced6"), looks := true }, kinds := [], alts := [], laidByText := true, laidKinds := [.data, .data, .data, .data, .sentinel, .sentinel, .pinned], laidTests := true, laidLooks := .later }
def SchedJoinsUptoCardSaid : Prop := Claim7.holds Tryd.pinned (.plain (OpenSpec.upto schedJoinsSpec)) schedJoinsUptoCard
end Rows
end Go.Proofs.YtimekgplallkiaaDoor
