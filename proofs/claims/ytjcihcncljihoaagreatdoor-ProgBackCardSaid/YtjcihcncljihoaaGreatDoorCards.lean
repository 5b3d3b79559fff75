/-
  DERIVED. GIVEN WITH THE SEED: THE CARDS: each row of YtjcihcncljihoaaGreatDoorRows.lean that lists a variable, with what it lists TIED to the program's text (the seventh form; the later family's looks); each row that meets fmt, with fmt's text TOLD by the authors' own Lean function (tested against real Go, not proved from fmt's source: count such statements apart). THE CARD IS WHAT COUNTS. Prove the row's statement (the work); the ties are given (YtjcihcncljihoaaGreatDoorTie.lean); close each card by the builder's one call (the guide's Derived/Test/ToyasCard.lean, 'card_holds'). Laid BY PROGRAM, IN A SANDBOX (cutbox-door.mjs). By AI agents, Wed Nov 11 2026. No macro, syntax, notation, axiom, sorry.
-/
import Derived.Test.YtjcihcncljihoaaGreatDoorRows
import GoSem.ClaimSeven
namespace Go.Proofs.YtjcihcncljihoaaGreatDoor
namespace Rows

/-- THE TIED CARD OF 'leadlinelaw05.ProgParses'. -/
def progParsesCard : Claim7 := { stood := { row := progParsesRow, standIns := [], harness := (true, "e3f2e62c29f81dba7b8c0ed3d9085db33d384ee0b15d80e7d2abb48dacd139b4"), looks := true }, kinds := [], alts := [], laidByText := true, laidKinds := [.data, .data, .data, .data, .sentinel, .sentinel, .pinned], laidTests := true, laidLooks := .later }
def ProgParsesCardSaid : Prop := Claim7.holds Tryz.pinned (.plain (OpenSpec.ofChange progParsesSpec)) progParsesCard

/-- THE TIED CARD OF 'leadlinelaw05.ProgTells'. -/
def progTellsCard : Claim7 := { stood := { row := progTellsRow, standIns := [], harness := (true, "e3f2e62c29f81dba7b8c0ed3d9085db33d384ee0b15d80e7d2abb48dacd139b4"), looks := true }, kinds := [], alts := [], laidByText := true, laidKinds := [.data, .data, .data, .data, .sentinel, .sentinel, .pinned], laidTests := true, laidLooks := .later }
def ProgTellsCardSaid : Prop := Claim7.holds Tryz.pinned (.plain (OpenSpec.ofChange progTellsSpec)) progTellsCard

/-- THE TIED CARD OF 'leadlinelaw05.ProgBack'. -/
def progBackCard : Claim7 := { stood := { row := progBackRow, standIns := [], harness := (true, "e3f2e62c29f81dba7b8c0ed3d9085db33d384ee0b15d80e7d2abb48dacd139b4"), looks := true }, kinds := [], alts := [], laidByText := true, laidKinds := [.data, .data, .data, .data, .sentinel, .sentinel, .pinned], laidTests := true, laidLooks := .later }
def ProgBackCardSaid : Prop := Claim7.holds Tryz.pinned (.plain (OpenSpec.ofChange progBackSpec)) progBackCard

/-- THE TIED CARD OF 'leadlinelaw05.ProgShown'. -/
def progShownCard : Claim7 := { stood := { row := progShownRow, standIns := [], harness := (true, "e3f2e62c29f81dba7b8c0ed3d9085db33d384ee0b15d80e7d2abb48dacd139b4"), looks := true }, kinds := [], alts := [], laidByText := true, laidKinds := [.data, .data, .data, .data, .sentinel, .sentinel, .pinned], laidTests := true, laidLooks := .later }
def ProgShownCardSaid : Prop := Claim7.holds Tryz.pinned (.plain (OpenSpec.ofChange progShownSpec)) progShownCard

/-- THE TIED CARD OF 'leadlinelaw05.ProgBare'. -/
def progBareCard : Claim7 := { stood := { row := progBareRow, standIns := [], harness := (true, "e3f2e62c29f81dba7b8c0ed3d9085db33d384ee0b15d80e7d2abb48dacd139b4"), looks := true }, kinds := [], alts := [], laidByText := true, laidKinds := [.data, .data, .data, .data, .sentinel, .sentinel, .pinned], laidTests := true, laidLooks := .later }
def ProgBareCardSaid : Prop := Claim7.holds Tryz.pinned (.plain (OpenSpec.ofChange progBareSpec)) progBareCard

/-- THE TIED CARD OF 'leadlinelaw05.ProgOrder'. -/
def progOrderCard : Claim7 := { stood := { row := progOrderRow, standIns := [], harness := (true, "e3f2e62c29f81dba7b8c0ed3d9085db33d384ee0b15d80e7d2abb48dacd139b4"), looks := true }, kinds := [], alts := [], laidByText := true, laidKinds := [.data, .data, .data, .data, .sentinel, .sentinel, .pinned], laidTests := true, laidLooks := .later }
def ProgOrderCardSaid : Prop := Claim7.holds Tryz.pinned (.plain (OpenSpec.ofChange progOrderSpec)) progOrderCard

/-- THE TIED CARD OF 'leadlinelaw05.ProgAdds'. -/
def progAddsCard : Claim7 := { stood := { row := progAddsRow, standIns := [], harness := (true, "e3f2e62c29f81dba7b8c0ed3d9085db33d384ee0b15d80e7d2abb48dacd139b4"), looks := true }, kinds := [], alts := [], laidByText := true, laidKinds := [.data, .data, .data, .data, .sentinel, .sentinel, .pinned], laidTests := true, laidLooks := .later }
def ProgAddsCardSaid : Prop := Claim7.holds Tryz.pinned (.plain (OpenSpec.ofChange progAddsSpec)) progAddsCard

/-- THE SECOND FORM's CARD OF 'leadlinelaw05.ProgParses'. -/
def progParsesUptoCard : Claim7 := { stood := { row := progParsesUptoRow, standIns := [], harness := (true, "e3f2e62c29f81dba7b8c0ed3d9085db33d384ee0b15d80e7d2abb48dacd139b4"), looks := true }, kinds := [], alts := [], laidByText := true, laidKinds := [.data, .data, .data, .data, .sentinel, .sentinel, .pinned], laidTests := true, laidLooks := .later }
def ProgParsesUptoCardSaid : Prop := Claim7.holds Tryz.pinned (.plain (OpenSpec.upto progParsesSpec)) progParsesUptoCard

/-- THE SECOND FORM's CARD OF 'leadlinelaw05.ProgTells'. -/
def progTellsUptoCard : Claim7 := { stood := { row := progTellsUptoRow, standIns := [], harness := (true, "e3f2e62c29f81dba7b8c0ed3d9085db33d384ee0b15d80e7d2abb48dacd139b4"), looks := true }, kinds := [], alts := [], laidByText := true, laidKinds := [.data, .data, .data, .data, .sentinel, .sentinel, .pinned], laidTests := true, laidLooks := .later }
def ProgTellsUptoCardSaid : Prop := Claim7.holds Tryz.pinned (.plain (OpenSpec.upto progTellsSpec)) progTellsUptoCard

/-- THE SECOND FORM's CARD OF 'leadlinelaw05.ProgBack'. -/
def progBackUptoCard : Claim7 := { stood := { row := progBackUptoRow, standIns := [], harness := (true, "e3f2e62c29f81dba7b8c0ed3d9085db33d384ee0b15d80e7d2abb48dacd139b4"), looks := true }, kinds := [], alts := [], laidByText := true, laidKinds := [.data, .data, .data, .data, .sentinel, .sentinel, .pinned], laidTests := true, laidLooks := .later }
def ProgBackUptoCardSaid : Prop := Claim7.holds Tryz.pinned (.plain (OpenSpec.upto progBackSpec)) progBackUptoCard

/-- THE SECOND FORM's CARD OF 'leadlinelaw05.ProgShown'. -/
def progShownUptoCard : Claim7 := { stood := { row := progShownUptoRow, standIns := [], harness := (true, "e3f2e62c29f81dba7b8c0ed3d9085db33d384ee0b15d80e7d2abb48dacd139b4"), looks := true }, kinds := [], alts := [], laidByText := true, laidKinds := [.data, .data, .data, .data, .sentinel, .sentinel, .pinned], laidTests := true, laidLooks := .later }
def ProgShownUptoCardSaid : Prop := Claim7.holds Tryz.pinned (.plain (OpenSpec.upto progShownSpec)) progShownUptoCard

/-- THE SECOND FORM's CARD OF 'leadlinelaw05.ProgBare'. -/
def progBareUptoCard : Claim7 := { stood := { row := progBareUptoRow, standIns := [], harness := (true, "e3f2e62c29f81dba7b8c0ed3d9085db33d384ee0b15d80e7d2abb48dacd139b4"), looks := true }, kinds := [], alts := [], laidByText := true, laidKinds := [.data, .data, .data, .data, .sentinel, .sentinel, .pinned], laidTests := true, laidLooks := .later }
def ProgBareUptoCardSaid : Prop := Claim7.holds Tryz.pinned (.plain (OpenSpec.upto progBareSpec)) progBareUptoCard

/-- THE SECOND FORM's CARD OF 'leadlinelaw05.ProgOrder'. -/
def progOrderUptoCard : Claim7 := { stood := { row := progOrderUptoRow, standIns := [], harness := (true, "e3f2e62c29f81dba7b8c0ed3d9085db33d384ee0b15d80e7d2abb48dacd139b4"), looks := true }, kinds := [], alts := [], laidByText := true, laidKinds := [.data, .data, .data, .data, .sentinel, .sentinel, .pinned], laidTests := true, laidLooks := .later }
def ProgOrderUptoCardSaid : Prop := Claim7.holds Tryz.pinned (.plain (OpenSpec.upto progOrderSpec)) progOrderUptoCard

/-- THE SECOND FORM's CARD OF 'leadlinelaw05.ProgAdds'. -/
def progAddsUptoCard : Claim7 := { stood := { row := progAddsUptoRow, standIns := [], harness := (true, "e3f2e62c29f81dba7b8c0ed3d9085db33d384ee0b15d80e7d2abb48dacd139b4"), looks := true }, kinds := [], alts := [], laidByText := true, laidKinds := [.data, .data, .data, .data, .sentinel, .sentinel, .pinned], laidTests := true, laidLooks := .later }
def ProgAddsUptoCardSaid : Prop := Claim7.holds Tryz.pinned (.plain (OpenSpec.upto progAddsSpec)) progAddsUptoCard
end Rows
end Go.Proofs.YtjcihcncljihoaaGreatDoor
