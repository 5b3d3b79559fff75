/-
  DERIVED. GIVEN WITH THE SEED: THE CARDS: each row of YtahdfglelhdcnaaDoorRows.lean that lists a variable, with what it lists TIED to the program's text (the seventh form; the later family's looks); each row that meets fmt, with fmt's text TOLD by the authors' own Lean function (tested against real Go, not proved from fmt's source: count such statements apart). THE CARD IS WHAT COUNTS. Prove the row's statement (the work); the ties are given (YtahdfglelhdcnaaDoorTie.lean); close each card by the builder's one call (the guide's Derived/Test/ToyasCard.lean, 'card_holds'). Laid BY PROGRAM, IN A SANDBOX (cutbox-door.mjs). By AI agents, Wed Nov 11 2026. No macro, syntax, notation, axiom, sorry.
-/
import Derived.Test.YtahdfglelhdcnaaDoorRows
import GoSem.ClaimSeven
namespace Go.Proofs.YtahdfglelhdcnaaDoor
namespace Rows

/-- THE TIED CARD OF 'leadlinelaw03.ExprParses'. -/
def exprParsesCard : Claim7 := { stood := { row := exprParsesRow, standIns := [], harness := (true, "26c384e2fefafbf171dcc17f0f910faad21da91428e84412047782eac5e29aa2"), looks := false }, kinds := [], alts := [], laidByText := true, laidKinds := [.data, .data, .data, .data, .pinned], laidTests := true, laidLooks := .later }
def ExprParsesCardSaid : Prop := Claim7.holds Tryd.pinned (.plain (OpenSpec.ofChange exprParsesSpec)) exprParsesCard

/-- THE TIED CARD OF 'leadlinelaw03.ExprTokens'. -/
def exprTokensCard : Claim7 := { stood := { row := exprTokensRow, standIns := [], harness := (true, "26c384e2fefafbf171dcc17f0f910faad21da91428e84412047782eac5e29aa2"), looks := false }, kinds := [], alts := [], laidByText := true, laidKinds := [.data, .data, .data, .data, .pinned], laidTests := true, laidLooks := .later }
def ExprTokensCardSaid : Prop := Claim7.holds Tryd.pinned (.plain (OpenSpec.ofChange exprTokensSpec)) exprTokensCard

/-- THE TIED CARD OF 'leadlinelaw03.ExprTells'. -/
def exprTellsCard : Claim7 := { stood := { row := exprTellsRow, standIns := [], harness := (true, "26c384e2fefafbf171dcc17f0f910faad21da91428e84412047782eac5e29aa2"), looks := false }, kinds := [], alts := [], laidByText := true, laidKinds := [.data, .data, .data, .data, .pinned], laidTests := true, laidLooks := .later }
def ExprTellsCardSaid : Prop := Claim7.holds Tryd.pinned (.plain (OpenSpec.ofChange exprTellsSpec)) exprTellsCard

/-- THE TIED CARD OF 'leadlinelaw03.ExprBack'. -/
def exprBackCard : Claim7 := { stood := { row := exprBackRow, standIns := [], harness := (true, "26c384e2fefafbf171dcc17f0f910faad21da91428e84412047782eac5e29aa2"), looks := false }, kinds := [], alts := [], laidByText := true, laidKinds := [.data, .data, .data, .data, .pinned], laidTests := true, laidLooks := .later }
def ExprBackCardSaid : Prop := Claim7.holds Tryd.pinned (.plain (OpenSpec.ofChange exprBackSpec)) exprBackCard

/-- THE TIED CARD OF 'leadlinelaw03.ExprShown'. -/
def exprShownCard : Claim7 := { stood := { row := exprShownRow, standIns := [], harness := (true, "26c384e2fefafbf171dcc17f0f910faad21da91428e84412047782eac5e29aa2"), looks := false }, kinds := [], alts := [], laidByText := true, laidKinds := [.data, .data, .data, .data, .pinned], laidTests := true, laidLooks := .later }
def ExprShownCardSaid : Prop := Claim7.holds Tryd.pinned (.plain (OpenSpec.ofChange exprShownSpec)) exprShownCard

/-- THE TIED CARD OF 'leadlinelaw03.ExprParts'. -/
def exprPartsCard : Claim7 := { stood := { row := exprPartsRow, standIns := [], harness := (true, "26c384e2fefafbf171dcc17f0f910faad21da91428e84412047782eac5e29aa2"), looks := false }, kinds := [], alts := [], laidByText := true, laidKinds := [.data, .data, .data, .data, .pinned], laidTests := true, laidLooks := .later }
def ExprPartsCardSaid : Prop := Claim7.holds Tryd.pinned (.plain (OpenSpec.ofChange exprPartsSpec)) exprPartsCard

/-- THE TIED CARD OF 'leadlinelaw03.ExprBinds'. -/
def exprBindsCard : Claim7 := { stood := { row := exprBindsRow, standIns := [], harness := (true, "26c384e2fefafbf171dcc17f0f910faad21da91428e84412047782eac5e29aa2"), looks := false }, kinds := [], alts := [], laidByText := true, laidKinds := [.data, .data, .data, .data, .pinned], laidTests := true, laidLooks := .later }
def ExprBindsCardSaid : Prop := Claim7.holds Tryd.pinned (.plain (OpenSpec.ofChange exprBindsSpec)) exprBindsCard

/-- THE TIED CARD OF 'leadlinelaw03.ExprWraps'. -/
def exprWrapsCard : Claim7 := { stood := { row := exprWrapsRow, standIns := [], harness := (true, "26c384e2fefafbf171dcc17f0f910faad21da91428e84412047782eac5e29aa2"), looks := false }, kinds := [], alts := [], laidByText := true, laidKinds := [.data, .data, .data, .data, .pinned], laidTests := true, laidLooks := .later }
def ExprWrapsCardSaid : Prop := Claim7.holds Tryd.pinned (.plain (OpenSpec.ofChange exprWrapsSpec)) exprWrapsCard

/-- THE SECOND FORM's CARD OF 'leadlinelaw03.ExprParses'. -/
def exprParsesUptoCard : Claim7 := { stood := { row := exprParsesUptoRow, standIns := [], harness := (true, "26c384e2fefafbf171dcc17f0f910faad21da91428e84412047782eac5e29aa2"), looks := false }, kinds := [], alts := [], laidByText := true, laidKinds := [.data, .data, .data, .data, .pinned], laidTests := true, laidLooks := .later }
def ExprParsesUptoCardSaid : Prop := Claim7.holds Tryd.pinned (.plain (OpenSpec.upto exprParsesSpec)) exprParsesUptoCard

/-- THE SECOND FORM's CARD OF 'leadlinelaw03.ExprTokens'. -/
def exprTokensUptoCard : Claim7 := { stood := { row := exprTokensUptoRow, standIns := [], harness := (true, "26c384e2fefafbf171dcc17f0f910faad21da91428e84412047782eac5e29aa2"), looks := false }, kinds := [], alts := [], laidByText := true, laidKinds := [.data, .data, .data, .data, .pinned], laidTests := true, laidLooks := .later }
def ExprTokensUptoCardSaid : Prop := Claim7.holds Tryd.pinned (.plain (OpenSpec.upto exprTokensSpec)) exprTokensUptoCard

/-- THE SECOND FORM's CARD OF 'leadlinelaw03.ExprTells'. -/
def exprTellsUptoCard : Claim7 := { stood := { row := exprTellsUptoRow, standIns := [], harness := (true, "26c384e2fefafbf171dcc17f0f910faad21da91428e84412047782eac5e29aa2"), looks := false }, kinds := [], alts := [], laidByText := true, laidKinds := [.data, .data, .data, .data, .pinned], laidTests := true, laidLooks := .later }
def ExprTellsUptoCardSaid : Prop := Claim7.holds Tryd.pinned (.plain (OpenSpec.upto exprTellsSpec)) exprTellsUptoCard

/-- THE SECOND FORM's CARD OF 'leadlinelaw03.ExprBack'. -/
def exprBackUptoCard : Claim7 := { stood := { row := exprBackUptoRow, standIns := [], harness := (true, "26c384e2fefafbf171dcc17f0f910faad21da91428e84412047782eac5e29aa2"), looks := false }, kinds := [], alts := [], laidByText := true, laidKinds := [.data, .data, .data, .data, .pinned], laidTests := true, laidLooks := .later }
def ExprBackUptoCardSaid : Prop := Claim7.holds Tryd.pinned (.plain (OpenSpec.upto exprBackSpec)) exprBackUptoCard

/-- THE SECOND FORM's CARD OF 'leadlinelaw03.ExprShown'. -/
def exprShownUptoCard : Claim7 := { stood := { row := exprShownUptoRow, standIns := [], harness := (true, "26c384e2fefafbf171dcc17f0f910faad21da91428e84412047782eac5e29aa2"), looks := false }, kinds := [], alts := [], laidByText := true, laidKinds := [.data, .data, .data, .data, .pinned], laidTests := true, laidLooks := .later }
def ExprShownUptoCardSaid : Prop := Claim7.holds Tryd.pinned (.plain (OpenSpec.upto exprShownSpec)) exprShownUptoCard

/-- THE SECOND FORM's CARD OF 'leadlinelaw03.ExprParts'. -/
def exprPartsUptoCard : Claim7 := { stood := { row := exprPartsUptoRow, standIns := [], harness := (true, "26c384e2fefafbf171dcc17f0f910faad21da91428e84412047782eac5e29aa2"), looks := false }, kinds := [], alts := [], laidByText := true, laidKinds := [.data, .data, .data, .data, .pinned], laidTests := true, laidLooks := .later }
def ExprPartsUptoCardSaid : Prop := Claim7.holds Tryd.pinned (.plain (OpenSpec.upto exprPartsSpec)) exprPartsUptoCard

/-- THE SECOND FORM's CARD OF 'leadlinelaw03.ExprBinds'. -/
def exprBindsUptoCard : Claim7 := { stood := { row := exprBindsUptoRow, standIns := [], harness := (true, "26c384e2fefafbf171dcc17f0f910faad21da91428e84412047782eac5e29aa2"), looks := false }, kinds := [], alts := [], laidByText := true, laidKinds := [.data, .data, .data, .data, .pinned], laidTests := true, laidLooks := .later }
def ExprBindsUptoCardSaid : Prop := Claim7.holds Tryd.pinned (.plain (OpenSpec.upto exprBindsSpec)) exprBindsUptoCard

/-- THE SECOND FORM's CARD OF 'leadlinelaw03.ExprWraps'. -/
def exprWrapsUptoCard : Claim7 := { stood := { row := exprWrapsUptoRow, standIns := [], harness := (true, "26c384e2fefafbf171dcc17f0f910faad21da91428e84412047782eac5e29aa2"), looks := false }, kinds := [], alts := [], laidByText := true, laidKinds := [.data, .data, .data, .data, .pinned], laidTests := true, laidLooks := .later }
def ExprWrapsUptoCardSaid : Prop := Claim7.holds Tryd.pinned (.plain (OpenSpec.upto exprWrapsSpec)) exprWrapsUptoCard
end Rows
end Go.Proofs.YtahdfglelhdcnaaDoor
