/-
  DERIVED. GIVEN WITH THE SEED: THE CARDS: each row of YtmcgeaodmnchaaaDoorRows.lean that lists a variable, with what it lists TIED to the program's text (the seventh form; the later family's looks); each row that meets fmt, with fmt's text TOLD by the authors' own Lean function (tested against real Go, not proved from fmt's source: count such statements apart). THE CARD IS WHAT COUNTS. Prove the row's statement (the work); the ties are given (YtmcgeaodmnchaaaDoorTie.lean); close each card by the builder's one call (the guide's Derived/Test/ToyasCard.lean, 'card_holds'). Laid BY PROGRAM, IN A SANDBOX (cutbox-door.mjs). By AI agents, Wed Nov 11 2026. No macro, syntax, notation, axiom, sorry.
-/
import Derived.Test.YtmcgeaodmnchaaaDoorRows
import GoSem.ClaimSeven
namespace Go.Proofs.YtmcgeaodmnchaaaDoor
namespace Rows

/-- THE TIED CARD OF 'leadlinelaw01.WordsDoes'. -/
def wordsDoesCard : Claim7 := { stood := { row := wordsDoesRow, standIns := [], harness := (true, "907ff851fc33191adb317b10f82b1de6c702b361c609a5baac0f7c2637ef7361"), looks := true }, kinds := [], alts := [], laidByText := true, laidKinds := [.data, .data, .data, .sentinel, .sentinel], laidTests := true, laidLooks := .later }
def WordsDoesCardSaid : Prop := Claim7.holds Tryd.pinned (.plain (OpenSpec.ofChange wordsDoesSpec)) wordsDoesCard

/-- THE TIED CARD OF 'leadlinelaw01.WordsTexts'. -/
def wordsTextsCard : Claim7 := { stood := { row := wordsTextsRow, standIns := [], harness := (true, "907ff851fc33191adb317b10f82b1de6c702b361c609a5baac0f7c2637ef7361"), looks := true }, kinds := [], alts := [], laidByText := true, laidKinds := [.data, .data, .data, .sentinel, .sentinel], laidTests := true, laidLooks := .later }
def WordsTextsCardSaid : Prop := Claim7.holds Tryd.pinned (.plain (OpenSpec.ofChange wordsTextsSpec)) wordsTextsCard

/-- THE TIED CARD OF 'leadlinelaw01.WordsBack'. -/
def wordsBackCard : Claim7 := { stood := { row := wordsBackRow, standIns := [], harness := (true, "907ff851fc33191adb317b10f82b1de6c702b361c609a5baac0f7c2637ef7361"), looks := true }, kinds := [], alts := [], laidByText := true, laidKinds := [.data, .data, .data, .sentinel, .sentinel], laidTests := true, laidLooks := .later }
def WordsBackCardSaid : Prop := Claim7.holds Tryd.pinned (.plain (OpenSpec.ofChange wordsBackSpec)) wordsBackCard

/-- THE TIED CARD OF 'leadlinelaw01.WordsDivides'. -/
def wordsDividesCard : Claim7 := { stood := { row := wordsDividesRow, standIns := [], harness := (true, "907ff851fc33191adb317b10f82b1de6c702b361c609a5baac0f7c2637ef7361"), looks := true }, kinds := [], alts := [], laidByText := true, laidKinds := [.data, .data, .data, .sentinel, .sentinel], laidTests := true, laidLooks := .later }
def WordsDividesCardSaid : Prop := Claim7.holds Tryd.pinned (.plain (OpenSpec.ofChange wordsDividesSpec)) wordsDividesCard

/-- THE TIED CARD OF 'leadlinelaw01.WordsWraps'. -/
def wordsWrapsCard : Claim7 := { stood := { row := wordsWrapsRow, standIns := [], harness := (true, "907ff851fc33191adb317b10f82b1de6c702b361c609a5baac0f7c2637ef7361"), looks := true }, kinds := [], alts := [], laidByText := true, laidKinds := [.data, .data, .data, .sentinel, .sentinel], laidTests := true, laidLooks := .later }
def WordsWrapsCardSaid : Prop := Claim7.holds Tryd.pinned (.plain (OpenSpec.ofChange wordsWrapsSpec)) wordsWrapsCard

/-- THE TIED CARD OF 'leadlinelaw01.WordsOrders'. -/
def wordsOrdersCard : Claim7 := { stood := { row := wordsOrdersRow, standIns := [], harness := (true, "907ff851fc33191adb317b10f82b1de6c702b361c609a5baac0f7c2637ef7361"), looks := true }, kinds := [], alts := [], laidByText := true, laidKinds := [.data, .data, .data, .sentinel, .sentinel], laidTests := true, laidLooks := .later }
def WordsOrdersCardSaid : Prop := Claim7.holds Tryd.pinned (.plain (OpenSpec.ofChange wordsOrdersSpec)) wordsOrdersCard

/-- THE TIED CARD OF 'leadlinelaw01.WordsSigns'. -/
def wordsSignsCard : Claim7 := { stood := { row := wordsSignsRow, standIns := [], harness := (true, "907ff851fc33191adb317b10f82b1de6c702b361c609a5baac0f7c2637ef7361"), looks := true }, kinds := [], alts := [], laidByText := true, laidKinds := [.data, .data, .data, .sentinel, .sentinel], laidTests := true, laidLooks := .later }
def WordsSignsCardSaid : Prop := Claim7.holds Tryd.pinned (.plain (OpenSpec.ofChange wordsSignsSpec)) wordsSignsCard

/-- THE TIED CARD OF 'leadlinelaw01.WordsTruths'. -/
def wordsTruthsCard : Claim7 := { stood := { row := wordsTruthsRow, standIns := [], harness := (true, "907ff851fc33191adb317b10f82b1de6c702b361c609a5baac0f7c2637ef7361"), looks := true }, kinds := [], alts := [], laidByText := true, laidKinds := [.data, .data, .data, .sentinel, .sentinel], laidTests := true, laidLooks := .later }
def WordsTruthsCardSaid : Prop := Claim7.holds Tryd.pinned (.plain (OpenSpec.ofChange wordsTruthsSpec)) wordsTruthsCard

/-- THE SECOND FORM's CARD OF 'leadlinelaw01.WordsDoes'. -/
def wordsDoesUptoCard : Claim7 := { stood := { row := wordsDoesUptoRow, standIns := [], harness := (true, "907ff851fc33191adb317b10f82b1de6c702b361c609a5baac0f7c2637ef7361"), looks := true }, kinds := [], alts := [], laidByText := true, laidKinds := [.data, .data, .data, .sentinel, .sentinel], laidTests := true, laidLooks := .later }
def WordsDoesUptoCardSaid : Prop := Claim7.holds Tryd.pinned (.plain (OpenSpec.upto wordsDoesSpec)) wordsDoesUptoCard

/-- THE SECOND FORM's CARD OF 'leadlinelaw01.WordsTexts'. -/
def wordsTextsUptoCard : Claim7 := { stood := { row := wordsTextsUptoRow, standIns := [], harness := (true, "907ff851fc33191adb317b10f82b1de6c702b361c609a5baac0f7c2637ef7361"), looks := true }, kinds := [], alts := [], laidByText := true, laidKinds := [.data, .data, .data, .sentinel, .sentinel], laidTests := true, laidLooks := .later }
def WordsTextsUptoCardSaid : Prop := Claim7.holds Tryd.pinned (.plain (OpenSpec.upto wordsTextsSpec)) wordsTextsUptoCard

/-- THE SECOND FORM's CARD OF 'leadlinelaw01.WordsBack'. -/
def wordsBackUptoCard : Claim7 := { stood := { row := wordsBackUptoRow, standIns := [], harness := (true, "907ff851fc33191adb317b10f82b1de6c702b361c609a5baac0f7c2637ef7361"), looks := true }, kinds := [], alts := [], laidByText := true, laidKinds := [.data, .data, .data, .sentinel, .sentinel], laidTests := true, laidLooks := .later }
def WordsBackUptoCardSaid : Prop := Claim7.holds Tryd.pinned (.plain (OpenSpec.upto wordsBackSpec)) wordsBackUptoCard

/-- THE SECOND FORM's CARD OF 'leadlinelaw01.WordsDivides'. -/
def wordsDividesUptoCard : Claim7 := { stood := { row := wordsDividesUptoRow, standIns := [], harness := (true, "907ff851fc33191adb317b10f82b1de6c702b361c609a5baac0f7c2637ef7361"), looks := true }, kinds := [], alts := [], laidByText := true, laidKinds := [.data, .data, .data, .sentinel, .sentinel], laidTests := true, laidLooks := .later }
def WordsDividesUptoCardSaid : Prop := Claim7.holds Tryd.pinned (.plain (OpenSpec.upto wordsDividesSpec)) wordsDividesUptoCard

/-- THE SECOND FORM's CARD OF 'leadlinelaw01.WordsWraps'. -/
def wordsWrapsUptoCard : Claim7 := { stood := { row := wordsWrapsUptoRow, standIns := [], harness := (true, "907ff851fc33191adb317b10f82b1de6c702b361c609a5baac0f7c2637ef7361"), looks := true }, kinds := [], alts := [], laidByText := true, laidKinds := [.data, .data, .data, .sentinel, .sentinel], laidTests := true, laidLooks := .later }
def WordsWrapsUptoCardSaid : Prop := Claim7.holds Tryd.pinned (.plain (OpenSpec.upto wordsWrapsSpec)) wordsWrapsUptoCard

/-- THE SECOND FORM's CARD OF 'leadlinelaw01.WordsOrders'. -/
def wordsOrdersUptoCard : Claim7 := { stood := { row := wordsOrdersUptoRow, standIns := [], harness := (true, "907ff851fc33191adb317b10f82b1de6c702b361c609a5baac0f7c2637ef7361"), looks := true }, kinds := [], alts := [], laidByText := true, laidKinds := [.data, .data, .data, .sentinel, .sentinel], laidTests := true, laidLooks := .later }
def WordsOrdersUptoCardSaid : Prop := Claim7.holds Tryd.pinned (.plain (OpenSpec.upto wordsOrdersSpec)) wordsOrdersUptoCard

/-- THE SECOND FORM's CARD OF 'leadlinelaw01.WordsSigns'. -/
def wordsSignsUptoCard : Claim7 := { stood := { row := wordsSignsUptoRow, standIns := [], harness := (true, "907ff851fc33191adb317b10f82b1de6c702b361c609a5baac0f7c2637ef7361"), looks := true }, kinds := [], alts := [], laidByText := true, laidKinds := [.data, .data, .data, .sentinel, .sentinel], laidTests := true, laidLooks := .later }
def WordsSignsUptoCardSaid : Prop := Claim7.holds Tryd.pinned (.plain (OpenSpec.upto wordsSignsSpec)) wordsSignsUptoCard

/-- THE SECOND FORM's CARD OF 'leadlinelaw01.WordsTruths'. -/
def wordsTruthsUptoCard : Claim7 := { stood := { row := wordsTruthsUptoRow, standIns := [], harness := (true, "907ff851fc33191adb317b10f82b1de6c702b361c609a5baac0f7c2637ef7361"), looks := true }, kinds := [], alts := [], laidByText := true, laidKinds := [.data, .data, .data, .sentinel, .sentinel], laidTests := true, laidLooks := .later }
def WordsTruthsUptoCardSaid : Prop := Claim7.holds Tryd.pinned (.plain (OpenSpec.upto wordsTruthsSpec)) wordsTruthsUptoCard
end Rows
end Go.Proofs.YtmcgeaodmnchaaaDoor
