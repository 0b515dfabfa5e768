/-
  DERIVED. GIVEN WITH THE SEED: THE CARDS: each row of YtnccaoeeedhgbaaGreatDoorRows.lean that lists a variable, with what it lists TIED to the program's text (the seventh form; the later family's looks); each row that meets fmt, with fmt's text TOLD by the authors' own Lean function (tested against real Go, not proved from fmt's source: count such statements apart). THE CARD IS WHAT COUNTS. Prove the row's statement (the work); the ties are given (YtnccaoeeedhgbaaGreatDoorTie.lean); close each card by the builder's one call (the guide's Derived/Test/ToyasCard.lean, 'card_holds'). Laid BY PROGRAM, IN A SANDBOX (cutbox-door.mjs). By AI agents, Wed Nov 11 2026. No macro, syntax, notation, axiom, sorry.
-/
import Derived.Test.YtnccaoeeedhgbaaGreatDoorRows
import GoSem.ClaimSeven
namespace Go.Proofs.YtnccaoeeedhgbaaGreatDoor
namespace Rows

/-- THE TIED CARD OF 'planimeterlaw33.HexfParses'. -/
def hexfParsesCard : Claim7 := { stood := { row := hexfParsesRow, standIns := [], harness := (true, "0bbc6bfe7b5c069b224f6a4c5899389f7d6b516fa74e4b38da99ce8605ca05de"), looks := true }, kinds := [], alts := [], laidByText := true, laidKinds := [.data, .data, .data, .data, .sentinel, .sentinel, .pinned], laidTests := true, laidLooks := .later }
def HexfParsesCardSaid : Prop := Claim7.holds Tryz.pinned (.plain (OpenSpec.ofChange hexfParsesSpec)) hexfParsesCard

/-- THE TIED CARD OF 'planimeterlaw33.HexfBack'. -/
def hexfBackCard : Claim7 := { stood := { row := hexfBackRow, standIns := [], harness := (true, "0bbc6bfe7b5c069b224f6a4c5899389f7d6b516fa74e4b38da99ce8605ca05de"), looks := true }, kinds := [], alts := [], laidByText := true, laidKinds := [.data, .data, .data, .data, .sentinel, .sentinel, .pinned], laidTests := true, laidLooks := .later }
def HexfBackCardSaid : Prop := Claim7.holds Tryz.pinned (.plain (OpenSpec.ofChange hexfBackSpec)) hexfBackCard

/-- THE TIED CARD OF 'planimeterlaw33.HexfSame'. -/
def hexfSameCard : Claim7 := { stood := { row := hexfSameRow, standIns := [], harness := (true, "0bbc6bfe7b5c069b224f6a4c5899389f7d6b516fa74e4b38da99ce8605ca05de"), looks := true }, kinds := [], alts := [], laidByText := true, laidKinds := [.data, .data, .data, .data, .sentinel, .sentinel, .pinned], laidTests := true, laidLooks := .later }
def HexfSameCardSaid : Prop := Claim7.holds Tryz.pinned (.plain (OpenSpec.ofChange hexfSameSpec)) hexfSameCard

/-- THE TIED CARD OF 'planimeterlaw32.DecimalParses'. -/
def decimalParsesCard : Claim7 := { stood := { row := decimalParsesRow, standIns := [], harness := (true, "0bbc6bfe7b5c069b224f6a4c5899389f7d6b516fa74e4b38da99ce8605ca05de"), looks := true }, kinds := [], alts := [], laidByText := true, laidKinds := [.data, .data, .data, .data, .sentinel, .sentinel, .pinned], laidTests := true, laidLooks := .later }
def DecimalParsesCardSaid : Prop := Claim7.holds Tryz.pinned (.plain (OpenSpec.ofChange decimalParsesSpec)) decimalParsesCard

/-- THE TIED CARD OF 'planimeterlaw32.DecimalPrints'. -/
def decimalPrintsCard : Claim7 := { stood := { row := decimalPrintsRow, standIns := [], harness := (true, "0bbc6bfe7b5c069b224f6a4c5899389f7d6b516fa74e4b38da99ce8605ca05de"), looks := true }, kinds := [], alts := [], laidByText := true, laidKinds := [.data, .data, .data, .data, .sentinel, .sentinel, .pinned], laidTests := true, laidLooks := .later }
def DecimalPrintsCardSaid : Prop := Claim7.holds Tryz.pinned (.plain (OpenSpec.ofChange decimalPrintsSpec)) decimalPrintsCard

/-- THE TIED CARD OF 'planimeterlaw32.DecimalWhole'. -/
def decimalWholeCard : Claim7 := { stood := { row := decimalWholeRow, standIns := [], harness := (true, "0bbc6bfe7b5c069b224f6a4c5899389f7d6b516fa74e4b38da99ce8605ca05de"), looks := true }, kinds := [], alts := [], laidByText := true, laidKinds := [.data, .data, .data, .data, .sentinel, .sentinel, .pinned], laidTests := true, laidLooks := .later }
def DecimalWholeCardSaid : Prop := Claim7.holds Tryz.pinned (.plain (OpenSpec.ofChange decimalWholeSpec)) decimalWholeCard

/-- THE TIED CARD OF 'planimeterlaw32.DecimalBack'. -/
def decimalBackCard : Claim7 := { stood := { row := decimalBackRow, standIns := [], harness := (true, "0bbc6bfe7b5c069b224f6a4c5899389f7d6b516fa74e4b38da99ce8605ca05de"), looks := true }, kinds := [], alts := [], laidByText := true, laidKinds := [.data, .data, .data, .data, .sentinel, .sentinel, .pinned], laidTests := true, laidLooks := .later }
def DecimalBackCardSaid : Prop := Claim7.holds Tryz.pinned (.plain (OpenSpec.ofChange decimalBackSpec)) decimalBackCard

/-- THE SECOND FORM's CARD OF 'planimeterlaw33.HexfParses'. -/
def hexfParsesUptoCard : Claim7 := { stood := { row := hexfParsesUptoRow, standIns := [], harness := (true, "0bbc6bfe7b5c069b224f6a4c5899389f7d6b516fa74e4b38da99ce8605ca05de"), looks := true }, kinds := [], alts := [], laidByText := true, laidKinds := [.data, .data, .data, .data, .sentinel, .sentinel, .pinned], laidTests := true, laidLooks := .later }
def HexfParsesUptoCardSaid : Prop := Claim7.holds Tryz.pinned (.plain (OpenSpec.upto hexfParsesSpec)) hexfParsesUptoCard

/-- THE SECOND FORM's CARD OF 'planimeterlaw33.HexfBack'. -/
def hexfBackUptoCard : Claim7 := { stood := { row := hexfBackUptoRow, standIns := [], harness := (true, "0bbc6bfe7b5c069b224f6a4c5899389f7d6b516fa74e4b38da99ce8605ca05de"), looks := true }, kinds := [], alts := [], laidByText := true, laidKinds := [.data, .data, .data, .data, .sentinel, .sentinel, .pinned], laidTests := true, laidLooks := .later }
def HexfBackUptoCardSaid : Prop := Claim7.holds Tryz.pinned (.plain (OpenSpec.upto hexfBackSpec)) hexfBackUptoCard

/-- THE SECOND FORM's CARD OF 'planimeterlaw33.HexfSame'. -/
def hexfSameUptoCard : Claim7 := { stood := { row := hexfSameUptoRow, standIns := [], harness := (true, "0bbc6bfe7b5c069b224f6a4c5899389f7d6b516fa74e4b38da99ce8605ca05de"), looks := true }, kinds := [], alts := [], laidByText := true, laidKinds := [.data, .data, .data, .data, .sentinel, .sentinel, .pinned], laidTests := true, laidLooks := .later }
def HexfSameUptoCardSaid : Prop := Claim7.holds Tryz.pinned (.plain (OpenSpec.upto hexfSameSpec)) hexfSameUptoCard

/-- THE SECOND FORM's CARD OF 'planimeterlaw32.DecimalParses'. -/
def decimalParsesUptoCard : Claim7 := { stood := { row := decimalParsesUptoRow, standIns := [], harness := (true, "0bbc6bfe7b5c069b224f6a4c5899389f7d6b516fa74e4b38da99ce8605ca05de"), looks := true }, kinds := [], alts := [], laidByText := true, laidKinds := [.data, .data, .data, .data, .sentinel, .sentinel, .pinned], laidTests := true, laidLooks := .later }
def DecimalParsesUptoCardSaid : Prop := Claim7.holds Tryz.pinned (.plain (OpenSpec.upto decimalParsesSpec)) decimalParsesUptoCard

/-- THE SECOND FORM's CARD OF 'planimeterlaw32.DecimalPrints'. -/
def decimalPrintsUptoCard : Claim7 := { stood := { row := decimalPrintsUptoRow, standIns := [], harness := (true, "0bbc6bfe7b5c069b224f6a4c5899389f7d6b516fa74e4b38da99ce8605ca05de"), looks := true }, kinds := [], alts := [], laidByText := true, laidKinds := [.data, .data, .data, .data, .sentinel, .sentinel, .pinned], laidTests := true, laidLooks := .later }
def DecimalPrintsUptoCardSaid : Prop := Claim7.holds Tryz.pinned (.plain (OpenSpec.upto decimalPrintsSpec)) decimalPrintsUptoCard

/-- THE SECOND FORM's CARD OF 'planimeterlaw32.DecimalWhole'. -/
def decimalWholeUptoCard : Claim7 := { stood := { row := decimalWholeUptoRow, standIns := [], harness := (true, "0bbc6bfe7b5c069b224f6a4c5899389f7d6b516fa74e4b38da99ce8605ca05de"), looks := true }, kinds := [], alts := [], laidByText := true, laidKinds := [.data, .data, .data, .data, .sentinel, .sentinel, .pinned], laidTests := true, laidLooks := .later }
def DecimalWholeUptoCardSaid : Prop := Claim7.holds Tryz.pinned (.plain (OpenSpec.upto decimalWholeSpec)) decimalWholeUptoCard

/-- THE SECOND FORM's CARD OF 'planimeterlaw32.DecimalBack'. -/
def decimalBackUptoCard : Claim7 := { stood := { row := decimalBackUptoRow, standIns := [], harness := (true, "0bbc6bfe7b5c069b224f6a4c5899389f7d6b516fa74e4b38da99ce8605ca05de"), looks := true }, kinds := [], alts := [], laidByText := true, laidKinds := [.data, .data, .data, .data, .sentinel, .sentinel, .pinned], laidTests := true, laidLooks := .later }
def DecimalBackUptoCardSaid : Prop := Claim7.holds Tryz.pinned (.plain (OpenSpec.upto decimalBackSpec)) decimalBackUptoCard
end Rows
end Go.Proofs.YtnccaoeeedhgbaaGreatDoor
