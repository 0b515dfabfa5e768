/-
  DERIVED. GIVEN WITH THE SEED: THE CARDS: each row of YtmnojbkakgfinaaGreatDoorRows.lean that lists a variable, with what it lists TIED to the program's text (the seventh form; the later family's looks); each row that meets fmt, with fmt's text TOLD by the authors' own Lean function (tested against real Go, not proved from fmt's source: count such statements apart). THE CARD IS WHAT COUNTS. Prove the row's statement (the work); the ties are given (YtmnojbkakgfinaaGreatDoorTie.lean); close each card by the builder's one call (the guide's Derived/Test/ToyasCard.lean, 'card_holds'). Laid BY PROGRAM, IN A SANDBOX (cutbox-door.mjs). By AI agents, Wed Nov 11 2026. No macro, syntax, notation, axiom, sorry.
-/
import Derived.Test.YtmnojbkakgfinaaGreatDoorRows
import GoSem.ClaimSeven
namespace Go.Proofs.YtmnojbkakgfinaaGreatDoor
namespace Rows

/-- THE TIED CARD OF 'planimeterlaw32.DecimalParses'. -/
def decimalParsesCard : Claim7 := { stood := { row := decimalParsesRow, standIns := [], harness := (true, "169e4f8899ee4a24a71bc5ccc44516b16da2cdbeecf3f3a54347d73b239b663d"), looks := true }, kinds := [], alts := [], laidByText := true, laidKinds := [.data, .data, .data, .data, .sentinel, .sentinel, .pinned], laidTests := true, laidLooks := .later }
def DecimalParsesCardSaid : Prop := Claim7.holds Tryz.pinned (.plain (OpenSpec.ofChange decimalParsesSpec)) decimalParsesCard

/-- THE TIED CARD OF 'planimeterlaw32.DecimalPrints'. -/
def decimalPrintsCard : Claim7 := { stood := { row := decimalPrintsRow, standIns := [], harness := (true, "169e4f8899ee4a24a71bc5ccc44516b16da2cdbeecf3f3a54347d73b239b663d"), looks := true }, kinds := [], alts := [], laidByText := true, laidKinds := [.data, .data, .data, .data, .sentinel, .sentinel, .pinned], laidTests := true, laidLooks := .later }
def DecimalPrintsCardSaid : Prop := Claim7.holds Tryz.pinned (.plain (OpenSpec.ofChange decimalPrintsSpec)) decimalPrintsCard

/-- THE TIED CARD OF 'planimeterlaw32.DecimalWhole'. -/
def decimalWholeCard : Claim7 := { stood := { row := decimalWholeRow, standIns := [], harness := (true, "169e4f8899ee4a24a71bc5ccc44516b16da2cdbeecf3f3a54347d73b239b663d"), looks := true }, kinds := [], alts := [], laidByText := true, laidKinds := [.data, .data, .data, .data, .sentinel, .sentinel, .pinned], laidTests := true, laidLooks := .later }
def DecimalWholeCardSaid : Prop := Claim7.holds Tryz.pinned (.plain (OpenSpec.ofChange decimalWholeSpec)) decimalWholeCard

/-- THE TIED CARD OF 'planimeterlaw32.DecimalBack'. -/
def decimalBackCard : Claim7 := { stood := { row := decimalBackRow, standIns := [], harness := (true, "169e4f8899ee4a24a71bc5ccc44516b16da2cdbeecf3f3a54347d73b239b663d"), looks := true }, kinds := [], alts := [], laidByText := true, laidKinds := [.data, .data, .data, .data, .sentinel, .sentinel, .pinned], laidTests := true, laidLooks := .later }
def DecimalBackCardSaid : Prop := Claim7.holds Tryz.pinned (.plain (OpenSpec.ofChange decimalBackSpec)) decimalBackCard

/-- THE SECOND FORM's CARD OF 'planimeterlaw32.DecimalParses'. -/
def decimalParsesUptoCard : Claim7 := { stood := { row := decimalParsesUptoRow, standIns := [], harness := (true, "169e4f8899ee4a24a71bc5ccc44516b16da2cdbeecf3f3a54347d73b239b663d"), looks := true }, kinds := [], alts := [], laidByText := true, laidKinds := [.data, .data, .data, .data, .sentinel, .sentinel, .pinned], laidTests := true, laidLooks := .later }
def DecimalParsesUptoCardSaid : Prop := Claim7.holds Tryz.pinned (.plain (OpenSpec.upto decimalParsesSpec)) decimalParsesUptoCard

/-- THE SECOND FORM's CARD OF 'planimeterlaw32.DecimalPrints'. -/
def decimalPrintsUptoCard : Claim7 := { stood := { row := decimalPrintsUptoRow, standIns := [], harness := (true, "169e4f8899ee4a24a71bc5ccc44516b16da2cdbeecf3f3a54347d73b239b663d"), looks := true }, kinds := [], alts := [], laidByText := true, laidKinds := [.data, .data, .data, .data, .sentinel, .sentinel, .pinned], laidTests := true, laidLooks := .later }
def DecimalPrintsUptoCardSaid : Prop := Claim7.holds Tryz.pinned (.plain (OpenSpec.upto decimalPrintsSpec)) decimalPrintsUptoCard

/-- THE SECOND FORM's CARD OF 'planimeterlaw32.DecimalWhole'. -/
def decimalWholeUptoCard : Claim7 := { stood := { row := decimalWholeUptoRow, standIns := [], harness := (true, "169e4f8899ee4a24a71bc5ccc44516b16da2cdbeecf3f3a54347d73b239b663d"), looks := true }, kinds := [], alts := [], laidByText := true, laidKinds := [.data, .data, .data, .data, .sentinel, .sentinel, .pinned], laidTests := true, laidLooks := .later }
def DecimalWholeUptoCardSaid : Prop := Claim7.holds Tryz.pinned (.plain (OpenSpec.upto decimalWholeSpec)) decimalWholeUptoCard

/-- THE SECOND FORM's CARD OF 'planimeterlaw32.DecimalBack'. -/
def decimalBackUptoCard : Claim7 := { stood := { row := decimalBackUptoRow, standIns := [], harness := (true, "169e4f8899ee4a24a71bc5ccc44516b16da2cdbeecf3f3a54347d73b239b663d"), looks := true }, kinds := [], alts := [], laidByText := true, laidKinds := [.data, .data, .data, .data, .sentinel, .sentinel, .pinned], laidTests := true, laidLooks := .later }
def DecimalBackUptoCardSaid : Prop := Claim7.holds Tryz.pinned (.plain (OpenSpec.upto decimalBackSpec)) decimalBackUptoCard
end Rows
end Go.Proofs.YtmnojbkakgfinaaGreatDoor
