/-
  DERIVED. GIVEN WITH THE SEED: THE CARDS: each row of YtmnojbkakgfinaaDoorRows.lean that lists a variable, with what it lists TIED to the program's text (the seventh form; the later family's looks); each row that meets fmt, with fmt's text TOLD by the authors' own Lean function (tested against real Go, not proved from fmt's source: count such statements apart). THE CARD IS WHAT COUNTS. Prove the row's statement (the work); the ties are given (YtmnojbkakgfinaaDoorTie.lean); close each card by the builder's one call (the guide's Derived/Test/ToyasCard.lean, 'card_holds'). Laid BY PROGRAM, IN A SANDBOX (cutbox-door.mjs). By AI agents, Wed Nov 11 2026. No macro, syntax, notation, axiom, sorry.
-/
import Derived.Test.YtmnojbkakgfinaaDoorRows
import GoSem.ClaimSeven
namespace Go.Proofs.YtmnojbkakgfinaaDoor
namespace Rows

/-- THE TIED CARD OF 'planimeterlaw25.JobParses'. -/
def jobParsesCard : Claim7 := { stood := { row := jobParsesRow, standIns := [], harness := (true, "df7299f5c6258557e5aca3159637f5da6a458f8b5f1f01786b155dc09f1fae22"), looks := true }, kinds := [], alts := [], laidByText := true, laidKinds := [.data, .data, .data, .sentinel, .sentinel], laidTests := true, laidLooks := .later }
def JobParsesCardSaid : Prop := Claim7.holds Tryd.pinned (.plain (OpenSpec.ofChange jobParsesSpec)) jobParsesCard

/-- THE TIED CARD OF 'planimeterlaw25.JobPrints'. -/
def jobPrintsCard : Claim7 := { stood := { row := jobPrintsRow, standIns := [], harness := (true, "df7299f5c6258557e5aca3159637f5da6a458f8b5f1f01786b155dc09f1fae22"), looks := true }, kinds := [], alts := [], laidByText := true, laidKinds := [.data, .data, .data, .sentinel, .sentinel], laidTests := true, laidLooks := .later }
def JobPrintsCardSaid : Prop := Claim7.holds Tryd.pinned (.plain (OpenSpec.ofChange jobPrintsSpec)) jobPrintsCard

/-- THE TIED CARD OF 'planimeterlaw25.JobJoins'. -/
def jobJoinsCard : Claim7 := { stood := { row := jobJoinsRow, standIns := [], harness := (true, "df7299f5c6258557e5aca3159637f5da6a458f8b5f1f01786b155dc09f1fae22"), looks := true }, kinds := [], alts := [], laidByText := true, laidKinds := [.data, .data, .data, .sentinel, .sentinel], laidTests := true, laidLooks := .later }
def JobJoinsCardSaid : Prop := Claim7.holds Tryd.pinned (.plain (OpenSpec.ofChange jobJoinsSpec)) jobJoinsCard

/-- THE SECOND FORM's CARD OF 'planimeterlaw25.JobParses'. -/
def jobParsesUptoCard : Claim7 := { stood := { row := jobParsesUptoRow, standIns := [], harness := (true, "df7299f5c6258557e5aca3159637f5da6a458f8b5f1f01786b155dc09f1fae22"), looks := true }, kinds := [], alts := [], laidByText := true, laidKinds := [.data, .data, .data, .sentinel, .sentinel], laidTests := true, laidLooks := .later }
def JobParsesUptoCardSaid : Prop := Claim7.holds Tryd.pinned (.plain (OpenSpec.upto jobParsesSpec)) jobParsesUptoCard

/-- THE SECOND FORM's CARD OF 'planimeterlaw25.JobPrints'. -/
def jobPrintsUptoCard : Claim7 := { stood := { row := jobPrintsUptoRow, standIns := [], harness := (true, "df7299f5c6258557e5aca3159637f5da6a458f8b5f1f01786b155dc09f1fae22"), looks := true }, kinds := [], alts := [], laidByText := true, laidKinds := [.data, .data, .data, .sentinel, .sentinel], laidTests := true, laidLooks := .later }
def JobPrintsUptoCardSaid : Prop := Claim7.holds Tryd.pinned (.plain (OpenSpec.upto jobPrintsSpec)) jobPrintsUptoCard

/-- THE SECOND FORM's CARD OF 'planimeterlaw25.JobJoins'. -/
def jobJoinsUptoCard : Claim7 := { stood := { row := jobJoinsUptoRow, standIns := [], harness := (true, "df7299f5c6258557e5aca3159637f5da6a458f8b5f1f01786b155dc09f1fae22"), looks := true }, kinds := [], alts := [], laidByText := true, laidKinds := [.data, .data, .data, .sentinel, .sentinel], laidTests := true, laidLooks := .later }
def JobJoinsUptoCardSaid : Prop := Claim7.holds Tryd.pinned (.plain (OpenSpec.upto jobJoinsSpec)) jobJoinsUptoCard
end Rows
end Go.Proofs.YtmnojbkakgfinaaDoor
