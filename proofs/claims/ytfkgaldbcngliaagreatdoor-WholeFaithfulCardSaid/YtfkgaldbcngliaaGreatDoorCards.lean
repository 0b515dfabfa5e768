/-
  DERIVED. GIVEN WITH THE SEED: THE CARDS: each row of YtfkgaldbcngliaaGreatDoorRows.lean that lists a variable, with what it lists TIED to the program's text (the seventh form; the later family's looks); each row that meets fmt, with fmt's text TOLD by the authors' own Lean function (tested against real Go, not proved from fmt's source: count such statements apart). THE CARD IS WHAT COUNTS. Prove the row's statement (the work); the ties are given (YtfkgaldbcngliaaGreatDoorTie.lean); close each card by the builder's one call (the guide's Derived/Test/ToyasCard.lean, 'card_holds'). Laid BY PROGRAM, IN A SANDBOX (cutbox-door.mjs). By AI agents, Wed Nov 11 2026. No macro, syntax, notation, axiom, sorry.
-/
import Derived.Test.YtfkgaldbcngliaaGreatDoorRows
import GoSem.ClaimSeven
namespace Go.Proofs.YtfkgaldbcngliaaGreatDoor
namespace Rows

/-- THE TIED CARD OF 'planimetertop.WholeBack'. -/
def wholeBackCard : Claim7 := { stood := { row := wholeBackRow, standIns := [], harness := (true, "21b554fa0bed690d9766a51cd930ee12d19f02023e2377f0cfcc1dc672b53ffa"), looks := false }, kinds := [], alts := [], laidByText := true, laidKinds := [.data], laidTests := true, laidLooks := .later }
def WholeBackCardSaid : Prop := Claim7.holds Tryz.pinned (.plain (OpenSpec.ofChange wholeBackSpec)) wholeBackCard

/-- THE TIED CARD OF 'planimetertop.WholeNearest'. -/
def wholeNearestCard : Claim7 := { stood := { row := wholeNearestRow, standIns := [], harness := (true, "21b554fa0bed690d9766a51cd930ee12d19f02023e2377f0cfcc1dc672b53ffa"), looks := false }, kinds := [], alts := [], laidByText := true, laidKinds := [.data], laidTests := true, laidLooks := .later }
def WholeNearestCardSaid : Prop := Claim7.holds Tryz.pinned (.plain (OpenSpec.ofChange wholeNearestSpec)) wholeNearestCard

/-- THE TIED CARD OF 'planimetertop.WholeDetect'. -/
def wholeDetectCard : Claim7 := { stood := { row := wholeDetectRow, standIns := [], harness := (true, "21b554fa0bed690d9766a51cd930ee12d19f02023e2377f0cfcc1dc672b53ffa"), looks := false }, kinds := [], alts := [], laidByText := true, laidKinds := [.data], laidTests := true, laidLooks := .later }
def WholeDetectCardSaid : Prop := Claim7.holds Tryz.pinned (.plain (OpenSpec.ofChange wholeDetectSpec)) wholeDetectCard

/-- THE TIED CARD OF 'planimetertop.WholeStart'. -/
def wholeStartCard : Claim7 := { stood := { row := wholeStartRow, standIns := [], harness := (true, "21b554fa0bed690d9766a51cd930ee12d19f02023e2377f0cfcc1dc672b53ffa"), looks := false }, kinds := [], alts := [], laidByText := true, laidKinds := [.data], laidTests := true, laidLooks := .later }
def WholeStartCardSaid : Prop := Claim7.holds Tryz.pinned (.plain (OpenSpec.ofChange wholeStartSpec)) wholeStartCard

/-- THE TIED CARD OF 'planimetertop.WholeTotal'. -/
def wholeTotalCard : Claim7 := { stood := { row := wholeTotalRow, standIns := [], harness := (true, "21b554fa0bed690d9766a51cd930ee12d19f02023e2377f0cfcc1dc672b53ffa"), looks := false }, kinds := [], alts := [], laidByText := true, laidKinds := [.data], laidTests := true, laidLooks := .later }
def WholeTotalCardSaid : Prop := Claim7.holds Tryz.pinned (.plain (OpenSpec.ofChange wholeTotalSpec)) wholeTotalCard

/-- THE TIED CARD OF 'planimetertop.WholeFaithful'. -/
def wholeFaithfulCard : Claim7 := { stood := { row := wholeFaithfulRow, standIns := [], harness := (true, "21b554fa0bed690d9766a51cd930ee12d19f02023e2377f0cfcc1dc672b53ffa"), looks := false }, kinds := [], alts := [], laidByText := true, laidKinds := [.data], laidTests := true, laidLooks := .later }
def WholeFaithfulCardSaid : Prop := Claim7.holds Tryz.pinned (.plain (OpenSpec.ofChange wholeFaithfulSpec)) wholeFaithfulCard

/-- THE TIED CARD OF 'planimetertop.WholeDirs'. -/
def wholeDirsCard : Claim7 := { stood := { row := wholeDirsRow, standIns := [], harness := (true, "21b554fa0bed690d9766a51cd930ee12d19f02023e2377f0cfcc1dc672b53ffa"), looks := false }, kinds := [], alts := [], laidByText := true, laidKinds := [.data], laidTests := true, laidLooks := .later }
def WholeDirsCardSaid : Prop := Claim7.holds Tryz.pinned (.plain (OpenSpec.ofChange wholeDirsSpec)) wholeDirsCard

/-- THE SECOND FORM's CARD OF 'planimetertop.WholeBack'. -/
def wholeBackUptoCard : Claim7 := { stood := { row := wholeBackUptoRow, standIns := [], harness := (true, "21b554fa0bed690d9766a51cd930ee12d19f02023e2377f0cfcc1dc672b53ffa"), looks := false }, kinds := [], alts := [], laidByText := true, laidKinds := [.data], laidTests := true, laidLooks := .later }
def WholeBackUptoCardSaid : Prop := Claim7.holds Tryz.pinned (.plain (OpenSpec.upto wholeBackSpec)) wholeBackUptoCard

/-- THE SECOND FORM's CARD OF 'planimetertop.WholeNearest'. -/
def wholeNearestUptoCard : Claim7 := { stood := { row := wholeNearestUptoRow, standIns := [], harness := (true, "21b554fa0bed690d9766a51cd930ee12d19f02023e2377f0cfcc1dc672b53ffa"), looks := false }, kinds := [], alts := [], laidByText := true, laidKinds := [.data], laidTests := true, laidLooks := .later }
def WholeNearestUptoCardSaid : Prop := Claim7.holds Tryz.pinned (.plain (OpenSpec.upto wholeNearestSpec)) wholeNearestUptoCard

/-- THE SECOND FORM's CARD OF 'planimetertop.WholeDetect'. -/
def wholeDetectUptoCard : Claim7 := { stood := { row := wholeDetectUptoRow, standIns := [], harness := (true, "21b554fa0bed690d9766a51cd930ee12d19f02023e2377f0cfcc1dc672b53ffa"), looks := false }, kinds := [], alts := [], laidByText := true, laidKinds := [.data], laidTests := true, laidLooks := .later }
def WholeDetectUptoCardSaid : Prop := Claim7.holds Tryz.pinned (.plain (OpenSpec.upto wholeDetectSpec)) wholeDetectUptoCard

/-- THE SECOND FORM's CARD OF 'planimetertop.WholeStart'. -/
def wholeStartUptoCard : Claim7 := { stood := { row := wholeStartUptoRow, standIns := [], harness := (true, "21b554fa0bed690d9766a51cd930ee12d19f02023e2377f0cfcc1dc672b53ffa"), looks := false }, kinds := [], alts := [], laidByText := true, laidKinds := [.data], laidTests := true, laidLooks := .later }
def WholeStartUptoCardSaid : Prop := Claim7.holds Tryz.pinned (.plain (OpenSpec.upto wholeStartSpec)) wholeStartUptoCard

/-- THE SECOND FORM's CARD OF 'planimetertop.WholeTotal'. -/
def wholeTotalUptoCard : Claim7 := { stood := { row := wholeTotalUptoRow, standIns := [], harness := (true, "21b554fa0bed690d9766a51cd930ee12d19f02023e2377f0cfcc1dc672b53ffa"), looks := false }, kinds := [], alts := [], laidByText := true, laidKinds := [.data], laidTests := true, laidLooks := .later }
def WholeTotalUptoCardSaid : Prop := Claim7.holds Tryz.pinned (.plain (OpenSpec.upto wholeTotalSpec)) wholeTotalUptoCard

/-- THE SECOND FORM's CARD OF 'planimetertop.WholeFaithful'. -/
def wholeFaithfulUptoCard : Claim7 := { stood := { row := wholeFaithfulUptoRow, standIns := [], harness := (true, "21b554fa0bed690d9766a51cd930ee12d19f02023e2377f0cfcc1dc672b53ffa"), looks := false }, kinds := [], alts := [], laidByText := true, laidKinds := [.data], laidTests := true, laidLooks := .later }
def WholeFaithfulUptoCardSaid : Prop := Claim7.holds Tryz.pinned (.plain (OpenSpec.upto wholeFaithfulSpec)) wholeFaithfulUptoCard

/-- THE SECOND FORM's CARD OF 'planimetertop.WholeDirs'. -/
def wholeDirsUptoCard : Claim7 := { stood := { row := wholeDirsUptoRow, standIns := [], harness := (true, "21b554fa0bed690d9766a51cd930ee12d19f02023e2377f0cfcc1dc672b53ffa"), looks := false }, kinds := [], alts := [], laidByText := true, laidKinds := [.data], laidTests := true, laidLooks := .later }
def WholeDirsUptoCardSaid : Prop := Claim7.holds Tryz.pinned (.plain (OpenSpec.upto wholeDirsSpec)) wholeDirsUptoCard
end Rows
end Go.Proofs.YtfkgaldbcngliaaGreatDoor
