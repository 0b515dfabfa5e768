/-
  DERIVED. GIVEN WITH THE SEED: THE CARDS: each row of YtkddalmjhmgbeaaDoorRows.lean that lists a variable, with what it lists TIED to the program's text (the seventh form; the later family's looks); each row that meets fmt, with fmt's text TOLD by the authors' own Lean function (tested against real Go, not proved from fmt's source: count such statements apart). THE CARD IS WHAT COUNTS. Prove the row's statement (the work); the ties are given (YtkddalmjhmgbeaaDoorTie.lean); close each card by the builder's one call (the guide's Derived/Test/ToyasCard.lean, 'card_holds'). Laid BY PROGRAM, IN A SANDBOX (cutbox-door.mjs). By AI agents, Wed Nov 11 2026. No macro, syntax, notation, axiom, sorry.
-/
import Derived.Test.YtkddalmjhmgbeaaDoorRows
import GoSem.ClaimSeven
namespace Go.Proofs.YtkddalmjhmgbeaaDoor
namespace Rows

/-- THE TIED CARD OF 'planimeterlaw01.NatShifts'. -/
def natShiftsCard : Claim7 := { stood := { row := natShiftsRow, standIns := [], harness := (true, "b103c602100799966bf9365e2f1a7a0c2097dcd8181b44869799eb9b71ca370f"), looks := false }, kinds := [], alts := [], laidByText := true, laidKinds := [.data], laidTests := true, laidLooks := .later }
def NatShiftsCardSaid : Prop := Claim7.holds Tryd.pinned (.plain (OpenSpec.ofChange natShiftsSpec)) natShiftsCard

/-- THE TIED CARD OF 'planimeterlaw01.NatSums'. -/
def natSumsCard : Claim7 := { stood := { row := natSumsRow, standIns := [], harness := (true, "b103c602100799966bf9365e2f1a7a0c2097dcd8181b44869799eb9b71ca370f"), looks := false }, kinds := [], alts := [], laidByText := true, laidKinds := [.data], laidTests := true, laidLooks := .later }
def NatSumsCardSaid : Prop := Claim7.holds Tryd.pinned (.plain (OpenSpec.ofChange natSumsSpec)) natSumsCard

/-- THE TIED CARD OF 'planimeterlaw01.NatOrder'. -/
def natOrderCard : Claim7 := { stood := { row := natOrderRow, standIns := [], harness := (true, "b103c602100799966bf9365e2f1a7a0c2097dcd8181b44869799eb9b71ca370f"), looks := false }, kinds := [], alts := [], laidByText := true, laidKinds := [.data], laidTests := true, laidLooks := .later }
def NatOrderCardSaid : Prop := Claim7.holds Tryd.pinned (.plain (OpenSpec.ofChange natOrderSpec)) natOrderCard

/-- THE TIED CARD OF 'planimeterlaw01.NatBack'. -/
def natBackCard : Claim7 := { stood := { row := natBackRow, standIns := [], harness := (true, "b103c602100799966bf9365e2f1a7a0c2097dcd8181b44869799eb9b71ca370f"), looks := false }, kinds := [], alts := [], laidByText := true, laidKinds := [.data], laidTests := true, laidLooks := .later }
def NatBackCardSaid : Prop := Claim7.holds Tryd.pinned (.plain (OpenSpec.ofChange natBackSpec)) natBackCard

/-- THE TIED CARD OF 'planimeterlaw20.SpecialPow'. -/
def specialPowCard : Claim7 := { stood := { row := specialPowRow, standIns := [], harness := (true, "b103c602100799966bf9365e2f1a7a0c2097dcd8181b44869799eb9b71ca370f"), looks := false }, kinds := [], alts := [], laidByText := true, laidKinds := [.data], laidTests := true, laidLooks := .later }
def SpecialPowCardSaid : Prop := Claim7.holds Tryd.pinned (.plain (OpenSpec.ofChange specialPowSpec)) specialPowCard

/-- THE TIED CARD OF 'planimeterlaw06.FloatExact'. -/
def floatExactCard : Claim7 := { stood := { row := floatExactRow, standIns := [], harness := (true, "b103c602100799966bf9365e2f1a7a0c2097dcd8181b44869799eb9b71ca370f"), looks := false }, kinds := [], alts := [], laidByText := true, laidKinds := [.data], laidTests := true, laidLooks := .later }
def FloatExactCardSaid : Prop := Claim7.holds Tryd.pinned (.plain (OpenSpec.ofChange floatExactSpec)) floatExactCard

/-- THE TIED CARD OF 'planimeterlaw06.FloatTells'. -/
def floatTellsCard : Claim7 := { stood := { row := floatTellsRow, standIns := [], harness := (true, "b103c602100799966bf9365e2f1a7a0c2097dcd8181b44869799eb9b71ca370f"), looks := false }, kinds := [], alts := [], laidByText := true, laidKinds := [.data], laidTests := true, laidLooks := .later }
def FloatTellsCardSaid : Prop := Claim7.holds Tryd.pinned (.plain (OpenSpec.ofChange floatTellsSpec)) floatTellsCard

/-- THE TIED CARD OF 'planimeterlaw06.FloatWhole'. -/
def floatWholeCard : Claim7 := { stood := { row := floatWholeRow, standIns := [], harness := (true, "b103c602100799966bf9365e2f1a7a0c2097dcd8181b44869799eb9b71ca370f"), looks := false }, kinds := [], alts := [], laidByText := true, laidKinds := [.data], laidTests := true, laidLooks := .later }
def FloatWholeCardSaid : Prop := Claim7.holds Tryd.pinned (.plain (OpenSpec.ofChange floatWholeSpec)) floatWholeCard

/-- THE TIED CARD OF 'planimeterlaw20.SpecialAgree'. -/
def specialAgreeCard : Claim7 := { stood := { row := specialAgreeRow, standIns := [], harness := (true, "b103c602100799966bf9365e2f1a7a0c2097dcd8181b44869799eb9b71ca370f"), looks := false }, kinds := [], alts := [], laidByText := true, laidKinds := [.data], laidTests := true, laidLooks := .later }
def SpecialAgreeCardSaid : Prop := Claim7.holds Tryd.pinned (.plain (OpenSpec.ofChange specialAgreeSpec)) specialAgreeCard

/-- THE TIED CARD OF 'planimeterlaw20.SpecialEven'. -/
def specialEvenCard : Claim7 := { stood := { row := specialEvenRow, standIns := [], harness := (true, "b103c602100799966bf9365e2f1a7a0c2097dcd8181b44869799eb9b71ca370f"), looks := false }, kinds := [], alts := [], laidByText := true, laidKinds := [.data], laidTests := true, laidLooks := .later }
def SpecialEvenCardSaid : Prop := Claim7.holds Tryd.pinned (.plain (OpenSpec.ofChange specialEvenSpec)) specialEvenCard

/-- THE TIED CARD OF 'planimeterlaw20.SpecialWhole'. -/
def specialWholeCard : Claim7 := { stood := { row := specialWholeRow, standIns := [], harness := (true, "b103c602100799966bf9365e2f1a7a0c2097dcd8181b44869799eb9b71ca370f"), looks := false }, kinds := [], alts := [], laidByText := true, laidKinds := [.data], laidTests := true, laidLooks := .later }
def SpecialWholeCardSaid : Prop := Claim7.holds Tryd.pinned (.plain (OpenSpec.ofChange specialWholeSpec)) specialWholeCard

/-- THE TIED CARD OF 'planimeterlaw07.RoundTo'. -/
def roundToCard : Claim7 := { stood := { row := roundToRow, standIns := [], harness := (true, "b103c602100799966bf9365e2f1a7a0c2097dcd8181b44869799eb9b71ca370f"), looks := false }, kinds := [], alts := [], laidByText := true, laidKinds := [.data], laidTests := true, laidLooks := .later }
def RoundToCardSaid : Prop := Claim7.holds Tryd.pinned (.plain (OpenSpec.ofChange roundToSpec)) roundToCard

/-- THE SECOND FORM's CARD OF 'planimeterlaw01.NatShifts'. -/
def natShiftsUptoCard : Claim7 := { stood := { row := natShiftsUptoRow, standIns := [], harness := (true, "b103c602100799966bf9365e2f1a7a0c2097dcd8181b44869799eb9b71ca370f"), looks := false }, kinds := [], alts := [], laidByText := true, laidKinds := [.data], laidTests := true, laidLooks := .later }
def NatShiftsUptoCardSaid : Prop := Claim7.holds Tryd.pinned (.plain (OpenSpec.upto natShiftsSpec)) natShiftsUptoCard

/-- THE SECOND FORM's CARD OF 'planimeterlaw01.NatSums'. -/
def natSumsUptoCard : Claim7 := { stood := { row := natSumsUptoRow, standIns := [], harness := (true, "b103c602100799966bf9365e2f1a7a0c2097dcd8181b44869799eb9b71ca370f"), looks := false }, kinds := [], alts := [], laidByText := true, laidKinds := [.data], laidTests := true, laidLooks := .later }
def NatSumsUptoCardSaid : Prop := Claim7.holds Tryd.pinned (.plain (OpenSpec.upto natSumsSpec)) natSumsUptoCard

/-- THE SECOND FORM's CARD OF 'planimeterlaw01.NatOrder'. -/
def natOrderUptoCard : Claim7 := { stood := { row := natOrderUptoRow, standIns := [], harness := (true, "b103c602100799966bf9365e2f1a7a0c2097dcd8181b44869799eb9b71ca370f"), looks := false }, kinds := [], alts := [], laidByText := true, laidKinds := [.data], laidTests := true, laidLooks := .later }
def NatOrderUptoCardSaid : Prop := Claim7.holds Tryd.pinned (.plain (OpenSpec.upto natOrderSpec)) natOrderUptoCard

/-- THE SECOND FORM's CARD OF 'planimeterlaw01.NatBack'. -/
def natBackUptoCard : Claim7 := { stood := { row := natBackUptoRow, standIns := [], harness := (true, "b103c602100799966bf9365e2f1a7a0c2097dcd8181b44869799eb9b71ca370f"), looks := false }, kinds := [], alts := [], laidByText := true, laidKinds := [.data], laidTests := true, laidLooks := .later }
def NatBackUptoCardSaid : Prop := Claim7.holds Tryd.pinned (.plain (OpenSpec.upto natBackSpec)) natBackUptoCard

/-- THE SECOND FORM's CARD OF 'planimeterlaw20.SpecialPow'. -/
def specialPowUptoCard : Claim7 := { stood := { row := specialPowUptoRow, standIns := [], harness := (true, "b103c602100799966bf9365e2f1a7a0c2097dcd8181b44869799eb9b71ca370f"), looks := false }, kinds := [], alts := [], laidByText := true, laidKinds := [.data], laidTests := true, laidLooks := .later }
def SpecialPowUptoCardSaid : Prop := Claim7.holds Tryd.pinned (.plain (OpenSpec.upto specialPowSpec)) specialPowUptoCard

/-- THE SECOND FORM's CARD OF 'planimeterlaw06.FloatExact'. -/
def floatExactUptoCard : Claim7 := { stood := { row := floatExactUptoRow, standIns := [], harness := (true, "b103c602100799966bf9365e2f1a7a0c2097dcd8181b44869799eb9b71ca370f"), looks := false }, kinds := [], alts := [], laidByText := true, laidKinds := [.data], laidTests := true, laidLooks := .later }
def FloatExactUptoCardSaid : Prop := Claim7.holds Tryd.pinned (.plain (OpenSpec.upto floatExactSpec)) floatExactUptoCard

/-- THE SECOND FORM's CARD OF 'planimeterlaw06.FloatTells'. -/
def floatTellsUptoCard : Claim7 := { stood := { row := floatTellsUptoRow, standIns := [], harness := (true, "b103c602100799966bf9365e2f1a7a0c2097dcd8181b44869799eb9b71ca370f"), looks := false }, kinds := [], alts := [], laidByText := true, laidKinds := [.data], laidTests := true, laidLooks := .later }
def FloatTellsUptoCardSaid : Prop := Claim7.holds Tryd.pinned (.plain (OpenSpec.upto floatTellsSpec)) floatTellsUptoCard

/-- THE SECOND FORM's CARD OF 'planimeterlaw06.FloatWhole'. -/
def floatWholeUptoCard : Claim7 := { stood := { row := floatWholeUptoRow, standIns := [], harness := (true, "b103c602100799966bf9365e2f1a7a0c2097dcd8181b44869799eb9b71ca370f"), looks := false }, kinds := [], alts := [], laidByText := true, laidKinds := [.data], laidTests := true, laidLooks := .later }
def FloatWholeUptoCardSaid : Prop := Claim7.holds Tryd.pinned (.plain (OpenSpec.upto floatWholeSpec)) floatWholeUptoCard

/-- THE SECOND FORM's CARD OF 'planimeterlaw20.SpecialAgree'. -/
def specialAgreeUptoCard : Claim7 := { stood := { row := specialAgreeUptoRow, standIns := [], harness := (true, "b103c602100799966bf9365e2f1a7a0c2097dcd8181b44869799eb9b71ca370f"), looks := false }, kinds := [], alts := [], laidByText := true, laidKinds := [.data], laidTests := true, laidLooks := .later }
def SpecialAgreeUptoCardSaid : Prop := Claim7.holds Tryd.pinned (.plain (OpenSpec.upto specialAgreeSpec)) specialAgreeUptoCard

/-- THE SECOND FORM's CARD OF 'planimeterlaw20.SpecialEven'. -/
def specialEvenUptoCard : Claim7 := { stood := { row := specialEvenUptoRow, standIns := [], harness := (true, "b103c602100799966bf9365e2f1a7a0c2097dcd8181b44869799eb9b71ca370f"), looks := false }, kinds := [], alts := [], laidByText := true, laidKinds := [.data], laidTests := true, laidLooks := .later }
def SpecialEvenUptoCardSaid : Prop := Claim7.holds Tryd.pinned (.plain (OpenSpec.upto specialEvenSpec)) specialEvenUptoCard

/-- THE SECOND FORM's CARD OF 'planimeterlaw20.SpecialWhole'. -/
def specialWholeUptoCard : Claim7 := { stood := { row := specialWholeUptoRow, standIns := [], harness := (true, "b103c602100799966bf9365e2f1a7a0c2097dcd8181b44869799eb9b71ca370f"), looks := false }, kinds := [], alts := [], laidByText := true, laidKinds := [.data], laidTests := true, laidLooks := .later }
def SpecialWholeUptoCardSaid : Prop := Claim7.holds Tryd.pinned (.plain (OpenSpec.upto specialWholeSpec)) specialWholeUptoCard

/-- THE SECOND FORM's CARD OF 'planimeterlaw07.RoundTo'. -/
def roundToUptoCard : Claim7 := { stood := { row := roundToUptoRow, standIns := [], harness := (true, "b103c602100799966bf9365e2f1a7a0c2097dcd8181b44869799eb9b71ca370f"), looks := false }, kinds := [], alts := [], laidByText := true, laidKinds := [.data], laidTests := true, laidLooks := .later }
def RoundToUptoCardSaid : Prop := Claim7.holds Tryd.pinned (.plain (OpenSpec.upto roundToSpec)) roundToUptoCard
end Rows
end Go.Proofs.YtkddalmjhmgbeaaDoor
