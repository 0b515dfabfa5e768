/-
  DERIVED. GIVEN WITH THE SEED: THE CARDS: each row of YtflpcgcgeffolaaDoorRows.lean that lists a variable, with what it lists TIED to the program's text (the seventh form; the later family's looks); each row that meets fmt, with fmt's text TOLD by the authors' own Lean function (tested against real Go, not proved from fmt's source: count such statements apart). THE CARD IS WHAT COUNTS. Prove the row's statement (the work); the ties are given (YtflpcgcgeffolaaDoorTie.lean); close each card by the builder's one call (the guide's Derived/Test/ToyasCard.lean, 'card_holds'). Laid BY PROGRAM, IN A SANDBOX (cutbox-door.mjs). By AI agents, Wed Nov 11 2026. No macro, syntax, notation, axiom, sorry.
-/
import Derived.Test.YtflpcgcgeffolaaDoorRows
import GoSem.ClaimSeven
namespace Go.Proofs.YtflpcgcgeffolaaDoor
namespace Rows

/-- THE TIED CARD OF 'planimeterlaw20.SpecialAgree'. -/
def specialAgreeCard : Claim7 := { stood := { row := specialAgreeRow, standIns := [], harness := (true, "950b957c61e84adbde2b4bcf76f47821297c3a72e808a8335cbf37b1fd588821"), looks := false }, kinds := [], alts := [], laidByText := true, laidKinds := [.data], laidTests := true, laidLooks := .later }
def SpecialAgreeCardSaid : Prop := Claim7.holds Tryd.pinned (.plain (OpenSpec.ofChange specialAgreeSpec)) specialAgreeCard

/-- THE TIED CARD OF 'planimeterlaw07.RoundTo'. -/
def roundToCard : Claim7 := { stood := { row := roundToRow, standIns := [], harness := (true, "950b957c61e84adbde2b4bcf76f47821297c3a72e808a8335cbf37b1fd588821"), looks := false }, kinds := [], alts := [], laidByText := true, laidKinds := [.data], laidTests := true, laidLooks := .later }
def RoundToCardSaid : Prop := Claim7.holds Tryd.pinned (.plain (OpenSpec.ofChange roundToSpec)) roundToCard

/-- THE TIED CARD OF 'planimeterlaw06.FloatBack'. -/
def floatBackCard : Claim7 := { stood := { row := floatBackRow, standIns := [], harness := (true, "950b957c61e84adbde2b4bcf76f47821297c3a72e808a8335cbf37b1fd588821"), looks := false }, kinds := [], alts := [], laidByText := true, laidKinds := [.data], laidTests := true, laidLooks := .later }
def FloatBackCardSaid : Prop := Claim7.holds Tryd.pinned (.plain (OpenSpec.ofChange floatBackSpec)) floatBackCard

/-- THE TIED CARD OF 'planimeterlaw08.NextTells'. -/
def nextTellsCard : Claim7 := { stood := { row := nextTellsRow, standIns := [], harness := (true, "950b957c61e84adbde2b4bcf76f47821297c3a72e808a8335cbf37b1fd588821"), looks := false }, kinds := [], alts := [], laidByText := true, laidKinds := [.data], laidTests := true, laidLooks := .later }
def NextTellsCardSaid : Prop := Claim7.holds Tryd.pinned (.plain (OpenSpec.ofChange nextTellsSpec)) nextTellsCard

/-- THE TIED CARD OF 'planimeterlaw08.NextCount'. -/
def nextCountCard : Claim7 := { stood := { row := nextCountRow, standIns := [], harness := (true, "950b957c61e84adbde2b4bcf76f47821297c3a72e808a8335cbf37b1fd588821"), looks := false }, kinds := [], alts := [], laidByText := true, laidKinds := [.data], laidTests := true, laidLooks := .later }
def NextCountCardSaid : Prop := Claim7.holds Tryd.pinned (.plain (OpenSpec.ofChange nextCountSpec)) nextCountCard

/-- THE TIED CARD OF 'planimeterlaw05.DyadRules'. -/
def dyadRulesCard : Claim7 := { stood := { row := dyadRulesRow, standIns := [], harness := (true, "950b957c61e84adbde2b4bcf76f47821297c3a72e808a8335cbf37b1fd588821"), looks := false }, kinds := [], alts := [], laidByText := true, laidKinds := [.data], laidTests := true, laidLooks := .later }
def DyadRulesCardSaid : Prop := Claim7.holds Tryd.pinned (.plain (OpenSpec.ofChange dyadRulesSpec)) dyadRulesCard

/-- THE TIED CARD OF 'planimeterlaw08.NextBreaks'. -/
def nextBreaksCard : Claim7 := { stood := { row := nextBreaksRow, standIns := [], harness := (true, "950b957c61e84adbde2b4bcf76f47821297c3a72e808a8335cbf37b1fd588821"), looks := false }, kinds := [], alts := [], laidByText := true, laidKinds := [.data], laidTests := true, laidLooks := .later }
def NextBreaksCardSaid : Prop := Claim7.holds Tryd.pinned (.plain (OpenSpec.ofChange nextBreaksSpec)) nextBreaksCard

/-- THE TIED CARD OF 'planimeterlaw34.UlpsPlaces'. -/
def ulpsPlacesCard : Claim7 := { stood := { row := ulpsPlacesRow, standIns := [], harness := (true, "950b957c61e84adbde2b4bcf76f47821297c3a72e808a8335cbf37b1fd588821"), looks := false }, kinds := [], alts := [], laidByText := true, laidKinds := [.data], laidTests := true, laidLooks := .later }
def UlpsPlacesCardSaid : Prop := Claim7.holds Tryd.pinned (.plain (OpenSpec.ofChange ulpsPlacesSpec)) ulpsPlacesCard

/-- THE TIED CARD OF 'planimeterlaw07.RoundOrder'. -/
def roundOrderCard : Claim7 := { stood := { row := roundOrderRow, standIns := [], harness := (true, "950b957c61e84adbde2b4bcf76f47821297c3a72e808a8335cbf37b1fd588821"), looks := false }, kinds := [], alts := [], laidByText := true, laidKinds := [.data], laidTests := true, laidLooks := .later }
def RoundOrderCardSaid : Prop := Claim7.holds Tryd.pinned (.plain (OpenSpec.ofChange roundOrderSpec)) roundOrderCard

/-- THE TIED CARD OF 'planimeterlaw07.RoundMore'. -/
def roundMoreCard : Claim7 := { stood := { row := roundMoreRow, standIns := [], harness := (true, "950b957c61e84adbde2b4bcf76f47821297c3a72e808a8335cbf37b1fd588821"), looks := false }, kinds := [], alts := [], laidByText := true, laidKinds := [.data], laidTests := true, laidLooks := .later }
def RoundMoreCardSaid : Prop := Claim7.holds Tryd.pinned (.plain (OpenSpec.ofChange roundMoreSpec)) roundMoreCard

/-- THE TIED CARD OF 'planimeterlaw08.NextBack'. -/
def nextBackCard : Claim7 := { stood := { row := nextBackRow, standIns := [], harness := (true, "950b957c61e84adbde2b4bcf76f47821297c3a72e808a8335cbf37b1fd588821"), looks := false }, kinds := [], alts := [], laidByText := true, laidKinds := [.data], laidTests := true, laidLooks := .later }
def NextBackCardSaid : Prop := Claim7.holds Tryd.pinned (.plain (OpenSpec.ofChange nextBackSpec)) nextBackCard

/-- THE TIED CARD OF 'planimeterlaw34.UlpsOff'. -/
def ulpsOffCard : Claim7 := { stood := { row := ulpsOffRow, standIns := [], harness := (true, "950b957c61e84adbde2b4bcf76f47821297c3a72e808a8335cbf37b1fd588821"), looks := false }, kinds := [], alts := [], laidByText := true, laidKinds := [.data], laidTests := true, laidLooks := .later }
def UlpsOffCardSaid : Prop := Claim7.holds Tryd.pinned (.plain (OpenSpec.ofChange ulpsOffSpec)) ulpsOffCard

/-- THE SECOND FORM's CARD OF 'planimeterlaw20.SpecialAgree'. -/
def specialAgreeUptoCard : Claim7 := { stood := { row := specialAgreeUptoRow, standIns := [], harness := (true, "950b957c61e84adbde2b4bcf76f47821297c3a72e808a8335cbf37b1fd588821"), looks := false }, kinds := [], alts := [], laidByText := true, laidKinds := [.data], laidTests := true, laidLooks := .later }
def SpecialAgreeUptoCardSaid : Prop := Claim7.holds Tryd.pinned (.plain (OpenSpec.upto specialAgreeSpec)) specialAgreeUptoCard

/-- THE SECOND FORM's CARD OF 'planimeterlaw07.RoundTo'. -/
def roundToUptoCard : Claim7 := { stood := { row := roundToUptoRow, standIns := [], harness := (true, "950b957c61e84adbde2b4bcf76f47821297c3a72e808a8335cbf37b1fd588821"), looks := false }, kinds := [], alts := [], laidByText := true, laidKinds := [.data], laidTests := true, laidLooks := .later }
def RoundToUptoCardSaid : Prop := Claim7.holds Tryd.pinned (.plain (OpenSpec.upto roundToSpec)) roundToUptoCard

/-- THE SECOND FORM's CARD OF 'planimeterlaw06.FloatBack'. -/
def floatBackUptoCard : Claim7 := { stood := { row := floatBackUptoRow, standIns := [], harness := (true, "950b957c61e84adbde2b4bcf76f47821297c3a72e808a8335cbf37b1fd588821"), looks := false }, kinds := [], alts := [], laidByText := true, laidKinds := [.data], laidTests := true, laidLooks := .later }
def FloatBackUptoCardSaid : Prop := Claim7.holds Tryd.pinned (.plain (OpenSpec.upto floatBackSpec)) floatBackUptoCard

/-- THE SECOND FORM's CARD OF 'planimeterlaw08.NextTells'. -/
def nextTellsUptoCard : Claim7 := { stood := { row := nextTellsUptoRow, standIns := [], harness := (true, "950b957c61e84adbde2b4bcf76f47821297c3a72e808a8335cbf37b1fd588821"), looks := false }, kinds := [], alts := [], laidByText := true, laidKinds := [.data], laidTests := true, laidLooks := .later }
def NextTellsUptoCardSaid : Prop := Claim7.holds Tryd.pinned (.plain (OpenSpec.upto nextTellsSpec)) nextTellsUptoCard

/-- THE SECOND FORM's CARD OF 'planimeterlaw08.NextCount'. -/
def nextCountUptoCard : Claim7 := { stood := { row := nextCountUptoRow, standIns := [], harness := (true, "950b957c61e84adbde2b4bcf76f47821297c3a72e808a8335cbf37b1fd588821"), looks := false }, kinds := [], alts := [], laidByText := true, laidKinds := [.data], laidTests := true, laidLooks := .later }
def NextCountUptoCardSaid : Prop := Claim7.holds Tryd.pinned (.plain (OpenSpec.upto nextCountSpec)) nextCountUptoCard

/-- THE SECOND FORM's CARD OF 'planimeterlaw05.DyadRules'. -/
def dyadRulesUptoCard : Claim7 := { stood := { row := dyadRulesUptoRow, standIns := [], harness := (true, "950b957c61e84adbde2b4bcf76f47821297c3a72e808a8335cbf37b1fd588821"), looks := false }, kinds := [], alts := [], laidByText := true, laidKinds := [.data], laidTests := true, laidLooks := .later }
def DyadRulesUptoCardSaid : Prop := Claim7.holds Tryd.pinned (.plain (OpenSpec.upto dyadRulesSpec)) dyadRulesUptoCard

/-- THE SECOND FORM's CARD OF 'planimeterlaw08.NextBreaks'. -/
def nextBreaksUptoCard : Claim7 := { stood := { row := nextBreaksUptoRow, standIns := [], harness := (true, "950b957c61e84adbde2b4bcf76f47821297c3a72e808a8335cbf37b1fd588821"), looks := false }, kinds := [], alts := [], laidByText := true, laidKinds := [.data], laidTests := true, laidLooks := .later }
def NextBreaksUptoCardSaid : Prop := Claim7.holds Tryd.pinned (.plain (OpenSpec.upto nextBreaksSpec)) nextBreaksUptoCard

/-- THE SECOND FORM's CARD OF 'planimeterlaw34.UlpsPlaces'. -/
def ulpsPlacesUptoCard : Claim7 := { stood := { row := ulpsPlacesUptoRow, standIns := [], harness := (true, "950b957c61e84adbde2b4bcf76f47821297c3a72e808a8335cbf37b1fd588821"), looks := false }, kinds := [], alts := [], laidByText := true, laidKinds := [.data], laidTests := true, laidLooks := .later }
def UlpsPlacesUptoCardSaid : Prop := Claim7.holds Tryd.pinned (.plain (OpenSpec.upto ulpsPlacesSpec)) ulpsPlacesUptoCard

/-- THE SECOND FORM's CARD OF 'planimeterlaw07.RoundOrder'. -/
def roundOrderUptoCard : Claim7 := { stood := { row := roundOrderUptoRow, standIns := [], harness := (true, "950b957c61e84adbde2b4bcf76f47821297c3a72e808a8335cbf37b1fd588821"), looks := false }, kinds := [], alts := [], laidByText := true, laidKinds := [.data], laidTests := true, laidLooks := .later }
def RoundOrderUptoCardSaid : Prop := Claim7.holds Tryd.pinned (.plain (OpenSpec.upto roundOrderSpec)) roundOrderUptoCard

/-- THE SECOND FORM's CARD OF 'planimeterlaw07.RoundMore'. -/
def roundMoreUptoCard : Claim7 := { stood := { row := roundMoreUptoRow, standIns := [], harness := (true, "950b957c61e84adbde2b4bcf76f47821297c3a72e808a8335cbf37b1fd588821"), looks := false }, kinds := [], alts := [], laidByText := true, laidKinds := [.data], laidTests := true, laidLooks := .later }
def RoundMoreUptoCardSaid : Prop := Claim7.holds Tryd.pinned (.plain (OpenSpec.upto roundMoreSpec)) roundMoreUptoCard

/-- THE SECOND FORM's CARD OF 'planimeterlaw08.NextBack'. -/
def nextBackUptoCard : Claim7 := { stood := { row := nextBackUptoRow, standIns := [], harness := (true, "950b957c61e84adbde2b4bcf76f47821297c3a72e808a8335cbf37b1fd588821"), looks := false }, kinds := [], alts := [], laidByText := true, laidKinds := [.data], laidTests := true, laidLooks := .later }
def NextBackUptoCardSaid : Prop := Claim7.holds Tryd.pinned (.plain (OpenSpec.upto nextBackSpec)) nextBackUptoCard

/-- THE SECOND FORM's CARD OF 'planimeterlaw34.UlpsOff'. -/
def ulpsOffUptoCard : Claim7 := { stood := { row := ulpsOffUptoRow, standIns := [], harness := (true, "950b957c61e84adbde2b4bcf76f47821297c3a72e808a8335cbf37b1fd588821"), looks := false }, kinds := [], alts := [], laidByText := true, laidKinds := [.data], laidTests := true, laidLooks := .later }
def UlpsOffUptoCardSaid : Prop := Claim7.holds Tryd.pinned (.plain (OpenSpec.upto ulpsOffSpec)) ulpsOffUptoCard
end Rows
end Go.Proofs.YtflpcgcgeffolaaDoor
