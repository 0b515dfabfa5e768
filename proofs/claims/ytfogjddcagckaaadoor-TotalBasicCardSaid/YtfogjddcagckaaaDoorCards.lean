/-
  DERIVED. GIVEN WITH THE SEED: THE CARDS: each row of YtfogjddcagckaaaDoorRows.lean that lists a variable, with what it lists TIED to the program's text (the seventh form; the later family's looks); each row that meets fmt, with fmt's text TOLD by the authors' own Lean function (tested against real Go, not proved from fmt's source: count such statements apart). THE CARD IS WHAT COUNTS. Prove the row's statement (the work); the ties are given (YtfogjddcagckaaaDoorTie.lean); close each card by the builder's one call (the guide's Derived/Test/ToyasCard.lean, 'card_holds'). Laid BY PROGRAM, IN A SANDBOX (cutbox-door.mjs). By AI agents, Wed Nov 11 2026. No macro, syntax, notation, axiom, sorry.
-/
import Derived.Test.YtfogjddcagckaaaDoorRows
import GoSem.ClaimSeven
namespace Go.Proofs.YtfogjddcagckaaaDoor
namespace Rows

/-- THE TIED CARD OF 'planimeterlaw05.DyadRules'. -/
def dyadRulesCard : Claim7 := { stood := { row := dyadRulesRow, standIns := [], harness := (true, "a1f199cb6ab3d9e799a8e77f1b560a88e5b85c0560b589ef560acf312cba5ba1"), looks := false }, kinds := [], alts := [], laidByText := true, laidKinds := [.data], laidTests := true, laidLooks := .later }
def DyadRulesCardSaid : Prop := Claim7.holds Tryd.pinned (.plain (OpenSpec.ofChange dyadRulesSpec)) dyadRulesCard

/-- THE TIED CARD OF 'planimeterlaw15.IvTells'. -/
def ivTellsCard : Claim7 := { stood := { row := ivTellsRow, standIns := [], harness := (true, "a1f199cb6ab3d9e799a8e77f1b560a88e5b85c0560b589ef560acf312cba5ba1"), looks := false }, kinds := [], alts := [], laidByText := true, laidKinds := [.data], laidTests := true, laidLooks := .later }
def IvTellsCardSaid : Prop := Claim7.holds Tryd.pinned (.plain (OpenSpec.ofChange ivTellsSpec)) ivTellsCard

/-- THE TIED CARD OF 'planimeterlaw15.IvRules'. -/
def ivRulesCard : Claim7 := { stood := { row := ivRulesRow, standIns := [], harness := (true, "a1f199cb6ab3d9e799a8e77f1b560a88e5b85c0560b589ef560acf312cba5ba1"), looks := false }, kinds := [], alts := [], laidByText := true, laidKinds := [.data], laidTests := true, laidLooks := .later }
def IvRulesCardSaid : Prop := Claim7.holds Tryd.pinned (.plain (OpenSpec.ofChange ivRulesSpec)) ivRulesCard

/-- THE TIED CARD OF 'planimeterlaw15.IvNest'. -/
def ivNestCard : Claim7 := { stood := { row := ivNestRow, standIns := [], harness := (true, "a1f199cb6ab3d9e799a8e77f1b560a88e5b85c0560b589ef560acf312cba5ba1"), looks := false }, kinds := [], alts := [], laidByText := true, laidKinds := [.data], laidTests := true, laidLooks := .later }
def IvNestCardSaid : Prop := Claim7.holds Tryd.pinned (.plain (OpenSpec.ofChange ivNestSpec)) ivNestCard

/-- THE TIED CARD OF 'planimeterlaw34.UlpsOff'. -/
def ulpsOffCard : Claim7 := { stood := { row := ulpsOffRow, standIns := [], harness := (true, "a1f199cb6ab3d9e799a8e77f1b560a88e5b85c0560b589ef560acf312cba5ba1"), looks := false }, kinds := [], alts := [], laidByText := true, laidKinds := [.data], laidTests := true, laidLooks := .later }
def UlpsOffCardSaid : Prop := Claim7.holds Tryd.pinned (.plain (OpenSpec.ofChange ulpsOffSpec)) ulpsOffCard

/-- THE TIED CARD OF 'planimeterlaw15.IvShort'. -/
def ivShortCard : Claim7 := { stood := { row := ivShortRow, standIns := [], harness := (true, "a1f199cb6ab3d9e799a8e77f1b560a88e5b85c0560b589ef560acf312cba5ba1"), looks := false }, kinds := [], alts := [], laidByText := true, laidKinds := [.data], laidTests := true, laidLooks := .later }
def IvShortCardSaid : Prop := Claim7.holds Tryd.pinned (.plain (OpenSpec.ofChange ivShortSpec)) ivShortCard

/-- THE TIED CARD OF 'planimeterlaw29.TotalSums'. -/
def totalSumsCard : Claim7 := { stood := { row := totalSumsRow, standIns := [], harness := (true, "a1f199cb6ab3d9e799a8e77f1b560a88e5b85c0560b589ef560acf312cba5ba1"), looks := false }, kinds := [], alts := [], laidByText := true, laidKinds := [.data], laidTests := true, laidLooks := .later }
def TotalSumsCardSaid : Prop := Claim7.holds Tryd.pinned (.plain (OpenSpec.ofChange totalSumsSpec)) totalSumsCard

/-- THE TIED CARD OF 'planimeterlaw34.UlpsRules'. -/
def ulpsRulesCard : Claim7 := { stood := { row := ulpsRulesRow, standIns := [], harness := (true, "a1f199cb6ab3d9e799a8e77f1b560a88e5b85c0560b589ef560acf312cba5ba1"), looks := false }, kinds := [], alts := [], laidByText := true, laidKinds := [.data], laidTests := true, laidLooks := .later }
def UlpsRulesCardSaid : Prop := Claim7.holds Tryd.pinned (.plain (OpenSpec.ofChange ulpsRulesSpec)) ulpsRulesCard

/-- THE TIED CARD OF 'planimeterlaw29.TotalJoins'. -/
def totalJoinsCard : Claim7 := { stood := { row := totalJoinsRow, standIns := [], harness := (true, "a1f199cb6ab3d9e799a8e77f1b560a88e5b85c0560b589ef560acf312cba5ba1"), looks := false }, kinds := [], alts := [], laidByText := true, laidKinds := [.data], laidTests := true, laidLooks := .later }
def TotalJoinsCardSaid : Prop := Claim7.holds Tryd.pinned (.plain (OpenSpec.ofChange totalJoinsSpec)) totalJoinsCard

/-- THE TIED CARD OF 'planimeterlaw29.TotalMost'. -/
def totalMostCard : Claim7 := { stood := { row := totalMostRow, standIns := [], harness := (true, "a1f199cb6ab3d9e799a8e77f1b560a88e5b85c0560b589ef560acf312cba5ba1"), looks := false }, kinds := [], alts := [], laidByText := true, laidKinds := [.data], laidTests := true, laidLooks := .later }
def TotalMostCardSaid : Prop := Claim7.holds Tryd.pinned (.plain (OpenSpec.ofChange totalMostSpec)) totalMostCard

/-- THE TIED CARD OF 'planimeterlaw29.TotalBasic'. -/
def totalBasicCard : Claim7 := { stood := { row := totalBasicRow, standIns := [], harness := (true, "a1f199cb6ab3d9e799a8e77f1b560a88e5b85c0560b589ef560acf312cba5ba1"), looks := false }, kinds := [], alts := [], laidByText := true, laidKinds := [.data], laidTests := true, laidLooks := .later }
def TotalBasicCardSaid : Prop := Claim7.holds Tryd.pinned (.plain (OpenSpec.ofChange totalBasicSpec)) totalBasicCard

/-- THE SECOND FORM's CARD OF 'planimeterlaw05.DyadRules'. -/
def dyadRulesUptoCard : Claim7 := { stood := { row := dyadRulesUptoRow, standIns := [], harness := (true, "a1f199cb6ab3d9e799a8e77f1b560a88e5b85c0560b589ef560acf312cba5ba1"), looks := false }, kinds := [], alts := [], laidByText := true, laidKinds := [.data], laidTests := true, laidLooks := .later }
def DyadRulesUptoCardSaid : Prop := Claim7.holds Tryd.pinned (.plain (OpenSpec.upto dyadRulesSpec)) dyadRulesUptoCard

/-- THE SECOND FORM's CARD OF 'planimeterlaw15.IvTells'. -/
def ivTellsUptoCard : Claim7 := { stood := { row := ivTellsUptoRow, standIns := [], harness := (true, "a1f199cb6ab3d9e799a8e77f1b560a88e5b85c0560b589ef560acf312cba5ba1"), looks := false }, kinds := [], alts := [], laidByText := true, laidKinds := [.data], laidTests := true, laidLooks := .later }
def IvTellsUptoCardSaid : Prop := Claim7.holds Tryd.pinned (.plain (OpenSpec.upto ivTellsSpec)) ivTellsUptoCard

/-- THE SECOND FORM's CARD OF 'planimeterlaw15.IvRules'. -/
def ivRulesUptoCard : Claim7 := { stood := { row := ivRulesUptoRow, standIns := [], harness := (true, "a1f199cb6ab3d9e799a8e77f1b560a88e5b85c0560b589ef560acf312cba5ba1"), looks := false }, kinds := [], alts := [], laidByText := true, laidKinds := [.data], laidTests := true, laidLooks := .later }
def IvRulesUptoCardSaid : Prop := Claim7.holds Tryd.pinned (.plain (OpenSpec.upto ivRulesSpec)) ivRulesUptoCard

/-- THE SECOND FORM's CARD OF 'planimeterlaw15.IvNest'. -/
def ivNestUptoCard : Claim7 := { stood := { row := ivNestUptoRow, standIns := [], harness := (true, "a1f199cb6ab3d9e799a8e77f1b560a88e5b85c0560b589ef560acf312cba5ba1"), looks := false }, kinds := [], alts := [], laidByText := true, laidKinds := [.data], laidTests := true, laidLooks := .later }
def IvNestUptoCardSaid : Prop := Claim7.holds Tryd.pinned (.plain (OpenSpec.upto ivNestSpec)) ivNestUptoCard

/-- THE SECOND FORM's CARD OF 'planimeterlaw34.UlpsOff'. -/
def ulpsOffUptoCard : Claim7 := { stood := { row := ulpsOffUptoRow, standIns := [], harness := (true, "a1f199cb6ab3d9e799a8e77f1b560a88e5b85c0560b589ef560acf312cba5ba1"), looks := false }, kinds := [], alts := [], laidByText := true, laidKinds := [.data], laidTests := true, laidLooks := .later }
def UlpsOffUptoCardSaid : Prop := Claim7.holds Tryd.pinned (.plain (OpenSpec.upto ulpsOffSpec)) ulpsOffUptoCard

/-- THE SECOND FORM's CARD OF 'planimeterlaw15.IvShort'. -/
def ivShortUptoCard : Claim7 := { stood := { row := ivShortUptoRow, standIns := [], harness := (true, "a1f199cb6ab3d9e799a8e77f1b560a88e5b85c0560b589ef560acf312cba5ba1"), looks := false }, kinds := [], alts := [], laidByText := true, laidKinds := [.data], laidTests := true, laidLooks := .later }
def IvShortUptoCardSaid : Prop := Claim7.holds Tryd.pinned (.plain (OpenSpec.upto ivShortSpec)) ivShortUptoCard

/-- THE SECOND FORM's CARD OF 'planimeterlaw29.TotalSums'. -/
def totalSumsUptoCard : Claim7 := { stood := { row := totalSumsUptoRow, standIns := [], harness := (true, "a1f199cb6ab3d9e799a8e77f1b560a88e5b85c0560b589ef560acf312cba5ba1"), looks := false }, kinds := [], alts := [], laidByText := true, laidKinds := [.data], laidTests := true, laidLooks := .later }
def TotalSumsUptoCardSaid : Prop := Claim7.holds Tryd.pinned (.plain (OpenSpec.upto totalSumsSpec)) totalSumsUptoCard

/-- THE SECOND FORM's CARD OF 'planimeterlaw34.UlpsRules'. -/
def ulpsRulesUptoCard : Claim7 := { stood := { row := ulpsRulesUptoRow, standIns := [], harness := (true, "a1f199cb6ab3d9e799a8e77f1b560a88e5b85c0560b589ef560acf312cba5ba1"), looks := false }, kinds := [], alts := [], laidByText := true, laidKinds := [.data], laidTests := true, laidLooks := .later }
def UlpsRulesUptoCardSaid : Prop := Claim7.holds Tryd.pinned (.plain (OpenSpec.upto ulpsRulesSpec)) ulpsRulesUptoCard

/-- THE SECOND FORM's CARD OF 'planimeterlaw29.TotalJoins'. -/
def totalJoinsUptoCard : Claim7 := { stood := { row := totalJoinsUptoRow, standIns := [], harness := (true, "a1f199cb6ab3d9e799a8e77f1b560a88e5b85c0560b589ef560acf312cba5ba1"), looks := false }, kinds := [], alts := [], laidByText := true, laidKinds := [.data], laidTests := true, laidLooks := .later }
def TotalJoinsUptoCardSaid : Prop := Claim7.holds Tryd.pinned (.plain (OpenSpec.upto totalJoinsSpec)) totalJoinsUptoCard

/-- THE SECOND FORM's CARD OF 'planimeterlaw29.TotalMost'. -/
def totalMostUptoCard : Claim7 := { stood := { row := totalMostUptoRow, standIns := [], harness := (true, "a1f199cb6ab3d9e799a8e77f1b560a88e5b85c0560b589ef560acf312cba5ba1"), looks := false }, kinds := [], alts := [], laidByText := true, laidKinds := [.data], laidTests := true, laidLooks := .later }
def TotalMostUptoCardSaid : Prop := Claim7.holds Tryd.pinned (.plain (OpenSpec.upto totalMostSpec)) totalMostUptoCard

/-- THE SECOND FORM's CARD OF 'planimeterlaw29.TotalBasic'. -/
def totalBasicUptoCard : Claim7 := { stood := { row := totalBasicUptoRow, standIns := [], harness := (true, "a1f199cb6ab3d9e799a8e77f1b560a88e5b85c0560b589ef560acf312cba5ba1"), looks := false }, kinds := [], alts := [], laidByText := true, laidKinds := [.data], laidTests := true, laidLooks := .later }
def TotalBasicUptoCardSaid : Prop := Claim7.holds Tryd.pinned (.plain (OpenSpec.upto totalBasicSpec)) totalBasicUptoCard
end Rows
end Go.Proofs.YtfogjddcagckaaaDoor
