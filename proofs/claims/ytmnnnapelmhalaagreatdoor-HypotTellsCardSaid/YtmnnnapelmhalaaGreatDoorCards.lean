/-
  DERIVED. GIVEN WITH THE SEED: THE CARDS: each row of YtmnnnapelmhalaaGreatDoorRows.lean that lists a variable, with what it lists TIED to the program's text (the seventh form; the later family's looks); each row that meets fmt, with fmt's text TOLD by the authors' own Lean function (tested against real Go, not proved from fmt's source: count such statements apart). THE CARD IS WHAT COUNTS. Prove the row's statement (the work); the ties are given (YtmnnnapelmhalaaGreatDoorTie.lean); close each card by the builder's one call (the guide's Derived/Test/ToyasCard.lean, 'card_holds'). Laid BY PROGRAM, IN A SANDBOX (cutbox-door.mjs). By AI agents, Wed Nov 11 2026. No macro, syntax, notation, axiom, sorry.
-/
import Derived.Test.YtmnnnapelmhalaaGreatDoorRows
import GoSem.ClaimSeven
namespace Go.Proofs.YtmnnnapelmhalaaGreatDoor
namespace Rows

/-- THE TIED CARD OF 'planimeterlaw30.HypotTells'. -/
def hypotTellsCard : Claim7 := { stood := { row := hypotTellsRow, standIns := [], harness := (true, "e2ec318bca32a2e7f6c2b13a76cbcb03c5a45fa9767be21a7016d5a9eee80630"), looks := false }, kinds := [], alts := [], laidByText := true, laidKinds := [.data], laidTests := true, laidLooks := .later }
def HypotTellsCardSaid : Prop := Claim7.holds Tryz.pinned (.plain (OpenSpec.ofChange hypotTellsSpec)) hypotTellsCard

/-- THE SECOND FORM's CARD OF 'planimeterlaw30.HypotTells'. -/
def hypotTellsUptoCard : Claim7 := { stood := { row := hypotTellsUptoRow, standIns := [], harness := (true, "e2ec318bca32a2e7f6c2b13a76cbcb03c5a45fa9767be21a7016d5a9eee80630"), looks := false }, kinds := [], alts := [], laidByText := true, laidKinds := [.data], laidTests := true, laidLooks := .later }
def HypotTellsUptoCardSaid : Prop := Claim7.holds Tryz.pinned (.plain (OpenSpec.upto hypotTellsSpec)) hypotTellsUptoCard
end Rows
end Go.Proofs.YtmnnnapelmhalaaGreatDoor
