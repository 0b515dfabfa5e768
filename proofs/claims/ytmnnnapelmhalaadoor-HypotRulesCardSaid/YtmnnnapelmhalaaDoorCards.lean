/-
  DERIVED. GIVEN WITH THE SEED: THE CARDS: each row of YtmnnnapelmhalaaDoorRows.lean that lists a variable, with what it lists TIED to the program's text (the seventh form; the later family's looks); each row that meets fmt, with fmt's text TOLD by the authors' own Lean function (tested against real Go, not proved from fmt's source: count such statements apart). THE CARD IS WHAT COUNTS. Prove the row's statement (the work); the ties are given (YtmnnnapelmhalaaDoorTie.lean); close each card by the builder's one call (the guide's Derived/Test/ToyasCard.lean, 'card_holds'). Laid BY PROGRAM, IN A SANDBOX (cutbox-door.mjs). By AI agents, Wed Nov 11 2026. No macro, syntax, notation, axiom, sorry.
-/
import Derived.Test.YtmnnnapelmhalaaDoorRows
import GoSem.ClaimSeven
namespace Go.Proofs.YtmnnnapelmhalaaDoor
namespace Rows

/-- THE TIED CARD OF 'planimeterlaw30.HypotRules'. -/
def hypotRulesCard : Claim7 := { stood := { row := hypotRulesRow, standIns := [], harness := (true, "25c3926d590129e874a011c714304a8de3c55af7b2c994b7894f0345623d2d90"), looks := false }, kinds := [], alts := [], laidByText := true, laidKinds := [.data], laidTests := true, laidLooks := .later }
def HypotRulesCardSaid : Prop := Claim7.holds Tryd.pinned (.plain (OpenSpec.ofChange hypotRulesSpec)) hypotRulesCard

/-- THE SECOND FORM's CARD OF 'planimeterlaw30.HypotRules'. -/
def hypotRulesUptoCard : Claim7 := { stood := { row := hypotRulesUptoRow, standIns := [], harness := (true, "25c3926d590129e874a011c714304a8de3c55af7b2c994b7894f0345623d2d90"), looks := false }, kinds := [], alts := [], laidByText := true, laidKinds := [.data], laidTests := true, laidLooks := .later }
def HypotRulesUptoCardSaid : Prop := Claim7.holds Tryd.pinned (.plain (OpenSpec.upto hypotRulesSpec)) hypotRulesUptoCard
end Rows
end Go.Proofs.YtmnnnapelmhalaaDoor
