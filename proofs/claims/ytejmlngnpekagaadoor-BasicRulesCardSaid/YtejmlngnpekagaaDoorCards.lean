/-
  DERIVED. GIVEN WITH THE SEED: THE CARDS: each row of YtejmlngnpekagaaDoorRows.lean that lists a variable, with what it lists TIED to the program's text (the seventh form; the later family's looks); each row that meets fmt, with fmt's text TOLD by the authors' own Lean function (tested against real Go, not proved from fmt's source: count such statements apart). THE CARD IS WHAT COUNTS. Prove the row's statement (the work); the ties are given (YtejmlngnpekagaaDoorTie.lean); close each card by the builder's one call (the guide's Derived/Test/ToyasCard.lean, 'card_holds'). Laid BY PROGRAM, IN A SANDBOX (cutbox-door.mjs). By AI agents, Wed Nov 11 2026. No macro, syntax, notation, axiom, sorry.
-/
import Derived.Test.YtejmlngnpekagaaDoorRows
import GoSem.ClaimSeven
namespace Go.Proofs.YtejmlngnpekagaaDoor
namespace Rows

/-- THE TIED CARD OF 'planimeterlaw34.UlpsRules'. -/
def ulpsRulesCard : Claim7 := { stood := { row := ulpsRulesRow, standIns := [], harness := (true, "593d3480d6cd304ee3ca13f6bab0952fffbe6387e802eca1670af46709418529"), looks := false }, kinds := [], alts := [], laidByText := true, laidKinds := [.data], laidTests := true, laidLooks := .later }
def UlpsRulesCardSaid : Prop := Claim7.holds Tryd.pinned (.plain (OpenSpec.ofChange ulpsRulesSpec)) ulpsRulesCard

/-- THE TIED CARD OF 'planimeterlaw35.PolyRoots'. -/
def polyRootsCard : Claim7 := { stood := { row := polyRootsRow, standIns := [], harness := (true, "593d3480d6cd304ee3ca13f6bab0952fffbe6387e802eca1670af46709418529"), looks := false }, kinds := [], alts := [], laidByText := true, laidKinds := [.data], laidTests := true, laidLooks := .later }
def PolyRootsCardSaid : Prop := Claim7.holds Tryd.pinned (.plain (OpenSpec.ofChange polyRootsSpec)) polyRootsCard

/-- THE TIED CARD OF 'planimeterlaw35.PolyFma'. -/
def polyFmaCard : Claim7 := { stood := { row := polyFmaRow, standIns := [], harness := (true, "593d3480d6cd304ee3ca13f6bab0952fffbe6387e802eca1670af46709418529"), looks := false }, kinds := [], alts := [], laidByText := true, laidKinds := [.data], laidTests := true, laidLooks := .later }
def PolyFmaCardSaid : Prop := Claim7.holds Tryd.pinned (.plain (OpenSpec.ofChange polyFmaSpec)) polyFmaCard

/-- THE TIED CARD OF 'planimeterlaw28.BasicRules'. -/
def basicRulesCard : Claim7 := { stood := { row := basicRulesRow, standIns := [], harness := (true, "593d3480d6cd304ee3ca13f6bab0952fffbe6387e802eca1670af46709418529"), looks := false }, kinds := [], alts := [], laidByText := true, laidKinds := [.data], laidTests := true, laidLooks := .later }
def BasicRulesCardSaid : Prop := Claim7.holds Tryd.pinned (.plain (OpenSpec.ofChange basicRulesSpec)) basicRulesCard

/-- THE TIED CARD OF 'planimeterlaw30.HypotRules'. -/
def hypotRulesCard : Claim7 := { stood := { row := hypotRulesRow, standIns := [], harness := (true, "593d3480d6cd304ee3ca13f6bab0952fffbe6387e802eca1670af46709418529"), looks := false }, kinds := [], alts := [], laidByText := true, laidKinds := [.data], laidTests := true, laidLooks := .later }
def HypotRulesCardSaid : Prop := Claim7.holds Tryd.pinned (.plain (OpenSpec.ofChange hypotRulesSpec)) hypotRulesCard

/-- THE SECOND FORM's CARD OF 'planimeterlaw34.UlpsRules'. -/
def ulpsRulesUptoCard : Claim7 := { stood := { row := ulpsRulesUptoRow, standIns := [], harness := (true, "593d3480d6cd304ee3ca13f6bab0952fffbe6387e802eca1670af46709418529"), looks := false }, kinds := [], alts := [], laidByText := true, laidKinds := [.data], laidTests := true, laidLooks := .later }
def UlpsRulesUptoCardSaid : Prop := Claim7.holds Tryd.pinned (.plain (OpenSpec.upto ulpsRulesSpec)) ulpsRulesUptoCard

/-- THE SECOND FORM's CARD OF 'planimeterlaw35.PolyRoots'. -/
def polyRootsUptoCard : Claim7 := { stood := { row := polyRootsUptoRow, standIns := [], harness := (true, "593d3480d6cd304ee3ca13f6bab0952fffbe6387e802eca1670af46709418529"), looks := false }, kinds := [], alts := [], laidByText := true, laidKinds := [.data], laidTests := true, laidLooks := .later }
def PolyRootsUptoCardSaid : Prop := Claim7.holds Tryd.pinned (.plain (OpenSpec.upto polyRootsSpec)) polyRootsUptoCard

/-- THE SECOND FORM's CARD OF 'planimeterlaw35.PolyFma'. -/
def polyFmaUptoCard : Claim7 := { stood := { row := polyFmaUptoRow, standIns := [], harness := (true, "593d3480d6cd304ee3ca13f6bab0952fffbe6387e802eca1670af46709418529"), looks := false }, kinds := [], alts := [], laidByText := true, laidKinds := [.data], laidTests := true, laidLooks := .later }
def PolyFmaUptoCardSaid : Prop := Claim7.holds Tryd.pinned (.plain (OpenSpec.upto polyFmaSpec)) polyFmaUptoCard

/-- THE SECOND FORM's CARD OF 'planimeterlaw28.BasicRules'. -/
def basicRulesUptoCard : Claim7 := { stood := { row := basicRulesUptoRow, standIns := [], harness := (true, "593d3480d6cd304ee3ca13f6bab0952fffbe6387e802eca1670af46709418529"), looks := false }, kinds := [], alts := [], laidByText := true, laidKinds := [.data], laidTests := true, laidLooks := .later }
def BasicRulesUptoCardSaid : Prop := Claim7.holds Tryd.pinned (.plain (OpenSpec.upto basicRulesSpec)) basicRulesUptoCard

/-- THE SECOND FORM's CARD OF 'planimeterlaw30.HypotRules'. -/
def hypotRulesUptoCard : Claim7 := { stood := { row := hypotRulesUptoRow, standIns := [], harness := (true, "593d3480d6cd304ee3ca13f6bab0952fffbe6387e802eca1670af46709418529"), looks := false }, kinds := [], alts := [], laidByText := true, laidKinds := [.data], laidTests := true, laidLooks := .later }
def HypotRulesUptoCardSaid : Prop := Claim7.holds Tryd.pinned (.plain (OpenSpec.upto hypotRulesSpec)) hypotRulesUptoCard
end Rows
end Go.Proofs.YtejmlngnpekagaaDoor
