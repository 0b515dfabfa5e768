/-
  DERIVED. GIVEN WITH THE SEED: THE CARDS: each row of YtejmlngnpekagaaGreatDoorRows.lean that lists a variable, with what it lists TIED to the program's text (the seventh form; the later family's looks); each row that meets fmt, with fmt's text TOLD by the authors' own Lean function (tested against real Go, not proved from fmt's source: count such statements apart). THE CARD IS WHAT COUNTS. Prove the row's statement (the work); the ties are given (YtejmlngnpekagaaGreatDoorTie.lean); close each card by the builder's one call (the guide's Derived/Test/ToyasCard.lean, 'card_holds'). Laid BY PROGRAM, IN A SANDBOX (cutbox-door.mjs). By AI agents, Wed Nov 11 2026. No macro, syntax, notation, axiom, sorry.
-/
import Derived.Test.YtejmlngnpekagaaGreatDoorRows
import GoSem.ClaimSeven
namespace Go.Proofs.YtejmlngnpekagaaGreatDoor
namespace Rows

/-- THE TIED CARD OF 'planimeterlaw35.PolyTells'. -/
def polyTellsCard : Claim7 := { stood := { row := polyTellsRow, standIns := [], harness := (true, "4b53b4ca6a965b3467ab4a092f97a0e1effee64128121d3f76c481d586587eb5"), looks := false }, kinds := [], alts := [], laidByText := true, laidKinds := [.data], laidTests := true, laidLooks := .later }
def PolyTellsCardSaid : Prop := Claim7.holds Tryz.pinned (.plain (OpenSpec.ofChange polyTellsSpec)) polyTellsCard

/-- THE TIED CARD OF 'planimeterlaw35.PolyOver'. -/
def polyOverCard : Claim7 := { stood := { row := polyOverRow, standIns := [], harness := (true, "4b53b4ca6a965b3467ab4a092f97a0e1effee64128121d3f76c481d586587eb5"), looks := false }, kinds := [], alts := [], laidByText := true, laidKinds := [.data], laidTests := true, laidLooks := .later }
def PolyOverCardSaid : Prop := Claim7.holds Tryz.pinned (.plain (OpenSpec.ofChange polyOverSpec)) polyOverCard

/-- THE TIED CARD OF 'planimeterlaw28.BasicFma'. -/
def basicFmaCard : Claim7 := { stood := { row := basicFmaRow, standIns := [], harness := (true, "4b53b4ca6a965b3467ab4a092f97a0e1effee64128121d3f76c481d586587eb5"), looks := false }, kinds := [], alts := [], laidByText := true, laidKinds := [.data], laidTests := true, laidLooks := .later }
def BasicFmaCardSaid : Prop := Claim7.holds Tryz.pinned (.plain (OpenSpec.ofChange basicFmaSpec)) basicFmaCard

/-- THE TIED CARD OF 'planimeterlaw28.BasicDyads'. -/
def basicDyadsCard : Claim7 := { stood := { row := basicDyadsRow, standIns := [], harness := (true, "4b53b4ca6a965b3467ab4a092f97a0e1effee64128121d3f76c481d586587eb5"), looks := false }, kinds := [], alts := [], laidByText := true, laidKinds := [.data], laidTests := true, laidLooks := .later }
def BasicDyadsCardSaid : Prop := Claim7.holds Tryz.pinned (.plain (OpenSpec.ofChange basicDyadsSpec)) basicDyadsCard

/-- THE TIED CARD OF 'planimeterlaw28.BasicDivs'. -/
def basicDivsCard : Claim7 := { stood := { row := basicDivsRow, standIns := [], harness := (true, "4b53b4ca6a965b3467ab4a092f97a0e1effee64128121d3f76c481d586587eb5"), looks := false }, kinds := [], alts := [], laidByText := true, laidKinds := [.data], laidTests := true, laidLooks := .later }
def BasicDivsCardSaid : Prop := Claim7.holds Tryz.pinned (.plain (OpenSpec.ofChange basicDivsSpec)) basicDivsCard

/-- THE TIED CARD OF 'planimeterlaw30.HypotTells'. -/
def hypotTellsCard : Claim7 := { stood := { row := hypotTellsRow, standIns := [], harness := (true, "4b53b4ca6a965b3467ab4a092f97a0e1effee64128121d3f76c481d586587eb5"), looks := false }, kinds := [], alts := [], laidByText := true, laidKinds := [.data], laidTests := true, laidLooks := .later }
def HypotTellsCardSaid : Prop := Claim7.holds Tryz.pinned (.plain (OpenSpec.ofChange hypotTellsSpec)) hypotTellsCard

/-- THE TIED CARD OF 'planimeterlaw30.HypotTwo'. -/
def hypotTwoCard : Claim7 := { stood := { row := hypotTwoRow, standIns := [], harness := (true, "4b53b4ca6a965b3467ab4a092f97a0e1effee64128121d3f76c481d586587eb5"), looks := false }, kinds := [], alts := [], laidByText := true, laidKinds := [.data], laidTests := true, laidLooks := .later }
def HypotTwoCardSaid : Prop := Claim7.holds Tryz.pinned (.plain (OpenSpec.ofChange hypotTwoSpec)) hypotTwoCard

/-- THE SECOND FORM's CARD OF 'planimeterlaw35.PolyTells'. -/
def polyTellsUptoCard : Claim7 := { stood := { row := polyTellsUptoRow, standIns := [], harness := (true, "4b53b4ca6a965b3467ab4a092f97a0e1effee64128121d3f76c481d586587eb5"), looks := false }, kinds := [], alts := [], laidByText := true, laidKinds := [.data], laidTests := true, laidLooks := .later }
def PolyTellsUptoCardSaid : Prop := Claim7.holds Tryz.pinned (.plain (OpenSpec.upto polyTellsSpec)) polyTellsUptoCard

/-- THE SECOND FORM's CARD OF 'planimeterlaw35.PolyOver'. -/
def polyOverUptoCard : Claim7 := { stood := { row := polyOverUptoRow, standIns := [], harness := (true, "4b53b4ca6a965b3467ab4a092f97a0e1effee64128121d3f76c481d586587eb5"), looks := false }, kinds := [], alts := [], laidByText := true, laidKinds := [.data], laidTests := true, laidLooks := .later }
def PolyOverUptoCardSaid : Prop := Claim7.holds Tryz.pinned (.plain (OpenSpec.upto polyOverSpec)) polyOverUptoCard

/-- THE SECOND FORM's CARD OF 'planimeterlaw28.BasicFma'. -/
def basicFmaUptoCard : Claim7 := { stood := { row := basicFmaUptoRow, standIns := [], harness := (true, "4b53b4ca6a965b3467ab4a092f97a0e1effee64128121d3f76c481d586587eb5"), looks := false }, kinds := [], alts := [], laidByText := true, laidKinds := [.data], laidTests := true, laidLooks := .later }
def BasicFmaUptoCardSaid : Prop := Claim7.holds Tryz.pinned (.plain (OpenSpec.upto basicFmaSpec)) basicFmaUptoCard

/-- THE SECOND FORM's CARD OF 'planimeterlaw28.BasicDyads'. -/
def basicDyadsUptoCard : Claim7 := { stood := { row := basicDyadsUptoRow, standIns := [], harness := (true, "4b53b4ca6a965b3467ab4a092f97a0e1effee64128121d3f76c481d586587eb5"), looks := false }, kinds := [], alts := [], laidByText := true, laidKinds := [.data], laidTests := true, laidLooks := .later }
def BasicDyadsUptoCardSaid : Prop := Claim7.holds Tryz.pinned (.plain (OpenSpec.upto basicDyadsSpec)) basicDyadsUptoCard

/-- THE SECOND FORM's CARD OF 'planimeterlaw28.BasicDivs'. -/
def basicDivsUptoCard : Claim7 := { stood := { row := basicDivsUptoRow, standIns := [], harness := (true, "4b53b4ca6a965b3467ab4a092f97a0e1effee64128121d3f76c481d586587eb5"), looks := false }, kinds := [], alts := [], laidByText := true, laidKinds := [.data], laidTests := true, laidLooks := .later }
def BasicDivsUptoCardSaid : Prop := Claim7.holds Tryz.pinned (.plain (OpenSpec.upto basicDivsSpec)) basicDivsUptoCard

/-- THE SECOND FORM's CARD OF 'planimeterlaw30.HypotTells'. -/
def hypotTellsUptoCard : Claim7 := { stood := { row := hypotTellsUptoRow, standIns := [], harness := (true, "4b53b4ca6a965b3467ab4a092f97a0e1effee64128121d3f76c481d586587eb5"), looks := false }, kinds := [], alts := [], laidByText := true, laidKinds := [.data], laidTests := true, laidLooks := .later }
def HypotTellsUptoCardSaid : Prop := Claim7.holds Tryz.pinned (.plain (OpenSpec.upto hypotTellsSpec)) hypotTellsUptoCard

/-- THE SECOND FORM's CARD OF 'planimeterlaw30.HypotTwo'. -/
def hypotTwoUptoCard : Claim7 := { stood := { row := hypotTwoUptoRow, standIns := [], harness := (true, "4b53b4ca6a965b3467ab4a092f97a0e1effee64128121d3f76c481d586587eb5"), looks := false }, kinds := [], alts := [], laidByText := true, laidKinds := [.data], laidTests := true, laidLooks := .later }
def HypotTwoUptoCardSaid : Prop := Claim7.holds Tryz.pinned (.plain (OpenSpec.upto hypotTwoSpec)) hypotTwoUptoCard
end Rows
end Go.Proofs.YtejmlngnpekagaaGreatDoor
