/-
  NARROWER THAN 'FOR EVERY INPUT', by the rows' own cells (each row's printed sentence says how): PolyTells: laid · PolyOver: laid · BasicFma: laid · BasicDyads: laid · BasicDivs: laid · HypotTells: laid · HypotTwo: laid.
  DERIVED. THE GIVEN ROWS OF THIS SEAT. 7 by the template 'for every input the law returns true; each argument reads behind the call as it read before'; 0 by the template 'total and deterministic' (their statements: YtejmlngnpekagaaGreatDoorTotals.lean).
  GIVEN WITH THE SEED: the statements are not yours to turn. If you find one false, say at which input.
  Laid BY PROGRAM, IN A SANDBOX (cutbox-rows.mjs): the forced cells as the released guide's own fill.sh prints them over the translation 40c2607fa9b5623a… (all of the seat's roots in one cut). By AI agents, Wed Nov 11 2026. No macro, syntax, notation, axiom, sorry.
-/
import Derived.Test.YtejmlngnpekagaaGreatDoorChecked
import GoSem.Claim
import GoSem.ClaimJoined
import GoSem.ClaimMapViews
import Derived.JoinedTies
import Derived.KernelRfl
namespace Go.Proofs.YtejmlngnpekagaaGreatDoor
/- THE CELL 'sum', in the pinned program and in every row, IS THE sha256 OF THE DUMP (.gsa) THAT YtejmlngnpekagaaGreatDoorProg.lean LOADS. Nothing in Lean hashes anything: it is a label: what it is worth is what the hold of that sum in a sandbox is worth. -/
noncomputable def Tryz.pinned : Pinned := { name := "ytejmlngnpekagaagreatdoor", sum := "40c2607fa9b5623af10bd0f54bfd3b203c1f4fd9211f1eac270aeb24880f0e43", checked := Tryz.checked }
namespace Rows
def none {H : Type} : Left H := { results := [], args := [] }

/- WHAT THE LISTED PACKAGE-LEVEL VARIABLES READ AS WHEN THE CALL BEGINS. Each datum BY PROGRAM (the guide's laid-datum.mjs) off the statement by which the dump's own 'gosem.cut.vars' lays the variable. In a bare row this is a premise. The card (YtejmlngnpekagaaGreatDoorCards.lean) ties it to the program's text. -/
def laid_math_bits_deBruijn64tab {H : Type} : DataW H := .agg [.lit (.int .u8 0), .lit (.int .u8 1), .lit (.int .u8 56), .lit (.int .u8 2), .lit (.int .u8 57), .lit (.int .u8 49), .lit (.int .u8 28), .lit (.int .u8 3), .lit (.int .u8 61), .lit (.int .u8 58), .lit (.int .u8 42), .lit (.int .u8 50), .lit (.int .u8 38), .lit (.int .u8 29), .lit (.int .u8 17), .lit (.int .u8 4), .lit (.int .u8 62), .lit (.int .u8 47), .lit (.int .u8 59), .lit (.int .u8 36), .lit (.int .u8 45), .lit (.int .u8 43), .lit (.int .u8 51), .lit (.int .u8 22), .lit (.int .u8 53), .lit (.int .u8 39), .lit (.int .u8 33), .lit (.int .u8 30), .lit (.int .u8 24), .lit (.int .u8 18), .lit (.int .u8 12), .lit (.int .u8 5), .lit (.int .u8 63), .lit (.int .u8 55), .lit (.int .u8 48), .lit (.int .u8 27), .lit (.int .u8 60), .lit (.int .u8 41), .lit (.int .u8 37), .lit (.int .u8 16), .lit (.int .u8 46), .lit (.int .u8 35), .lit (.int .u8 44), .lit (.int .u8 21), .lit (.int .u8 52), .lit (.int .u8 32), .lit (.int .u8 23), .lit (.int .u8 11), .lit (.int .u8 54), .lit (.int .u8 26), .lit (.int .u8 40), .lit (.int .u8 15), .lit (.int .u8 34), .lit (.int .u8 20), .lit (.int .u8 31), .lit (.int .u8 10), .lit (.int .u8 25), .lit (.int .u8 14), .lit (.int .u8 19), .lit (.int .u8 9), .lit (.int .u8 13), .lit (.int .u8 8), .lit (.int .u8 7), .lit (.int .u8 6)]

/-- 'planimeterlaw35.PolyTells': WHATEVER THE INPUT: true; the input reads as it did. -/
def polyTellsSpec : ChangeSpec := { name := "polyTells", fn := fun _ => fun
  | [d1, d2, d3] => { results := [.lit (.bool true)], args := [d1, d2, d3] }
  | _ => none }
def polyTellsRow : OpenClaim := { program := "ytejmlngnpekagaagreatdoor", sum := "40c2607fa9b5623af10bd0f54bfd3b203c1f4fd9211f1eac270aeb24880f0e43", func := "planimeter/planimeterlaw35.PolyTells", spec := "polyTells", inPlace := ["math/bits.Add64", "math/bits.Sub64"], unfollowed := true, recurses := true, named := ["math/bits.deBruijn64tab"], apart := false, laid := [("math/bits.deBruijn64tab", laid_math_bits_deBruijn64tab)] }
def PolyTellsSaid : Prop := polyTellsRow.holds Tryz.pinned (OpenSpec.ofChange polyTellsSpec)

/-- ITS FALSE NEIGHBOUR: 'it returns false'. Refute it at one input. -/
def polyTellsWrong : ChangeSpec := { name := "polyTells", fn := fun _ => fun
  | [d1, d2, d3] => { results := [.lit (.bool false)], args := [d1, d2, d3] }
  | _ => none }
def PolyTellsWrongFalsely : Prop := polyTellsRow.holds Tryz.pinned (OpenSpec.ofChange polyTellsWrong)

/-- 'planimeterlaw35.PolyOver': WHATEVER THE INPUT: true; the input reads as it did. -/
def polyOverSpec : ChangeSpec := { name := "polyOver", fn := fun _ => fun
  | [d1, d2, d3] => { results := [.lit (.bool true)], args := [d1, d2, d3] }
  | _ => none }
def polyOverRow : OpenClaim := { program := "ytejmlngnpekagaagreatdoor", sum := "40c2607fa9b5623af10bd0f54bfd3b203c1f4fd9211f1eac270aeb24880f0e43", func := "planimeter/planimeterlaw35.PolyOver", spec := "polyOver", inPlace := ["math/bits.Add64", "math/bits.Sub64"], unfollowed := true, recurses := true, named := ["math/bits.deBruijn64tab"], apart := false, laid := [("math/bits.deBruijn64tab", laid_math_bits_deBruijn64tab)] }
def PolyOverSaid : Prop := polyOverRow.holds Tryz.pinned (OpenSpec.ofChange polyOverSpec)

/-- ITS FALSE NEIGHBOUR: 'it returns false'. Refute it at one input. -/
def polyOverWrong : ChangeSpec := { name := "polyOver", fn := fun _ => fun
  | [d1, d2, d3] => { results := [.lit (.bool false)], args := [d1, d2, d3] }
  | _ => none }
def PolyOverWrongFalsely : Prop := polyOverRow.holds Tryz.pinned (OpenSpec.ofChange polyOverWrong)

/-- 'planimeterlaw28.BasicFma': WHATEVER THE INPUT: true; the input reads as it did. -/
def basicFmaSpec : ChangeSpec := { name := "basicFma", fn := fun _ => fun
  | [d1, d2, d3, d4] => { results := [.lit (.bool true)], args := [d1, d2, d3, d4] }
  | _ => none }
def basicFmaRow : OpenClaim := { program := "ytejmlngnpekagaagreatdoor", sum := "40c2607fa9b5623af10bd0f54bfd3b203c1f4fd9211f1eac270aeb24880f0e43", func := "planimeter/planimeterlaw28.BasicFma", spec := "basicFma", inPlace := ["math/bits.Add64", "math/bits.Sub64"], unfollowed := true, recurses := true, named := ["math/bits.deBruijn64tab", "math/bits.divideError", "math/bits.overflowError"], apart := false, laid := [("math/bits.deBruijn64tab", laid_math_bits_deBruijn64tab)] }
def BasicFmaSaid : Prop := basicFmaRow.holds Tryz.pinned (OpenSpec.ofChange basicFmaSpec)

/-- ITS FALSE NEIGHBOUR: 'it returns false'. Refute it at one input. -/
def basicFmaWrong : ChangeSpec := { name := "basicFma", fn := fun _ => fun
  | [d1, d2, d3, d4] => { results := [.lit (.bool false)], args := [d1, d2, d3, d4] }
  | _ => none }
def BasicFmaWrongFalsely : Prop := basicFmaRow.holds Tryz.pinned (OpenSpec.ofChange basicFmaWrong)

/-- 'planimeterlaw28.BasicDyads': WHATEVER THE INPUT: true; the input reads as it did. -/
def basicDyadsSpec : ChangeSpec := { name := "basicDyads", fn := fun _ => fun
  | [d1, d2, d3] => { results := [.lit (.bool true)], args := [d1, d2, d3] }
  | _ => none }
def basicDyadsRow : OpenClaim := { program := "ytejmlngnpekagaagreatdoor", sum := "40c2607fa9b5623af10bd0f54bfd3b203c1f4fd9211f1eac270aeb24880f0e43", func := "planimeter/planimeterlaw28.BasicDyads", spec := "basicDyads", inPlace := ["math/bits.Add64", "math/bits.Sub64"], unfollowed := true, recurses := true, named := ["math/bits.deBruijn64tab", "math/bits.divideError", "math/bits.overflowError"], apart := false, laid := [("math/bits.deBruijn64tab", laid_math_bits_deBruijn64tab)] }
def BasicDyadsSaid : Prop := basicDyadsRow.holds Tryz.pinned (OpenSpec.ofChange basicDyadsSpec)

/-- ITS FALSE NEIGHBOUR: 'it returns false'. Refute it at one input. -/
def basicDyadsWrong : ChangeSpec := { name := "basicDyads", fn := fun _ => fun
  | [d1, d2, d3] => { results := [.lit (.bool false)], args := [d1, d2, d3] }
  | _ => none }
def BasicDyadsWrongFalsely : Prop := basicDyadsRow.holds Tryz.pinned (OpenSpec.ofChange basicDyadsWrong)

/-- 'planimeterlaw28.BasicDivs': WHATEVER THE INPUT: true; the input reads as it did. -/
def basicDivsSpec : ChangeSpec := { name := "basicDivs", fn := fun _ => fun
  | [d1, d2, d3] => { results := [.lit (.bool true)], args := [d1, d2, d3] }
  | _ => none }
def basicDivsRow : OpenClaim := { program := "ytejmlngnpekagaagreatdoor", sum := "40c2607fa9b5623af10bd0f54bfd3b203c1f4fd9211f1eac270aeb24880f0e43", func := "planimeter/planimeterlaw28.BasicDivs", spec := "basicDivs", inPlace := ["math/bits.Add64", "math/bits.Sub64"], unfollowed := true, recurses := true, named := ["math/bits.deBruijn64tab", "math/bits.divideError", "math/bits.overflowError"], apart := false, laid := [("math/bits.deBruijn64tab", laid_math_bits_deBruijn64tab)] }
def BasicDivsSaid : Prop := basicDivsRow.holds Tryz.pinned (OpenSpec.ofChange basicDivsSpec)

/-- ITS FALSE NEIGHBOUR: 'it returns false'. Refute it at one input. -/
def basicDivsWrong : ChangeSpec := { name := "basicDivs", fn := fun _ => fun
  | [d1, d2, d3] => { results := [.lit (.bool false)], args := [d1, d2, d3] }
  | _ => none }
def BasicDivsWrongFalsely : Prop := basicDivsRow.holds Tryz.pinned (OpenSpec.ofChange basicDivsWrong)

/-- 'planimeterlaw30.HypotTells': WHATEVER THE INPUT: true; the input reads as it did. -/
def hypotTellsSpec : ChangeSpec := { name := "hypotTells", fn := fun _ => fun
  | [d1, d2] => { results := [.lit (.bool true)], args := [d1, d2] }
  | _ => none }
def hypotTellsRow : OpenClaim := { program := "ytejmlngnpekagaagreatdoor", sum := "40c2607fa9b5623af10bd0f54bfd3b203c1f4fd9211f1eac270aeb24880f0e43", func := "planimeter/planimeterlaw30.HypotTells", spec := "hypotTells", inPlace := ["math/bits.Add64", "math/bits.Sub64"], unfollowed := true, recurses := true, named := ["math/bits.deBruijn64tab", "math/bits.divideError", "math/bits.overflowError"], apart := false, laid := [("math/bits.deBruijn64tab", laid_math_bits_deBruijn64tab)] }
def HypotTellsSaid : Prop := hypotTellsRow.holds Tryz.pinned (OpenSpec.ofChange hypotTellsSpec)

/-- ITS FALSE NEIGHBOUR: 'it returns false'. Refute it at one input. -/
def hypotTellsWrong : ChangeSpec := { name := "hypotTells", fn := fun _ => fun
  | [d1, d2] => { results := [.lit (.bool false)], args := [d1, d2] }
  | _ => none }
def HypotTellsWrongFalsely : Prop := hypotTellsRow.holds Tryz.pinned (OpenSpec.ofChange hypotTellsWrong)

/-- 'planimeterlaw30.HypotTwo': WHATEVER THE INPUT: true; the input reads as it did. -/
def hypotTwoSpec : ChangeSpec := { name := "hypotTwo", fn := fun _ => fun
  | [d1, d2, d3] => { results := [.lit (.bool true)], args := [d1, d2, d3] }
  | _ => none }
def hypotTwoRow : OpenClaim := { program := "ytejmlngnpekagaagreatdoor", sum := "40c2607fa9b5623af10bd0f54bfd3b203c1f4fd9211f1eac270aeb24880f0e43", func := "planimeter/planimeterlaw30.HypotTwo", spec := "hypotTwo", inPlace := ["math/bits.Add64", "math/bits.Sub64"], unfollowed := true, recurses := true, named := ["math/bits.deBruijn64tab", "math/bits.divideError", "math/bits.overflowError"], apart := false, laid := [("math/bits.deBruijn64tab", laid_math_bits_deBruijn64tab)] }
def HypotTwoSaid : Prop := hypotTwoRow.holds Tryz.pinned (OpenSpec.ofChange hypotTwoSpec)

/-- ITS FALSE NEIGHBOUR: 'it returns false'. Refute it at one input. -/
def hypotTwoWrong : ChangeSpec := { name := "hypotTwo", fn := fun _ => fun
  | [d1, d2, d3] => { results := [.lit (.bool false)], args := [d1, d2, d3] }
  | _ => none }
def HypotTwoWrongFalsely : Prop := hypotTwoRow.holds Tryz.pinned (OpenSpec.ofChange hypotTwoWrong)

/- THE SECOND FORM. 'bulk': how many values and letters a reading holds, each counted each time it is reached (what is shared counts as often as it is met; a slice's spare places count too). A statement '..UptoSaid' is the law's where the arguments, and the package variables that the reading takes, are together of bulk at most 1048576: NARROWER than '..Said'. Prove '..Said' where nothing that the law and all that it calls make is longer than what came in: it says more and counts as full. Else prove '..UptoSaid'. A law counts once. -/
mutual
def uptoBulk {H : Type} : DataW H → Nat
  | .lit (.string bytes) => bytes.length + 1
  | .lit _ => 1
  | .nil => 1
  | .ptr d => uptoBulk d + 1
  | .slice elems spare => uptoBulkAll elems + uptoBulkAll spare + 1
  | .agg parts => uptoBulkAll parts + 1
  | .iface _ d => uptoBulk d + 1
  | .map entries => uptoBulkEntries entries + 1
  | .held _ => 1
def uptoBulkAll {H : Type} : List (DataW H) → Nat
  | [] => 0
  | d :: r => uptoBulk d + uptoBulkAll r
def uptoBulkEntries {H : Type} : List (Lit × DataW H) → Nat
  | [] => 0
  | x :: r => uptoBulkEntry x + uptoBulkEntries r
def uptoBulkEntry {H : Type} : Lit × DataW H → Nat
  | (.string bytes, d) => bytes.length + uptoBulk d + 1
  | (_, d) => uptoBulk d + 1
 end
def uptoSmall : (H : Type) → List (DataW H) → Bool := fun _ ds => decide (uptoBulkAll ds ≤ 1048576)
def OpenSpec.upto (s : _root_.Go.ChangeSpec) : _root_.Go.OpenSpec := { _root_.Go.OpenSpec.ofChange s with cond := some uptoSmall }

/-- 'planimeterlaw35.PolyTells', WHERE WHAT IT READS IS OF BULK AT MOST 1048576: true; the input reads as it did. -/
def polyTellsUptoRow : OpenClaim := { program := "ytejmlngnpekagaagreatdoor", sum := "40c2607fa9b5623af10bd0f54bfd3b203c1f4fd9211f1eac270aeb24880f0e43", func := "planimeter/planimeterlaw35.PolyTells", spec := "polyTells", inPlace := ["math/bits.Add64", "math/bits.Sub64"], unfollowed := true, recurses := true, named := ["math/bits.deBruijn64tab"], apart := false, laid := [("math/bits.deBruijn64tab", laid_math_bits_deBruijn64tab)], narrowed := true }
def PolyTellsUptoSaid : Prop := polyTellsUptoRow.holds Tryz.pinned (OpenSpec.upto polyTellsSpec)

/-- 'planimeterlaw35.PolyOver', WHERE WHAT IT READS IS OF BULK AT MOST 1048576: true; the input reads as it did. -/
def polyOverUptoRow : OpenClaim := { program := "ytejmlngnpekagaagreatdoor", sum := "40c2607fa9b5623af10bd0f54bfd3b203c1f4fd9211f1eac270aeb24880f0e43", func := "planimeter/planimeterlaw35.PolyOver", spec := "polyOver", inPlace := ["math/bits.Add64", "math/bits.Sub64"], unfollowed := true, recurses := true, named := ["math/bits.deBruijn64tab"], apart := false, laid := [("math/bits.deBruijn64tab", laid_math_bits_deBruijn64tab)], narrowed := true }
def PolyOverUptoSaid : Prop := polyOverUptoRow.holds Tryz.pinned (OpenSpec.upto polyOverSpec)

/-- 'planimeterlaw28.BasicFma', WHERE WHAT IT READS IS OF BULK AT MOST 1048576: true; the input reads as it did. -/
def basicFmaUptoRow : OpenClaim := { program := "ytejmlngnpekagaagreatdoor", sum := "40c2607fa9b5623af10bd0f54bfd3b203c1f4fd9211f1eac270aeb24880f0e43", func := "planimeter/planimeterlaw28.BasicFma", spec := "basicFma", inPlace := ["math/bits.Add64", "math/bits.Sub64"], unfollowed := true, recurses := true, named := ["math/bits.deBruijn64tab", "math/bits.divideError", "math/bits.overflowError"], apart := false, laid := [("math/bits.deBruijn64tab", laid_math_bits_deBruijn64tab)], narrowed := true }
def BasicFmaUptoSaid : Prop := basicFmaUptoRow.holds Tryz.pinned (OpenSpec.upto basicFmaSpec)

/-- 'planimeterlaw28.BasicDyads', WHERE WHAT IT READS IS OF BULK AT MOST 1048576: true; the input reads as it did. -/
def basicDyadsUptoRow : OpenClaim := { program := "ytejmlngnpekagaagreatdoor", sum := "40c2607fa9b5623af10bd0f54bfd3b203c1f4fd9211f1eac270aeb24880f0e43", func := "planimeter/planimeterlaw28.BasicDyads", spec := "basicDyads", inPlace := ["math/bits.Add64", "math/bits.Sub64"], unfollowed := true, recurses := true, named := ["math/bits.deBruijn64tab", "math/bits.divideError", "math/bits.overflowError"], apart := false, laid := [("math/bits.deBruijn64tab", laid_math_bits_deBruijn64tab)], narrowed := true }
def BasicDyadsUptoSaid : Prop := basicDyadsUptoRow.holds Tryz.pinned (OpenSpec.upto basicDyadsSpec)

/-- 'planimeterlaw28.BasicDivs', WHERE WHAT IT READS IS OF BULK AT MOST 1048576: true; the input reads as it did. -/
def basicDivsUptoRow : OpenClaim := { program := "ytejmlngnpekagaagreatdoor", sum := "40c2607fa9b5623af10bd0f54bfd3b203c1f4fd9211f1eac270aeb24880f0e43", func := "planimeter/planimeterlaw28.BasicDivs", spec := "basicDivs", inPlace := ["math/bits.Add64", "math/bits.Sub64"], unfollowed := true, recurses := true, named := ["math/bits.deBruijn64tab", "math/bits.divideError", "math/bits.overflowError"], apart := false, laid := [("math/bits.deBruijn64tab", laid_math_bits_deBruijn64tab)], narrowed := true }
def BasicDivsUptoSaid : Prop := basicDivsUptoRow.holds Tryz.pinned (OpenSpec.upto basicDivsSpec)

/-- 'planimeterlaw30.HypotTells', WHERE WHAT IT READS IS OF BULK AT MOST 1048576: true; the input reads as it did. -/
def hypotTellsUptoRow : OpenClaim := { program := "ytejmlngnpekagaagreatdoor", sum := "40c2607fa9b5623af10bd0f54bfd3b203c1f4fd9211f1eac270aeb24880f0e43", func := "planimeter/planimeterlaw30.HypotTells", spec := "hypotTells", inPlace := ["math/bits.Add64", "math/bits.Sub64"], unfollowed := true, recurses := true, named := ["math/bits.deBruijn64tab", "math/bits.divideError", "math/bits.overflowError"], apart := false, laid := [("math/bits.deBruijn64tab", laid_math_bits_deBruijn64tab)], narrowed := true }
def HypotTellsUptoSaid : Prop := hypotTellsUptoRow.holds Tryz.pinned (OpenSpec.upto hypotTellsSpec)

/-- 'planimeterlaw30.HypotTwo', WHERE WHAT IT READS IS OF BULK AT MOST 1048576: true; the input reads as it did. -/
def hypotTwoUptoRow : OpenClaim := { program := "ytejmlngnpekagaagreatdoor", sum := "40c2607fa9b5623af10bd0f54bfd3b203c1f4fd9211f1eac270aeb24880f0e43", func := "planimeter/planimeterlaw30.HypotTwo", spec := "hypotTwo", inPlace := ["math/bits.Add64", "math/bits.Sub64"], unfollowed := true, recurses := true, named := ["math/bits.deBruijn64tab", "math/bits.divideError", "math/bits.overflowError"], apart := false, laid := [("math/bits.deBruijn64tab", laid_math_bits_deBruijn64tab)], narrowed := true }
def HypotTwoUptoSaid : Prop := hypotTwoUptoRow.holds Tryz.pinned (OpenSpec.upto hypotTwoSpec)

end Rows
end Go.Proofs.YtejmlngnpekagaaGreatDoor
