/-
  NARROWER THAN 'FOR EVERY INPUT', by the rows' own cells (each row's printed sentence says how): WholeBack: laid · WholeNearest: laid · WholeDetect: laid · WholeStart: laid · WholeTotal: laid · WholeFaithful: laid · WholeDirs: laid.
  DERIVED. THE GIVEN ROWS OF THIS SEAT. 7 by the template 'for every input the law returns true; each argument reads behind the call as it read before'; 0 by the template 'total and deterministic' (their statements: YtfkgaldbcngliaaGreatDoorTotals.lean).
  GIVEN WITH THE SEED: the statements are not yours to turn. If you find one false, say at which input.
  Laid BY PROGRAM, IN A SANDBOX (cutbox-rows.mjs): the forced cells as the released guide's own fill.sh prints them over the translation 53fb0ba3eb098cf2… (all of the seat's roots in one cut). By AI agents, Wed Nov 11 2026. No macro, syntax, notation, axiom, sorry.
-/
import Derived.Test.YtfkgaldbcngliaaGreatDoorChecked
import GoSem.Claim
import GoSem.ClaimJoined
import GoSem.ClaimMapViews
import Derived.JoinedTies
import Derived.KernelRfl
namespace Go.Proofs.YtfkgaldbcngliaaGreatDoor
/- THE CELL 'sum', in the pinned program and in every row, IS THE sha256 OF THE DUMP (.gsa) THAT YtfkgaldbcngliaaGreatDoorProg.lean LOADS. Nothing in Lean hashes anything: it is a label: what it is worth is what the hold of that sum in a sandbox is worth. -/
noncomputable def Tryz.pinned : Pinned := { name := "ytfkgaldbcngliaagreatdoor", sum := "53fb0ba3eb098cf2a7432e7d68843e6ba0ac50de41d00319bf26298bf0a7b311", checked := Tryz.checked }
namespace Rows
def none {H : Type} : Left H := { results := [], args := [] }

/- WHAT THE LISTED PACKAGE-LEVEL VARIABLES READ AS WHEN THE CALL BEGINS. Each datum BY PROGRAM (the guide's laid-datum.mjs) off the statement by which the dump's own 'gosem.cut.vars' lays the variable. In a bare row this is a premise. The card (YtfkgaldbcngliaaGreatDoorCards.lean) ties it to the program's text. -/
def laid_math_bits_deBruijn64tab {H : Type} : DataW H := .agg [.lit (.int .u8 0), .lit (.int .u8 1), .lit (.int .u8 56), .lit (.int .u8 2), .lit (.int .u8 57), .lit (.int .u8 49), .lit (.int .u8 28), .lit (.int .u8 3), .lit (.int .u8 61), .lit (.int .u8 58), .lit (.int .u8 42), .lit (.int .u8 50), .lit (.int .u8 38), .lit (.int .u8 29), .lit (.int .u8 17), .lit (.int .u8 4), .lit (.int .u8 62), .lit (.int .u8 47), .lit (.int .u8 59), .lit (.int .u8 36), .lit (.int .u8 45), .lit (.int .u8 43), .lit (.int .u8 51), .lit (.int .u8 22), .lit (.int .u8 53), .lit (.int .u8 39), .lit (.int .u8 33), .lit (.int .u8 30), .lit (.int .u8 24), .lit (.int .u8 18), .lit (.int .u8 12), .lit (.int .u8 5), .lit (.int .u8 63), .lit (.int .u8 55), .lit (.int .u8 48), .lit (.int .u8 27), .lit (.int .u8 60), .lit (.int .u8 41), .lit (.int .u8 37), .lit (.int .u8 16), .lit (.int .u8 46), .lit (.int .u8 35), .lit (.int .u8 44), .lit (.int .u8 21), .lit (.int .u8 52), .lit (.int .u8 32), .lit (.int .u8 23), .lit (.int .u8 11), .lit (.int .u8 54), .lit (.int .u8 26), .lit (.int .u8 40), .lit (.int .u8 15), .lit (.int .u8 34), .lit (.int .u8 20), .lit (.int .u8 31), .lit (.int .u8 10), .lit (.int .u8 25), .lit (.int .u8 14), .lit (.int .u8 19), .lit (.int .u8 9), .lit (.int .u8 13), .lit (.int .u8 8), .lit (.int .u8 7), .lit (.int .u8 6)]

/-- 'planimetertop.WholeBack': WHATEVER THE INPUT: true; the input reads as it did. -/
def wholeBackSpec : ChangeSpec := { name := "wholeBack", fn := fun _ => fun
  | [d1, d2] => { results := [.lit (.bool true)], args := [d1, d2] }
  | _ => none }
def wholeBackRow : OpenClaim := { program := "ytfkgaldbcngliaagreatdoor", sum := "53fb0ba3eb098cf2a7432e7d68843e6ba0ac50de41d00319bf26298bf0a7b311", func := "planimeter/planimetertop.WholeBack", spec := "wholeBack", inPlace := ["math/bits.Add64", "math/bits.Sub64"], unfollowed := true, recurses := true, named := ["math/bits.deBruijn64tab", "math/bits.divideError", "math/bits.overflowError"], apart := false, laid := [("math/bits.deBruijn64tab", laid_math_bits_deBruijn64tab)] }
def WholeBackSaid : Prop := wholeBackRow.holds Tryz.pinned (OpenSpec.ofChange wholeBackSpec)

/-- ITS FALSE NEIGHBOUR: 'it returns false'. Refute it at one input. -/
def wholeBackWrong : ChangeSpec := { name := "wholeBack", fn := fun _ => fun
  | [d1, d2] => { results := [.lit (.bool false)], args := [d1, d2] }
  | _ => none }
def WholeBackWrongFalsely : Prop := wholeBackRow.holds Tryz.pinned (OpenSpec.ofChange wholeBackWrong)

/-- 'planimetertop.WholeNearest': WHATEVER THE INPUT: true; the input reads as it did. -/
def wholeNearestSpec : ChangeSpec := { name := "wholeNearest", fn := fun _ => fun
  | [d] => { results := [.lit (.bool true)], args := [d] }
  | _ => none }
def wholeNearestRow : OpenClaim := { program := "ytfkgaldbcngliaagreatdoor", sum := "53fb0ba3eb098cf2a7432e7d68843e6ba0ac50de41d00319bf26298bf0a7b311", func := "planimeter/planimetertop.WholeNearest", spec := "wholeNearest", inPlace := ["math/bits.Add64", "math/bits.Sub64"], unfollowed := true, recurses := true, named := ["math/bits.deBruijn64tab", "math/bits.divideError", "math/bits.overflowError"], apart := false, laid := [("math/bits.deBruijn64tab", laid_math_bits_deBruijn64tab)] }
def WholeNearestSaid : Prop := wholeNearestRow.holds Tryz.pinned (OpenSpec.ofChange wholeNearestSpec)

/-- ITS FALSE NEIGHBOUR: 'it returns false'. Refute it at one input. -/
def wholeNearestWrong : ChangeSpec := { name := "wholeNearest", fn := fun _ => fun
  | [d] => { results := [.lit (.bool false)], args := [d] }
  | _ => none }
def WholeNearestWrongFalsely : Prop := wholeNearestRow.holds Tryz.pinned (OpenSpec.ofChange wholeNearestWrong)

/-- 'planimetertop.WholeDetect': WHATEVER THE INPUT: true; the input reads as it did. -/
def wholeDetectSpec : ChangeSpec := { name := "wholeDetect", fn := fun _ => fun
  | [d1, d2] => { results := [.lit (.bool true)], args := [d1, d2] }
  | _ => none }
def wholeDetectRow : OpenClaim := { program := "ytfkgaldbcngliaagreatdoor", sum := "53fb0ba3eb098cf2a7432e7d68843e6ba0ac50de41d00319bf26298bf0a7b311", func := "planimeter/planimetertop.WholeDetect", spec := "wholeDetect", inPlace := ["math/bits.Add64", "math/bits.Sub64"], unfollowed := true, recurses := true, named := ["math/bits.deBruijn64tab", "math/bits.divideError", "math/bits.overflowError"], apart := false, laid := [("math/bits.deBruijn64tab", laid_math_bits_deBruijn64tab)] }
def WholeDetectSaid : Prop := wholeDetectRow.holds Tryz.pinned (OpenSpec.ofChange wholeDetectSpec)

/-- ITS FALSE NEIGHBOUR: 'it returns false'. Refute it at one input. -/
def wholeDetectWrong : ChangeSpec := { name := "wholeDetect", fn := fun _ => fun
  | [d1, d2] => { results := [.lit (.bool false)], args := [d1, d2] }
  | _ => none }
def WholeDetectWrongFalsely : Prop := wholeDetectRow.holds Tryz.pinned (OpenSpec.ofChange wholeDetectWrong)

/-- 'planimetertop.WholeStart': WHATEVER THE INPUT: true; the input reads as it did. -/
def wholeStartSpec : ChangeSpec := { name := "wholeStart", fn := fun _ => fun
  | [d1, d2, d3] => { results := [.lit (.bool true)], args := [d1, d2, d3] }
  | _ => none }
def wholeStartRow : OpenClaim := { program := "ytfkgaldbcngliaagreatdoor", sum := "53fb0ba3eb098cf2a7432e7d68843e6ba0ac50de41d00319bf26298bf0a7b311", func := "planimeter/planimetertop.WholeStart", spec := "wholeStart", inPlace := ["math/bits.Add64", "math/bits.Sub64"], unfollowed := true, recurses := true, named := ["math/bits.deBruijn64tab", "math/bits.divideError", "math/bits.overflowError"], apart := false, laid := [("math/bits.deBruijn64tab", laid_math_bits_deBruijn64tab)] }
def WholeStartSaid : Prop := wholeStartRow.holds Tryz.pinned (OpenSpec.ofChange wholeStartSpec)

/-- ITS FALSE NEIGHBOUR: 'it returns false'. Refute it at one input. -/
def wholeStartWrong : ChangeSpec := { name := "wholeStart", fn := fun _ => fun
  | [d1, d2, d3] => { results := [.lit (.bool false)], args := [d1, d2, d3] }
  | _ => none }
def WholeStartWrongFalsely : Prop := wholeStartRow.holds Tryz.pinned (OpenSpec.ofChange wholeStartWrong)

/-- 'planimetertop.WholeTotal': WHATEVER THE INPUT: true; the input reads as it did. -/
def wholeTotalSpec : ChangeSpec := { name := "wholeTotal", fn := fun _ => fun
  | [d1, d2, d3, d4] => { results := [.lit (.bool true)], args := [d1, d2, d3, d4] }
  | _ => none }
def wholeTotalRow : OpenClaim := { program := "ytfkgaldbcngliaagreatdoor", sum := "53fb0ba3eb098cf2a7432e7d68843e6ba0ac50de41d00319bf26298bf0a7b311", func := "planimeter/planimetertop.WholeTotal", spec := "wholeTotal", inPlace := ["math/bits.Add64", "math/bits.Sub64"], unfollowed := true, recurses := true, named := ["math/bits.deBruijn64tab", "math/bits.divideError", "math/bits.overflowError"], apart := false, laid := [("math/bits.deBruijn64tab", laid_math_bits_deBruijn64tab)] }
def WholeTotalSaid : Prop := wholeTotalRow.holds Tryz.pinned (OpenSpec.ofChange wholeTotalSpec)

/-- ITS FALSE NEIGHBOUR: 'it returns false'. Refute it at one input. -/
def wholeTotalWrong : ChangeSpec := { name := "wholeTotal", fn := fun _ => fun
  | [d1, d2, d3, d4] => { results := [.lit (.bool false)], args := [d1, d2, d3, d4] }
  | _ => none }
def WholeTotalWrongFalsely : Prop := wholeTotalRow.holds Tryz.pinned (OpenSpec.ofChange wholeTotalWrong)

/-- 'planimetertop.WholeFaithful': WHATEVER THE INPUT: true; the input reads as it did. -/
def wholeFaithfulSpec : ChangeSpec := { name := "wholeFaithful", fn := fun _ => fun
  | [d1, d2, d3] => { results := [.lit (.bool true)], args := [d1, d2, d3] }
  | _ => none }
def wholeFaithfulRow : OpenClaim := { program := "ytfkgaldbcngliaagreatdoor", sum := "53fb0ba3eb098cf2a7432e7d68843e6ba0ac50de41d00319bf26298bf0a7b311", func := "planimeter/planimetertop.WholeFaithful", spec := "wholeFaithful", inPlace := ["math/bits.Add64", "math/bits.Sub64"], unfollowed := true, recurses := true, named := ["math/bits.deBruijn64tab", "math/bits.divideError", "math/bits.overflowError"], apart := false, laid := [("math/bits.deBruijn64tab", laid_math_bits_deBruijn64tab)] }
def WholeFaithfulSaid : Prop := wholeFaithfulRow.holds Tryz.pinned (OpenSpec.ofChange wholeFaithfulSpec)

/-- ITS FALSE NEIGHBOUR: 'it returns false'. Refute it at one input. -/
def wholeFaithfulWrong : ChangeSpec := { name := "wholeFaithful", fn := fun _ => fun
  | [d1, d2, d3] => { results := [.lit (.bool false)], args := [d1, d2, d3] }
  | _ => none }
def WholeFaithfulWrongFalsely : Prop := wholeFaithfulRow.holds Tryz.pinned (OpenSpec.ofChange wholeFaithfulWrong)

/-- 'planimetertop.WholeDirs': WHATEVER THE INPUT: true; the input reads as it did. -/
def wholeDirsSpec : ChangeSpec := { name := "wholeDirs", fn := fun _ => fun
  | [d1, d2] => { results := [.lit (.bool true)], args := [d1, d2] }
  | _ => none }
def wholeDirsRow : OpenClaim := { program := "ytfkgaldbcngliaagreatdoor", sum := "53fb0ba3eb098cf2a7432e7d68843e6ba0ac50de41d00319bf26298bf0a7b311", func := "planimeter/planimetertop.WholeDirs", spec := "wholeDirs", inPlace := ["math/bits.Add64", "math/bits.Sub64"], unfollowed := true, recurses := true, named := ["math/bits.deBruijn64tab", "math/bits.divideError", "math/bits.overflowError"], apart := false, laid := [("math/bits.deBruijn64tab", laid_math_bits_deBruijn64tab)] }
def WholeDirsSaid : Prop := wholeDirsRow.holds Tryz.pinned (OpenSpec.ofChange wholeDirsSpec)

/-- ITS FALSE NEIGHBOUR: 'it returns false'. Refute it at one input. -/
def wholeDirsWrong : ChangeSpec := { name := "wholeDirs", fn := fun _ => fun
  | [d1, d2] => { results := [.lit (.bool false)], args := [d1, d2] }
  | _ => none }
def WholeDirsWrongFalsely : Prop := wholeDirsRow.holds Tryz.pinned (OpenSpec.ofChange wholeDirsWrong)

/- THE SECOND FORM. 'bulk': how many values and letters a reading holds, each counted each time it is reached (what is shared counts as often as it is met; a slice's spare places count too). A statement '..UptoSaid' is the law's where the arguments, and the package variables that the reading takes, are together of bulk at most 1048576: NARROWER than '..Said'. Prove '..Said' where nothing that the law and all that it calls make is longer than what came in: it says more and counts as full. Else prove '..UptoSaid'. A law counts once. -/
mutual
def uptoBulk {H : Type} : DataW H → Nat
  | .lit (.string bytes) => bytes.length + 1
  | .lit _ => 1
  | .nil => 1
  | .ptr d => uptoBulk d + 1
  | .slice elems spare => uptoBulkAll elems + uptoBulkAll spare + 1
  | .agg parts => uptoBulkAll parts + 1
  | .iface _ d => uptoBulk d + 1
  | .map entries => uptoBulkEntries entries + 1
  | .held _ => 1
def uptoBulkAll {H : Type} : List (DataW H) → Nat
  | [] => 0
  | d :: r => uptoBulk d + uptoBulkAll r
def uptoBulkEntries {H : Type} : List (Lit × DataW H) → Nat
  | [] => 0
  | x :: r => uptoBulkEntry x + uptoBulkEntries r
def uptoBulkEntry {H : Type} : Lit × DataW H → Nat
  | (.string bytes, d) => bytes.length + uptoBulk d + 1
  | (_, d) => uptoBulk d + 1
 end
def uptoSmall : (H : Type) → List (DataW H) → Bool := fun _ ds => decide (uptoBulkAll ds ≤ 1048576)
def OpenSpec.upto (s : _root_.Go.ChangeSpec) : _root_.Go.OpenSpec := { _root_.Go.OpenSpec.ofChange s with cond := some uptoSmall }

/-- 'planimetertop.WholeBack', WHERE WHAT IT READS IS OF BULK AT MOST 1048576: true; the input reads as it did. -/
def wholeBackUptoRow : OpenClaim := { program := "ytfkgaldbcngliaagreatdoor", sum := "53fb0ba3eb098cf2a7432e7d68843e6ba0ac50de41d00319bf26298bf0a7b311", func := "planimeter/planimetertop.WholeBack", spec := "wholeBack", inPlace := ["math/bits.Add64", "math/bits.Sub64"], unfollowed := true, recurses := true, named := ["math/bits.deBruijn64tab", "math/bits.divideError", "math/bits.overflowError"], apart := false, laid := [("math/bits.deBruijn64tab", laid_math_bits_deBruijn64tab)], narrowed := true }
def WholeBackUptoSaid : Prop := wholeBackUptoRow.holds Tryz.pinned (OpenSpec.upto wholeBackSpec)

/-- 'planimetertop.WholeNearest', WHERE WHAT IT READS IS OF BULK AT MOST 1048576: true; the input reads as it did. -/
def wholeNearestUptoRow : OpenClaim := { program := "ytfkgaldbcngliaagreatdoor", sum := "53fb0ba3eb098cf2a7432e7d68843e6ba0ac50de41d00319bf26298bf0a7b311", func := "planimeter/planimetertop.WholeNearest", spec := "wholeNearest", inPlace := ["math/bits.Add64", "math/bits.Sub64"], unfollowed := true, recurses := true, named := ["math/bits.deBruijn64tab", "math/bits.divideError", "math/bits.overflowError"], apart := false, laid := [("math/bits.deBruijn64tab", laid_math_bits_deBruijn64tab)], narrowed := true }
def WholeNearestUptoSaid : Prop := wholeNearestUptoRow.holds Tryz.pinned (OpenSpec.upto wholeNearestSpec)

/-- 'planimetertop.WholeDetect', WHERE WHAT IT READS IS OF BULK AT MOST 1048576: true; the input reads as it did. -/
def wholeDetectUptoRow : OpenClaim := { program := "ytfkgaldbcngliaagreatdoor", sum := "53fb0ba3eb098cf2a7432e7d68843e6ba0ac50de41d00319bf26298bf0a7b311", func := "planimeter/planimetertop.WholeDetect", spec := "wholeDetect", inPlace := ["math/bits.Add64", "math/bits.Sub64"], unfollowed := true, recurses := true, named := ["math/bits.deBruijn64tab", "math/bits.divideError", "math/bits.overflowError"], apart := false, laid := [("math/bits.deBruijn64tab", laid_math_bits_deBruijn64tab)], narrowed := true }
def WholeDetectUptoSaid : Prop := wholeDetectUptoRow.holds Tryz.pinned (OpenSpec.upto wholeDetectSpec)

/-- 'planimetertop.WholeStart', WHERE WHAT IT READS IS OF BULK AT MOST 1048576: true; the input reads as it did. -/
def wholeStartUptoRow : OpenClaim := { program := "ytfkgaldbcngliaagreatdoor", sum := "53fb0ba3eb098cf2a7432e7d68843e6ba0ac50de41d00319bf26298bf0a7b311", func := "planimeter/planimetertop.WholeStart", spec := "wholeStart", inPlace := ["math/bits.Add64", "math/bits.Sub64"], unfollowed := true, recurses := true, named := ["math/bits.deBruijn64tab", "math/bits.divideError", "math/bits.overflowError"], apart := false, laid := [("math/bits.deBruijn64tab", laid_math_bits_deBruijn64tab)], narrowed := true }
def WholeStartUptoSaid : Prop := wholeStartUptoRow.holds Tryz.pinned (OpenSpec.upto wholeStartSpec)

/-- 'planimetertop.WholeTotal', WHERE WHAT IT READS IS OF BULK AT MOST 1048576: true; the input reads as it did. -/
def wholeTotalUptoRow : OpenClaim := { program := "ytfkgaldbcngliaagreatdoor", sum := "53fb0ba3eb098cf2a7432e7d68843e6ba0ac50de41d00319bf26298bf0a7b311", func := "planimeter/planimetertop.WholeTotal", spec := "wholeTotal", inPlace := ["math/bits.Add64", "math/bits.Sub64"], unfollowed := true, recurses := true, named := ["math/bits.deBruijn64tab", "math/bits.divideError", "math/bits.overflowError"], apart := false, laid := [("math/bits.deBruijn64tab", laid_math_bits_deBruijn64tab)], narrowed := true }
def WholeTotalUptoSaid : Prop := wholeTotalUptoRow.holds Tryz.pinned (OpenSpec.upto wholeTotalSpec)

/-- 'planimetertop.WholeFaithful', WHERE WHAT IT READS IS OF BULK AT MOST 1048576: true; the input reads as it did. -/
def wholeFaithfulUptoRow : OpenClaim := { program := "ytfkgaldbcngliaagreatdoor", sum := "53fb0ba3eb098cf2a7432e7d68843e6ba0ac50de41d00319bf26298bf0a7b311", func := "planimeter/planimetertop.WholeFaithful", spec := "wholeFaithful", inPlace := ["math/bits.Add64", "math/bits.Sub64"], unfollowed := true, recurses := true, named := ["math/bits.deBruijn64tab", "math/bits.divideError", "math/bits.overflowError"], apart := false, laid := [("math/bits.deBruijn64tab", laid_math_bits_deBruijn64tab)], narrowed := true }
def WholeFaithfulUptoSaid : Prop := wholeFaithfulUptoRow.holds Tryz.pinned (OpenSpec.upto wholeFaithfulSpec)

/-- 'planimetertop.WholeDirs', WHERE WHAT IT READS IS OF BULK AT MOST 1048576: true; the input reads as it did. -/
def wholeDirsUptoRow : OpenClaim := { program := "ytfkgaldbcngliaagreatdoor", sum := "53fb0ba3eb098cf2a7432e7d68843e6ba0ac50de41d00319bf26298bf0a7b311", func := "planimeter/planimetertop.WholeDirs", spec := "wholeDirs", inPlace := ["math/bits.Add64", "math/bits.Sub64"], unfollowed := true, recurses := true, named := ["math/bits.deBruijn64tab", "math/bits.divideError", "math/bits.overflowError"], apart := false, laid := [("math/bits.deBruijn64tab", laid_math_bits_deBruijn64tab)], narrowed := true }
def WholeDirsUptoSaid : Prop := wholeDirsUptoRow.holds Tryz.pinned (OpenSpec.upto wholeDirsSpec)

end Rows
end Go.Proofs.YtfkgaldbcngliaaGreatDoor
