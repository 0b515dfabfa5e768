/-
  NARROWER THAN 'FOR EVERY INPUT', by the rows' own cells (each row's printed sentence says how): NatShifts: laid · NatSums: laid · NatOrder: laid · NatBack: laid · SpecialPow: laid · FloatExact: laid · FloatTells: laid · FloatWhole: laid · SpecialAgree: laid · SpecialEven: laid · SpecialWhole: laid · RoundTo: laid.
  DERIVED. THE GIVEN ROWS OF THIS SEAT. 12 by the template 'for every input the law returns true; each argument reads behind the call as it read before'; 0 by the template 'total and deterministic' (their statements: YtkddalmjhmgbeaaDoorTotals.lean).
  GIVEN WITH THE SEED: the statements are not yours to turn. If you find one false, say at which input.
  Laid BY PROGRAM, IN A SANDBOX (cutbox-rows.mjs): the forced cells as the released guide's own fill.sh prints them over the translation 2375e27a149dab54… (all of the seat's roots in one cut). By AI agents, Wed Nov 11 2026. No macro, syntax, notation, axiom, sorry.
-/
import Derived.Test.YtkddalmjhmgbeaaDoorChecked
import GoSem.Claim
import GoSem.ClaimJoined
import GoSem.ClaimMapViews
import Derived.JoinedTies
import Derived.KernelRfl
namespace Go.Proofs.YtkddalmjhmgbeaaDoor
/- THE CELL 'sum', in the pinned program and in every row, IS THE sha256 OF THE DUMP (.gsa) THAT YtkddalmjhmgbeaaDoorProg.lean LOADS. Nothing in Lean hashes anything: it is a label: what it is worth is what the hold of that sum in a sandbox is worth. -/
noncomputable def Tryd.pinned : Pinned := { name := "ytkddalmjhmgbeaadoor", sum := "2375e27a149dab54af5ab52932f9412e49872aa65c17e997893c042ccfe67e97", checked := Tryd.checked }
namespace Rows
def none {H : Type} : Left H := { results := [], args := [] }

/- WHAT THE LISTED PACKAGE-LEVEL VARIABLES READ AS WHEN THE CALL BEGINS. Each datum BY PROGRAM (the guide's laid-datum.mjs) off the statement by which the dump's own 'gosem.cut.vars' lays the variable. In a bare row this is a premise. The card (YtkddalmjhmgbeaaDoorCards.lean) ties it to the program's text. -/
def laid_math_bits_deBruijn64tab {H : Type} : DataW H := .agg [.lit (.int .u8 0), .lit (.int .u8 1), .lit (.int .u8 56), .lit (.int .u8 2), .lit (.int .u8 57), .lit (.int .u8 49), .lit (.int .u8 28), .lit (.int .u8 3), .lit (.int .u8 61), .lit (.int .u8 58), .lit (.int .u8 42), .lit (.int .u8 50), .lit (.int .u8 38), .lit (.int .u8 29), .lit (.int .u8 17), .lit (.int .u8 4), .lit (.int .u8 62), .lit (.int .u8 47), .lit (.int .u8 59), .lit (.int .u8 36), .lit (.int .u8 45), .lit (.int .u8 43), .lit (.int .u8 51), .lit (.int .u8 22), .lit (.int .u8 53), .lit (.int .u8 39), .lit (.int .u8 33), .lit (.int .u8 30), .lit (.int .u8 24), .lit (.int .u8 18), .lit (.int .u8 12), .lit (.int .u8 5), .lit (.int .u8 63), .lit (.int .u8 55), .lit (.int .u8 48), .lit (.int .u8 27), .lit (.int .u8 60), .lit (.int .u8 41), .lit (.int .u8 37), .lit (.int .u8 16), .lit (.int .u8 46), .lit (.int .u8 35), .lit (.int .u8 44), .lit (.int .u8 21), .lit (.int .u8 52), .lit (.int .u8 32), .lit (.int .u8 23), .lit (.int .u8 11), .lit (.int .u8 54), .lit (.int .u8 26), .lit (.int .u8 40), .lit (.int .u8 15), .lit (.int .u8 34), .lit (.int .u8 20), .lit (.int .u8 31), .lit (.int .u8 10), .lit (.int .u8 25), .lit (.int .u8 14), .lit (.int .u8 19), .lit (.int .u8 9), .lit (.int .u8 13), .lit (.int .u8 8), .lit (.int .u8 7), .lit (.int .u8 6)]

/-- 'planimeterlaw01.NatShifts': WHATEVER THE INPUT: true; the input reads as it did. -/
def natShiftsSpec : ChangeSpec := { name := "natShifts", fn := fun _ => fun
  | [d1, d2] => { results := [.lit (.bool true)], args := [d1, d2] }
  | _ => none }
def natShiftsRow : OpenClaim := { program := "ytkddalmjhmgbeaadoor", sum := "2375e27a149dab54af5ab52932f9412e49872aa65c17e997893c042ccfe67e97", func := "planimeter/planimeterlaw01.NatShifts", spec := "natShifts", inPlace := ["math/bits.Sub64"], unfollowed := true, recurses := true, named := ["math/bits.deBruijn64tab"], apart := false, laid := [("math/bits.deBruijn64tab", laid_math_bits_deBruijn64tab)] }
def NatShiftsSaid : Prop := natShiftsRow.holds Tryd.pinned (OpenSpec.ofChange natShiftsSpec)

/-- ITS FALSE NEIGHBOUR: 'it returns false'. Refute it at one input. -/
def natShiftsWrong : ChangeSpec := { name := "natShifts", fn := fun _ => fun
  | [d1, d2] => { results := [.lit (.bool false)], args := [d1, d2] }
  | _ => none }
def NatShiftsWrongFalsely : Prop := natShiftsRow.holds Tryd.pinned (OpenSpec.ofChange natShiftsWrong)

/-- 'planimeterlaw01.NatSums': WHATEVER THE INPUT: true; the input reads as it did. -/
def natSumsSpec : ChangeSpec := { name := "natSums", fn := fun _ => fun
  | [d1, d2] => { results := [.lit (.bool true)], args := [d1, d2] }
  | _ => none }
def natSumsRow : OpenClaim := { program := "ytkddalmjhmgbeaadoor", sum := "2375e27a149dab54af5ab52932f9412e49872aa65c17e997893c042ccfe67e97", func := "planimeter/planimeterlaw01.NatSums", spec := "natSums", inPlace := ["math/bits.Sub64", "math/bits.Add64"], unfollowed := true, recurses := true, named := ["math/bits.deBruijn64tab"], apart := false, laid := [("math/bits.deBruijn64tab", laid_math_bits_deBruijn64tab)] }
def NatSumsSaid : Prop := natSumsRow.holds Tryd.pinned (OpenSpec.ofChange natSumsSpec)

/-- ITS FALSE NEIGHBOUR: 'it returns false'. Refute it at one input. -/
def natSumsWrong : ChangeSpec := { name := "natSums", fn := fun _ => fun
  | [d1, d2] => { results := [.lit (.bool false)], args := [d1, d2] }
  | _ => none }
def NatSumsWrongFalsely : Prop := natSumsRow.holds Tryd.pinned (OpenSpec.ofChange natSumsWrong)

/-- 'planimeterlaw01.NatOrder': WHATEVER THE INPUT: true; the input reads as it did. -/
def natOrderSpec : ChangeSpec := { name := "natOrder", fn := fun _ => fun
  | [d1, d2, d3, d4] => { results := [.lit (.bool true)], args := [d1, d2, d3, d4] }
  | _ => none }
def natOrderRow : OpenClaim := { program := "ytkddalmjhmgbeaadoor", sum := "2375e27a149dab54af5ab52932f9412e49872aa65c17e997893c042ccfe67e97", func := "planimeter/planimeterlaw01.NatOrder", spec := "natOrder", inPlace := ["math/bits.Sub64"], unfollowed := true, recurses := true, named := ["math/bits.deBruijn64tab"], apart := false, laid := [("math/bits.deBruijn64tab", laid_math_bits_deBruijn64tab)] }
def NatOrderSaid : Prop := natOrderRow.holds Tryd.pinned (OpenSpec.ofChange natOrderSpec)

/-- ITS FALSE NEIGHBOUR: 'it returns false'. Refute it at one input. -/
def natOrderWrong : ChangeSpec := { name := "natOrder", fn := fun _ => fun
  | [d1, d2, d3, d4] => { results := [.lit (.bool false)], args := [d1, d2, d3, d4] }
  | _ => none }
def NatOrderWrongFalsely : Prop := natOrderRow.holds Tryd.pinned (OpenSpec.ofChange natOrderWrong)

/-- 'planimeterlaw01.NatBack': WHATEVER THE INPUT: true; the input reads as it did. -/
def natBackSpec : ChangeSpec := { name := "natBack", fn := fun _ => fun
  | [d1, d2, d3, d4] => { results := [.lit (.bool true)], args := [d1, d2, d3, d4] }
  | _ => none }
def natBackRow : OpenClaim := { program := "ytkddalmjhmgbeaadoor", sum := "2375e27a149dab54af5ab52932f9412e49872aa65c17e997893c042ccfe67e97", func := "planimeter/planimeterlaw01.NatBack", spec := "natBack", inPlace := ["math/bits.Sub64", "math/bits.Add64"], unfollowed := true, recurses := true, named := ["math/bits.deBruijn64tab"], apart := false, laid := [("math/bits.deBruijn64tab", laid_math_bits_deBruijn64tab)] }
def NatBackSaid : Prop := natBackRow.holds Tryd.pinned (OpenSpec.ofChange natBackSpec)

/-- ITS FALSE NEIGHBOUR: 'it returns false'. Refute it at one input. -/
def natBackWrong : ChangeSpec := { name := "natBack", fn := fun _ => fun
  | [d1, d2, d3, d4] => { results := [.lit (.bool false)], args := [d1, d2, d3, d4] }
  | _ => none }
def NatBackWrongFalsely : Prop := natBackRow.holds Tryd.pinned (OpenSpec.ofChange natBackWrong)

/-- 'planimeterlaw20.SpecialPow': WHATEVER THE INPUT: true; the input reads as it did. -/
def specialPowSpec : ChangeSpec := { name := "specialPow", fn := fun _ => fun
  | [d1, d2] => { results := [.lit (.bool true)], args := [d1, d2] }
  | _ => none }
def specialPowRow : OpenClaim := { program := "ytkddalmjhmgbeaadoor", sum := "2375e27a149dab54af5ab52932f9412e49872aa65c17e997893c042ccfe67e97", func := "planimeter/planimeterlaw20.SpecialPow", spec := "specialPow", named := ["math/bits.deBruijn64tab"], apart := false, laid := [("math/bits.deBruijn64tab", laid_math_bits_deBruijn64tab)] }
def SpecialPowSaid : Prop := specialPowRow.holds Tryd.pinned (OpenSpec.ofChange specialPowSpec)

/-- ITS FALSE NEIGHBOUR: 'it returns false'. Refute it at one input. -/
def specialPowWrong : ChangeSpec := { name := "specialPow", fn := fun _ => fun
  | [d1, d2] => { results := [.lit (.bool false)], args := [d1, d2] }
  | _ => none }
def SpecialPowWrongFalsely : Prop := specialPowRow.holds Tryd.pinned (OpenSpec.ofChange specialPowWrong)

/-- 'planimeterlaw06.FloatExact': WHATEVER THE INPUT: true; the input reads as it did. -/
def floatExactSpec : ChangeSpec := { name := "floatExact", fn := fun _ => fun
  | [d1, d2] => { results := [.lit (.bool true)], args := [d1, d2] }
  | _ => none }
def floatExactRow : OpenClaim := { program := "ytkddalmjhmgbeaadoor", sum := "2375e27a149dab54af5ab52932f9412e49872aa65c17e997893c042ccfe67e97", func := "planimeter/planimeterlaw06.FloatExact", spec := "floatExact", named := ["math/bits.deBruijn64tab"], apart := false, laid := [("math/bits.deBruijn64tab", laid_math_bits_deBruijn64tab)] }
def FloatExactSaid : Prop := floatExactRow.holds Tryd.pinned (OpenSpec.ofChange floatExactSpec)

/-- ITS FALSE NEIGHBOUR: 'it returns false'. Refute it at one input. -/
def floatExactWrong : ChangeSpec := { name := "floatExact", fn := fun _ => fun
  | [d1, d2] => { results := [.lit (.bool false)], args := [d1, d2] }
  | _ => none }
def FloatExactWrongFalsely : Prop := floatExactRow.holds Tryd.pinned (OpenSpec.ofChange floatExactWrong)

/-- 'planimeterlaw06.FloatTells': WHATEVER THE INPUT: true; the input reads as it did. -/
def floatTellsSpec : ChangeSpec := { name := "floatTells", fn := fun _ => fun
  | [d] => { results := [.lit (.bool true)], args := [d] }
  | _ => none }
def floatTellsRow : OpenClaim := { program := "ytkddalmjhmgbeaadoor", sum := "2375e27a149dab54af5ab52932f9412e49872aa65c17e997893c042ccfe67e97", func := "planimeter/planimeterlaw06.FloatTells", spec := "floatTells", named := ["math/bits.deBruijn64tab"], apart := false, laid := [("math/bits.deBruijn64tab", laid_math_bits_deBruijn64tab)] }
def FloatTellsSaid : Prop := floatTellsRow.holds Tryd.pinned (OpenSpec.ofChange floatTellsSpec)

/-- ITS FALSE NEIGHBOUR: 'it returns false'. Refute it at one input. -/
def floatTellsWrong : ChangeSpec := { name := "floatTells", fn := fun _ => fun
  | [d] => { results := [.lit (.bool false)], args := [d] }
  | _ => none }
def FloatTellsWrongFalsely : Prop := floatTellsRow.holds Tryd.pinned (OpenSpec.ofChange floatTellsWrong)

/-- 'planimeterlaw06.FloatWhole': WHATEVER THE INPUT: true; the input reads as it did. -/
def floatWholeSpec : ChangeSpec := { name := "floatWhole", fn := fun _ => fun
  | [d1, d2] => { results := [.lit (.bool true)], args := [d1, d2] }
  | _ => none }
def floatWholeRow : OpenClaim := { program := "ytkddalmjhmgbeaadoor", sum := "2375e27a149dab54af5ab52932f9412e49872aa65c17e997893c042ccfe67e97", func := "planimeter/planimeterlaw06.FloatWhole", spec := "floatWhole", named := ["math/bits.deBruijn64tab"], apart := false, laid := [("math/bits.deBruijn64tab", laid_math_bits_deBruijn64tab)] }
def FloatWholeSaid : Prop := floatWholeRow.holds Tryd.pinned (OpenSpec.ofChange floatWholeSpec)

/-- ITS FALSE NEIGHBOUR: 'it returns false'. Refute it at one input. -/
def floatWholeWrong : ChangeSpec := { name := "floatWhole", fn := fun _ => fun
  | [d1, d2] => { results := [.lit (.bool false)], args := [d1, d2] }
  | _ => none }
def FloatWholeWrongFalsely : Prop := floatWholeRow.holds Tryd.pinned (OpenSpec.ofChange floatWholeWrong)

/-- 'planimeterlaw20.SpecialAgree': WHATEVER THE INPUT: true; the input reads as it did. -/
def specialAgreeSpec : ChangeSpec := { name := "specialAgree", fn := fun _ => fun
  | [d1, d2, d3] => { results := [.lit (.bool true)], args := [d1, d2, d3] }
  | _ => none }
def specialAgreeRow : OpenClaim := { program := "ytkddalmjhmgbeaadoor", sum := "2375e27a149dab54af5ab52932f9412e49872aa65c17e997893c042ccfe67e97", func := "planimeter/planimeterlaw20.SpecialAgree", spec := "specialAgree", named := ["math/bits.deBruijn64tab"], apart := false, laid := [("math/bits.deBruijn64tab", laid_math_bits_deBruijn64tab)] }
def SpecialAgreeSaid : Prop := specialAgreeRow.holds Tryd.pinned (OpenSpec.ofChange specialAgreeSpec)

/-- ITS FALSE NEIGHBOUR: 'it returns false'. Refute it at one input. -/
def specialAgreeWrong : ChangeSpec := { name := "specialAgree", fn := fun _ => fun
  | [d1, d2, d3] => { results := [.lit (.bool false)], args := [d1, d2, d3] }
  | _ => none }
def SpecialAgreeWrongFalsely : Prop := specialAgreeRow.holds Tryd.pinned (OpenSpec.ofChange specialAgreeWrong)

/-- 'planimeterlaw20.SpecialEven': WHATEVER THE INPUT: true; the input reads as it did. -/
def specialEvenSpec : ChangeSpec := { name := "specialEven", fn := fun _ => fun
  | [d1, d2] => { results := [.lit (.bool true)], args := [d1, d2] }
  | _ => none }
def specialEvenRow : OpenClaim := { program := "ytkddalmjhmgbeaadoor", sum := "2375e27a149dab54af5ab52932f9412e49872aa65c17e997893c042ccfe67e97", func := "planimeter/planimeterlaw20.SpecialEven", spec := "specialEven", named := ["math/bits.deBruijn64tab"], apart := false, laid := [("math/bits.deBruijn64tab", laid_math_bits_deBruijn64tab)] }
def SpecialEvenSaid : Prop := specialEvenRow.holds Tryd.pinned (OpenSpec.ofChange specialEvenSpec)

/-- ITS FALSE NEIGHBOUR: 'it returns false'. Refute it at one input. -/
def specialEvenWrong : ChangeSpec := { name := "specialEven", fn := fun _ => fun
  | [d1, d2] => { results := [.lit (.bool false)], args := [d1, d2] }
  | _ => none }
def SpecialEvenWrongFalsely : Prop := specialEvenRow.holds Tryd.pinned (OpenSpec.ofChange specialEvenWrong)

/-- 'planimeterlaw20.SpecialWhole': WHATEVER THE INPUT: true; the input reads as it did. -/
def specialWholeSpec : ChangeSpec := { name := "specialWhole", fn := fun _ => fun
  | [d1, d2] => { results := [.lit (.bool true)], args := [d1, d2] }
  | _ => none }
def specialWholeRow : OpenClaim := { program := "ytkddalmjhmgbeaadoor", sum := "2375e27a149dab54af5ab52932f9412e49872aa65c17e997893c042ccfe67e97", func := "planimeter/planimeterlaw20.SpecialWhole", spec := "specialWhole", named := ["math/bits.deBruijn64tab"], apart := false, laid := [("math/bits.deBruijn64tab", laid_math_bits_deBruijn64tab)] }
def SpecialWholeSaid : Prop := specialWholeRow.holds Tryd.pinned (OpenSpec.ofChange specialWholeSpec)

/-- ITS FALSE NEIGHBOUR: 'it returns false'. Refute it at one input. -/
def specialWholeWrong : ChangeSpec := { name := "specialWhole", fn := fun _ => fun
  | [d1, d2] => { results := [.lit (.bool false)], args := [d1, d2] }
  | _ => none }
def SpecialWholeWrongFalsely : Prop := specialWholeRow.holds Tryd.pinned (OpenSpec.ofChange specialWholeWrong)

/-- 'planimeterlaw07.RoundTo': WHATEVER THE INPUT: true; the input reads as it did. -/
def roundToSpec : ChangeSpec := { name := "roundTo", fn := fun _ => fun
  | [d1, d2, d3] => { results := [.lit (.bool true)], args := [d1, d2, d3] }
  | _ => none }
def roundToRow : OpenClaim := { program := "ytkddalmjhmgbeaadoor", sum := "2375e27a149dab54af5ab52932f9412e49872aa65c17e997893c042ccfe67e97", func := "planimeter/planimeterlaw07.RoundTo", spec := "roundTo", inPlace := ["math/bits.Add64"], named := ["math/bits.deBruijn64tab"], apart := false, laid := [("math/bits.deBruijn64tab", laid_math_bits_deBruijn64tab)] }
def RoundToSaid : Prop := roundToRow.holds Tryd.pinned (OpenSpec.ofChange roundToSpec)

/-- ITS FALSE NEIGHBOUR: 'it returns false'. Refute it at one input. -/
def roundToWrong : ChangeSpec := { name := "roundTo", fn := fun _ => fun
  | [d1, d2, d3] => { results := [.lit (.bool false)], args := [d1, d2, d3] }
  | _ => none }
def RoundToWrongFalsely : Prop := roundToRow.holds Tryd.pinned (OpenSpec.ofChange roundToWrong)

/- THE SECOND FORM. 'bulk': how many values and letters a reading holds, each counted each time it is reached (what is shared counts as often as it is met; a slice's spare places count too). A statement '..UptoSaid' is the law's where the arguments, and the package variables that the reading takes, are together of bulk at most 1048576: NARROWER than '..Said'. Prove '..Said' where nothing that the law and all that it calls make is longer than what came in: it says more and counts as full. Else prove '..UptoSaid'. A law counts once. -/
mutual
def uptoBulk {H : Type} : DataW H → Nat
  | .lit (.string bytes) => bytes.length + 1
  | .lit _ => 1
  | .nil => 1
  | .ptr d => uptoBulk d + 1
  | .slice elems spare => uptoBulkAll elems + uptoBulkAll spare + 1
  | .agg parts => uptoBulkAll parts + 1
  | .iface _ d => uptoBulk d + 1
  | .map entries => uptoBulkEntries entries + 1
  | .held _ => 1
def uptoBulkAll {H : Type} : List (DataW H) → Nat
  | [] => 0
  | d :: r => uptoBulk d + uptoBulkAll r
def uptoBulkEntries {H : Type} : List (Lit × DataW H) → Nat
  | [] => 0
  | x :: r => uptoBulkEntry x + uptoBulkEntries r
def uptoBulkEntry {H : Type} : Lit × DataW H → Nat
  | (.string bytes, d) => bytes.length + uptoBulk d + 1
  | (_, d) => uptoBulk d + 1
 end
def uptoSmall : (H : Type) → List (DataW H) → Bool := fun _ ds => decide (uptoBulkAll ds ≤ 1048576)
def OpenSpec.upto (s : _root_.Go.ChangeSpec) : _root_.Go.OpenSpec := { _root_.Go.OpenSpec.ofChange s with cond := some uptoSmall }

/-- 'planimeterlaw01.NatShifts', WHERE WHAT IT READS IS OF BULK AT MOST 1048576: true; the input reads as it did. -/
def natShiftsUptoRow : OpenClaim := { program := "ytkddalmjhmgbeaadoor", sum := "2375e27a149dab54af5ab52932f9412e49872aa65c17e997893c042ccfe67e97", func := "planimeter/planimeterlaw01.NatShifts", spec := "natShifts", inPlace := ["math/bits.Sub64"], unfollowed := true, recurses := true, named := ["math/bits.deBruijn64tab"], apart := false, laid := [("math/bits.deBruijn64tab", laid_math_bits_deBruijn64tab)], narrowed := true }
def NatShiftsUptoSaid : Prop := natShiftsUptoRow.holds Tryd.pinned (OpenSpec.upto natShiftsSpec)

/-- 'planimeterlaw01.NatSums', WHERE WHAT IT READS IS OF BULK AT MOST 1048576: true; the input reads as it did. -/
def natSumsUptoRow : OpenClaim := { program := "ytkddalmjhmgbeaadoor", sum := "2375e27a149dab54af5ab52932f9412e49872aa65c17e997893c042ccfe67e97", func := "planimeter/planimeterlaw01.NatSums", spec := "natSums", inPlace := ["math/bits.Sub64", "math/bits.Add64"], unfollowed := true, recurses := true, named := ["math/bits.deBruijn64tab"], apart := false, laid := [("math/bits.deBruijn64tab", laid_math_bits_deBruijn64tab)], narrowed := true }
def NatSumsUptoSaid : Prop := natSumsUptoRow.holds Tryd.pinned (OpenSpec.upto natSumsSpec)

/-- 'planimeterlaw01.NatOrder', WHERE WHAT IT READS IS OF BULK AT MOST 1048576: true; the input reads as it did. -/
def natOrderUptoRow : OpenClaim := { program := "ytkddalmjhmgbeaadoor", sum := "2375e27a149dab54af5ab52932f9412e49872aa65c17e997893c042ccfe67e97", func := "planimeter/planimeterlaw01.NatOrder", spec := "natOrder", inPlace := ["math/bits.Sub64"], unfollowed := true, recurses := true, named := ["math/bits.deBruijn64tab"], apart := false, laid := [("math/bits.deBruijn64tab", laid_math_bits_deBruijn64tab)], narrowed := true }
def NatOrderUptoSaid : Prop := natOrderUptoRow.holds Tryd.pinned (OpenSpec.upto natOrderSpec)

/-- 'planimeterlaw01.NatBack', WHERE WHAT IT READS IS OF BULK AT MOST 1048576: true; the input reads as it did. -/
def natBackUptoRow : OpenClaim := { program := "ytkddalmjhmgbeaadoor", sum := "2375e27a149dab54af5ab52932f9412e49872aa65c17e997893c042ccfe67e97", func := "planimeter/planimeterlaw01.NatBack", spec := "natBack", inPlace := ["math/bits.Sub64", "math/bits.Add64"], unfollowed := true, recurses := true, named := ["math/bits.deBruijn64tab"], apart := false, laid := [("math/bits.deBruijn64tab", laid_math_bits_deBruijn64tab)], narrowed := true }
def NatBackUptoSaid : Prop := natBackUptoRow.holds Tryd.pinned (OpenSpec.upto natBackSpec)

/-- 'planimeterlaw20.SpecialPow', WHERE WHAT IT READS IS OF BULK AT MOST 1048576: true; the input reads as it did. -/
def specialPowUptoRow : OpenClaim := { program := "ytkddalmjhmgbeaadoor", sum := "2375e27a149dab54af5ab52932f9412e49872aa65c17e997893c042ccfe67e97", func := "planimeter/planimeterlaw20.SpecialPow", spec := "specialPow", named := ["math/bits.deBruijn64tab"], apart := false, laid := [("math/bits.deBruijn64tab", laid_math_bits_deBruijn64tab)], narrowed := true }
def SpecialPowUptoSaid : Prop := specialPowUptoRow.holds Tryd.pinned (OpenSpec.upto specialPowSpec)

/-- 'planimeterlaw06.FloatExact', WHERE WHAT IT READS IS OF BULK AT MOST 1048576: true; the input reads as it did. -/
def floatExactUptoRow : OpenClaim := { program := "ytkddalmjhmgbeaadoor", sum := "2375e27a149dab54af5ab52932f9412e49872aa65c17e997893c042ccfe67e97", func := "planimeter/planimeterlaw06.FloatExact", spec := "floatExact", named := ["math/bits.deBruijn64tab"], apart := false, laid := [("math/bits.deBruijn64tab", laid_math_bits_deBruijn64tab)], narrowed := true }
def FloatExactUptoSaid : Prop := floatExactUptoRow.holds Tryd.pinned (OpenSpec.upto floatExactSpec)

/-- 'planimeterlaw06.FloatTells', WHERE WHAT IT READS IS OF BULK AT MOST 1048576: true; the input reads as it did. -/
def floatTellsUptoRow : OpenClaim := { program := "ytkddalmjhmgbeaadoor", sum := "2375e27a149dab54af5ab52932f9412e49872aa65c17e997893c042ccfe67e97", func := "planimeter/planimeterlaw06.FloatTells", spec := "floatTells", named := ["math/bits.deBruijn64tab"], apart := false, laid := [("math/bits.deBruijn64tab", laid_math_bits_deBruijn64tab)], narrowed := true }
def FloatTellsUptoSaid : Prop := floatTellsUptoRow.holds Tryd.pinned (OpenSpec.upto floatTellsSpec)

/-- 'planimeterlaw06.FloatWhole', WHERE WHAT IT READS IS OF BULK AT MOST 1048576: true; the input reads as it did. -/
def floatWholeUptoRow : OpenClaim := { program := "ytkddalmjhmgbeaadoor", sum := "2375e27a149dab54af5ab52932f9412e49872aa65c17e997893c042ccfe67e97", func := "planimeter/planimeterlaw06.FloatWhole", spec := "floatWhole", named := ["math/bits.deBruijn64tab"], apart := false, laid := [("math/bits.deBruijn64tab", laid_math_bits_deBruijn64tab)], narrowed := true }
def FloatWholeUptoSaid : Prop := floatWholeUptoRow.holds Tryd.pinned (OpenSpec.upto floatWholeSpec)

/-- 'planimeterlaw20.SpecialAgree', WHERE WHAT IT READS IS OF BULK AT MOST 1048576: true; the input reads as it did. -/
def specialAgreeUptoRow : OpenClaim := { program := "ytkddalmjhmgbeaadoor", sum := "2375e27a149dab54af5ab52932f9412e49872aa65c17e997893c042ccfe67e97", func := "planimeter/planimeterlaw20.SpecialAgree", spec := "specialAgree", named := ["math/bits.deBruijn64tab"], apart := false, laid := [("math/bits.deBruijn64tab", laid_math_bits_deBruijn64tab)], narrowed := true }
def SpecialAgreeUptoSaid : Prop := specialAgreeUptoRow.holds Tryd.pinned (OpenSpec.upto specialAgreeSpec)

/-- 'planimeterlaw20.SpecialEven', WHERE WHAT IT READS IS OF BULK AT MOST 1048576: true; the input reads as it did. -/
def specialEvenUptoRow : OpenClaim := { program := "ytkddalmjhmgbeaadoor", sum := "2375e27a149dab54af5ab52932f9412e49872aa65c17e997893c042ccfe67e97", func := "planimeter/planimeterlaw20.SpecialEven", spec := "specialEven", named := ["math/bits.deBruijn64tab"], apart := false, laid := [("math/bits.deBruijn64tab", laid_math_bits_deBruijn64tab)], narrowed := true }
def SpecialEvenUptoSaid : Prop := specialEvenUptoRow.holds Tryd.pinned (OpenSpec.upto specialEvenSpec)

/-- 'planimeterlaw20.SpecialWhole', WHERE WHAT IT READS IS OF BULK AT MOST 1048576: true; the input reads as it did. -/
def specialWholeUptoRow : OpenClaim := { program := "ytkddalmjhmgbeaadoor", sum := "2375e27a149dab54af5ab52932f9412e49872aa65c17e997893c042ccfe67e97", func := "planimeter/planimeterlaw20.SpecialWhole", spec := "specialWhole", named := ["math/bits.deBruijn64tab"], apart := false, laid := [("math/bits.deBruijn64tab", laid_math_bits_deBruijn64tab)], narrowed := true }
def SpecialWholeUptoSaid : Prop := specialWholeUptoRow.holds Tryd.pinned (OpenSpec.upto specialWholeSpec)

/-- 'planimeterlaw07.RoundTo', WHERE WHAT IT READS IS OF BULK AT MOST 1048576: true; the input reads as it did. -/
def roundToUptoRow : OpenClaim := { program := "ytkddalmjhmgbeaadoor", sum := "2375e27a149dab54af5ab52932f9412e49872aa65c17e997893c042ccfe67e97", func := "planimeter/planimeterlaw07.RoundTo", spec := "roundTo", inPlace := ["math/bits.Add64"], named := ["math/bits.deBruijn64tab"], apart := false, laid := [("math/bits.deBruijn64tab", laid_math_bits_deBruijn64tab)], narrowed := true }
def RoundToUptoSaid : Prop := roundToUptoRow.holds Tryd.pinned (OpenSpec.upto roundToSpec)

end Rows
end Go.Proofs.YtkddalmjhmgbeaaDoor
