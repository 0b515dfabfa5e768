/-
  NARROWER THAN 'FOR EVERY INPUT', by the rows' own cells (each row's printed sentence says how): SpecialAgree: laid · RoundTo: laid · FloatBack: laid · NextTells: laid · NextCount: laid · DyadRules: laid · NextBreaks: laid · UlpsPlaces: laid · RoundOrder: laid · RoundMore: laid · NextBack: laid · UlpsOff: laid.
  DERIVED. THE GIVEN ROWS OF THIS SEAT. 12 by the template 'for every input the law returns true; each argument reads behind the call as it read before'; 0 by the template 'total and deterministic' (their statements: YtflpcgcgeffolaaDoorTotals.lean).
  GIVEN WITH THE SEED: the statements are not yours to turn. If you find one false, say at which input.
  Laid BY PROGRAM, IN A SANDBOX (cutbox-rows.mjs): the forced cells as the released guide's own fill.sh prints them over the translation a85657808313247d… (all of the seat's roots in one cut). By AI agents, Wed Nov 11 2026. No macro, syntax, notation, axiom, sorry.
-/
import Derived.Test.YtflpcgcgeffolaaDoorChecked
import GoSem.Claim
import GoSem.ClaimJoined
import GoSem.ClaimMapViews
import Derived.JoinedTies
import Derived.KernelRfl
namespace Go.Proofs.YtflpcgcgeffolaaDoor
/- THE CELL 'sum', in the pinned program and in every row, IS THE sha256 OF THE DUMP (.gsa) THAT YtflpcgcgeffolaaDoorProg.lean LOADS. Nothing in Lean hashes anything: it is a label: what it is worth is what the hold of that sum in a sandbox is worth. -/
noncomputable def Tryd.pinned : Pinned := { name := "ytflpcgcgeffolaadoor", sum := "a85657808313247d3e4c820f34bcb9fb5a33391cea2183edc7c34bfd1005e012", checked := Tryd.checked }
namespace Rows
def none {H : Type} : Left H := { results := [], args := [] }

/- WHAT THE LISTED PACKAGE-LEVEL VARIABLES READ AS WHEN THE CALL BEGINS. Each datum BY PROGRAM (the guide's laid-datum.mjs) off the statement by which the dump's own 'gosem.cut.vars' lays the variable. In a bare row this is a premise. The card (YtflpcgcgeffolaaDoorCards.lean) ties it to the program's text. -/
def laid_math_bits_deBruijn64tab {H : Type} : DataW H := .agg [.lit (.int .u8 0), .lit (.int .u8 1), .lit (.int .u8 56), .lit (.int .u8 2), .lit (.int .u8 57), .lit (.int .u8 49), .lit (.int .u8 28), .lit (.int .u8 3), .lit (.int .u8 61), .lit (.int .u8 58), .lit (.int .u8 42), .lit (.int .u8 50), .lit (.int .u8 38), .lit (.int .u8 29), .lit (.int .u8 17), .lit (.int .u8 4), .lit (.int .u8 62), .lit (.int .u8 47), .lit (.int .u8 59), .lit (.int .u8 36), .lit (.int .u8 45), .lit (.int .u8 43), .lit (.int .u8 51), .lit (.int .u8 22), .lit (.int .u8 53), .lit (.int .u8 39), .lit (.int .u8 33), .lit (.int .u8 30), .lit (.int .u8 24), .lit (.int .u8 18), .lit (.int .u8 12), .lit (.int .u8 5), .lit (.int .u8 63), .lit (.int .u8 55), .lit (.int .u8 48), .lit (.int .u8 27), .lit (.int .u8 60), .lit (.int .u8 41), .lit (.int .u8 37), .lit (.int .u8 16), .lit (.int .u8 46), .lit (.int .u8 35), .lit (.int .u8 44), .lit (.int .u8 21), .lit (.int .u8 52), .lit (.int .u8 32), .lit (.int .u8 23), .lit (.int .u8 11), .lit (.int .u8 54), .lit (.int .u8 26), .lit (.int .u8 40), .lit (.int .u8 15), .lit (.int .u8 34), .lit (.int .u8 20), .lit (.int .u8 31), .lit (.int .u8 10), .lit (.int .u8 25), .lit (.int .u8 14), .lit (.int .u8 19), .lit (.int .u8 9), .lit (.int .u8 13), .lit (.int .u8 8), .lit (.int .u8 7), .lit (.int .u8 6)]

/-- 'planimeterlaw20.SpecialAgree': WHATEVER THE INPUT: true; the input reads as it did. -/
def specialAgreeSpec : ChangeSpec := { name := "specialAgree", fn := fun _ => fun
  | [d1, d2, d3] => { results := [.lit (.bool true)], args := [d1, d2, d3] }
  | _ => none }
def specialAgreeRow : OpenClaim := { program := "ytflpcgcgeffolaadoor", sum := "a85657808313247d3e4c820f34bcb9fb5a33391cea2183edc7c34bfd1005e012", func := "planimeter/planimeterlaw20.SpecialAgree", spec := "specialAgree", named := ["math/bits.deBruijn64tab"], apart := false, laid := [("math/bits.deBruijn64tab", laid_math_bits_deBruijn64tab)] }
def SpecialAgreeSaid : Prop := specialAgreeRow.holds Tryd.pinned (OpenSpec.ofChange specialAgreeSpec)

/-- ITS FALSE NEIGHBOUR: 'it returns false'. Refute it at one input. -/
def specialAgreeWrong : ChangeSpec := { name := "specialAgree", fn := fun _ => fun
  | [d1, d2, d3] => { results := [.lit (.bool false)], args := [d1, d2, d3] }
  | _ => none }
def SpecialAgreeWrongFalsely : Prop := specialAgreeRow.holds Tryd.pinned (OpenSpec.ofChange specialAgreeWrong)

/-- 'planimeterlaw07.RoundTo': WHATEVER THE INPUT: true; the input reads as it did. -/
def roundToSpec : ChangeSpec := { name := "roundTo", fn := fun _ => fun
  | [d1, d2, d3] => { results := [.lit (.bool true)], args := [d1, d2, d3] }
  | _ => none }
def roundToRow : OpenClaim := { program := "ytflpcgcgeffolaadoor", sum := "a85657808313247d3e4c820f34bcb9fb5a33391cea2183edc7c34bfd1005e012", func := "planimeter/planimeterlaw07.RoundTo", spec := "roundTo", inPlace := ["math/bits.Add64"], named := ["math/bits.deBruijn64tab"], apart := false, laid := [("math/bits.deBruijn64tab", laid_math_bits_deBruijn64tab)] }
def RoundToSaid : Prop := roundToRow.holds Tryd.pinned (OpenSpec.ofChange roundToSpec)

/-- ITS FALSE NEIGHBOUR: 'it returns false'. Refute it at one input. -/
def roundToWrong : ChangeSpec := { name := "roundTo", fn := fun _ => fun
  | [d1, d2, d3] => { results := [.lit (.bool false)], args := [d1, d2, d3] }
  | _ => none }
def RoundToWrongFalsely : Prop := roundToRow.holds Tryd.pinned (OpenSpec.ofChange roundToWrong)

/-- 'planimeterlaw06.FloatBack': WHATEVER THE INPUT: true; the input reads as it did. -/
def floatBackSpec : ChangeSpec := { name := "floatBack", fn := fun _ => fun
  | [d1, d2] => { results := [.lit (.bool true)], args := [d1, d2] }
  | _ => none }
def floatBackRow : OpenClaim := { program := "ytflpcgcgeffolaadoor", sum := "a85657808313247d3e4c820f34bcb9fb5a33391cea2183edc7c34bfd1005e012", func := "planimeter/planimeterlaw06.FloatBack", spec := "floatBack", unfollowed := true, recurses := true, named := ["math/bits.deBruijn64tab"], apart := false, laid := [("math/bits.deBruijn64tab", laid_math_bits_deBruijn64tab)] }
def FloatBackSaid : Prop := floatBackRow.holds Tryd.pinned (OpenSpec.ofChange floatBackSpec)

/-- ITS FALSE NEIGHBOUR: 'it returns false'. Refute it at one input. -/
def floatBackWrong : ChangeSpec := { name := "floatBack", fn := fun _ => fun
  | [d1, d2] => { results := [.lit (.bool false)], args := [d1, d2] }
  | _ => none }
def FloatBackWrongFalsely : Prop := floatBackRow.holds Tryd.pinned (OpenSpec.ofChange floatBackWrong)

/-- 'planimeterlaw08.NextTells': WHATEVER THE INPUT: true; the input reads as it did. -/
def nextTellsSpec : ChangeSpec := { name := "nextTells", fn := fun _ => fun
  | [d] => { results := [.lit (.bool true)], args := [d] }
  | _ => none }
def nextTellsRow : OpenClaim := { program := "ytflpcgcgeffolaadoor", sum := "a85657808313247d3e4c820f34bcb9fb5a33391cea2183edc7c34bfd1005e012", func := "planimeter/planimeterlaw08.NextTells", spec := "nextTells", inPlace := ["math/bits.Add64", "math/bits.Sub64"], unfollowed := true, recurses := true, named := ["math/bits.deBruijn64tab"], apart := false, laid := [("math/bits.deBruijn64tab", laid_math_bits_deBruijn64tab)] }
def NextTellsSaid : Prop := nextTellsRow.holds Tryd.pinned (OpenSpec.ofChange nextTellsSpec)

/-- ITS FALSE NEIGHBOUR: 'it returns false'. Refute it at one input. -/
def nextTellsWrong : ChangeSpec := { name := "nextTells", fn := fun _ => fun
  | [d] => { results := [.lit (.bool false)], args := [d] }
  | _ => none }
def NextTellsWrongFalsely : Prop := nextTellsRow.holds Tryd.pinned (OpenSpec.ofChange nextTellsWrong)

/-- 'planimeterlaw08.NextCount': WHATEVER THE INPUT: true; the input reads as it did. -/
def nextCountSpec : ChangeSpec := { name := "nextCount", fn := fun _ => fun
  | [d1, d2] => { results := [.lit (.bool true)], args := [d1, d2] }
  | _ => none }
def nextCountRow : OpenClaim := { program := "ytflpcgcgeffolaadoor", sum := "a85657808313247d3e4c820f34bcb9fb5a33391cea2183edc7c34bfd1005e012", func := "planimeter/planimeterlaw08.NextCount", spec := "nextCount", inPlace := ["math/bits.Add64", "math/bits.Sub64"], unfollowed := true, recurses := true, named := ["math/bits.deBruijn64tab"], apart := false, laid := [("math/bits.deBruijn64tab", laid_math_bits_deBruijn64tab)] }
def NextCountSaid : Prop := nextCountRow.holds Tryd.pinned (OpenSpec.ofChange nextCountSpec)

/-- ITS FALSE NEIGHBOUR: 'it returns false'. Refute it at one input. -/
def nextCountWrong : ChangeSpec := { name := "nextCount", fn := fun _ => fun
  | [d1, d2] => { results := [.lit (.bool false)], args := [d1, d2] }
  | _ => none }
def NextCountWrongFalsely : Prop := nextCountRow.holds Tryd.pinned (OpenSpec.ofChange nextCountWrong)

/-- 'planimeterlaw05.DyadRules': WHATEVER THE INPUT: true; the input reads as it did. -/
def dyadRulesSpec : ChangeSpec := { name := "dyadRules", fn := fun _ => fun
  | [d1, d2, d3] => { results := [.lit (.bool true)], args := [d1, d2, d3] }
  | _ => none }
def dyadRulesRow : OpenClaim := { program := "ytflpcgcgeffolaadoor", sum := "a85657808313247d3e4c820f34bcb9fb5a33391cea2183edc7c34bfd1005e012", func := "planimeter/planimeterlaw05.DyadRules", spec := "dyadRules", inPlace := ["math/bits.Add64", "math/bits.Sub64"], unfollowed := true, recurses := true, named := ["math/bits.deBruijn64tab"], apart := false, laid := [("math/bits.deBruijn64tab", laid_math_bits_deBruijn64tab)] }
def DyadRulesSaid : Prop := dyadRulesRow.holds Tryd.pinned (OpenSpec.ofChange dyadRulesSpec)

/-- ITS FALSE NEIGHBOUR: 'it returns false'. Refute it at one input. -/
def dyadRulesWrong : ChangeSpec := { name := "dyadRules", fn := fun _ => fun
  | [d1, d2, d3] => { results := [.lit (.bool false)], args := [d1, d2, d3] }
  | _ => none }
def DyadRulesWrongFalsely : Prop := dyadRulesRow.holds Tryd.pinned (OpenSpec.ofChange dyadRulesWrong)

/-- 'planimeterlaw08.NextBreaks': WHATEVER THE INPUT: true; the input reads as it did. -/
def nextBreaksSpec : ChangeSpec := { name := "nextBreaks", fn := fun _ => fun
  | [d] => { results := [.lit (.bool true)], args := [d] }
  | _ => none }
def nextBreaksRow : OpenClaim := { program := "ytflpcgcgeffolaadoor", sum := "a85657808313247d3e4c820f34bcb9fb5a33391cea2183edc7c34bfd1005e012", func := "planimeter/planimeterlaw08.NextBreaks", spec := "nextBreaks", inPlace := ["math/bits.Add64", "math/bits.Sub64"], unfollowed := true, recurses := true, named := ["math/bits.deBruijn64tab"], apart := false, laid := [("math/bits.deBruijn64tab", laid_math_bits_deBruijn64tab)] }
def NextBreaksSaid : Prop := nextBreaksRow.holds Tryd.pinned (OpenSpec.ofChange nextBreaksSpec)

/-- ITS FALSE NEIGHBOUR: 'it returns false'. Refute it at one input. -/
def nextBreaksWrong : ChangeSpec := { name := "nextBreaks", fn := fun _ => fun
  | [d] => { results := [.lit (.bool false)], args := [d] }
  | _ => none }
def NextBreaksWrongFalsely : Prop := nextBreaksRow.holds Tryd.pinned (OpenSpec.ofChange nextBreaksWrong)

/-- 'planimeterlaw34.UlpsPlaces': WHATEVER THE INPUT: true; the input reads as it did. -/
def ulpsPlacesSpec : ChangeSpec := { name := "ulpsPlaces", fn := fun _ => fun
  | [d1, d2, d3] => { results := [.lit (.bool true)], args := [d1, d2, d3] }
  | _ => none }
def ulpsPlacesRow : OpenClaim := { program := "ytflpcgcgeffolaadoor", sum := "a85657808313247d3e4c820f34bcb9fb5a33391cea2183edc7c34bfd1005e012", func := "planimeter/planimeterlaw34.UlpsPlaces", spec := "ulpsPlaces", inPlace := ["math/bits.Add64", "math/bits.Sub64"], unfollowed := true, recurses := true, named := ["math/bits.deBruijn64tab"], apart := false, laid := [("math/bits.deBruijn64tab", laid_math_bits_deBruijn64tab)] }
def UlpsPlacesSaid : Prop := ulpsPlacesRow.holds Tryd.pinned (OpenSpec.ofChange ulpsPlacesSpec)

/-- ITS FALSE NEIGHBOUR: 'it returns false'. Refute it at one input. -/
def ulpsPlacesWrong : ChangeSpec := { name := "ulpsPlaces", fn := fun _ => fun
  | [d1, d2, d3] => { results := [.lit (.bool false)], args := [d1, d2, d3] }
  | _ => none }
def UlpsPlacesWrongFalsely : Prop := ulpsPlacesRow.holds Tryd.pinned (OpenSpec.ofChange ulpsPlacesWrong)

/-- 'planimeterlaw07.RoundOrder': WHATEVER THE INPUT: true; the input reads as it did. -/
def roundOrderSpec : ChangeSpec := { name := "roundOrder", fn := fun _ => fun
  | [d1, d2, d3, d4] => { results := [.lit (.bool true)], args := [d1, d2, d3, d4] }
  | _ => none }
def roundOrderRow : OpenClaim := { program := "ytflpcgcgeffolaadoor", sum := "a85657808313247d3e4c820f34bcb9fb5a33391cea2183edc7c34bfd1005e012", func := "planimeter/planimeterlaw07.RoundOrder", spec := "roundOrder", inPlace := ["math/bits.Add64"], unfollowed := true, recurses := true, named := ["math/bits.deBruijn64tab"], apart := false, laid := [("math/bits.deBruijn64tab", laid_math_bits_deBruijn64tab)] }
def RoundOrderSaid : Prop := roundOrderRow.holds Tryd.pinned (OpenSpec.ofChange roundOrderSpec)

/-- ITS FALSE NEIGHBOUR: 'it returns false'. Refute it at one input. -/
def roundOrderWrong : ChangeSpec := { name := "roundOrder", fn := fun _ => fun
  | [d1, d2, d3, d4] => { results := [.lit (.bool false)], args := [d1, d2, d3, d4] }
  | _ => none }
def RoundOrderWrongFalsely : Prop := roundOrderRow.holds Tryd.pinned (OpenSpec.ofChange roundOrderWrong)

/-- 'planimeterlaw07.RoundMore': WHATEVER THE INPUT: true; the input reads as it did. -/
def roundMoreSpec : ChangeSpec := { name := "roundMore", fn := fun _ => fun
  | [d1, d2] => { results := [.lit (.bool true)], args := [d1, d2] }
  | _ => none }
def roundMoreRow : OpenClaim := { program := "ytflpcgcgeffolaadoor", sum := "a85657808313247d3e4c820f34bcb9fb5a33391cea2183edc7c34bfd1005e012", func := "planimeter/planimeterlaw07.RoundMore", spec := "roundMore", inPlace := ["math/bits.Add64", "math/bits.Sub64"], unfollowed := true, recurses := true, named := ["math/bits.deBruijn64tab"], apart := false, laid := [("math/bits.deBruijn64tab", laid_math_bits_deBruijn64tab)] }
def RoundMoreSaid : Prop := roundMoreRow.holds Tryd.pinned (OpenSpec.ofChange roundMoreSpec)

/-- ITS FALSE NEIGHBOUR: 'it returns false'. Refute it at one input. -/
def roundMoreWrong : ChangeSpec := { name := "roundMore", fn := fun _ => fun
  | [d1, d2] => { results := [.lit (.bool false)], args := [d1, d2] }
  | _ => none }
def RoundMoreWrongFalsely : Prop := roundMoreRow.holds Tryd.pinned (OpenSpec.ofChange roundMoreWrong)

/-- 'planimeterlaw08.NextBack': WHATEVER THE INPUT: true; the input reads as it did. -/
def nextBackSpec : ChangeSpec := { name := "nextBack", fn := fun _ => fun
  | [d] => { results := [.lit (.bool true)], args := [d] }
  | _ => none }
def nextBackRow : OpenClaim := { program := "ytflpcgcgeffolaadoor", sum := "a85657808313247d3e4c820f34bcb9fb5a33391cea2183edc7c34bfd1005e012", func := "planimeter/planimeterlaw08.NextBack", spec := "nextBack", inPlace := ["math/bits.Add64", "math/bits.Sub64"], unfollowed := true, recurses := true, named := ["math/bits.deBruijn64tab"], apart := false, laid := [("math/bits.deBruijn64tab", laid_math_bits_deBruijn64tab)] }
def NextBackSaid : Prop := nextBackRow.holds Tryd.pinned (OpenSpec.ofChange nextBackSpec)

/-- ITS FALSE NEIGHBOUR: 'it returns false'. Refute it at one input. -/
def nextBackWrong : ChangeSpec := { name := "nextBack", fn := fun _ => fun
  | [d] => { results := [.lit (.bool false)], args := [d] }
  | _ => none }
def NextBackWrongFalsely : Prop := nextBackRow.holds Tryd.pinned (OpenSpec.ofChange nextBackWrong)

/-- 'planimeterlaw34.UlpsOff': WHATEVER THE INPUT: true; the input reads as it did. -/
def ulpsOffSpec : ChangeSpec := { name := "ulpsOff", fn := fun _ => fun
  | [d1, d2, d3] => { results := [.lit (.bool true)], args := [d1, d2, d3] }
  | _ => none }
def ulpsOffRow : OpenClaim := { program := "ytflpcgcgeffolaadoor", sum := "a85657808313247d3e4c820f34bcb9fb5a33391cea2183edc7c34bfd1005e012", func := "planimeter/planimeterlaw34.UlpsOff", spec := "ulpsOff", inPlace := ["math/bits.Add64", "math/bits.Sub64"], unfollowed := true, recurses := true, named := ["math/bits.deBruijn64tab"], apart := false, laid := [("math/bits.deBruijn64tab", laid_math_bits_deBruijn64tab)] }
def UlpsOffSaid : Prop := ulpsOffRow.holds Tryd.pinned (OpenSpec.ofChange ulpsOffSpec)

/-- ITS FALSE NEIGHBOUR: 'it returns false'. Refute it at one input. -/
def ulpsOffWrong : ChangeSpec := { name := "ulpsOff", fn := fun _ => fun
  | [d1, d2, d3] => { results := [.lit (.bool false)], args := [d1, d2, d3] }
  | _ => none }
def UlpsOffWrongFalsely : Prop := ulpsOffRow.holds Tryd.pinned (OpenSpec.ofChange ulpsOffWrong)

/- THE SECOND FORM. 'bulk': how many values and letters a reading holds, each counted each time it is reached (what is shared counts as often as it is met; a slice's spare places count too). A statement '..UptoSaid' is the law's where the arguments, and the package variables that the reading takes, are together of bulk at most 1048576: NARROWER than '..Said'. Prove '..Said' where nothing that the law and all that it calls make is longer than what came in: it says more and counts as full. Else prove '..UptoSaid'. A law counts once. -/
mutual
def uptoBulk {H : Type} : DataW H → Nat
  | .lit (.string bytes) => bytes.length + 1
  | .lit _ => 1
  | .nil => 1
  | .ptr d => uptoBulk d + 1
  | .slice elems spare => uptoBulkAll elems + uptoBulkAll spare + 1
  | .agg parts => uptoBulkAll parts + 1
  | .iface _ d => uptoBulk d + 1
  | .map entries => uptoBulkEntries entries + 1
  | .held _ => 1
def uptoBulkAll {H : Type} : List (DataW H) → Nat
  | [] => 0
  | d :: r => uptoBulk d + uptoBulkAll r
def uptoBulkEntries {H : Type} : List (Lit × DataW H) → Nat
  | [] => 0
  | x :: r => uptoBulkEntry x + uptoBulkEntries r
def uptoBulkEntry {H : Type} : Lit × DataW H → Nat
  | (.string bytes, d) => bytes.length + uptoBulk d + 1
  | (_, d) => uptoBulk d + 1
 end
def uptoSmall : (H : Type) → List (DataW H) → Bool := fun _ ds => decide (uptoBulkAll ds ≤ 1048576)
def OpenSpec.upto (s : _root_.Go.ChangeSpec) : _root_.Go.OpenSpec := { _root_.Go.OpenSpec.ofChange s with cond := some uptoSmall }

/-- 'planimeterlaw20.SpecialAgree', WHERE WHAT IT READS IS OF BULK AT MOST 1048576: true; the input reads as it did. -/
def specialAgreeUptoRow : OpenClaim := { program := "ytflpcgcgeffolaadoor", sum := "a85657808313247d3e4c820f34bcb9fb5a33391cea2183edc7c34bfd1005e012", func := "planimeter/planimeterlaw20.SpecialAgree", spec := "specialAgree", named := ["math/bits.deBruijn64tab"], apart := false, laid := [("math/bits.deBruijn64tab", laid_math_bits_deBruijn64tab)], narrowed := true }
def SpecialAgreeUptoSaid : Prop := specialAgreeUptoRow.holds Tryd.pinned (OpenSpec.upto specialAgreeSpec)

/-- 'planimeterlaw07.RoundTo', WHERE WHAT IT READS IS OF BULK AT MOST 1048576: true; the input reads as it did. -/
def roundToUptoRow : OpenClaim := { program := "ytflpcgcgeffolaadoor", sum := "a85657808313247d3e4c820f34bcb9fb5a33391cea2183edc7c34bfd1005e012", func := "planimeter/planimeterlaw07.RoundTo", spec := "roundTo", inPlace := ["math/bits.Add64"], named := ["math/bits.deBruijn64tab"], apart := false, laid := [("math/bits.deBruijn64tab", laid_math_bits_deBruijn64tab)], narrowed := true }
def RoundToUptoSaid : Prop := roundToUptoRow.holds Tryd.pinned (OpenSpec.upto roundToSpec)

/-- 'planimeterlaw06.FloatBack', WHERE WHAT IT READS IS OF BULK AT MOST 1048576: true; the input reads as it did. -/
def floatBackUptoRow : OpenClaim := { program := "ytflpcgcgeffolaadoor", sum := "a85657808313247d3e4c820f34bcb9fb5a33391cea2183edc7c34bfd1005e012", func := "planimeter/planimeterlaw06.FloatBack", spec := "floatBack", unfollowed := true, recurses := true, named := ["math/bits.deBruijn64tab"], apart := false, laid := [("math/bits.deBruijn64tab", laid_math_bits_deBruijn64tab)], narrowed := true }
def FloatBackUptoSaid : Prop := floatBackUptoRow.holds Tryd.pinned (OpenSpec.upto floatBackSpec)

/-- 'planimeterlaw08.NextTells', WHERE WHAT IT READS IS OF BULK AT MOST 1048576: true; the input reads as it did. -/
def nextTellsUptoRow : OpenClaim := { program := "ytflpcgcgeffolaadoor", sum := "a85657808313247d3e4c820f34bcb9fb5a33391cea2183edc7c34bfd1005e012", func := "planimeter/planimeterlaw08.NextTells", spec := "nextTells", inPlace := ["math/bits.Add64", "math/bits.Sub64"], unfollowed := true, recurses := true, named := ["math/bits.deBruijn64tab"], apart := false, laid := [("math/bits.deBruijn64tab", laid_math_bits_deBruijn64tab)], narrowed := true }
def NextTellsUptoSaid : Prop := nextTellsUptoRow.holds Tryd.pinned (OpenSpec.upto nextTellsSpec)

/-- 'planimeterlaw08.NextCount', WHERE WHAT IT READS IS OF BULK AT MOST 1048576: true; the input reads as it did. -/
def nextCountUptoRow : OpenClaim := { program := "ytflpcgcgeffolaadoor", sum := "a85657808313247d3e4c820f34bcb9fb5a33391cea2183edc7c34bfd1005e012", func := "planimeter/planimeterlaw08.NextCount", spec := "nextCount", inPlace := ["math/bits.Add64", "math/bits.Sub64"], unfollowed := true, recurses := true, named := ["math/bits.deBruijn64tab"], apart := false, laid := [("math/bits.deBruijn64tab", laid_math_bits_deBruijn64tab)], narrowed := true }
def NextCountUptoSaid : Prop := nextCountUptoRow.holds Tryd.pinned (OpenSpec.upto nextCountSpec)

/-- 'planimeterlaw05.DyadRules', WHERE WHAT IT READS IS OF BULK AT MOST 1048576: true; the input reads as it did. -/
def dyadRulesUptoRow : OpenClaim := { program := "ytflpcgcgeffolaadoor", sum := "a85657808313247d3e4c820f34bcb9fb5a33391cea2183edc7c34bfd1005e012", func := "planimeter/planimeterlaw05.DyadRules", spec := "dyadRules", inPlace := ["math/bits.Add64", "math/bits.Sub64"], unfollowed := true, recurses := true, named := ["math/bits.deBruijn64tab"], apart := false, laid := [("math/bits.deBruijn64tab", laid_math_bits_deBruijn64tab)], narrowed := true }
def DyadRulesUptoSaid : Prop := dyadRulesUptoRow.holds Tryd.pinned (OpenSpec.upto dyadRulesSpec)

/-- 'planimeterlaw08.NextBreaks', WHERE WHAT IT READS IS OF BULK AT MOST 1048576: true; the input reads as it did. -/
def nextBreaksUptoRow : OpenClaim := { program := "ytflpcgcgeffolaadoor", sum := "a85657808313247d3e4c820f34bcb9fb5a33391cea2183edc7c34bfd1005e012", func := "planimeter/planimeterlaw08.NextBreaks", spec := "nextBreaks", inPlace := ["math/bits.Add64", "math/bits.Sub64"], unfollowed := true, recurses := true, named := ["math/bits.deBruijn64tab"], apart := false, laid := [("math/bits.deBruijn64tab", laid_math_bits_deBruijn64tab)], narrowed := true }
def NextBreaksUptoSaid : Prop := nextBreaksUptoRow.holds Tryd.pinned (OpenSpec.upto nextBreaksSpec)

/-- 'planimeterlaw34.UlpsPlaces', WHERE WHAT IT READS IS OF BULK AT MOST 1048576: true; the input reads as it did. -/
def ulpsPlacesUptoRow : OpenClaim := { program := "ytflpcgcgeffolaadoor", sum := "a85657808313247d3e4c820f34bcb9fb5a33391cea2183edc7c34bfd1005e012", func := "planimeter/planimeterlaw34.UlpsPlaces", spec := "ulpsPlaces", inPlace := ["math/bits.Add64", "math/bits.Sub64"], unfollowed := true, recurses := true, named := ["math/bits.deBruijn64tab"], apart := false, laid := [("math/bits.deBruijn64tab", laid_math_bits_deBruijn64tab)], narrowed := true }
def UlpsPlacesUptoSaid : Prop := ulpsPlacesUptoRow.holds Tryd.pinned (OpenSpec.upto ulpsPlacesSpec)

/-- 'planimeterlaw07.RoundOrder', WHERE WHAT IT READS IS OF BULK AT MOST 1048576: true; the input reads as it did. -/
def roundOrderUptoRow : OpenClaim := { program := "ytflpcgcgeffolaadoor", sum := "a85657808313247d3e4c820f34bcb9fb5a33391cea2183edc7c34bfd1005e012", func := "planimeter/planimeterlaw07.RoundOrder", spec := "roundOrder", inPlace := ["math/bits.Add64"], unfollowed := true, recurses := true, named := ["math/bits.deBruijn64tab"], apart := false, laid := [("math/bits.deBruijn64tab", laid_math_bits_deBruijn64tab)], narrowed := true }
def RoundOrderUptoSaid : Prop := roundOrderUptoRow.holds Tryd.pinned (OpenSpec.upto roundOrderSpec)

/-- 'planimeterlaw07.RoundMore', WHERE WHAT IT READS IS OF BULK AT MOST 1048576: true; the input reads as it did. -/
def roundMoreUptoRow : OpenClaim := { program := "ytflpcgcgeffolaadoor", sum := "a85657808313247d3e4c820f34bcb9fb5a33391cea2183edc7c34bfd1005e012", func := "planimeter/planimeterlaw07.RoundMore", spec := "roundMore", inPlace := ["math/bits.Add64", "math/bits.Sub64"], unfollowed := true, recurses := true, named := ["math/bits.deBruijn64tab"], apart := false, laid := [("math/bits.deBruijn64tab", laid_math_bits_deBruijn64tab)], narrowed := true }
def RoundMoreUptoSaid : Prop := roundMoreUptoRow.holds Tryd.pinned (OpenSpec.upto roundMoreSpec)

/-- 'planimeterlaw08.NextBack', WHERE WHAT IT READS IS OF BULK AT MOST 1048576: true; the input reads as it did. -/
def nextBackUptoRow : OpenClaim := { program := "ytflpcgcgeffolaadoor", sum := "a85657808313247d3e4c820f34bcb9fb5a33391cea2183edc7c34bfd1005e012", func := "planimeter/planimeterlaw08.NextBack", spec := "nextBack", inPlace := ["math/bits.Add64", "math/bits.Sub64"], unfollowed := true, recurses := true, named := ["math/bits.deBruijn64tab"], apart := false, laid := [("math/bits.deBruijn64tab", laid_math_bits_deBruijn64tab)], narrowed := true }
def NextBackUptoSaid : Prop := nextBackUptoRow.holds Tryd.pinned (OpenSpec.upto nextBackSpec)

/-- 'planimeterlaw34.UlpsOff', WHERE WHAT IT READS IS OF BULK AT MOST 1048576: true; the input reads as it did. -/
def ulpsOffUptoRow : OpenClaim := { program := "ytflpcgcgeffolaadoor", sum := "a85657808313247d3e4c820f34bcb9fb5a33391cea2183edc7c34bfd1005e012", func := "planimeter/planimeterlaw34.UlpsOff", spec := "ulpsOff", inPlace := ["math/bits.Add64", "math/bits.Sub64"], unfollowed := true, recurses := true, named := ["math/bits.deBruijn64tab"], apart := false, laid := [("math/bits.deBruijn64tab", laid_math_bits_deBruijn64tab)], narrowed := true }
def UlpsOffUptoSaid : Prop := ulpsOffUptoRow.holds Tryd.pinned (OpenSpec.upto ulpsOffSpec)

end Rows
end Go.Proofs.YtflpcgcgeffolaaDoor
