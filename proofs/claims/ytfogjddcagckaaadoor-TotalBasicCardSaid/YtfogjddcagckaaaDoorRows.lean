/-
  NARROWER THAN 'FOR EVERY INPUT', by the rows' own cells (each row's printed sentence says how): DyadRules: laid · IvTells: laid · IvRules: laid · IvNest: laid · UlpsOff: laid · IvShort: laid · TotalSums: laid · UlpsRules: laid · TotalJoins: laid · TotalMost: laid · TotalBasic: laid.
  DERIVED. THE GIVEN ROWS OF THIS SEAT. 11 by the template 'for every input the law returns true; each argument reads behind the call as it read before'; 0 by the template 'total and deterministic' (their statements: YtfogjddcagckaaaDoorTotals.lean).
  GIVEN WITH THE SEED: the statements are not yours to turn. If you find one false, say at which input.
  Laid BY PROGRAM, IN A SANDBOX (cutbox-rows.mjs): the forced cells as the released guide's own fill.sh prints them over the translation fa7c861b77f79b68… (all of the seat's roots in one cut). By AI agents, Wed Nov 11 2026. No macro, syntax, notation, axiom, sorry.
-/
import Derived.Test.YtfogjddcagckaaaDoorChecked
import GoSem.Claim
import GoSem.ClaimJoined
import GoSem.ClaimMapViews
import Derived.JoinedTies
import Derived.KernelRfl
namespace Go.Proofs.YtfogjddcagckaaaDoor
/- THE CELL 'sum', in the pinned program and in every row, IS THE sha256 OF THE DUMP (.gsa) THAT YtfogjddcagckaaaDoorProg.lean LOADS. Nothing in Lean hashes anything: it is a label: what it is worth is what the hold of that sum in a sandbox is worth. -/
noncomputable def Tryd.pinned : Pinned := { name := "ytfogjddcagckaaadoor", sum := "fa7c861b77f79b6823727215aa540dbad6d8c45dd7b3e90d5cdda1a7b0141d70", checked := Tryd.checked }
namespace Rows
def none {H : Type} : Left H := { results := [], args := [] }

/- WHAT THE LISTED PACKAGE-LEVEL VARIABLES READ AS WHEN THE CALL BEGINS. Each datum BY PROGRAM (the guide's laid-datum.mjs) off the statement by which the dump's own 'gosem.cut.vars' lays the variable. In a bare row this is a premise. The card (YtfogjddcagckaaaDoorCards.lean) ties it to the program's text. -/
def laid_math_bits_deBruijn64tab {H : Type} : DataW H := .agg [.lit (.int .u8 0), .lit (.int .u8 1), .lit (.int .u8 56), .lit (.int .u8 2), .lit (.int .u8 57), .lit (.int .u8 49), .lit (.int .u8 28), .lit (.int .u8 3), .lit (.int .u8 61), .lit (.int .u8 58), .lit (.int .u8 42), .lit (.int .u8 50), .lit (.int .u8 38), .lit (.int .u8 29), .lit (.int .u8 17), .lit (.int .u8 4), .lit (.int .u8 62), .lit (.int .u8 47), .lit (.int .u8 59), .lit (.int .u8 36), .lit (.int .u8 45), .lit (.int .u8 43), .lit (.int .u8 51), .lit (.int .u8 22), .lit (.int .u8 53), .lit (.int .u8 39), .lit (.int .u8 33), .lit (.int .u8 30), .lit (.int .u8 24), .lit (.int .u8 18), .lit (.int .u8 12), .lit (.int .u8 5), .lit (.int .u8 63), .lit (.int .u8 55), .lit (.int .u8 48), .lit (.int .u8 27), .lit (.int .u8 60), .lit (.int .u8 41), .lit (.int .u8 37), .lit (.int .u8 16), .lit (.int .u8 46), .lit (.int .u8 35), .lit (.int .u8 44), .lit (.int .u8 21), .lit (.int .u8 52), .lit (.int .u8 32), .lit (.int .u8 23), .lit (.int .u8 11), .lit (.int .u8 54), .lit (.int .u8 26), .lit (.int .u8 40), .lit (.int .u8 15), .lit (.int .u8 34), .lit (.int .u8 20), .lit (.int .u8 31), .lit (.int .u8 10), .lit (.int .u8 25), .lit (.int .u8 14), .lit (.int .u8 19), .lit (.int .u8 9), .lit (.int .u8 13), .lit (.int .u8 8), .lit (.int .u8 7), .lit (.int .u8 6)]

/-- 'planimeterlaw05.DyadRules': WHATEVER THE INPUT: true; the input reads as it did. -/
def dyadRulesSpec : ChangeSpec := { name := "dyadRules", fn := fun _ => fun
  | [d1, d2, d3] => { results := [.lit (.bool true)], args := [d1, d2, d3] }
  | _ => none }
def dyadRulesRow : OpenClaim := { program := "ytfogjddcagckaaadoor", sum := "fa7c861b77f79b6823727215aa540dbad6d8c45dd7b3e90d5cdda1a7b0141d70", func := "planimeter/planimeterlaw05.DyadRules", spec := "dyadRules", inPlace := ["math/bits.Add64", "math/bits.Sub64"], unfollowed := true, recurses := true, named := ["math/bits.deBruijn64tab"], apart := false, laid := [("math/bits.deBruijn64tab", laid_math_bits_deBruijn64tab)] }
def DyadRulesSaid : Prop := dyadRulesRow.holds Tryd.pinned (OpenSpec.ofChange dyadRulesSpec)

/-- ITS FALSE NEIGHBOUR: 'it returns false'. Refute it at one input. -/
def dyadRulesWrong : ChangeSpec := { name := "dyadRules", fn := fun _ => fun
  | [d1, d2, d3] => { results := [.lit (.bool false)], args := [d1, d2, d3] }
  | _ => none }
def DyadRulesWrongFalsely : Prop := dyadRulesRow.holds Tryd.pinned (OpenSpec.ofChange dyadRulesWrong)

/-- 'planimeterlaw15.IvTells': WHATEVER THE INPUT: true; the input reads as it did. -/
def ivTellsSpec : ChangeSpec := { name := "ivTells", fn := fun _ => fun
  | [d1, d2, d3] => { results := [.lit (.bool true)], args := [d1, d2, d3] }
  | _ => none }
def ivTellsRow : OpenClaim := { program := "ytfogjddcagckaaadoor", sum := "fa7c861b77f79b6823727215aa540dbad6d8c45dd7b3e90d5cdda1a7b0141d70", func := "planimeter/planimeterlaw15.IvTells", spec := "ivTells", inPlace := ["math/bits.Add64", "math/bits.Sub64"], unfollowed := true, recurses := true, named := ["math/bits.deBruijn64tab"], apart := false, laid := [("math/bits.deBruijn64tab", laid_math_bits_deBruijn64tab)] }
def IvTellsSaid : Prop := ivTellsRow.holds Tryd.pinned (OpenSpec.ofChange ivTellsSpec)

/-- ITS FALSE NEIGHBOUR: 'it returns false'. Refute it at one input. -/
def ivTellsWrong : ChangeSpec := { name := "ivTells", fn := fun _ => fun
  | [d1, d2, d3] => { results := [.lit (.bool false)], args := [d1, d2, d3] }
  | _ => none }
def IvTellsWrongFalsely : Prop := ivTellsRow.holds Tryd.pinned (OpenSpec.ofChange ivTellsWrong)

/-- 'planimeterlaw15.IvRules': WHATEVER THE INPUT: true; the input reads as it did. -/
def ivRulesSpec : ChangeSpec := { name := "ivRules", fn := fun _ => fun
  | [d1, d2, d3, d4] => { results := [.lit (.bool true)], args := [d1, d2, d3, d4] }
  | _ => none }
def ivRulesRow : OpenClaim := { program := "ytfogjddcagckaaadoor", sum := "fa7c861b77f79b6823727215aa540dbad6d8c45dd7b3e90d5cdda1a7b0141d70", func := "planimeter/planimeterlaw15.IvRules", spec := "ivRules", inPlace := ["math/bits.Add64", "math/bits.Sub64"], unfollowed := true, recurses := true, named := ["math/bits.deBruijn64tab"], apart := false, laid := [("math/bits.deBruijn64tab", laid_math_bits_deBruijn64tab)] }
def IvRulesSaid : Prop := ivRulesRow.holds Tryd.pinned (OpenSpec.ofChange ivRulesSpec)

/-- ITS FALSE NEIGHBOUR: 'it returns false'. Refute it at one input. -/
def ivRulesWrong : ChangeSpec := { name := "ivRules", fn := fun _ => fun
  | [d1, d2, d3, d4] => { results := [.lit (.bool false)], args := [d1, d2, d3, d4] }
  | _ => none }
def IvRulesWrongFalsely : Prop := ivRulesRow.holds Tryd.pinned (OpenSpec.ofChange ivRulesWrong)

/-- 'planimeterlaw15.IvNest': WHATEVER THE INPUT: true; the input reads as it did. -/
def ivNestSpec : ChangeSpec := { name := "ivNest", fn := fun _ => fun
  | [d1, d2, d3, d4, d5] => { results := [.lit (.bool true)], args := [d1, d2, d3, d4, d5] }
  | _ => none }
def ivNestRow : OpenClaim := { program := "ytfogjddcagckaaadoor", sum := "fa7c861b77f79b6823727215aa540dbad6d8c45dd7b3e90d5cdda1a7b0141d70", func := "planimeter/planimeterlaw15.IvNest", spec := "ivNest", inPlace := ["math/bits.Add64", "math/bits.Sub64"], unfollowed := true, recurses := true, named := ["math/bits.deBruijn64tab"], apart := false, laid := [("math/bits.deBruijn64tab", laid_math_bits_deBruijn64tab)] }
def IvNestSaid : Prop := ivNestRow.holds Tryd.pinned (OpenSpec.ofChange ivNestSpec)

/-- ITS FALSE NEIGHBOUR: 'it returns false'. Refute it at one input. -/
def ivNestWrong : ChangeSpec := { name := "ivNest", fn := fun _ => fun
  | [d1, d2, d3, d4, d5] => { results := [.lit (.bool false)], args := [d1, d2, d3, d4, d5] }
  | _ => none }
def IvNestWrongFalsely : Prop := ivNestRow.holds Tryd.pinned (OpenSpec.ofChange ivNestWrong)

/-- 'planimeterlaw34.UlpsOff': WHATEVER THE INPUT: true; the input reads as it did. -/
def ulpsOffSpec : ChangeSpec := { name := "ulpsOff", fn := fun _ => fun
  | [d1, d2, d3] => { results := [.lit (.bool true)], args := [d1, d2, d3] }
  | _ => none }
def ulpsOffRow : OpenClaim := { program := "ytfogjddcagckaaadoor", sum := "fa7c861b77f79b6823727215aa540dbad6d8c45dd7b3e90d5cdda1a7b0141d70", func := "planimeter/planimeterlaw34.UlpsOff", spec := "ulpsOff", inPlace := ["math/bits.Add64", "math/bits.Sub64"], unfollowed := true, recurses := true, named := ["math/bits.deBruijn64tab"], apart := false, laid := [("math/bits.deBruijn64tab", laid_math_bits_deBruijn64tab)] }
def UlpsOffSaid : Prop := ulpsOffRow.holds Tryd.pinned (OpenSpec.ofChange ulpsOffSpec)

/-- ITS FALSE NEIGHBOUR: 'it returns false'. Refute it at one input. -/
def ulpsOffWrong : ChangeSpec := { name := "ulpsOff", fn := fun _ => fun
  | [d1, d2, d3] => { results := [.lit (.bool false)], args := [d1, d2, d3] }
  | _ => none }
def UlpsOffWrongFalsely : Prop := ulpsOffRow.holds Tryd.pinned (OpenSpec.ofChange ulpsOffWrong)

/-- 'planimeterlaw15.IvShort': WHATEVER THE INPUT: true; the input reads as it did. -/
def ivShortSpec : ChangeSpec := { name := "ivShort", fn := fun _ => fun
  | [d1, d2] => { results := [.lit (.bool true)], args := [d1, d2] }
  | _ => none }
def ivShortRow : OpenClaim := { program := "ytfogjddcagckaaadoor", sum := "fa7c861b77f79b6823727215aa540dbad6d8c45dd7b3e90d5cdda1a7b0141d70", func := "planimeter/planimeterlaw15.IvShort", spec := "ivShort", inPlace := ["math/bits.Add64", "math/bits.Sub64"], unfollowed := true, recurses := true, named := ["math/bits.deBruijn64tab"], apart := false, laid := [("math/bits.deBruijn64tab", laid_math_bits_deBruijn64tab)] }
def IvShortSaid : Prop := ivShortRow.holds Tryd.pinned (OpenSpec.ofChange ivShortSpec)

/-- ITS FALSE NEIGHBOUR: 'it returns false'. Refute it at one input. -/
def ivShortWrong : ChangeSpec := { name := "ivShort", fn := fun _ => fun
  | [d1, d2] => { results := [.lit (.bool false)], args := [d1, d2] }
  | _ => none }
def IvShortWrongFalsely : Prop := ivShortRow.holds Tryd.pinned (OpenSpec.ofChange ivShortWrong)

/-- 'planimeterlaw29.TotalSums': WHATEVER THE INPUT: true; the input reads as it did. -/
def totalSumsSpec : ChangeSpec := { name := "totalSums", fn := fun _ => fun
  | [d1, d2] => { results := [.lit (.bool true)], args := [d1, d2] }
  | _ => none }
def totalSumsRow : OpenClaim := { program := "ytfogjddcagckaaadoor", sum := "fa7c861b77f79b6823727215aa540dbad6d8c45dd7b3e90d5cdda1a7b0141d70", func := "planimeter/planimeterlaw29.TotalSums", spec := "totalSums", inPlace := ["math/bits.Add64", "math/bits.Sub64"], unfollowed := true, recurses := true, named := ["math/bits.deBruijn64tab"], apart := false, laid := [("math/bits.deBruijn64tab", laid_math_bits_deBruijn64tab)] }
def TotalSumsSaid : Prop := totalSumsRow.holds Tryd.pinned (OpenSpec.ofChange totalSumsSpec)

/-- ITS FALSE NEIGHBOUR: 'it returns false'. Refute it at one input. -/
def totalSumsWrong : ChangeSpec := { name := "totalSums", fn := fun _ => fun
  | [d1, d2] => { results := [.lit (.bool false)], args := [d1, d2] }
  | _ => none }
def TotalSumsWrongFalsely : Prop := totalSumsRow.holds Tryd.pinned (OpenSpec.ofChange totalSumsWrong)

/-- 'planimeterlaw34.UlpsRules': WHATEVER THE INPUT: true; the input reads as it did. -/
def ulpsRulesSpec : ChangeSpec := { name := "ulpsRules", fn := fun _ => fun
  | [d1, d2, d3, d4, d5] => { results := [.lit (.bool true)], args := [d1, d2, d3, d4, d5] }
  | _ => none }
def ulpsRulesRow : OpenClaim := { program := "ytfogjddcagckaaadoor", sum := "fa7c861b77f79b6823727215aa540dbad6d8c45dd7b3e90d5cdda1a7b0141d70", func := "planimeter/planimeterlaw34.UlpsRules", spec := "ulpsRules", inPlace := ["math/bits.Add64", "math/bits.Sub64"], unfollowed := true, recurses := true, named := ["math/bits.deBruijn64tab"], apart := false, laid := [("math/bits.deBruijn64tab", laid_math_bits_deBruijn64tab)] }
def UlpsRulesSaid : Prop := ulpsRulesRow.holds Tryd.pinned (OpenSpec.ofChange ulpsRulesSpec)

/-- ITS FALSE NEIGHBOUR: 'it returns false'. Refute it at one input. -/
def ulpsRulesWrong : ChangeSpec := { name := "ulpsRules", fn := fun _ => fun
  | [d1, d2, d3, d4, d5] => { results := [.lit (.bool false)], args := [d1, d2, d3, d4, d5] }
  | _ => none }
def UlpsRulesWrongFalsely : Prop := ulpsRulesRow.holds Tryd.pinned (OpenSpec.ofChange ulpsRulesWrong)

/-- 'planimeterlaw29.TotalJoins': WHATEVER THE INPUT: true; the input reads as it did. -/
def totalJoinsSpec : ChangeSpec := { name := "totalJoins", fn := fun _ => fun
  | [d1, d2, d3, d4] => { results := [.lit (.bool true)], args := [d1, d2, d3, d4] }
  | _ => none }
def totalJoinsRow : OpenClaim := { program := "ytfogjddcagckaaadoor", sum := "fa7c861b77f79b6823727215aa540dbad6d8c45dd7b3e90d5cdda1a7b0141d70", func := "planimeter/planimeterlaw29.TotalJoins", spec := "totalJoins", inPlace := ["math/bits.Add64", "math/bits.Sub64"], unfollowed := true, recurses := true, named := ["math/bits.deBruijn64tab"], apart := false, laid := [("math/bits.deBruijn64tab", laid_math_bits_deBruijn64tab)] }
def TotalJoinsSaid : Prop := totalJoinsRow.holds Tryd.pinned (OpenSpec.ofChange totalJoinsSpec)

/-- ITS FALSE NEIGHBOUR: 'it returns false'. Refute it at one input. -/
def totalJoinsWrong : ChangeSpec := { name := "totalJoins", fn := fun _ => fun
  | [d1, d2, d3, d4] => { results := [.lit (.bool false)], args := [d1, d2, d3, d4] }
  | _ => none }
def TotalJoinsWrongFalsely : Prop := totalJoinsRow.holds Tryd.pinned (OpenSpec.ofChange totalJoinsWrong)

/-- 'planimeterlaw29.TotalMost': WHATEVER THE INPUT: true; the input reads as it did. -/
def totalMostSpec : ChangeSpec := { name := "totalMost", fn := fun _ => fun
  | [d1, d2] => { results := [.lit (.bool true)], args := [d1, d2] }
  | _ => none }
def totalMostRow : OpenClaim := { program := "ytfogjddcagckaaadoor", sum := "fa7c861b77f79b6823727215aa540dbad6d8c45dd7b3e90d5cdda1a7b0141d70", func := "planimeter/planimeterlaw29.TotalMost", spec := "totalMost", inPlace := ["math/bits.Add64", "math/bits.Sub64"], unfollowed := true, recurses := true, named := ["math/bits.deBruijn64tab"], apart := false, laid := [("math/bits.deBruijn64tab", laid_math_bits_deBruijn64tab)] }
def TotalMostSaid : Prop := totalMostRow.holds Tryd.pinned (OpenSpec.ofChange totalMostSpec)

/-- ITS FALSE NEIGHBOUR: 'it returns false'. Refute it at one input. -/
def totalMostWrong : ChangeSpec := { name := "totalMost", fn := fun _ => fun
  | [d1, d2] => { results := [.lit (.bool false)], args := [d1, d2] }
  | _ => none }
def TotalMostWrongFalsely : Prop := totalMostRow.holds Tryd.pinned (OpenSpec.ofChange totalMostWrong)

/-- 'planimeterlaw29.TotalBasic': WHATEVER THE INPUT: true; the input reads as it did. -/
def totalBasicSpec : ChangeSpec := { name := "totalBasic", fn := fun _ => fun
  | [d1, d2, d3, d4] => { results := [.lit (.bool true)], args := [d1, d2, d3, d4] }
  | _ => none }
def totalBasicRow : OpenClaim := { program := "ytfogjddcagckaaadoor", sum := "fa7c861b77f79b6823727215aa540dbad6d8c45dd7b3e90d5cdda1a7b0141d70", func := "planimeter/planimeterlaw29.TotalBasic", spec := "totalBasic", inPlace := ["math/bits.Add64", "math/bits.Sub64"], unfollowed := true, recurses := true, named := ["math/bits.deBruijn64tab"], apart := false, laid := [("math/bits.deBruijn64tab", laid_math_bits_deBruijn64tab)] }
def TotalBasicSaid : Prop := totalBasicRow.holds Tryd.pinned (OpenSpec.ofChange totalBasicSpec)

/-- ITS FALSE NEIGHBOUR: 'it returns false'. Refute it at one input. -/
def totalBasicWrong : ChangeSpec := { name := "totalBasic", fn := fun _ => fun
  | [d1, d2, d3, d4] => { results := [.lit (.bool false)], args := [d1, d2, d3, d4] }
  | _ => none }
def TotalBasicWrongFalsely : Prop := totalBasicRow.holds Tryd.pinned (OpenSpec.ofChange totalBasicWrong)

/- THE SECOND FORM. 'bulk': how many values and letters a reading holds, each counted each time it is reached (what is shared counts as often as it is met; a slice's spare places count too). A statement '..UptoSaid' is the law's where the arguments, and the package variables that the reading takes, are together of bulk at most 1048576: NARROWER than '..Said'. Prove '..Said' where nothing that the law and all that it calls make is longer than what came in: it says more and counts as full. Else prove '..UptoSaid'. A law counts once. -/
mutual
def uptoBulk {H : Type} : DataW H → Nat
  | .lit (.string bytes) => bytes.length + 1
  | .lit _ => 1
  | .nil => 1
  | .ptr d => uptoBulk d + 1
  | .slice elems spare => uptoBulkAll elems + uptoBulkAll spare + 1
  | .agg parts => uptoBulkAll parts + 1
  | .iface _ d => uptoBulk d + 1
  | .map entries => uptoBulkEntries entries + 1
  | .held _ => 1
def uptoBulkAll {H : Type} : List (DataW H) → Nat
  | [] => 0
  | d :: r => uptoBulk d + uptoBulkAll r
def uptoBulkEntries {H : Type} : List (Lit × DataW H) → Nat
  | [] => 0
  | x :: r => uptoBulkEntry x + uptoBulkEntries r
def uptoBulkEntry {H : Type} : Lit × DataW H → Nat
  | (.string bytes, d) => bytes.length + uptoBulk d + 1
  | (_, d) => uptoBulk d + 1
 end
def uptoSmall : (H : Type) → List (DataW H) → Bool := fun _ ds => decide (uptoBulkAll ds ≤ 1048576)
def OpenSpec.upto (s : _root_.Go.ChangeSpec) : _root_.Go.OpenSpec := { _root_.Go.OpenSpec.ofChange s with cond := some uptoSmall }

/-- 'planimeterlaw05.DyadRules', WHERE WHAT IT READS IS OF BULK AT MOST 1048576: true; the input reads as it did. -/
def dyadRulesUptoRow : OpenClaim := { program := "ytfogjddcagckaaadoor", sum := "fa7c861b77f79b6823727215aa540dbad6d8c45dd7b3e90d5cdda1a7b0141d70", func := "planimeter/planimeterlaw05.DyadRules", spec := "dyadRules", inPlace := ["math/bits.Add64", "math/bits.Sub64"], unfollowed := true, recurses := true, named := ["math/bits.deBruijn64tab"], apart := false, laid := [("math/bits.deBruijn64tab", laid_math_bits_deBruijn64tab)], narrowed := true }
def DyadRulesUptoSaid : Prop := dyadRulesUptoRow.holds Tryd.pinned (OpenSpec.upto dyadRulesSpec)

/-- 'planimeterlaw15.IvTells', WHERE WHAT IT READS IS OF BULK AT MOST 1048576: true; the input reads as it did. -/
def ivTellsUptoRow : OpenClaim := { program := "ytfogjddcagckaaadoor", sum := "fa7c861b77f79b6823727215aa540dbad6d8c45dd7b3e90d5cdda1a7b0141d70", func := "planimeter/planimeterlaw15.IvTells", spec := "ivTells", inPlace := ["math/bits.Add64", "math/bits.Sub64"], unfollowed := true, recurses := true, named := ["math/bits.deBruijn64tab"], apart := false, laid := [("math/bits.deBruijn64tab", laid_math_bits_deBruijn64tab)], narrowed := true }
def IvTellsUptoSaid : Prop := ivTellsUptoRow.holds Tryd.pinned (OpenSpec.upto ivTellsSpec)

/-- 'planimeterlaw15.IvRules', WHERE WHAT IT READS IS OF BULK AT MOST 1048576: true; the input reads as it did. -/
def ivRulesUptoRow : OpenClaim := { program := "ytfogjddcagckaaadoor", sum := "fa7c861b77f79b6823727215aa540dbad6d8c45dd7b3e90d5cdda1a7b0141d70", func := "planimeter/planimeterlaw15.IvRules", spec := "ivRules", inPlace := ["math/bits.Add64", "math/bits.Sub64"], unfollowed := true, recurses := true, named := ["math/bits.deBruijn64tab"], apart := false, laid := [("math/bits.deBruijn64tab", laid_math_bits_deBruijn64tab)], narrowed := true }
def IvRulesUptoSaid : Prop := ivRulesUptoRow.holds Tryd.pinned (OpenSpec.upto ivRulesSpec)

/-- 'planimeterlaw15.IvNest', WHERE WHAT IT READS IS OF BULK AT MOST 1048576: true; the input reads as it did. -/
def ivNestUptoRow : OpenClaim := { program := "ytfogjddcagckaaadoor", sum := "fa7c861b77f79b6823727215aa540dbad6d8c45dd7b3e90d5cdda1a7b0141d70", func := "planimeter/planimeterlaw15.IvNest", spec := "ivNest", inPlace := ["math/bits.Add64", "math/bits.Sub64"], unfollowed := true, recurses := true, named := ["math/bits.deBruijn64tab"], apart := false, laid := [("math/bits.deBruijn64tab", laid_math_bits_deBruijn64tab)], narrowed := true }
def IvNestUptoSaid : Prop := ivNestUptoRow.holds Tryd.pinned (OpenSpec.upto ivNestSpec)

/-- 'planimeterlaw34.UlpsOff', WHERE WHAT IT READS IS OF BULK AT MOST 1048576: true; the input reads as it did. -/
def ulpsOffUptoRow : OpenClaim := { program := "ytfogjddcagckaaadoor", sum := "fa7c861b77f79b6823727215aa540dbad6d8c45dd7b3e90d5cdda1a7b0141d70", func := "planimeter/planimeterlaw34.UlpsOff", spec := "ulpsOff", inPlace := ["math/bits.Add64", "math/bits.Sub64"], unfollowed := true, recurses := true, named := ["math/bits.deBruijn64tab"], apart := false, laid := [("math/bits.deBruijn64tab", laid_math_bits_deBruijn64tab)], narrowed := true }
def UlpsOffUptoSaid : Prop := ulpsOffUptoRow.holds Tryd.pinned (OpenSpec.upto ulpsOffSpec)

/-- 'planimeterlaw15.IvShort', WHERE WHAT IT READS IS OF BULK AT MOST 1048576: true; the input reads as it did. -/
def ivShortUptoRow : OpenClaim := { program := "ytfogjddcagckaaadoor", sum := "fa7c861b77f79b6823727215aa540dbad6d8c45dd7b3e90d5cdda1a7b0141d70", func := "planimeter/planimeterlaw15.IvShort", spec := "ivShort", inPlace := ["math/bits.Add64", "math/bits.Sub64"], unfollowed := true, recurses := true, named := ["math/bits.deBruijn64tab"], apart := false, laid := [("math/bits.deBruijn64tab", laid_math_bits_deBruijn64tab)], narrowed := true }
def IvShortUptoSaid : Prop := ivShortUptoRow.holds Tryd.pinned (OpenSpec.upto ivShortSpec)

/-- 'planimeterlaw29.TotalSums', WHERE WHAT IT READS IS OF BULK AT MOST 1048576: true; the input reads as it did. -/
def totalSumsUptoRow : OpenClaim := { program := "ytfogjddcagckaaadoor", sum := "fa7c861b77f79b6823727215aa540dbad6d8c45dd7b3e90d5cdda1a7b0141d70", func := "planimeter/planimeterlaw29.TotalSums", spec := "totalSums", inPlace := ["math/bits.Add64", "math/bits.Sub64"], unfollowed := true, recurses := true, named := ["math/bits.deBruijn64tab"], apart := false, laid := [("math/bits.deBruijn64tab", laid_math_bits_deBruijn64tab)], narrowed := true }
def TotalSumsUptoSaid : Prop := totalSumsUptoRow.holds Tryd.pinned (OpenSpec.upto totalSumsSpec)

/-- 'planimeterlaw34.UlpsRules', WHERE WHAT IT READS IS OF BULK AT MOST 1048576: true; the input reads as it did. -/
def ulpsRulesUptoRow : OpenClaim := { program := "ytfogjddcagckaaadoor", sum := "fa7c861b77f79b6823727215aa540dbad6d8c45dd7b3e90d5cdda1a7b0141d70", func := "planimeter/planimeterlaw34.UlpsRules", spec := "ulpsRules", inPlace := ["math/bits.Add64", "math/bits.Sub64"], unfollowed := true, recurses := true, named := ["math/bits.deBruijn64tab"], apart := false, laid := [("math/bits.deBruijn64tab", laid_math_bits_deBruijn64tab)], narrowed := true }
def UlpsRulesUptoSaid : Prop := ulpsRulesUptoRow.holds Tryd.pinned (OpenSpec.upto ulpsRulesSpec)

/-- 'planimeterlaw29.TotalJoins', WHERE WHAT IT READS IS OF BULK AT MOST 1048576: true; the input reads as it did. -/
def totalJoinsUptoRow : OpenClaim := { program := "ytfogjddcagckaaadoor", sum := "fa7c861b77f79b6823727215aa540dbad6d8c45dd7b3e90d5cdda1a7b0141d70", func := "planimeter/planimeterlaw29.TotalJoins", spec := "totalJoins", inPlace := ["math/bits.Add64", "math/bits.Sub64"], unfollowed := true, recurses := true, named := ["math/bits.deBruijn64tab"], apart := false, laid := [("math/bits.deBruijn64tab", laid_math_bits_deBruijn64tab)], narrowed := true }
def TotalJoinsUptoSaid : Prop := totalJoinsUptoRow.holds Tryd.pinned (OpenSpec.upto totalJoinsSpec)

/-- 'planimeterlaw29.TotalMost', WHERE WHAT IT READS IS OF BULK AT MOST 1048576: true; the input reads as it did. -/
def totalMostUptoRow : OpenClaim := { program := "ytfogjddcagckaaadoor", sum := "fa7c861b77f79b6823727215aa540dbad6d8c45dd7b3e90d5cdda1a7b0141d70", func := "planimeter/planimeterlaw29.TotalMost", spec := "totalMost", inPlace := ["math/bits.Add64", "math/bits.Sub64"], unfollowed := true, recurses := true, named := ["math/bits.deBruijn64tab"], apart := false, laid := [("math/bits.deBruijn64tab", laid_math_bits_deBruijn64tab)], narrowed := true }
def TotalMostUptoSaid : Prop := totalMostUptoRow.holds Tryd.pinned (OpenSpec.upto totalMostSpec)

/-- 'planimeterlaw29.TotalBasic', WHERE WHAT IT READS IS OF BULK AT MOST 1048576: true; the input reads as it did. -/
def totalBasicUptoRow : OpenClaim := { program := "ytfogjddcagckaaadoor", sum := "fa7c861b77f79b6823727215aa540dbad6d8c45dd7b3e90d5cdda1a7b0141d70", func := "planimeter/planimeterlaw29.TotalBasic", spec := "totalBasic", inPlace := ["math/bits.Add64", "math/bits.Sub64"], unfollowed := true, recurses := true, named := ["math/bits.deBruijn64tab"], apart := false, laid := [("math/bits.deBruijn64tab", laid_math_bits_deBruijn64tab)], narrowed := true }
def TotalBasicUptoSaid : Prop := totalBasicUptoRow.holds Tryd.pinned (OpenSpec.upto totalBasicSpec)

end Rows
end Go.Proofs.YtfogjddcagckaaaDoor
