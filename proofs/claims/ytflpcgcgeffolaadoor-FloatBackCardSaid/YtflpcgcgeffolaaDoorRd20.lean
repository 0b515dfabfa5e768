/- The document's answers for what needs no reckoning: planimeterref20. -/
import Derived.Test.YtflpcgcgeffolaaDoorFl3
import Derived.Test.YtflpcgcgeffolaaDoorSp1
open Go PG Go.Proofs
set_option maxRecDepth 100000
set_option linter.unusedSimpArgs false
set_option linter.unusedVariables false
namespace Go.Proofs.YtflpcgcgeffolaaDoor

/-- Bits and flags, if there is an answer, as the document tells them. -/
def ansPV (o : Option (Nat × Nat)) : PV := match o with
  | some (b, f) => .agg [.int .u64 b, .int .i64 f, .bool true]
  | none => .agg [.int .u64 0, .int .i64 0, .bool false]

theorem kind_num (b : Nat) : 2 < kind b ↔ ¬ fe b < 2047 := by
  unfold kind
  repeat' split
  all_goals omega

theorem fsz_W (b : Nat) : fsz b < W := Nat.lt_trans (fsz_lt b) (by decide)

theorem sgd_add (x : Nat) (o : Bool) : IntKind.wrap .u64 (9218868437227405312 + (sgd 0 x o : Int)) = (sgd bInf x o : Int) := by
  unfold sgd
  split
  · decide
  · decide

theorem powS_alt (x y : Nat) (hx : x < W) : powS x y =
  if kind x = 5 ∨ kind y = 5 then some (bNaN, 16)
  else if kind y = 0 ∨ x = 4607182418800017408 then some (bOne, 0)
  else if kind x = 4 ∨ kind y = 4 then some (bNaN, 0)
  else if kind x = 0 then
    if fs y = true then (if kind y = 3 then some (bInf, 0) else some (sgd bInf x (od y), 8))
    else some (sgd 0 x (od y), 0)
  else if kind y = 3 then
    if fsz x = 4607182418800017408 then some (bOne, 0) else if (decide (4607182418800017408 < fsz x) != fs y) = true then some (bInf, 0) else some (0, 0)
  else if kind x = 3 then if fs y = true then some (sgd 0 x (od y), 0) else some (sgd bInf x (od y), 0)
  else if fs x = true ∧ wh y = false then some (bNaN, 16) else none := by
  unfold powS
  by_cases h1 : x = 4607182418800017408
  · simp [h1]
  · have h2 : (x = 13830554455654793216) = (fsz x = 4607182418800017408) := by
      have : x < 18446744073709551616 := hx
      unfold fsz
      exact propext ⟨fun h => by omega, fun h => by omega⟩
    simp only [h2]

end Go.Proofs.YtflpcgcgeffolaaDoor
