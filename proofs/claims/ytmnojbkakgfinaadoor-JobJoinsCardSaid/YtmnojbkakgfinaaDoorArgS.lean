/- How a text as a law's argument reads. -/
import Derived.Test.YtmnojbkakgfinaaDoorGZ
import Derived.Test.YtmnojbkakgfinaaDoorK1
open Go PG Go.Proofs Go.RowKit
set_option maxRecDepth 100000
set_option linter.unusedSimpArgs false
set_option linter.unusedVariables false
namespace Go.Proofs.YtmnojbkakgfinaaDoor

def qStr (p : PV) : Prop := ∃ l : List UInt8, p = TX l ∧ l.length ≤ 9223372036854775807
theorem a_str {t : TypeId} (w : World) (ht : E.P.underlying t = some .string) : ArgRd E.P w t qStr := arg_imp (ArgRd.str ht) fun p ⟨s, h, h1⟩ => by
  refine ⟨s.data.toList, ?_, ?_⟩
  · exact h.trans (congrArg PV.str (B8_of s).symm)
  · have : s.size = s.data.toList.length := (Array.length_toList (xs := s.data)).symm
    have e : maxLen = 9223372036854775807 := rfl
    omega
end Go.Proofs.YtmnojbkakgfinaaDoor
