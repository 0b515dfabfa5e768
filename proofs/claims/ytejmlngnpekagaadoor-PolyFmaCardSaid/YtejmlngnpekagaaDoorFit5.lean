/- Five arguments at once. -/
import Derived.Test.YtejmlngnpekagaaDoorG7
open Go PG Go.Proofs
set_option linter.unusedVariables false
namespace Go.Proofs.YtejmlngnpekagaaDoor

theorem fits5 {Q1 Q2 Q3 Q4 Q5 : PV → Prop} {pvs : List PV} (h : Fits [Q1, Q2, Q3, Q4, Q5] pvs) : ∃ p q r s t, pvs = [p, q, r, s, t] ∧ Q1 p ∧ Q2 q ∧ Q3 r ∧ Q4 s ∧ Q5 t := by
  obtain ⟨p, ps, rfl, h1, h⟩ := fits_cons h
  obtain ⟨q, r, s, t, rfl, h2, h3, h4, h5⟩ := fits4 h; exact ⟨p, q, r, s, t, rfl, h1, h2, h3, h4, h5⟩
end Go.Proofs.YtejmlngnpekagaaDoor
