/- How a law's argument that is a dyad reads. -/
import Derived.Test.YtflpcgcgeffolaaDoorArgs
import Derived.Test.YtflpcgcgeffolaaDoorDy1
open Go PG Go.Proofs Go.RowKit
set_option maxRecDepth 100000
set_option linter.unusedSimpArgs false
set_option linter.unusedVariables false
namespace Go.Proofs.YtflpcgcgeffolaaDoor

/-- A sign, a slice of limbs, an exponent. -/
def qD (p : PV) : Prop := ∃ (s : Bool) (l : List Nat) (e : Int), p = DP s (NL l) e ∧ Ok W l ∧ -9223372036854775808 ≤ e ∧ e < 9223372036854775808

theorem fields3 {P : Program} {w : World} {l : List Field} {a b c : TypeId} {A B C : List PV → Prop} (h : l.map (fun f => (f.type, f.offset)) = [(a, 0), (b, 1), (c, 2)])
    (ca : P.cellsOf a = 1) (cb : P.cellsOf b = 1) (ra : Rd P w a A) (rb : Rd P w b B) (rc : Rd P w c C) : FieldsRd P w 0 l [A, B, C] := by
  rcases l with _ | ⟨f, _ | ⟨g, _ | ⟨k, _ | ⟨x, l⟩⟩⟩⟩
  · cases h
  · simp at h
  · simp at h
  · simp only [List.map_cons, List.map_nil, List.cons.injEq, Prod.mk.injEq, and_true] at h
    obtain ⟨⟨h1, h2⟩, ⟨h3, h4⟩, h5, h6⟩ := h
    exact ⟨h2, h1 ▸ ra, by rw [h1, ca]; exact h4, h3 ▸ rb, by rw [h1, ca, h3, cb]; exact h6, h5 ▸ rc, trivial⟩
  · simp at h

theorem a_D {t a b c e : TypeId} (w : World) (ht : E.P.underlying t = some (.struct (E.P.fieldsOf t))) (hf : (E.P.fieldsOf t).toList.map (fun f => (f.type, f.offset)) = [(a, 0), (b, 1), (c, 2)]) (hw : widths E.P 0 (E.P.fieldsOf t).toList = E.P.cellsOf t)
    (ca : E.P.cellsOf a = 1) (cb : E.P.cellsOf b = 1) (ta : E.P.underlying a = some .bool) (tb : E.P.underlying b = some (.slice e)) (ce : E.P.cellsOf e = 1) (te : E.P.underlying e = some (.int .u64)) (tc : E.P.underlying c = some (.int .i64)) : ArgRd E.P w t qD := by
  refine arg_imp (ArgRd.struct ht (fields3 hf ca cb (Rd.bool ta) (Rd.slice tb ce (Rd.int te)) (Rd.int tc)) hw) fun p ⟨l, hl, hp⟩ => ?_
  obtain ⟨x, r, h1, ⟨s, rfl⟩, y, r2, h2, ⟨els, rfl, hels⟩, z, r3, h3, ⟨n, rfl, hn1, hn2⟩, h4⟩ := hp
  obtain ⟨v, hv, ov⟩ := u64s_of els hels
  have e1 : IntKind.i64.min = -9223372036854775808 := by decide
  have e2 : IntKind.i64.max = 9223372036854775807 := by decide
  rw [e1] at hn1
  rw [e2] at hn2
  refine ⟨s, v, n, ?_, ov, hn1, by omega⟩
  subst h4 h3 h2 h1
  rw [hl, ← hv]
  rfl
end Go.Proofs.YtflpcgcgeffolaaDoor
