/- Intervals: the laws' example; how a law's interval reads. -/
import Derived.Test.YtejmlngnpekagaaGreatDoorIv2
import Derived.Test.YtejmlngnpekagaaGreatDoorCut
open Go PG Go.Proofs Go.RowKit
set_option maxRecDepth 100000
set_option linter.unusedSimpArgs false
set_option linter.unusedVariables false
namespace Go.Proofs.YtejmlngnpekagaaGreatDoor

/-- Two dyads as they come. -/
def qJ (p : PV) : Prop := ∃ (s1 : Bool) (l1 : List Nat) (e1 : Int) (s2 : Bool) (l2 : List Nat) (e2 : Int), p = .agg [.bool s1, NL l1, .int .i64 e1, .bool s2, NL l2, .int .i64 e2] ∧ Ok W l1 ∧ Ok W l2
theorem fields2 {P : Program} {w : World} {l : List Field} {a b : TypeId} {n : Nat} {A B : List PV → Prop} (h : l.map (fun f => (f.type, f.offset)) = [(a, 0), (b, n)])
    (ca : P.cellsOf a = n) (ra : Rd P w a A) (rb : Rd P w b B) : FieldsRd P w 0 l [A, B] := by
  rcases l with _ | ⟨f, _ | ⟨g, _ | ⟨k, l⟩⟩⟩
  · cases h
  · simp at h
  · simp only [List.map_cons, List.map_nil, List.cons.injEq, Prod.mk.injEq, and_true] at h
    obtain ⟨⟨h1, h2⟩, h3, h4⟩ := h
    exact ⟨h2, h1 ▸ ra, by rw [h1, ca, Nat.zero_add]; exact h4, h3 ▸ rb, trivial⟩
  · simp at h
theorem a_J {t d a b c e : TypeId} (w : World) (ht : E.P.underlying t = some (.struct (E.P.fieldsOf t))) (hf : (E.P.fieldsOf t).toList.map (fun f => (f.type, f.offset)) = [(d, 0), (d, 3)]) (hw : widths E.P 0 (E.P.fieldsOf t).toList = E.P.cellsOf t)
    (hd : E.P.underlying d = some (.struct (E.P.fieldsOf d))) (hdf : (E.P.fieldsOf d).toList.map (fun f => (f.type, f.offset)) = [(a, 0), (b, 1), (c, 2)]) (hdw : widths E.P 0 (E.P.fieldsOf d).toList = E.P.cellsOf d) (cd : E.P.cellsOf d = 3)
    (ca : E.P.cellsOf a = 1) (cb : E.P.cellsOf b = 1) (ta : E.P.underlying a = some .bool) (tb : E.P.underlying b = some (.slice e)) (ce : E.P.cellsOf e = 1) (te : E.P.underlying e = some (.int .u64)) (tc : E.P.underlying c = some (.int .i64)) : ArgRd E.P w t qJ := by
  have hD := Rd.struct (w := w) hd (fields3 hdf ca cb (Rd.bool ta) (Rd.slice tb ce (Rd.int te)) (Rd.int tc)) hdw
  have hF := fields2 hf cd hD hD
  have one : ∀ r, Parts [fun l => ∃ b, l = [.bool b], fun l => ∃ els : List (List PV), l = [.lst els.length els.flatten] ∧ ∀ x ∈ els, (∃ n, x = [.int .u64 n] ∧ IntKind.u64.min ≤ n ∧ n ≤ IntKind.u64.max) ∧ x.length = 1, fun l => ∃ n, l = [.int .i64 n] ∧ IntKind.i64.min ≤ n ∧ n ≤ IntKind.i64.max] r →
      ∃ (s : Bool) (v : List Nat) (n : Int), r = [.bool s, NL v, .int .i64 n] ∧ Ok W v := by
    rintro l ⟨x, r, h1, ⟨s, rfl⟩, y, r2, h2, ⟨els, rfl, hels⟩, z, r3, h3, ⟨n, rfl, hn1, hn2⟩, h4⟩
    obtain ⟨v, hv, ov⟩ := u64s_of els hels
    refine ⟨s, v, n, ?_, ov⟩
    subst h4 h3 h2 h1
    rw [← hv]
    rfl
  refine arg_imp (ArgRd.struct ht hF hw) fun p ⟨l, hl, hp⟩ => ?_
  obtain ⟨x, r, h1, hx, y, r2, h2, hy, h3⟩ := hp
  obtain ⟨s1, v1, n1, rfl, o1⟩ := one x hx
  obtain ⟨s2, v2, n2, rfl, o2⟩ := one y hy
  refine ⟨s1, v1, n1, s2, v2, n2, ?_, o1, o2⟩
  subst h3 h2 h1
  rw [hl]
  rfl
end Go.Proofs.YtejmlngnpekagaaGreatDoor
