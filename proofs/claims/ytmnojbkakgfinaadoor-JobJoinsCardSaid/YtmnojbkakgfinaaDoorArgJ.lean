/- How jobs as a law's argument read. -/
import Derived.Test.YtmnojbkakgfinaaDoorArgS
import Derived.Test.YtmnojbkakgfinaaDoorJb8
open Go PG Go.Proofs Go.RowKit
set_option maxRecDepth 100000
set_option linter.unusedSimpArgs false
set_option linter.unusedVariables false
namespace Go.Proofs.YtmnojbkakgfinaaDoor

theorem fields6 {P : Program} {w : World} {l : List Field} {a b c d e f : TypeId} {A B C D E' F : List PV → Prop} (h : l.map (fun f => (f.type, f.offset)) = [(a, 0), (b, 1), (c, 2), (d, 3), (e, 4), (f, 5)])
    (ca : P.cellsOf a = 1) (cb : P.cellsOf b = 1) (cc : P.cellsOf c = 1) (cd : P.cellsOf d = 1) (ce : P.cellsOf e = 1) (ra : Rd P w a A) (rb : Rd P w b B) (rc : Rd P w c C) (rd' : Rd P w d D) (re : Rd P w e E') (rf : Rd P w f F) : FieldsRd P w 0 l [A, B, C, D, E', F] := by
  rcases l with _ | ⟨f1, _ | ⟨f2, _ | ⟨f3, _ | ⟨f4, _ | ⟨f5, _ | ⟨f6, _ | ⟨x, l⟩⟩⟩⟩⟩⟩⟩
  · cases h
  · simp at h
  · simp at h
  · simp at h
  · simp at h
  · simp at h
  · simp only [List.map_cons, List.map_nil, List.cons.injEq, Prod.mk.injEq, and_true] at h
    obtain ⟨⟨h1, h2⟩, ⟨h3, h4⟩, ⟨h5, h6⟩, ⟨h7, h8⟩, ⟨h9, h10⟩, h11, h12⟩ := h
    refine ⟨h2, h1 ▸ ra, by rw [h1, ca]; exact h4, h3 ▸ rb, by rw [h1, ca, h3, cb]; exact h6, h5 ▸ rc, by rw [h1, ca, h3, cb, h5, cc]; exact h8, h7 ▸ rd', by rw [h1, ca, h3, cb, h5, cc, h7, cd]; exact h10, h9 ▸ re, by rw [h1, ca, h3, cb, h5, cc, h7, cd, h9, ce]; exact h12, h11 ▸ rf, trivial⟩
  · simp at h
def qJobs (p : PV) : Prop := ∃ L : List Jb, p = .lst L.length (JC L) ∧ ∀ j ∈ L, j.wf
def qI64 (l : List PV) : Prop := ∃ n : Int, l = [.int .i64 n] ∧ IntKind.min .i64 ≤ n ∧ n ≤ IntKind.max .i64
def qU64' (l : List PV) : Prop := ∃ n : Int, l = [.int .u64 n] ∧ IntKind.min .u64 ≤ n ∧ n ≤ IntKind.max .u64
def qBl (l : List PV) : Prop := ∃ b, l = [.bool b]
theorem jobs_of : ∀ (els : List (List PV)), (∀ x ∈ els, Parts [qI64, qU64', qU64', qI64, qI64, qBl] x) → ∃ L : List Jb, els.flatten = JC L ∧ L.length = els.length ∧ ∀ j ∈ L, j.wf
  | [], _ => ⟨[], rfl, rfl, fun q h => by cases h⟩
  | x :: els, h => by
    obtain ⟨L, h1, h2, h3⟩ := jobs_of els fun y hy => h y (List.mem_cons_of_mem _ hy)
    obtain ⟨v1, r1, rfl, ⟨op, rfl, o1, o2⟩, v2, r2, rfl, ⟨x, rfl, x1, x2⟩, v3, r3, rfl, ⟨y, rfl, y1, y2⟩, v4, r4, rfl, ⟨n, rfl, n1, n2⟩, v5, r5, rfl, ⟨d, rfl, d1, d2⟩, v6, r6, rfl, ⟨b, rfl⟩, rfl⟩ := h x List.mem_cons_self
    have e1 : IntKind.u64.min = 0 := by decide
    have e2 : IntKind.u64.max = 18446744073709551615 := by decide
    have e3 : IntKind.i64.min = -9223372036854775808 := by decide
    have e4 : IntKind.i64.max = 9223372036854775807 := by decide
    have eW : W = 18446744073709551616 := by decide
    rw [e1] at x1 y1
    rw [e2] at x2 y2
    rw [e3] at o1 n1 d1
    rw [e4] at o2 n2 d2
    refine ⟨⟨op, x.toNat, y.toNat, n, d, b⟩ :: L, ?_, by simp [h2], ?_⟩
    · have f1 : ((x.toNat : Nat) : Int) = x := Int.toNat_of_nonneg x1
      have f2 : ((y.toNat : Nat) : Int) = y := Int.toNat_of_nonneg y1
      rw [List.flatten_cons, h1]
      unfold JC
      rw [List.flatMap_cons]
      congr 1
      unfold Jb.cs
      dsimp only
      rw [f1, f2]
      rfl
    · intro j hj
      rcases List.mem_cons.1 hj with rfl | hj
      · exact ⟨o1, o2, by rw [eW]; dsimp only; omega, by rw [eW]; dsimp only; omega, n1, n2, d1, d2⟩
      · exact h3 j hj
theorem a_jobs {t d ti tu tn tb : TypeId} (w : World) (ht : E.P.underlying t = some (.slice d)) (hd : E.P.underlying d = some (.struct (E.P.fieldsOf d))) (hdf : (E.P.fieldsOf d).toList.map (fun f => (f.type, f.offset)) = [(ti, 0), (tu, 1), (tu, 2), (tn, 3), (ti, 4), (tb, 5)])
    (hdw : widths E.P 0 (E.P.fieldsOf d).toList = E.P.cellsOf d) (cd : E.P.cellsOf d = 6) (ci : E.P.cellsOf ti = 1) (cu : E.P.cellsOf tu = 1) (cn : E.P.cellsOf tn = 1) (hi : E.P.underlying ti = some (.int .i64)) (hu : E.P.underlying tu = some (.int .u64)) (hn : E.P.underlying tn = some (.int .i64)) (hb : E.P.underlying tb = some .bool) : ArgRd E.P w t qJobs :=
  arg_imp (ArgRd.slice ht cd (Rd.struct (w := w) hd (fields6 hdf ci cu cu cn ci (Rd.int hi) (Rd.int hu) (Rd.int hu) (Rd.int hn) (Rd.int hi) (Rd.bool hb)) hdw)) fun p ⟨els, h, h1⟩ => by
    obtain ⟨L, l1, l2, l3⟩ := jobs_of els fun x hx => (h1 x hx).1
    exact ⟨L, by rw [h, l1, l2], l3⟩
end Go.Proofs.YtmnojbkakgfinaaDoor
