/- How the laws' arguments read, and that the listed tables read so. -/
import Derived.Test.YtflpcgcgeffolaaDoorPgZ
import Derived.Test.YtflpcgcgeffolaaDoorNat1
import Derived.Test.YtflpcgcgeffolaaDoorRows
open Go PG Go.Proofs Go.RowKit
set_option maxRecDepth 100000
set_option linter.unusedSimpArgs false
set_option linter.unusedVariables false
namespace Go.Proofs.YtflpcgcgeffolaaDoor

theorem fits_cons {Q : PV → Prop} {Qs : List (PV → Prop)} {pvs : List PV} (h : Fits (Q :: Qs) pvs) : ∃ p ps, pvs = p :: ps ∧ Q p ∧ Fits Qs ps := by
  cases pvs with
  | nil => exact h.elim
  | cons p ps => exact ⟨p, ps, rfl, h.1, h.2⟩
theorem fits_nil {pvs : List PV} (h : Fits [] pvs) : pvs = [] := by
  cases pvs with
  | nil => rfl
  | cons p ps => exact h.elim
theorem fits1 {Q1 : PV → Prop} {pvs : List PV} (h : Fits [Q1] pvs) : ∃ p, pvs = [p] ∧ Q1 p := by
  obtain ⟨p, ps, rfl, h1, h⟩ := fits_cons h
  rw [fits_nil h]; exact ⟨p, rfl, h1⟩
theorem fits2 {Q1 Q2 : PV → Prop} {pvs : List PV} (h : Fits [Q1, Q2] pvs) : ∃ p q, pvs = [p, q] ∧ Q1 p ∧ Q2 q := by
  obtain ⟨p, ps, rfl, h1, h⟩ := fits_cons h
  obtain ⟨q, rfl, h2⟩ := fits1 h; exact ⟨p, q, rfl, h1, h2⟩
theorem fits3 {Q1 Q2 Q3 : PV → Prop} {pvs : List PV} (h : Fits [Q1, Q2, Q3] pvs) : ∃ p q r, pvs = [p, q, r] ∧ Q1 p ∧ Q2 q ∧ Q3 r := by
  obtain ⟨p, ps, rfl, h1, h⟩ := fits_cons h
  obtain ⟨q, r, rfl, h2, h3⟩ := fits2 h; exact ⟨p, q, r, rfl, h1, h2, h3⟩
theorem fits4 {Q1 Q2 Q3 Q4 : PV → Prop} {pvs : List PV} (h : Fits [Q1, Q2, Q3, Q4] pvs) : ∃ p q r s, pvs = [p, q, r, s] ∧ Q1 p ∧ Q2 q ∧ Q3 r ∧ Q4 s := by
  obtain ⟨p, ps, rfl, h1, h⟩ := fits_cons h
  obtain ⟨q, r, s, rfl, h2, h3, h4⟩ := fits3 h; exact ⟨p, q, r, s, rfl, h1, h2, h3, h4⟩

def qInt (p : PV) : Prop := ∃ n : Int, p = .int .i64 n ∧ -9223372036854775808 ≤ n ∧ n < 9223372036854775808
def qU64 (p : PV) : Prop := ∃ n : Nat, p = u n ∧ n < W
def qU16 (p : PV) : Prop := ∃ n : Nat, p = .int .u16 n ∧ n < 65536
def qU8 (p : PV) : Prop := ∃ n : Nat, p = .int .u8 n ∧ n < 256
def qBool (p : PV) : Prop := ∃ b, p = .bool b
def qU64s (p : PV) : Prop := ∃ l : List Nat, p = NL l ∧ Ok W l

theorem arg_imp {P : Program} {w : World} {t : TypeId} {Q Q' : PV → Prop} (h : ArgRd P w t Q) (hq : ∀ p, Q p → Q' p) : ArgRd P w t Q' :=
  fun H enc base v d ps hok hd => let ⟨p, hp, hQ⟩ := h H enc base v d ps hok hd; ⟨p, hp, hq p hQ⟩

theorem a_int {t : TypeId} (w : World) (ht : E.P.underlying t = some (.int .i64)) : ArgRd E.P w t qInt := arg_imp (ArgRd.int ht) fun p ⟨n, h, h1, h2⟩ => by
  have e1 : IntKind.i64.min = -9223372036854775808 := by decide
  have e2 : IntKind.i64.max = 9223372036854775807 := by decide
  rw [e1] at h1
  rw [e2] at h2
  exact ⟨n, h, h1, by omega⟩
theorem a_u64 {t : TypeId} (w : World) (ht : E.P.underlying t = some (.int .u64)) : ArgRd E.P w t qU64 := arg_imp (ArgRd.int ht) fun p ⟨n, h, h1, h2⟩ => by
  have e1 : IntKind.u64.min = 0 := by decide
  have e2 : IntKind.u64.max = 18446744073709551615 := by decide
  rw [e1] at h1
  rw [e2] at h2
  obtain ⟨m, rfl⟩ := Int.eq_ofNat_of_zero_le h1
  exact ⟨m, h, by show m < 18446744073709551616; omega⟩
theorem a_u16 {t : TypeId} (w : World) (ht : E.P.underlying t = some (.int .u16)) : ArgRd E.P w t qU16 := arg_imp (ArgRd.int ht) fun p ⟨n, h, h1, h2⟩ => by
  have e1 : IntKind.u16.min = 0 := by decide
  have e2 : IntKind.u16.max = 65535 := by decide
  rw [e1] at h1
  rw [e2] at h2
  obtain ⟨m, rfl⟩ := Int.eq_ofNat_of_zero_le h1
  exact ⟨m, h, by omega⟩
theorem a_u8 {t : TypeId} (w : World) (ht : E.P.underlying t = some (.int .u8)) : ArgRd E.P w t qU8 := arg_imp (ArgRd.int ht) fun p ⟨n, h, h1, h2⟩ => by
  have e1 : IntKind.u8.min = 0 := by decide
  have e2 : IntKind.u8.max = 255 := by decide
  rw [e1] at h1
  rw [e2] at h2
  obtain ⟨m, rfl⟩ := Int.eq_ofNat_of_zero_le h1
  exact ⟨m, h, by omega⟩
theorem a_bool {t : TypeId} (w : World) (ht : E.P.underlying t = some .bool) : ArgRd E.P w t qBool := ArgRd.bool ht

theorem nats_of : ∀ (zs : List Int), (∀ z ∈ zs, 0 ≤ z ∧ z ≤ 18446744073709551615) → ∃ l : List Nat, zs.map (PV.int .u64) = U l ∧ l.length = zs.length ∧ Ok W l
  | [], _ => ⟨[], rfl, rfl, Ok.nil⟩
  | z :: zs, h => by
    obtain ⟨h1, h2⟩ := h z (by simp)
    obtain ⟨m, rfl⟩ := Int.eq_ofNat_of_zero_le h1
    obtain ⟨l, e1, e2, e3⟩ := nats_of zs fun y hy => h y (by simp [hy])
    exact ⟨m :: l, by rw [List.map_cons, e1]; rfl, by simp [e2], Ok.cons (by show m < 18446744073709551616; omega) e3⟩

theorem u64s_of (els : List (List PV)) (h : ∀ x ∈ els, (∃ n, x = [.int .u64 n] ∧ IntKind.u64.min ≤ n ∧ n ≤ IntKind.u64.max) ∧ x.length = 1) : qU64s (.lst els.length els.flatten) := by
  obtain ⟨zs, e1, e2, e3⟩ := els_ints els h
  have m1 : IntKind.u64.min = 0 := by decide
  have m2 : IntKind.u64.max = 18446744073709551615 := by decide
  rw [m1, m2] at e3
  obtain ⟨l, f1, f2, f3⟩ := nats_of zs e3
  exact ⟨l, by rw [e1, f1, ← e2, ← f2]; rfl, f3⟩

theorem a_u64s {t e : TypeId} (w : World) (ht : E.P.underlying t = some (.slice e)) (hc : E.P.cellsOf e = 1) (he : E.P.underlying e = some (.int .u64)) : ArgRd E.P w t qU64s :=
  arg_imp (ArgRd.slice ht hc (Rd.int he)) fun p ⟨els, h, h1⟩ => by rw [h]; exact u64s_of els h1

/-- The table of math/bits lies as the row says. -/
theorem globals_met {W : World} (h : laidMetH Tryd.prog [("math/bits.deBruijn64tab", Rows.laid_math_bits_deBruijn64tab)] W) : ∀ g cs, E.G g = some cs → Rep (rd W (old W)) (.ref cs) (.pointer (some ⟨g, 0, none⟩)) := by
  rw [MakeChecks.laidMetH_plain _ _ _ (by kernel_rfl)] at h
  have hd : (Rows.laid_math_bits_deBruijn64tab : DataW Unit) = Lib.tabData .u8 (Lib.deBruijn64tab.map fun n : Nat => (n : Int)) := by
    unfold Rows.laid_math_bits_deBruijn64tab Lib.tabData
    kernel_rfl
  rw [hd] at h
  have hG : Tryd.prog.globalNamed "math/bits.deBruijn64tab" = some 0 := by kernel_rfl
  have ht := Lib.tabIs_of_head (g := 0) hG (by kernel_rfl) (t := 159) (n := 64) (e := 5) (by kernel_rfl) (by kernel_rfl) (by kernel_rfl) (by kernel_rfl) h
  intro g cs hg
  have hg' : g = 0 ∧ cs = deBruijn := by
    have : (if g = 0 then some deBruijn else none) = some cs := hg
    split at this
    · rename_i e; cases this; exact ⟨e, rfl⟩
    · cases this
  obtain ⟨rfl, rfl⟩ := hg'
  refine .ref _ _ (Lib.deBruijn64tab.map fun n : Nat => Value.int .u8 (n : Int)) (by simp [deBruijn]) (fun j x hx => ?_) (fun j x hx => ?_) (fun j c x hc hx => ?_)
  · rw [List.getElem?_map, Option.map_eq_some_iff] at hx
    obtain ⟨n, _, rfl⟩ := hx
    rfl
  · have hlt : j < Lib.deBruijn64tab.length := by simpa using (List.getElem?_eq_some_iff.1 hx).1
    have := ht.cell hG j (by simpa using hlt)
    rw [addr_add, Nat.zero_add]
    refine rd_old (this.trans ?_)
    rw [← hx]
    simp [List.getD, hlt]
  · rw [List.getElem?_map, Option.map_eq_some_iff] at hx
    unfold deBruijn at hc
    rw [List.getElem?_map, Option.map_eq_some_iff] at hc
    obtain ⟨n, hn, rfl⟩ := hx
    obtain ⟨n', hn', rfl⟩ := hc
    rw [hn] at hn'; cases hn'
    exact .int _ _
end Go.Proofs.YtflpcgcgeffolaaDoor
