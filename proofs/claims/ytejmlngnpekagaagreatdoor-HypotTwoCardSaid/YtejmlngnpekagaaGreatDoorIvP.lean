/- Intervals of dyads: plain laws. No program stands here. -/
import Derived.Test.YtejmlngnpekagaaGreatDoorMul5
open Go PG Go.Proofs
set_option maxRecDepth 100000
set_option linter.unusedSimpArgs false
set_option linter.unusedVariables false
namespace Go.Proofs.YtejmlngnpekagaaGreatDoor

/-- The lesser and the greater of two, as they are looked through. -/
def minD (a b : Dy) : Dy := if cmpD b a < 0 then b else a
def maxD (a b : Dy) : Dy := if 0 < cmpD b a then b else a
theorem minD_or (a b : Dy) : minD a b = a ∨ minD a b = b := by unfold minD; split <;> simp
theorem maxD_or (a b : Dy) : maxD a b = a ∨ maxD a b = b := by unfold maxD; split <;> simp
theorem minD_P {P : Dy → Prop} {a b : Dy} (h1 : P a) (h2 : P b) : P (minD a b) := by rcases minD_or a b with h | h <;> rw [h] <;> assumption
theorem maxD_P {P : Dy → Prop} {a b : Dy} (h1 : P a) (h2 : P b) : P (maxD a b) := by rcases maxD_or a b with h | h <;> rw [h] <;> assumption
theorem minD_at {a b : Dy} {k : Int} (h1 : a.ge k) (h2 : b.ge k) : (minD a b).at k = min (a.at k) (b.at k) := by
  unfold minD
  rw [cmp_at h2 h1]
  have := sgn_neg (b.at k) (a.at k)
  split <;> omega
theorem maxD_at {a b : Dy} {k : Int} (h1 : a.ge k) (h2 : b.ge k) : (maxD a b).at k = max (a.at k) (b.at k) := by
  unfold maxD
  rw [cmp_at h2 h1]
  have := sgn_pos (b.at k) (a.at k)
  split <;> omega

/-- An interval. -/
structure Iv where
  lo : Dy
  hi : Dy
def min4 (p q r s : Dy) : Dy := minD (minD (minD p q) r) s
def max4 (p q r s : Dy) : Dy := maxD (maxD (maxD p q) r) s
theorem min4_P {P : Dy → Prop} {p q r s : Dy} (h1 : P p) (h2 : P q) (h3 : P r) (h4 : P s) : P (min4 p q r s) := minD_P (minD_P (minD_P h1 h2) h3) h4
theorem max4_P {P : Dy → Prop} {p q r s : Dy} (h1 : P p) (h2 : P q) (h3 : P r) (h4 : P s) : P (max4 p q r s) := maxD_P (maxD_P (maxD_P h1 h2) h3) h4
theorem min4_at {p q r s : Dy} {k : Int} (h1 : p.ge k) (h2 : q.ge k) (h3 : r.ge k) (h4 : s.ge k) : (min4 p q r s).at k = min (min (min (p.at k) (q.at k)) (r.at k)) (s.at k) := by
  have g1 : (minD p q).ge k := minD_P (P := fun d => d.ge k) h1 h2
  have g2 : (minD (minD p q) r).ge k := minD_P (P := fun d => d.ge k) g1 h3
  unfold min4
  rw [minD_at g2 h4, minD_at g1 h3, minD_at h1 h2]
theorem max4_at {p q r s : Dy} {k : Int} (h1 : p.ge k) (h2 : q.ge k) (h3 : r.ge k) (h4 : s.ge k) : (max4 p q r s).at k = max (max (max (p.at k) (q.at k)) (r.at k)) (s.at k) := by
  have g1 : (maxD p q).ge k := maxD_P (P := fun d => d.ge k) h1 h2
  have g2 : (maxD (maxD p q) r).ge k := maxD_P (P := fun d => d.ge k) g1 h3
  unfold max4
  rw [maxD_at g2 h4, maxD_at g1 h3, maxD_at h1 h2]
def mulI (i k : Iv) : Iv := ⟨min4 (mulS i.lo k.lo) (mulS i.lo k.hi) (mulS i.hi k.lo) (mulS i.hi k.hi), max4 (mulS i.lo k.lo) (mulS i.lo k.hi) (mulS i.hi k.lo) (mulS i.hi k.hi)⟩
def addI (i k : Iv) : Iv := ⟨addS i.lo k.lo, addS i.hi k.hi⟩
/-- It is one. -/
def Iv.right (i : Iv) : Prop := i.lo.fits ∧ i.hi.fits ∧ cmpD i.lo i.hi ≤ 0
instance (i : Iv) : Decidable i.right := inferInstanceAs (Decidable (_ ∧ _))
def Iv.has (i : Iv) (d : Dy) : Prop := i.right ∧ d.fits ∧ cmpD i.lo d ≤ 0 ∧ cmpD d i.hi ≤ 0
instance (i : Iv) (d : Dy) : Decidable (i.has d) := inferInstanceAs (Decidable (_ ∧ _))
def Iv.inside (i k : Iv) : Prop := i.right ∧ k.has i.lo ∧ k.has i.hi
instance (i k : Iv) : Decidable (i.inside k) := inferInstanceAs (Decidable (_ ∧ _))
def Iv.okI (i : Iv) : Prop := i.lo.ok ∧ i.hi.ok
def Iv.ge (i : Iv) (k : Int) : Prop := i.lo.ge k ∧ i.hi.ge k
theorem mulI_P {P : Dy → Prop} {i k : Iv} (h1 : P (mulS i.lo k.lo)) (h2 : P (mulS i.lo k.hi)) (h3 : P (mulS i.hi k.lo)) (h4 : P (mulS i.hi k.hi)) : P (mulI i k).lo ∧ P (mulI i k).hi :=
  ⟨min4_P h1 h2 h3 h4, max4_P h1 h2 h3 h4⟩
theorem mulI_ge {i k : Iv} {a b : Int} (h1 : i.ge a) (h2 : k.ge b) : (mulI i k).ge (a + b) :=
  mulI_P (P := fun d => d.ge (a + b)) (mulS_ge h1.1 h2.1) (mulS_ge h1.1 h2.2) (mulS_ge h1.2 h2.1) (mulS_ge h1.2 h2.2)
theorem mulI_ok {i k : Iv} (h1 : i.okI) (h2 : k.okI) : (mulI i k).okI :=
  mulI_P (P := Dy.ok) (mulS_ok h1.1 h2.1) (mulS_ok h1.1 h2.2) (mulS_ok h1.2 h2.1) (mulS_ok h1.2 h2.2)
theorem mulI_at {i k : Iv} {a b : Int} (h1 : i.ge a) (h2 : k.ge b) :
    (mulI i k).lo.at (a + b) = min (min (min (i.lo.at a * k.lo.at b) (i.lo.at a * k.hi.at b)) (i.hi.at a * k.lo.at b)) (i.hi.at a * k.hi.at b) ∧
    (mulI i k).hi.at (a + b) = max (max (max (i.lo.at a * k.lo.at b) (i.lo.at a * k.hi.at b)) (i.hi.at a * k.lo.at b)) (i.hi.at a * k.hi.at b) := by
  unfold mulI
  dsimp only
  rw [min4_at (mulS_ge h1.1 h2.1) (mulS_ge h1.1 h2.2) (mulS_ge h1.2 h2.1) (mulS_ge h1.2 h2.2), max4_at (mulS_ge h1.1 h2.1) (mulS_ge h1.1 h2.2) (mulS_ge h1.2 h2.1) (mulS_ge h1.2 h2.2), mulS_at h1.1 h2.1, mulS_at h1.1 h2.2, mulS_at h1.2 h2.1, mulS_at h1.2 h2.2]
  exact ⟨rfl, rfl⟩
theorem cmp_le {a b : Dy} {k : Int} (h1 : a.ge k) (h2 : b.ge k) : cmpD a b ≤ 0 ↔ a.at k ≤ b.at k := by rw [cmp_at h1 h2, sgn_le]
theorem cmp_trans {a b c : Dy} (h1 : cmpD a b ≤ 0) (h2 : cmpD b c ≤ 0) : cmpD a c ≤ 0 := by
  have ga : a.ge (min a.e (min b.e c.e)) := .inr (by omega)
  have gb : b.ge (min a.e (min b.e c.e)) := .inr (by omega)
  have gc : c.ge (min a.e (min b.e c.e)) := .inr (by omega)
  rw [cmp_le ga gb] at h1
  rw [cmp_le gb gc] at h2
  rw [cmp_le ga gc]
  omega
/-- A product of numbers of two intervals lies between the products of the ends. -/
theorem lin {a x b y : Int} (h1 : a ≤ x) (h2 : x ≤ b) : min (a * y) (b * y) ≤ x * y ∧ x * y ≤ max (a * y) (b * y) := by
  rcases Int.le_total 0 y with h | h
  · have := Int.mul_le_mul_of_nonneg_right h1 h
    have := Int.mul_le_mul_of_nonneg_right h2 h
    omega
  · have := Int.mul_le_mul_of_nonpos_right h1 h
    have := Int.mul_le_mul_of_nonpos_right h2 h
    omega
theorem bil {a b c d x y : Int} (h1 : a ≤ x) (h2 : x ≤ b) (h3 : c ≤ y) (h4 : y ≤ d) : min (min (min (a * c) (a * d)) (b * c)) (b * d) ≤ x * y ∧ x * y ≤ max (max (max (a * c) (a * d)) (b * c)) (b * d) := by
  have l1 := lin (y := y) h1 h2
  have l2 := lin (y := a) h3 h4
  have l3 := lin (y := b) h3 h4
  rw [Int.mul_comm c a, Int.mul_comm d a, Int.mul_comm y a] at l2
  rw [Int.mul_comm c b, Int.mul_comm d b, Int.mul_comm y b] at l3
  omega
theorem has_at {i : Iv} {d : Dy} {k : Int} (hr : i.right) (hf : d.fits) (h1 : i.ge k) (h2 : d.ge k) : i.has d ↔ i.lo.at k ≤ d.at k ∧ d.at k ≤ i.hi.at k := by
  unfold Iv.has
  rw [cmp_le h1.1 h2, cmp_le h2 h1.2]
  exact ⟨fun h => h.2.2, fun h => ⟨hr, hf, h.1, h.2⟩⟩
theorem right_at {i : Iv} {k : Int} (h1 : i.ge k) (f1 : i.lo.fits) (f2 : i.hi.fits) : i.right ↔ i.lo.at k ≤ i.hi.at k := by
  unfold Iv.right
  rw [cmp_le h1.1 h1.2]
  exact ⟨fun h => h.2.2, fun h => ⟨f1, f2, h⟩⟩
theorem Iv.ge_min (i : Iv) : i.ge (min i.lo.e i.hi.e) := ⟨.inr (by omega), .inr (by omega)⟩
theorem Iv.ge.mono {i : Iv} {k k' : Int} (h : i.ge k') (hk : k ≤ k') : i.ge k := ⟨h.1.mono hk, h.2.mono hk⟩
end Go.Proofs.YtejmlngnpekagaaGreatDoor
