/- Division of two words by one, by halves of words: plain laws. No program stands here. -/
import Derived.Test.YtejmlngnpekagaaDoorG8
open Go PG Go.Proofs
set_option maxRecDepth 100000
set_option linter.unusedSimpArgs false
set_option linter.unusedVariables false
namespace Go.Proofs.YtejmlngnpekagaaDoor

theorem dq_lt {B a u y q : Nat} (h : a * B + u < q * y) (hy : 0 < y) : (a * B + u) / y < q := (Nat.div_lt_iff_lt_mul hy).2 h
/-- A guess that is too great: one less, and still not below. -/
theorem dq_keep {B n1 n0 q r a v : Nat} (h0 : n0 < B) (hv : v < B) (e : q * n1 + r = a) (hq : (a * B + v) / (n1 * B + n0) ≤ q) (hlt : a < n1 * B + n0) (hc : B ≤ q ∨ B * r + v < q * n0) :
    (a * B + v) / (n1 * B + n0) ≤ q - 1 ∧ 0 < q ∧ (q - 1) * n1 + (r + n1) = a := by
  have hy : 0 < n1 * B + n0 := by omega
  have key : (a * B + v) / (n1 * B + n0) < q := by
    rcases hc with hc | hc
    · refine Nat.lt_of_lt_of_le (dq_lt (q := B) ?_ hy) hc
      have : (a + 1) * B ≤ (n1 * B + n0) * B := Nat.mul_le_mul_right B hlt
      rw [Nat.mul_comm B]
      rw [Nat.add_mul, Nat.one_mul] at this
      omega
    · refine dq_lt ?_ hy
      have e1 : q * (n1 * B + n0) = q * n1 * B + q * n0 := by rw [Nat.mul_add, Nat.mul_assoc]
      have e2 : a * B = q * n1 * B + B * r := by rw [← e, Nat.add_mul, Nat.mul_comm r]
      omega
  have hq0 : 0 < q := Nat.lt_of_le_of_lt (Nat.zero_le _) key
  refine ⟨by omega, hq0, ?_⟩
  obtain ⟨p, rfl⟩ : ∃ p, q = p + 1 := ⟨q - 1, by omega⟩
  rw [Nat.add_sub_cancel]
  rw [Nat.add_mul, Nat.one_mul] at e
  omega
/-- A guess that is not too great is right. -/
theorem dq_done {B n1 n0 q r a v : Nat} (e : q * n1 + r = a) (hq : (a * B + v) / (n1 * B + n0) ≤ q) (hy : 0 < n1 * B + n0) (hc : q * n0 ≤ B * r + v) : (a * B + v) / (n1 * B + n0) = q := by
  refine Nat.le_antisymm hq ((Nat.le_div_iff_mul_le hy).2 ?_)
  have e1 : q * (n1 * B + n0) = q * n1 * B + q * n0 := by rw [Nat.mul_add, Nat.mul_assoc]
  have e2 : a * B = q * n1 * B + B * r := by rw [← e, Nat.add_mul, Nat.mul_comm r]
  omega
/-- The first guess is not below, and not far above. -/
theorem dq_first {B n1 n0 a v : Nat} (h1 : 0 < n1) (hv : v < B) : (a * B + v) / (n1 * B + n0) ≤ a / n1 := by
  have hB : 0 < B := by omega
  have hy : 0 < n1 * B := Nat.mul_pos h1 hB
  refine Nat.le_trans (Nat.div_le_div_left (Nat.le_add_right _ n0) hy) ?_
  rw [Nat.mul_comm n1, ← Nat.div_div_eq_div_mul]
  refine Nat.div_le_div_right ?_
  rw [Nat.mul_comm a, Nat.mul_add_div hB, Nat.div_eq_of_lt hv, Nat.add_zero]
  exact Nat.le_refl _
theorem dq_up {B n1 n0 a : Nat} (h1 : B ≤ 2 * n1) (h0 : n0 < B) (hlt : a < n1 * B + n0) : a / n1 ≤ B + 1 := by
  have hn : 0 < n1 := by omega
  refine Nat.le_of_lt_succ ((Nat.div_lt_iff_lt_mul hn).2 ?_)
  have : (B + 1 + 1) * n1 = n1 * B + 2 * n1 := by rw [Nat.add_mul, Nat.add_mul, Nat.mul_comm B]; omega
  show a < (B + 1 + 1) * n1
  omega
/-- Two halves make the whole. -/
theorem dq_two {B a v w y : Nat} (hy : 0 < y) (hw : w < B) (ha : a < y) (hv : v < B) :
    ((a * B + v) * B + w) / y = (a * B + v) / y * B + ((a * B + v) % y * B + w) / y ∧ ((a * B + v) * B + w) % y = ((a * B + v) % y * B + w) % y := by
  have hd := Nat.div_add_mod (a * B + v) y
  generalize (a * B + v) / y = q at *
  generalize (a * B + v) % y = r at *
  have e : (a * B + v) * B + w = y * (q * B) + (r * B + w) := by
    rw [← hd, Nat.add_mul, Nat.mul_assoc, Nat.add_assoc]
  rw [e]
  exact ⟨by rw [Nat.mul_add_div hy], by rw [Nat.mul_add_mod]⟩
theorem dq_shift {n y s : Nat} : n * 2 ^ s / (y * 2 ^ s) = n / y ∧ n * 2 ^ s % (y * 2 ^ s) / 2 ^ s = n % y := by
  have hp := Nat.two_pow_pos s
  exact ⟨Nat.mul_div_mul_right _ _ hp, by rw [Nat.mul_mod_mul_right, Nat.mul_div_cancel _ hp]⟩
end Go.Proofs.YtejmlngnpekagaaDoor
