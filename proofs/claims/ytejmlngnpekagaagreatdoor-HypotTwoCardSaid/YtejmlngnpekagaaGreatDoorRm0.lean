/- The reference's product, digit by digit: plain laws. No program stands here. -/
import Derived.Test.YtejmlngnpekagaaGreatDoorMul1
open Go PG Go.Proofs
set_option maxRecDepth 100000
set_option linter.unusedSimpArgs false
set_option linter.unusedVariables false
namespace Go.Proofs.YtejmlngnpekagaaGreatDoor

theorem row_stepG {b Y A n i : Nat} (hb : 2 ≤ b) (hn : n < b) :
    (Y % b ^ i + A % b ^ i * n) / b ^ i < b ∧
    ((Y % b ^ i + A % b ^ i * n) / b ^ i + Y / b ^ i % b + A / b ^ i % b * n) % b = (Y + A * n) / b ^ i % b ∧
    ((Y % b ^ i + A % b ^ i * n) / b ^ i + Y / b ^ i % b + A / b ^ i % b * n) / b = (Y % b ^ (i + 1) + A % b ^ (i + 1) * n) / b ^ (i + 1) ∧
    (Y + A * n) / b ^ i = Y / b ^ i + A / b ^ i * n + (Y % b ^ i + A % b ^ i * n) / b ^ i := by
  have hP := Nat.pow_pos (n := i) (show 0 < b by omega)
  have y1 := Nat.mod_lt Y hP
  have a1 := Nat.mod_lt A hP
  have ey := Nat.mod_add_div Y (b ^ i)
  have ea := Nat.mod_add_div A (b ^ i)
  have ey2 : Y % b ^ (i + 1) = Y % b ^ i + b ^ i * (Y / b ^ i % b) := by rw [Nat.pow_succ, Nat.mod_mul]
  have ea2 : A % b ^ (i + 1) = A % b ^ i + b ^ i * (A / b ^ i % b) := by rw [Nat.pow_succ, Nat.mod_mul]
  rw [ey2, ea2]
  generalize hP2 : b ^ i = P at *
  generalize Y % P = yl at *
  generalize A % P = al at *
  generalize hyh : Y / P = yh at *
  generalize hah : A / P = ah at *
  have e : Y + A * n = (yl + al * n) + P * (yh + ah * n) := by
    rw [← ey, ← ea, Nat.add_mul, Nat.mul_add, Nat.mul_assoc]; omega
  refine ⟨?_, ?_, ?_, ?_⟩
  · rw [Nat.div_lt_iff_lt_mul hP]
    have h1 : al * n ≤ (P - 1) * (b - 1) := Nat.mul_le_mul (by omega) (by omega)
    have h2 : (P - 1) * (b - 1) + (P - 1) + (P - 1) + (b - 1) + 1 = P * b + (P - 1) := by
      obtain ⟨p, rfl⟩ : ∃ p, P = p + 1 := ⟨P - 1, by omega⟩
      obtain ⟨w, hw⟩ : ∃ w, b = w + 1 := ⟨b - 1, by omega⟩
      rw [hw]
      simp only [Nat.add_sub_cancel, Nat.add_mul, Nat.mul_add, Nat.mul_one, Nat.one_mul]
      omega
    rw [Nat.mul_comm b P]
    omega
  · rw [e, Nat.add_mul_div_left _ _ hP]
    generalize (yl + al * n) / P = c
    simp [Nat.add_mod, Nat.mul_mod, Nat.add_assoc]
  · have e : yl + P * (yh % b) + (al + P * (ah % b)) * n = (yl + al * n) + P * (yh % b + ah % b * n) := by
      rw [Nat.add_mul, Nat.mul_add, Nat.mul_assoc]; omega
    rw [e, Nat.pow_succ, hP2, ← Nat.div_div_eq_div_mul, Nat.add_mul_div_left _ _ hP, Nat.add_assoc]
  · rw [e, Nat.add_mul_div_left _ _ hP, Nat.add_comm]

/-- Some digits of T, the others of P. -/
def mixL (b T P n m : Nat) : List Nat := (List.range m).map fun j => (if j < n then T else P) / b ^ j % b
theorem mixL_length (b T P n m : Nat) : (mixL b T P n m).length = m := by simp [mixL]
theorem mixL_get {b T P n m : Nat} (h : n < m) : (mixL b T P n m)[n]? = some (P / b ^ n % b) := by
  simp [mixL, h]
theorem mixL_set {b T P n m : Nat} (h : n < m) : (mixL b T P n m).set n (T / b ^ n % b) = mixL b T P (n + 1) m := by
  apply List.ext_getElem?
  intro j
  rw [List.getElem?_set]
  by_cases hj : n = j
  · subst hj
    simp [mixL, h]
  · rw [if_neg hj]
    by_cases hjm : j < m
    · simp only [mixL, List.getElem?_map, List.getElem?_range hjm, Option.map_some]
      by_cases h2 : j < n
      · rw [if_pos h2, if_pos (by omega)]
      · rw [if_neg h2, if_neg (by omega)]
    · simp [mixL, hjm]
theorem mixL_start {b P i m X : Nat} (hb : 2 ≤ b) : mixL b (P + b ^ i * X) P i m = tab b P m := by
  apply List.ext_getElem?
  intro j
  by_cases hjm : j < m
  · simp only [mixL, tab, List.getElem?_map, List.getElem?_range hjm, Option.map_some, Option.some.injEq]
    by_cases h2 : j < i
    · rw [if_pos h2, show b ^ i = b ^ j * (b ^ (i - j - 1) * b) by rw [← Nat.pow_succ, ← Nat.pow_add]; congr 1; omega, Nat.mul_assoc, Nat.add_mul_div_left _ _ (Nat.pow_pos (by omega)), Nat.mul_right_comm, Nat.add_mul_mod_self_right]
    · rw [if_neg h2]
  · simp [mixL, tab, hjm]
theorem mixL_end {b T P n m : Nat} (hb : 2 ≤ b) (h : T / b ^ n = P / b ^ n) : mixL b T P n m = tab b T m := by
  apply List.ext_getElem?
  intro j
  by_cases hjm : j < m
  · simp only [mixL, tab, List.getElem?_map, List.getElem?_range hjm, Option.map_some, Option.some.injEq]
    by_cases h2 : j < n
    · rw [if_pos h2]
    · rw [if_neg h2, show b ^ j = b ^ n * b ^ (j - n) by rw [← Nat.pow_add]; congr 1; omega, ← Nat.div_div_eq_div_mul, ← Nat.div_div_eq_div_mul, h]
  · simp [mixL, tab, hjm]

/-- The step from digit to digit: P is what stands there, a product with the digit n is added from the place i on. -/
theorem mix_step {b A n i k P : Nat} (hb : 2 ≤ b) (hn : n < b) :
    (P / b ^ i % b ^ k + A % b ^ k * n) / b ^ k < b ∧
    (P / b ^ (i + k) % b + (P / b ^ i % b ^ k + A % b ^ k * n) / b ^ k + n * (A / b ^ k % b)) % b = (P + b ^ i * (A * n)) / b ^ (i + k) % b ∧
    (P / b ^ (i + k) % b + (P / b ^ i % b ^ k + A % b ^ k * n) / b ^ k + n * (A / b ^ k % b)) / b = (P / b ^ i % b ^ (k + 1) + A % b ^ (k + 1) * n) / b ^ (k + 1) ∧
    (P + b ^ i * (A * n)) / b ^ (i + k) = P / b ^ (i + k) + A / b ^ k * n + (P / b ^ i % b ^ k + A % b ^ k * n) / b ^ k := by
  obtain ⟨h1, h2, h3, h4⟩ := row_stepG (b := b) (Y := P / b ^ i) (A := A) (n := n) (i := k) hb hn
  have hi := Nat.pow_pos (n := i) (show 0 < b by omega)
  have e1 : P / b ^ (i + k) = P / b ^ i / b ^ k := by rw [Nat.pow_add, Nat.div_div_eq_div_mul]
  have e2 : (P + b ^ i * (A * n)) / b ^ (i + k) = (P / b ^ i + A * n) / b ^ k := by
    rw [Nat.pow_add, ← Nat.div_div_eq_div_mul, Nat.add_mul_div_left _ _ hi]
  rw [e1, e2]
  refine ⟨h1, ?_, ?_, h4⟩
  · rw [← h2, Nat.mul_comm n]
    congr 1
    omega
  · rw [← h3, Nat.mul_comm n]
    congr 1
    omega
end Go.Proofs.YtejmlngnpekagaaGreatDoor
