/- More on digits: which places a number has; doubling; what is put together digit by digit. No program stands here. -/
import Derived.Test.YtflpcgcgeffolaaDoorBits
set_option linter.unusedVariables false
set_option linter.unusedSimpArgs false
namespace PG
open Go

theorem dg_lt {b : Nat} (hb : 2 ≤ b) {x i : Nat} : i < (dg b x).length ↔ b ^ i ≤ x := by
  have := dg_length_le hb i x
  omega

theorem tab_dg {b : Nat} (hb : 2 ≤ b) (x : Nat) : tab b x (dg b x).length = dg b x := by
  apply List.ext_getElem
  · simp [tab_length]
  · intro i h1 h2
    have h := dv_get (show 0 < b by omega) (dg b x) (ok_dg hb x) i
    rw [dv_dg hb, List.getD_eq_getElem?_getD, List.getElem?_eq_getElem h2] at h
    simp only [tab, List.getElem_map, List.getElem_range]
    exact h.symm

theorem dg_eq_tab {b : Nat} (hb : 2 ≤ b) {x n : Nat} (h1 : n ≤ (dg b x).length) (h2 : x < b ^ n) : tab b x n = dg b x := by
  have : (dg b x).length ≤ n := (dg_length_le hb n x).2 h2
  rw [show n = (dg b x).length by omega]
  exact tab_dg hb x

def dcarry (x m M : Nat) : Nat := (2 * (x % M) + m) / M

theorem dcarry_div {x m M : Nat} (hM : 0 < M) : (2 * x + m) / M = 2 * (x / M) + dcarry x m M := by
  unfold dcarry
  have e : 2 * x + m = (2 * (x % M) + m) + M * (2 * (x / M)) := by
    have := Nat.mod_add_div x M
    rw [show M * (2 * (x / M)) = 2 * (M * (x / M)) by rw [Nat.mul_left_comm]]
    omega
  rw [e, Nat.add_mul_div_left _ _ hM, Nat.add_comm]

theorem dcarry_digit {x m M b : Nat} (hM : 0 < M) : (2 * (x / M % b) + dcarry x m M) % b = (2 * x + m) / M % b := by
  rw [dcarry_div hM, Nat.add_mod, Nat.mul_mod, Nat.mod_mod, ← Nat.mul_mod, ← Nat.add_mod]

theorem dcarry_next {x m M b : Nat} (hM : 0 < M) (hb : 0 < b) : (2 * (x / M % b) + dcarry x m M) / b = dcarry x m (M * b) := by
  have h1 : (2 * x + m) / (M * b) = 2 * (x / (M * b)) + dcarry x m (M * b) := dcarry_div (Nat.mul_pos hM hb)
  have h2 : (2 * x + m) / M = 2 * (x / M) + dcarry x m M := dcarry_div hM
  have h3 : (2 * x + m) / (M * b) = (2 * x + m) / M / b := (Nat.div_div_eq_div_mul _ _ _).symm
  have h4 : x / (M * b) = x / M / b := (Nat.div_div_eq_div_mul _ _ _).symm
  rw [h3, h2, h4] at h1
  have e : 2 * (x / M) + dcarry x m M = (2 * (x / M % b) + dcarry x m M) + b * (2 * (x / M / b)) := by
    have := Nat.mod_add_div (x / M) b
    rw [show b * (2 * (x / M / b)) = 2 * (b * (x / M / b)) by rw [Nat.mul_left_comm]]
    omega
  rw [e, Nat.add_mul_div_left _ _ hb] at h1
  omega

theorem dcarry_le {x m M : Nat} (hM : 0 < M) (hm : m ≤ 1) : dcarry x m M ≤ 1 := by
  unfold dcarry
  have h1 := Nat.mod_lt x hM
  have : (2 * (x % M) + m) / M < 2 := (Nat.div_lt_iff_lt_mul hM).2 (by omega)
  omega

theorem dcarry_one (x m : Nat) : dcarry x m 1 = m := by simp [dcarry, Nat.mod_one]

/-- Of a limb's digits, those from place k on. -/
def ofl (b x k j : Nat) : Nat := if 4 * j + 4 ≤ k then 0 else x / b ^ (max k (4 * j)) % b ^ (4 * j + 4 - max k (4 * j))

theorem ofl_zero (b x j : Nat) : ofl b x 0 j = x / (b ^ 4) ^ j % b ^ 4 := by
  unfold ofl
  rw [if_neg (by omega), Nat.max_eq_right (by omega), ← Nat.pow_mul, show 4 * j + 4 - 4 * j = 4 by omega]

theorem ofl_other {b x k j : Nat} (h : k / 4 ≠ j) : ofl b x k j = ofl b x (k + 1) j := by
  unfold ofl
  by_cases h1 : 4 * j + 4 ≤ k
  · rw [if_pos h1, if_pos (by omega)]
  · rw [if_neg h1, if_neg (by omega)]
    rw [Nat.max_eq_right (show k ≤ 4 * j by omega), Nat.max_eq_right (show k + 1 ≤ 4 * j by omega)]

theorem ofl_here {b x k : Nat} : ofl b x k (k / 4) = ofl b x (k + 1) (k / 4) * b + x / b ^ k % b := by
  unfold ofl
  rw [if_neg (by omega), Nat.max_eq_left (by omega)]
  by_cases h1 : 4 * (k / 4) + 4 ≤ k + 1
  · rw [if_pos h1, Nat.zero_mul, Nat.zero_add, show 4 * (k / 4) + 4 - k = 1 by omega, Nat.pow_one]
  · rw [if_neg h1, Nat.max_eq_left (by omega), show 4 * (k / 4) + 4 - k = (4 * (k / 4) + 4 - (k + 1)) + 1 by omega]
    generalize 4 * (k / 4) + 4 - (k + 1) = e
    rw [Nat.pow_succ b k, ← Nat.div_div_eq_div_mul, Nat.pow_succ b e]
    generalize x / b ^ k = y
    rw [Nat.mul_comm (b ^ e) b, Nat.mod_mul, Nat.mul_comm, Nat.add_comm]

theorem ofl_top {b x k j : Nat} (hb : 1 < b) (hx : x < b ^ k) : ofl b x k j = 0 := by
  unfold ofl
  split
  · rfl
  · have h0 : x / b ^ max k (4 * j) = 0 := Nat.div_eq_of_lt (Nat.lt_of_lt_of_le hx (Nat.pow_le_pow_right (by omega) (Nat.le_max_left _ _)))
    rw [h0, Nat.zero_mod]

theorem ofl_lt {b x k j : Nat} (hb : 0 < b) : ofl b x k j < b ^ 4 := by
  unfold ofl
  split
  · exact Nat.pow_pos hb
  · exact Nat.lt_of_lt_of_le (Nat.mod_lt _ (Nat.pow_pos hb)) (Nat.pow_le_pow_right hb (by omega))

theorem bitLen_topB {b k x m : Nat} (hbk : b = 2 ^ k) (hk : 1 ≤ k) (h : (dg b x).length = m + 1) : bitLen x = k * m + bitLen (x / b ^ m % b) := by
  have hb : 2 ≤ b := by
    rw [hbk]
    calc 2 = 2 ^ 1 := rfl
      _ ≤ 2 ^ k := Nat.pow_le_pow_right (by decide) hk
  have h1 : b ^ m ≤ x := (dg_lt hb).1 (by omega)
  have h2 : x < b ^ (m + 1) := (dg_length_le hb _ _).1 (by omega)
  have h3 : x / b ^ m < b := by
    rw [Nat.div_lt_iff_lt_mul (Nat.pow_pos (by omega)), ← Nat.pow_succ']
    exact h2
  have e : b ^ m = 2 ^ (k * m) := by rw [hbk, ← Nat.pow_mul]
  rw [Nat.mod_eq_of_lt h3]
  rw [e] at h1 ⊢
  exact bitLen_div h1

theorem bit_digit {k x i : Nat} (hk : 0 < k) : x / (2 ^ k) ^ (i / k) % 2 ^ k / 2 ^ (i % k) % 2 = x / 2 ^ i % 2 := by
  have hr : i % k < k := Nat.mod_lt _ hk
  have e1 : 2 ^ i = 2 ^ (k * (i / k)) * 2 ^ (i % k) := by rw [← Nat.pow_add, Nat.div_add_mod]
  have e2 : 2 ^ k = 2 ^ (i % k) * 2 ^ (k - i % k) := by rw [← Nat.pow_add]; congr 1; omega
  rw [← Nat.pow_mul, e1, ← Nat.div_div_eq_div_mul]
  generalize x / 2 ^ (k * (i / k)) = y
  rw [e2, Nat.mod_mul_right_div_self]
  obtain ⟨j, hj⟩ : ∃ j, k - i % k = j + 1 := ⟨k - i % k - 1, by omega⟩
  rw [hj, Nat.pow_succ]
  exact Nat.mod_mod_of_dvd _ ⟨2 ^ j, Nat.mul_comm _ _⟩
end PG
