/- Shifts of numbers, limb by limb; how many bits; how often a number can be halved. No program stands here. -/
import Derived.Test.YtflpcgcgeffolaaDoorBits
set_option linter.unusedVariables false
set_option linter.unusedSimpArgs false
namespace PG
open Go

theorem W_pow (k : Nat) : W ^ k = 2 ^ (64 * k) := by rw [show W = 2 ^ 64 from rfl, ← Nat.pow_mul]

/-- The limb at a place, out of the number. -/
def lb (x : Nat) (i : Int) : Nat := if i < 0 then 0 else x / W ^ i.toNat % W

theorem lb_lt (x : Nat) (i : Int) : lb x i < W := by
  unfold lb
  split
  · exact W0
  · exact Nat.mod_lt _ W0

theorem lb_nat (x i : Nat) : lb x (i : Int) = x / W ^ i % W := by
  unfold lb
  rw [if_neg (by omega), Int.toNat_natCast]

theorem lb_neg (x : Nat) (i : Int) (h : i < 0) : lb x i = 0 := if_pos h

theorem limb_bit (x k j : Nat) : (x / W ^ k % W).testBit j = (decide (j < 64) && x.testBit (64 * k + j)) := by
  rw [W_pow, show W = 2 ^ 64 from rfl, Nat.testBit_mod_two_pow, Nat.testBit_div_two_pow, Nat.add_comm]

theorem shr_digit (x w p i : Nat) (hp : p < 64) : x / W ^ (i + w) % W / 2 ^ p ||| (x / W ^ (i + w + 1) % W * 2 ^ (64 - p) % W) = x / 2 ^ (64 * w + p) / W ^ i % W := by
  apply Nat.eq_of_testBit_eq
  intro j
  rw [limb_bit, Nat.testBit_or, Nat.testBit_div_two_pow, limb_bit, show W = 2 ^ 64 from rfl, Nat.testBit_mod_two_pow, Nat.mul_comm _ (2 ^ (64 - p)), Nat.testBit_two_pow_mul, ← show W = 2 ^ 64 from rfl, limb_bit, Nat.testBit_div_two_pow]
  by_cases h : j + p < 64
  · have h1 : ¬ (j ≥ 64 - p) := by omega
    have h2 : j < 64 := by omega
    simp only [h, h1, h2, decide_true, decide_false, Bool.true_and, Bool.false_and, Bool.and_false, Bool.or_false]
    congr 1; omega
  · by_cases h2 : j < 64
    · have h1 : j ≥ 64 - p := by omega
      have h3 : j - (64 - p) < 64 := by omega
      simp only [h, h1, h2, h3, decide_true, decide_false, Bool.true_and, Bool.false_and, Bool.false_or]
      congr 1; omega
    · simp only [h, h2, decide_false, Bool.false_and, Bool.or_false]

theorem shl_digit (x w p i : Nat) (hp : p < 64) : (lb x ((i : Int) - w) * 2 ^ p % W) ||| lb x ((i : Int) - w - 1) / 2 ^ (64 - p) = x * 2 ^ (64 * w + p) / W ^ i % W := by
  apply Nat.eq_of_testBit_eq
  intro j
  rw [limb_bit, Nat.testBit_or, Nat.testBit_div_two_pow, show W = 2 ^ 64 from rfl, Nat.testBit_mod_two_pow, Nat.mul_comm _ (2 ^ p), Nat.testBit_two_pow_mul, Nat.mul_comm x, Nat.testBit_two_pow_mul]
  by_cases hw : w ≤ i
  · obtain ⟨k, rfl⟩ : ∃ k, i = w + k := ⟨i - w, by omega⟩
    rw [show ((w + k : Nat) : Int) - w = (k : Int) by omega, lb_nat, limb_bit]
    by_cases hk : k = 0
    · subst hk
      rw [lb_neg _ _ (by omega), Nat.zero_testBit]
      by_cases h2 : j < 64
      · by_cases h1 : j ≥ p
        · have h3 : j - p < 64 := by omega
          have h4 : 64 * (w + 0) + j ≥ 64 * w + p := by omega
          simp only [h1, h2, h3, h4, decide_true, Bool.true_and, Bool.or_false]
          congr 1; omega
        · have h4 : ¬ (64 * (w + 0) + j ≥ 64 * w + p) := by omega
          simp only [h1, h2, h4, decide_true, decide_false, Bool.true_and, Bool.false_and, Bool.or_false]
      · simp only [h2, decide_false, Bool.false_and, Bool.or_false]
    · obtain ⟨k', rfl⟩ : ∃ k', k = k' + 1 := ⟨k - 1, by omega⟩
      rw [show ((k' + 1 : Nat) : Int) - 1 = (k' : Int) by omega, lb_nat, limb_bit]
      by_cases h2 : j < 64
      · by_cases h1 : j ≥ p
        · have h3 : j - p < 64 := by omega
          have h4 : 64 * (w + (k' + 1)) + j ≥ 64 * w + p := by omega
          have h5 : ¬ (j + (64 - p) < 64) := by omega
          simp only [h1, h2, h3, h4, h5, decide_true, decide_false, Bool.true_and, Bool.false_and, Bool.or_false]
          congr 1; omega
        · have h4 : 64 * (w + (k' + 1)) + j ≥ 64 * w + p := by omega
          have h5 : j + (64 - p) < 64 := by omega
          simp only [h1, h2, h4, h5, decide_true, decide_false, Bool.true_and, Bool.false_and, Bool.false_or]
          congr 1; omega
      · have h5 : ¬ (j + (64 - p) < 64) := by omega
        simp only [h2, h5, decide_false, Bool.false_and, Bool.or_false]
  · rw [lb_neg _ _ (by omega), lb_neg _ _ (by omega), Nat.zero_testBit, Nat.zero_testBit]
    by_cases h2 : j < 64
    · have h4 : ¬ (64 * i + j ≥ 64 * w + p) := by omega
      simp only [h4, decide_false, Bool.false_and, Bool.and_false, Bool.or_false]
    · simp only [h2, decide_false, Bool.false_and, Bool.and_false, Bool.or_false]

/-! ### Bits -/
theorem bitLen_top {x m : Nat} (h : (dg W x).length = m + 1) : bitLen x = 64 * m + bitLen (x / W ^ m % W) := by
  have h1 : x < W ^ (m + 1) := (dg_length_le W2 (m + 1) x).1 (by omega)
  have h2 : ¬ x < W ^ m := fun h2 => by have := (dg_length_le W2 m x).2 h2; omega
  have h3 : x / W ^ m < W := by rw [Nat.div_lt_iff_lt_mul (Nat.pow_pos W0), Nat.mul_comm, ← Nat.pow_succ]; exact h1
  rw [Nat.mod_eq_of_lt h3]
  rw [W_pow] at h2 ⊢
  exact bitLen_div (by omega)

theorem bitLen_le_limbs (x : Nat) : bitLen x ≤ 64 * (dg W x).length := by
  rw [bitLen_le, ← W_pow]
  exact (dg_length_le W2 _ x).1 (Nat.le_refl _)

theorem dg_length_bits (x : Nat) (h : x ≠ 0) : 64 * (dg W x).length < bitLen x + 64 := by
  match hm : (dg W x).length with
  | 0 => have := bitLen_pos h; omega
  | m + 1 =>
    have h2 : ¬ x < 2 ^ (64 * m) := fun h2 => by
      rw [← W_pow] at h2
      have := (dg_length_le W2 m x).2 h2
      omega
    rw [← bitLen_le] at h2
    omega

/-! ### Halving -/
theorem odd_unique {a b m n : Nat} (h : 2 ^ a * (2 * m + 1) = 2 ^ b * (2 * n + 1)) : a = b := by
  rcases Nat.lt_trichotomy a b with hl | rfl | hl
  · exfalso
    obtain ⟨k, rfl⟩ : ∃ k, b = a + 1 + k := ⟨b - a - 1, by omega⟩
    rw [show 2 ^ (a + 1 + k) * (2 * n + 1) = 2 ^ a * (2 * (2 ^ k * (2 * n + 1))) by rw [Nat.pow_add, Nat.pow_succ]; simp only [Nat.mul_assoc, Nat.mul_comm, Nat.mul_left_comm]] at h
    have := Nat.eq_of_mul_eq_mul_left (Nat.two_pow_pos a) h
    omega
  · rfl
  · exfalso
    obtain ⟨k, rfl⟩ : ∃ k, a = b + 1 + k := ⟨a - b - 1, by omega⟩
    rw [show 2 ^ (b + 1 + k) * (2 * m + 1) = 2 ^ b * (2 * (2 ^ k * (2 * m + 1))) by rw [Nat.pow_add, Nat.pow_succ]; simp only [Nat.mul_assoc, Nat.mul_comm, Nat.mul_left_comm]] at h
    have := Nat.eq_of_mul_eq_mul_left (Nat.two_pow_pos b) h
    omega

/-- How often a number can be halved; 0 at 0. -/
def tz (x : Nat) : Nat := if x = 0 then 0 else Lib.ctzFrom x x

theorem tz_spec {x : Nat} (h : x ≠ 0) : ∃ m, x = 2 ^ tz x * (2 * m + 1) := by
  unfold tz
  rw [if_neg h]
  obtain ⟨m, hm, _⟩ := Lib.ctzFrom_spec x x (by omega) Nat.lt_two_pow_self
  exact ⟨m, hm⟩

theorem tz_of {x k m : Nat} (h : x = 2 ^ k * (2 * m + 1)) : tz x = k := by
  have h0 : x ≠ 0 := by
    have := Nat.mul_pos (Nat.two_pow_pos k) (show 0 < 2 * m + 1 by omega)
    omega
  obtain ⟨n, hn⟩ := tz_spec h0
  exact odd_unique (hn.symm.trans h)

theorem tz_lt {x n : Nat} (h : x ≠ 0) : tz x < n ↔ x % 2 ^ n ≠ 0 := by
  obtain ⟨m, hm⟩ := tz_spec h
  generalize tz x = t at hm ⊢
  constructor
  · intro hl h0
    obtain ⟨k, rfl⟩ : ∃ k, n = t + 1 + k := ⟨n - t - 1, by omega⟩
    obtain ⟨c, hc⟩ := Nat.dvd_of_mod_eq_zero h0
    rw [hc, show 2 ^ (t + 1 + k) * c = 2 ^ t * (2 * (2 ^ k * c)) by rw [Nat.pow_add, Nat.pow_succ]; simp only [Nat.mul_assoc, Nat.mul_comm, Nat.mul_left_comm]] at hm
    have := Nat.eq_of_mul_eq_mul_left (Nat.two_pow_pos t) hm
    omega
  · intro h1
    rcases Nat.lt_or_ge t n with h2 | h2
    · exact h2
    · exfalso
      apply h1
      obtain ⟨k, rfl⟩ : ∃ k, t = n + k := ⟨t - n, by omega⟩
      rw [hm, Nat.pow_add, Nat.mul_assoc]
      exact Nat.mul_mod_right _ _

/-- The first limb that isn't 0 tells it. -/
theorem tz_limb {x i : Nat} (h0 : x % W ^ i = 0) (hd : x / W ^ i % W ≠ 0) : tz x = 64 * i + Lib.ctz 64 (x / W ^ i % W) := by
  have hlt : x / W ^ i % W < 2 ^ 64 := Nat.mod_lt _ W0
  have e1 := Nat.mod_add_div x (W ^ i)
  have e2 := Nat.mod_add_div (x / W ^ i) W
  generalize x / W ^ i % W = d at *
  generalize x / W ^ i / W = r at *
  obtain ⟨m, hm, hk⟩ := Lib.ctzFrom_spec 64 d (by omega) hlt
  have ec : Lib.ctz 64 d = Lib.ctzFrom 64 d := by simp [Lib.ctz, hd]
  rw [ec]
  generalize Lib.ctzFrom 64 d = c at *
  obtain ⟨q, hq⟩ : ∃ q, 64 = c + 1 + q := ⟨64 - c - 1, by omega⟩
  refine tz_of (m := m + 2 ^ q * r) ?_
  rw [← e1, h0, Nat.zero_add, ← e2, hm, W_pow, show W = 2 ^ c * (2 * 2 ^ q) by rw [show W = 2 ^ (c + 1 + q) by rw [← hq], Nat.pow_add, Nat.pow_succ, Nat.mul_assoc], Nat.pow_add]
  rw [show 2 ^ c * (2 * m + 1) + 2 ^ c * (2 * 2 ^ q) * r = 2 ^ c * (2 * (m + 2 ^ q * r) + 1) by
    rw [Nat.mul_assoc (2 ^ c), ← Nat.mul_add]
    congr 1
    rw [Nat.mul_assoc 2]
    omega]
  rw [Nat.mul_assoc]
end PG
