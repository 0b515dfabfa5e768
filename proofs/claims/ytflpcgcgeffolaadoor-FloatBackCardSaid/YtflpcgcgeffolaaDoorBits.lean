/- What the operators on bits do to numbers below 2^64: no program stands here. -/
import Derived.Test.YtflpcgcgeffolaaDoorDig
import Derived.Laws.MathBits
import Derived.Laws.Bits64b
import Derived.Lib.TrailingZeros
set_option linter.unusedVariables false
set_option linter.unusedSimpArgs false
namespace PG
open Go

/-- The base of limbs. -/
abbrev W : Nat := 18446744073709551616
theorem W2 : 2 ≤ W := by decide
theorem W0 : 0 < W := by decide

theorem b_and {a b : Nat} (ha : a < W) (hb : b < W) : bits .and .u64 (a : Int) (b : Int) = ((a &&& b : Nat) : Int) := bits_and_u64_nat a b ha hb
theorem b_or {a b : Nat} (ha : a < W) (hb : b < W) : bits .or .u64 (a : Int) (b : Int) = ((a ||| b : Nat) : Int) := bits_or_u64_nat a b ha hb
theorem b_xor {a b : Nat} (ha : a < W) (hb : b < W) : bits .xor .u64 (a : Int) (b : Int) = ((a ^^^ b : Nat) : Int) := by
  have hx : a ^^^ b < 2 ^ 64 := Nat.xor_lt_two_pow (by omega) (by omega)
  have h1 : (BitVec.ofInt 64 (a : Int)).toNat = a := by
    rw [BitVec.ofInt_natCast, BitVec.toNat_ofNat]; exact Nat.mod_eq_of_lt (by omega)
  have h2 : (BitVec.ofInt 64 (b : Int)).toNat = b := by
    rw [BitVec.ofInt_natCast, BitVec.toNat_ofNat]; exact Nat.mod_eq_of_lt (by omega)
  show IntKind.u64.wrap ((BitVec.ofInt 64 (a : Int) ^^^ BitVec.ofInt 64 (b : Int)).toNat : Int) = _
  rw [BitVec.toNat_xor, h1, h2, IntKind.wrap_u64]
  omega
theorem b_shl (a k : Nat) : IntKind.wrap .u64 ((a : Int) * 2 ^ (min k 64)) = ((a * 2 ^ k % W : Nat) : Int) := by
  rw [IntKind.wrap_u64]
  rcases Nat.le_total k 64 with h | h
  · rw [Nat.min_eq_left h]
    simp
  · rw [Nat.min_eq_right h]
    obtain ⟨j, rfl⟩ : ∃ j, k = 64 + j := ⟨k - 64, by omega⟩
    rw [Nat.pow_add, show W = 2 ^ 64 from rfl, ← Nat.mul_assoc, Nat.mul_right_comm, Nat.mul_mod_left]
    omega
theorem b_shr {a : Nat} (ha : a < W) (k : Nat) : (a : Int).fdiv (2 ^ (min k 64)) = ((a / 2 ^ k : Nat) : Int) := by
  have key : ∀ m : Nat, (a : Int).fdiv (2 ^ m) = ((a / 2 ^ m : Nat) : Int) := fun m => by
    rw [Int.fdiv_eq_ediv_of_nonneg _ (Int.pow_nonneg (by decide))]
    simp
  rcases Nat.le_total k 64 with h | h
  · rw [Nat.min_eq_left h, key]
  · rw [Nat.min_eq_right h, key]
    rw [Nat.div_eq_of_lt (show a < 2 ^ 64 from ha), Nat.div_eq_of_lt (Nat.lt_of_lt_of_le (show a < 2 ^ 64 from ha) (Nat.pow_le_pow_right (by decide) h))]

theorem wrap_nat64 {a : Nat} (ha : a < W) : IntKind.wrap .u64 (a : Int) = (a : Int) := by
  have ha : a < 18446744073709551616 := ha
  rw [IntKind.wrap_u64]; omega
theorem wrap64 {i : Int} (h0 : -9223372036854775808 ≤ i) (h1 : i < 9223372036854775808) : IntKind.wrap .i64 i = i := by
  unfold IntKind.wrap
  simp [IntKind.bits, IntKind.signed]
  omega
theorem wrap8 {a : Nat} (ha : a < 256) : IntKind.wrap .u8 (a : Int) = (a : Int) := by
  unfold IntKind.wrap
  simp [IntKind.bits, IntKind.signed]
  omega

/-- How many bits a number has: told by what it lies below. -/
theorem bitLen_le (x m : Nat) : bitLen x ≤ m ↔ x < 2 ^ m := by
  unfold bitLen
  split
  · rename_i h; subst h; simp [Nat.two_pow_pos]
  · rename_i h; rw [← Nat.log2_lt h]; omega
theorem bitLen_zero : bitLen 0 = 0 := rfl
theorem bitLen_pos {x : Nat} (h : x ≠ 0) : 0 < bitLen x := by unfold bitLen; rw [if_neg h]; omega
theorem bitLen_div {x k : Nat} (h : 2 ^ k ≤ x) : bitLen x = k + bitLen (x / 2 ^ k) :=
  bitLen_shift x k (by have := Nat.div_pos h (Nat.two_pow_pos k); omega)
end PG
