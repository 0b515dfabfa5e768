/- The order of numbers is the order of their bits: plain laws on what bits are worth. -/
import Derived.Test.YtflpcgcgeffolaaDoorRd6
open Go PG Go.Proofs
set_option maxRecDepth 100000
set_option linter.unusedSimpArgs false
set_option linter.unusedVariables false
namespace Go.Proofs.YtflpcgcgeffolaaDoor

theorem at_shift (d : Dy) {k k' : Int} (h1 : k ≤ k') (h2 : k' ≤ d.e) : d.at k = d.at k' * ((2 ^ (k' - k).toNat : Nat) : Int) := by
  unfold Dy.at
  rw [show (d.e - k).toNat = (d.e - k').toNat + (k' - k).toNat by omega, Nat.pow_add, ← Nat.mul_assoc, Int.natCast_mul, Int.mul_assoc]
theorem sgn_mulI (x y : Int) (n : Nat) (h : 0 < n) : sgn (x * n) (y * n) = sgn x y := by
  have hn : (0 : Int) < n := by omega
  have h1 : x * n < y * n ↔ x < y := ⟨fun h => Int.lt_of_mul_lt_mul_right h (Int.le_of_lt hn), fun h => Int.mul_lt_mul_of_pos_right h hn⟩
  have h2 : y * n < x * n ↔ y < x := ⟨fun h => Int.lt_of_mul_lt_mul_right h (Int.le_of_lt hn), fun h => Int.mul_lt_mul_of_pos_right h hn⟩
  unfold sgn
  simp only [h1, h2]
/-- The order, at any unit that is small enough. -/
theorem cmpD_at (a b : Dy) {k : Int} (h1 : k ≤ a.e) (h2 : k ≤ b.e) : cmpD a b = sgn (a.at k) (b.at k) := by
  unfold cmpD
  rw [at_shift a (k := k) (k' := min a.e b.e) (by omega) (by omega), at_shift b (k := k) (k' := min a.e b.e) (by omega) (by omega), sgn_mulI _ _ _ (Nat.two_pow_pos _)]
theorem mkD_at (s : Bool) (x : Nat) {e k : Int} (h1 : -2147483648 ≤ e) (h2 : e ≤ 2147483648) (hk : k ≤ e) : (mkD s x e).at k = (if s = true then -1 else 1) * ((x * 2 ^ (e - k).toNat : Nat) : Int) := by
  unfold mkD
  by_cases hx : x = 0
  · rw [if_pos hx, hx]
    simp [Dy.at, Dy.zero]
  · rw [if_neg hx]
    obtain ⟨m, hm⟩ := tz_spec hx
    have : x / 2 ^ tz x = 2 * m + 1 := Nat.div_eq_of_eq_mul_right (Nat.two_pow_pos _) hm
    have hd : x / 2 ^ tz x * 2 ^ tz x = x := by rw [this, Nat.mul_comm]; exact hm.symm
    unfold Dy.at
    dsimp only
    rw [cut_id h1 h2, show (e + (tz x : Int) - k).toNat = tz x + (e - k).toNat by omega, Nat.pow_add, ← Nat.mul_assoc, hd]

/-- A number without a sign, in units of 2^-1074. -/
def fv (b : Nat) : Nat := fm b * 2 ^ (max (fe b) 1 - 1)
theorem fd_at (b : Nat) : (fd b).at (-1074) = (if fs b = true then -1 else 1) * (fv b : Int) := by
  have := fe_lt b
  rw [fd, mkD_at _ _ (by omega) (by omega) (by omega), fv]
  rw [show (max (fe b : Int) 1 - 1075 - -1074).toNat = max (fe b) 1 - 1 by omega]
theorem fv_lt {a b : Nat} (hb : b < 9223372036854775808) (h : a < b) : fv a < fv b := by
  have ha : a < 9223372036854775808 := Nat.lt_trans h hb
  have e1 : fe a = a / 4503599627370496 := by unfold fe; omega
  have e2 : fe b = b / 4503599627370496 := by unfold fe; omega
  have f1 : ff a = a % 4503599627370496 := rfl
  have f2 : ff b = b % 4503599627370496 := rfl
  unfold fv fm
  by_cases he : fe a = fe b
  · rw [he]
    refine Nat.mul_lt_mul_of_pos_right ?_ (Nat.two_pow_pos _)
    split <;> omega
  · have hlt : fe a < fe b := by omega
    have hb0 : fe b ≠ 0 := by omega
    rw [if_neg hb0]
    by_cases ha0 : fe a = 0
    · rw [if_pos ha0, ha0]
      have hp : 1 ≤ 2 ^ (max (fe b) 1 - 1) := Nat.two_pow_pos _
      have h3 : (ff b + 4503599627370496) * 1 ≤ (ff b + 4503599627370496) * 2 ^ (max (fe b) 1 - 1) := Nat.mul_le_mul_left _ hp
      have h4 : ff a < 4503599627370496 := ff_lt a
      rw [show max 0 1 - 1 = 0 from rfl, Nat.pow_zero, Nat.mul_one]
      omega
    · rw [if_neg ha0]
      have h5 : 2 ^ fe a ≤ 2 ^ (max (fe b) 1 - 1) := Nat.pow_le_pow_right (by decide) (by omega)
      have h6 : 2 ^ fe a = 2 * 2 ^ (max (fe a) 1 - 1) := by
        obtain ⟨n, hn⟩ : ∃ n, fe a = n + 1 := ⟨fe a - 1, by omega⟩
        rw [hn, show max (n + 1) 1 - 1 = n by omega, Nat.pow_succ, Nat.mul_comm]
      have h7 : 0 < 2 ^ (max (fe a) 1 - 1) := Nat.two_pow_pos _
      have h4 : ff a < 4503599627370496 := ff_lt a
      generalize 2 ^ (max (fe a) 1 - 1) = P at *
      generalize 2 ^ (max (fe b) 1 - 1) = Q at *
      have h8 : (ff a + 4503599627370496) * P < 9007199254740992 * P := Nat.mul_lt_mul_of_pos_right (by omega) h7
      have h9 : 4503599627370496 * Q ≤ (ff b + 4503599627370496) * Q := Nat.mul_le_mul_right _ (by omega)
      omega
theorem fv_sgn {a b : Nat} (ha : a < 9223372036854775808) (hb : b < 9223372036854775808) : sgn (fv a) (fv b) = sgn a b := by
  rcases Nat.lt_trichotomy a b with h | h | h
  · have := fv_lt hb h
    unfold sgn; rw [if_pos (by omega), if_pos (by omega)]
  · rw [h, sgn_self, sgn_self]
  · have := fv_lt ha h
    unfold sgn; rw [if_neg (by omega), if_pos (by omega), if_neg (by omega), if_pos (by omega)]
theorem fd_cmp {a b : Nat} (ha : a < 9223372036854775808) (hb : b < 9223372036854775808) : cmpD (fd a) (fd b) = sgn a b := by
  rw [cmpD_at (fd a) (fd b) (fd_e a).1 (fd_e b).1, fd_at, fd_at]
  have h1 : fs a = false := decide_eq_false (by omega)
  have h2 : fs b = false := decide_eq_false (by omega)
  rw [h1, h2, ← fv_sgn ha hb]
  simp
theorem fd_one : fd 4607182418800017408 = ⟨false, 1, 0⟩ := by
  have h : fm 4607182418800017408 = 2 ^ 52 * (2 * 0 + 1) := by decide
  have ht : tz (2 ^ 52 * (2 * 0 + 1)) = 52 := tz_of (m := 0) rfl
  unfold fd mkD
  rw [h, if_neg (by decide), ht]
  decide
theorem fd_ok (b : Nat) : (fd b).m = 0 ∨ (fd b).m % 2 = 1 := by
  unfold fd mkD
  split
  · exact .inl rfl
  · rename_i hx
    obtain ⟨m, hm⟩ := tz_spec hx
    have : fm b / 2 ^ tz (fm b) = 2 * m + 1 := Nat.div_eq_of_eq_mul_right (Nat.two_pow_pos _) hm
    right
    show fm b / 2 ^ tz (fm b) % 2 = 1
    omega
end Go.Proofs.YtflpcgcgeffolaaDoor
