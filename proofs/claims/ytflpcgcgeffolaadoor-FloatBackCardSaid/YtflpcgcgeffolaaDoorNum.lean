/- The contracts of nat's functions at whatever reads as a number: a list of limbs that is worth it. -/
import Derived.Test.YtflpcgcgeffolaaDoorRef4
open Go PG Go.Proofs
set_option maxRecDepth 100000
set_option linter.unusedSimpArgs false
set_option linter.unusedVariables false
namespace Go.Proofs.YtflpcgcgeffolaaDoor

/-- It reads as the number x. -/
def Num (p : PV) (x : Nat) : Prop := ∃ l, p = NL l ∧ Ok W l ∧ vl l = x ∧ l.length ≤ 1048576

theorem num_NN {x : Nat} (h : (dg W x).length ≤ 1048576) : Num (NN x) x := ⟨_, rfl, ok_dg W2 x, dv_dg W2 x, h⟩
theorem num_NL {l : List Nat} (ol : Ok W l) (h : l.length ≤ 1048576) : Num (NL l) (vl l) := ⟨l, rfl, ol, rfl, h⟩
theorem num_nil : Num (.lst 0 []) 0 := ⟨[], rfl, Ok.nil, rfl, by decide⟩
theorem w_of_bits {x n : Nat} (h : bitLen x ≤ 64 * n) : (dg W x).length ≤ n := by
  rw [dg_len_W]
  have := dgB_le_of_bits (x := x) (n := 4 * n) (by omega)
  omega
theorem num_bits {x : Nat} (h : bitLen x ≤ 1000000) : Num (NN x) x := num_NN (Nat.le_trans (w_of_bits (n := 15625) (by omega)) (by decide))
theorem bits_of_vl {l : List Nat} (ol : Ok W l) : bitLen (vl l) ≤ 64 * l.length := (bitLen_le _ _).2 (by rw [← W_pow]; exact dv_lt l ol)
theorem bitLen_mono {x y : Nat} (h : x ≤ y) : bitLen x ≤ bitLen y := (bitLen_le _ _).2 (Nat.lt_of_le_of_lt h ((bitLen_le y _).1 (Nat.le_refl _)))
theorem bitLen_add {x y n : Nat} (hx : bitLen x ≤ n) (hy : bitLen y ≤ n) : bitLen (x + y) ≤ n + 1 := by
  rw [bitLen_le] at hx hy ⊢
  rw [Nat.pow_succ]
  omega
theorem bitLen_shl_le (x n : Nat) : bitLen (x * 2 ^ n) ≤ bitLen x + n := by
  by_cases h : x = 0
  · subst h; rw [Nat.zero_mul]; exact Nat.le_trans (Nat.le_of_eq (show bitLen 0 = 0 from rfl)) (Nat.zero_le _)
  · rw [bitLen_shl x n h]; exact Nat.le_refl _

theorem k_Bare {p : PV} {x : Nat} (h : Num p x) : PC E 105 [p] (NN x) := by
  obtain ⟨l, rfl, ol, rfl, hl⟩ := h; exact n_Bare l (by omega) ol
theorem k_Small {p : PV} {x : Nat} (h : Num p x) : PC E 93 [p] (.tuple [u (if x < W then x else 0), .bool (decide (x < W))]) := by
  obtain ⟨l, rfl, ol, rfl, hl⟩ := h; exact c_Small l (by omega) ol
theorem k_Add {p q : PV} {x y : Nat} (h : Num p x) (h' : Num q y) : PC E 101 [p, q] (NN (x + y)) := by
  obtain ⟨l, rfl, ol, rfl, hl⟩ := h; obtain ⟨l', rfl, ol', rfl, hl'⟩ := h'; exact c_Add l l' hl hl' ol ol'
theorem k_Cmp {p q : PV} {x y : Nat} (h : Num p x) (h' : Num q y) : PC E 102 [p, q] (.int .i64 (sgn x y)) := by
  obtain ⟨l, rfl, ol, rfl, hl⟩ := h; obtain ⟨l', rfl, ol', rfl, hl'⟩ := h'; exact c_Cmp l l' hl hl' ol ol'
theorem k_Sub_lt {p q : PV} {x y : Nat} (h : Num p x) (h' : Num q y) (hlt : x < y) : PC E 103 [p, q] (.tuple [.lst 0 [], .int .i64 1]) := by
  obtain ⟨l, rfl, ol, rfl, hl⟩ := h; obtain ⟨l', rfl, ol', rfl, hl'⟩ := h'; exact PC.cast (c_Sub l l' hl hl' ol ol') (if_pos hlt)
theorem k_Sub {p q : PV} {x y : Nat} (h : Num p x) (h' : Num q y) (hle : y ≤ x) : PC E 103 [p, q] (.tuple [NN (x - y), .int .i64 0]) := by
  obtain ⟨l, rfl, ol, rfl, hl⟩ := h; obtain ⟨l', rfl, ol', rfl, hl'⟩ := h'; exact PC.cast (c_Sub l l' hl hl' ol ol') (if_neg (by omega))
theorem k_Bits {p : PV} {x : Nat} (h : Num p x) : PC E 98 [p] (.int .i64 (bitLen x)) := by
  obtain ⟨l, rfl, ol, rfl, hl⟩ := h; exact c_Bits l hl ol
theorem k_Odd {p : PV} {x : Nat} (h : Num p x) : PC E 118 [p] (.bool (decide (x % 2 = 1))) := by
  obtain ⟨l, rfl, ol, rfl, hl⟩ := h; exact c_Odd l ol
theorem k_Low {p : PV} {x : Nat} (h : Num p x) : PC E 131 [p] (.int .i64 (tz x)) := by
  obtain ⟨l, rfl, ol, rfl, hl⟩ := h; exact c_Low l hl ol
theorem k_Shr {p : PV} {x : Nat} (h : Num p x) (n : Int) : PC E 107 [p, .int .i64 n] (.tuple [NN (x / 2 ^ n.toNat), .bool (decide (x % 2 ^ n.toNat ≠ 0))]) := by
  obtain ⟨l, rfl, ol, rfl, hl⟩ := h; exact c_Shr l hl ol n
theorem k_Shl {p : PV} {x : Nat} (h : Num p x) (n : Int) (hn : -9223372036854775808 ≤ n) : PC E 92 [p, .int .i64 n] (shlV x n) := by
  obtain ⟨l, rfl, ol, rfl, hl⟩ := h; exact c_Shl l hl ol n hn
theorem k_Shln {p : PV} {x : Nat} (h : Num p x) (n : Nat) (hn : bitLen x + n ≤ 65536) : PC E 92 [p, .int .i64 n] (.tuple [NN (x * 2 ^ n), .int .i64 0]) :=
  PC.cast (k_Shl h n (by omega)) (by
    unfold shlV
    rw [if_neg (by omega)]
    by_cases hx : x = 0
    · rw [if_pos hx]; subst hx; rw [Nat.zero_mul]; rfl
    · rw [if_neg hx, if_neg (by omega), Int.toNat_natCast])
theorem k_Shrn {p : PV} {x : Nat} (h : Num p x) (n : Nat) : PC E 107 [p, .int .i64 n] (.tuple [NN (x / 2 ^ n), .bool (decide (x % 2 ^ n ≠ 0))]) := PC.cast (k_Shr h n) (by rw [Int.toNat_natCast])
theorem k_To {p : PV} {x : Nat} (h : Num p x) : PC E 80 [p] (VN x) := by
  obtain ⟨l, rfl, ol, rfl, hl⟩ := h; exact c_To l hl ol

theorem sgn_self (x : Int) : sgn x x = 0 := by simp [sgn]
theorem sgn_swap (x y : Int) : sgn y x = -sgn x y := by unfold sgn; split <;> split <;> omega
theorem sgn_neg (x y : Int) : sgn x y < 0 ↔ x < y := by unfold sgn; split <;> (try split) <;> omega
theorem sgn_pos (x y : Int) : 0 < sgn x y ↔ y < x := by unfold sgn; split <;> (try split) <;> omega
theorem sgn_zero (x y : Int) : sgn x y = 0 ↔ x = y := by unfold sgn; split <;> (try split) <;> omega
theorem sgn_mul (x y k : Nat) (hk : 0 < k) : sgn ((x * k : Nat) : Int) ((y * k : Nat) : Int) = sgn x y := by
  have h1 : x * k < y * k ↔ x < y := ⟨fun h => Nat.lt_of_mul_lt_mul_right h, fun h => Nat.mul_lt_mul_of_pos_right h hk⟩
  have h2 : y * k < x * k ↔ y < x := ⟨fun h => Nat.lt_of_mul_lt_mul_right h, fun h => Nat.mul_lt_mul_of_pos_right h hk⟩
  unfold sgn
  simp only [Int.ofNat_lt, h1, h2]
theorem sgn_le (x y : Int) : sgn x y ≤ 0 ↔ x ≤ y := by unfold sgn; split <;> (try split) <;> omega
theorem sgn_range (x y : Int) : -1 ≤ sgn x y ∧ sgn x y ≤ 1 := by unfold sgn; split <;> (try split) <;> omega
end Go.Proofs.YtflpcgcgeffolaaDoor
