/- Several parts in one text. -/
import Derived.Test.YtmnnnapelmhalaaDoorG4
/- What planimeterref01's functions hand back, told in numbers: digits to the base 65536. -/
section
open Go PG Go.Proofs
set_option maxRecDepth 100000
set_option linter.unusedSimpArgs false
set_option linter.unusedVariables false
namespace Go.Proofs.YtmnnnapelmhalaaDoor

abbrev B : Nat := 65536
theorem B2 : 2 ≤ B := by decide
theorem B0 : 0 < B := by decide
def e32 (d : Nat) : PV := .int .u32 d
def V (l : List Nat) : List PV := l.map e32
def VL (l : List Nat) : PV := .lst l.length (V l)
/-- A number as a slice of digits. -/
def VN (x : Nat) : PV := VL (dg B x)
abbrev vd (l : List Nat) : Nat := dv B l

theorem V_length (l : List Nat) : (V l).length = l.length := by simp [V]
theorem V_get (l : List Nat) (i : Nat) : (V l)[i]? = (l[i]?).map e32 := by simp [V]
theorem V_take (l : List Nat) (i : Nat) : (V l).take i = V (l.take i) := by simp [V, List.map_take]
theorem V_append (l r : List Nat) : V l ++ V r = V (l ++ r) := by simp [V]
theorem V_one (d : Nat) : V [d] = [.int .u32 d] := rfl
theorem V_set (l : List Nat) (i d : Nat) : (V l).set i (e32 d) = V (l.set i d) := by simp [V, List.map_set]
theorem V_getD {l : List Nat} {i : Nat} (h : i < l.length) : (V l)[i]? = some (e32 (l.getD i 0)) := by
  rw [V_get, List.getD_eq_getElem?_getD, List.getElem?_eq_getElem h]; rfl
theorem U_getD {l : List Nat} {i : Nat} (h : i < l.length) : (U l)[i]? = some (u (l.getD i 0)) := by
  rw [U_get, List.getD_eq_getElem?_getD, List.getElem?_eq_getElem h]; rfl

theorem wrap32 {a : Nat} (h : a < 4294967296) : IntKind.wrap .u32 (a : Int) = (a : Int) := by
  rw [IntKind.wrap_u32]; omega

theorem W_B : W = B ^ 4 := by decide
theorem n_tmod (a b : Nat) : Int.tmod (a : Int) (b : Int) = ((a % b : Nat) : Int) := by
  rw [Int.tmod_eq_emod_of_nonneg (Int.natCast_nonneg a)]; rfl
theorem n_tdiv (a b : Nat) : Int.tdiv (a : Int) (b : Int) = ((a / b : Nat) : Int) := by
  rw [Int.tdiv_eq_ediv_of_nonneg (Int.natCast_nonneg a)]; rfl

theorem limb_digit (x i : Nat) {k : Nat} (hk : k < 4) : x / W ^ i % W / B ^ k % B = x / B ^ (4 * i + k) % B := by
  have e1 : W ^ i = B ^ (4 * i) := by rw [W_B, ← Nat.pow_mul]
  have e2 : W = B ^ k * B ^ (4 - k) := by rw [← Nat.pow_add, show k + (4 - k) = 4 by omega, W_B]
  have e3 : B ∣ B ^ (4 - k) := by
    obtain ⟨j, hj⟩ : ∃ j, 4 - k = j + 1 := ⟨4 - k - 1, by omega⟩
    rw [hj, Nat.pow_succ]; exact ⟨B ^ j, Nat.mul_comm _ _⟩
  rw [e1, Nat.pow_add, ← Nat.div_div_eq_div_mul]
  generalize x / B ^ (4 * i) = y
  rw [e2, Nat.mod_mul_right_div_self, Nat.mod_mod_of_dvd _ e3]

/-- A contract at a list of digits whose length and worth are known otherwise. -/
theorem PC.at_vlist {f : FuncId} {l : List Nat} {n x y : Nat} (h : PC E f [VL l] (VN x)) (hn : l.length = n) (e : x = y) : PC E f [.lst n (V l)] (VN y) := by
  subst hn; subst e; exact h

end Go.Proofs.YtmnnnapelmhalaaDoor
end

/- What planimeterref01's Double, Add, Sub, Cmp and Same hand back. -/
section
open Go PG Go.Proofs
set_option maxRecDepth 100000
set_option linter.unusedSimpArgs false
set_option linter.unusedVariables false
namespace Go.Proofs.YtmnnnapelmhalaaDoor

theorem vn_get (x i : Nat) : (dg B x).getD i 0 = x / B ^ i % B := by
  rw [dv_get B0 _ (ok_dg B2 x) i, dv_dg B2]
theorem vn_at {x i : Nat} (h : i < (dg B x).length) : (V (dg B x))[i]? = some (e32 (x / B ^ i % B)) := by
  rw [V_getD h, vn_get]
theorem vn_pow (i : Nat) : 0 < B ^ i := Nat.pow_pos B0

theorem lt_of_dg {x i : Nat} (h : ¬ i < (dg B x).length) : x < B ^ i := Nat.lt_of_not_le fun hle => h ((dg_lt B2).2 hle)
theorem dig_zero {x i : Nat} (h : ¬ i < (dg B x).length) : x / B ^ i % B = 0 := by rw [Nat.div_eq_of_lt (lt_of_dg h), Nat.zero_mod]

theorem carry_div {A C M : Nat} (hM : 0 < M) : (A + C) / M = A / M + C / M + carry A C M := by
  have e : A + C = (A % M + C % M) + M * (A / M + C / M) := by
    have := Nat.mod_add_div A M
    have := Nat.mod_add_div C M
    rw [Nat.mul_add]
    omega
  rw [e, Nat.add_mul_div_left _ _ hM]
  unfold carry
  omega

end Go.Proofs.YtmnnnapelmhalaaDoor
end

/- What planimeterref01's Sub, Of, Shl, Bits, Bit and Shr hand back. -/
section
open Go PG Go.Proofs
set_option maxRecDepth 100000
set_option linter.unusedSimpArgs false
set_option linter.unusedVariables false
namespace Go.Proofs.YtmnnnapelmhalaaDoor

theorem mix_get (x z i : Nat) (h : i < (dg B x).length) : (V (tab B z i ++ (dg B x).drop i))[i]? = some (e32 (x / B ^ i % B)) := by
  rw [V_get, List.getElem?_append_right (by simp [tab_length]), tab_length, Nat.sub_self, List.getElem?_drop, Nat.add_zero, ← V_get, vn_at h]

theorem mix_set {l : List Nat} {z i v : Nat} (h : i < l.length) (hv : v = z / B ^ i % B) : (V (tab B z i ++ l.drop i)).set i (e32 v) = V (tab B z (i + 1) ++ l.drop (i + 1)) := by
  subst hv
  rw [V_set, List.set_append_right _ _ (by simp [tab_length]), tab_length, Nat.sub_self, List.drop_eq_getElem_cons h, List.set_cons_zero, tab_succ]
  simp

theorem B_pow (n : Nat) : B ^ n = 2 ^ (16 * n) := by rw [Nat.pow_mul]
theorem bitLen_digits (x : Nat) : bitLen x ≤ 16 * (dg B x).length := by
  rw [bitLen_le, ← B_pow]
  exact lt_of_dg (by omega)

end Go.Proofs.YtmnnnapelmhalaaDoor
end

/- What planimeterref01's Shl hands back; digits and limbs of one number; the laws' helpers of layer 1. -/
section
open Go PG Go.Proofs
set_option maxRecDepth 100000
set_option linter.unusedSimpArgs false
set_option linter.unusedVariables false
namespace Go.Proofs.YtmnnnapelmhalaaDoor

theorem dg_shift {b : Nat} (hb : 2 ≤ b) {x : Nat} (hx : x ≠ 0) : ∀ k, dg b (x * b ^ k) = List.replicate k 0 ++ dg b x
  | 0 => by simp
  | k + 1 => by
    have h1 : x * b ^ (k + 1) = b * (x * b ^ k) := by rw [Nat.pow_succ, ← Nat.mul_assoc, Nat.mul_comm]
    have h2 : x * b ^ (k + 1) ≠ 0 := by
      rw [h1]
      exact Nat.mul_ne_zero (by omega) (Nat.mul_ne_zero hx (Nat.pos_iff_ne_zero.1 (Nat.pow_pos (by omega))))
    rw [dg_pos hb h2, h1, Nat.mul_mod_right, Nat.mul_div_cancel_left _ (by omega), dg_shift hb hx k, List.replicate_succ]
    rfl

theorem dg_len_W (x : Nat) : (dg W x).length = ((dg B x).length + 3) / 4 := by
  have h : ∀ k, (dg W x).length ≤ k ↔ (dg B x).length ≤ 4 * k := fun k => by
    rw [dg_length_le W2, dg_length_le B2, Nat.pow_mul, ← W_B]
  have h1 := h ((dg W x).length)
  have h2 := h (((dg B x).length + 3) / 4)
  omega

theorem dgB_le_of_bits {x n : Nat} (h : bitLen x ≤ 16 * n) : (dg B x).length ≤ n := by
  rw [dg_length_le B2, B_pow]
  exact (bitLen_le _ _).1 h

theorem bits_of_dgB {x n : Nat} (h : (dg B x).length ≤ n) : bitLen x ≤ 16 * n := Nat.le_trans (bitLen_digits x) (by omega)

theorem bitLen_shl (x n : Nat) (hx : x ≠ 0) : bitLen (x * 2 ^ n) = bitLen x + n := by
  have h : ∀ k, bitLen (x * 2 ^ n) ≤ k ↔ bitLen x + n ≤ k := fun k => by
    rw [bitLen_le]
    constructor
    · intro h
      have hn : n ≤ k := by
        refine Nat.le_of_not_lt fun hlt => ?_
        have h1 : 2 ^ k ≤ 2 ^ n := Nat.pow_le_pow_right (by decide) (by omega)
        have h2 : 2 ^ n ≤ x * 2 ^ n := Nat.le_mul_of_pos_left _ (by omega)
        omega
      have : x < 2 ^ (k - n) := by
        rw [show 2 ^ k = 2 ^ (k - n) * 2 ^ n by rw [← Nat.pow_add]; congr 1; omega] at h
        exact Nat.lt_of_mul_lt_mul_right h
      have := (bitLen_le x (k - n)).2 this
      omega
    · intro h
      have : x < 2 ^ (k - n) := (bitLen_le x (k - n)).1 (by omega)
      rw [show 2 ^ k = 2 ^ (k - n) * 2 ^ n by rw [← Nat.pow_add]; congr 1; omega]
      exact Nat.mul_lt_mul_of_pos_right this (Nat.two_pow_pos n)
  have h1 := h (bitLen (x * 2 ^ n))
  have h2 := h (bitLen x + n)
  omega

theorem dgB_of_vl {a : List Nat} (oa : Ok W a) : (dg B (vl a)).length ≤ 4 * a.length := by
  rw [dg_length_le B2, Nat.pow_mul, ← W_B]
  exact dv_lt a oa

end Go.Proofs.YtmnnnapelmhalaaDoor
end

/- The contracts of nat's functions at whatever reads as a number: a list of limbs that is worth it. -/
section
open Go PG Go.Proofs
set_option maxRecDepth 100000
set_option linter.unusedSimpArgs false
set_option linter.unusedVariables false
namespace Go.Proofs.YtmnnnapelmhalaaDoor

/-- It reads as the number x. -/
def Num (p : PV) (x : Nat) : Prop := ∃ l, p = NL l ∧ Ok W l ∧ vl l = x ∧ l.length ≤ 1048576

theorem num_NN {x : Nat} (h : (dg W x).length ≤ 1048576) : Num (NN x) x := ⟨_, rfl, ok_dg W2 x, dv_dg W2 x, h⟩
theorem num_NL {l : List Nat} (ol : Ok W l) (h : l.length ≤ 1048576) : Num (NL l) (vl l) := ⟨l, rfl, ol, rfl, h⟩
theorem num_nil : Num (.lst 0 []) 0 := ⟨[], rfl, Ok.nil, rfl, by decide⟩
theorem w_of_bits {x n : Nat} (h : bitLen x ≤ 64 * n) : (dg W x).length ≤ n := by
  rw [dg_len_W]
  have := dgB_le_of_bits (x := x) (n := 4 * n) (by omega)
  omega
theorem num_bits {x : Nat} (h : bitLen x ≤ 1000000) : Num (NN x) x := num_NN (Nat.le_trans (w_of_bits (n := 15625) (by omega)) (by decide))
theorem bits_of_vl {l : List Nat} (ol : Ok W l) : bitLen (vl l) ≤ 64 * l.length := (bitLen_le _ _).2 (by rw [← W_pow]; exact dv_lt l ol)
theorem bitLen_mono {x y : Nat} (h : x ≤ y) : bitLen x ≤ bitLen y := (bitLen_le _ _).2 (Nat.lt_of_le_of_lt h ((bitLen_le y _).1 (Nat.le_refl _)))
theorem bitLen_add {x y n : Nat} (hx : bitLen x ≤ n) (hy : bitLen y ≤ n) : bitLen (x + y) ≤ n + 1 := by
  rw [bitLen_le] at hx hy ⊢
  rw [Nat.pow_succ]
  omega
theorem bitLen_shl_le (x n : Nat) : bitLen (x * 2 ^ n) ≤ bitLen x + n := by
  by_cases h : x = 0
  · subst h; rw [Nat.zero_mul]; exact Nat.le_trans (Nat.le_of_eq (show bitLen 0 = 0 from rfl)) (Nat.zero_le _)
  · rw [bitLen_shl x n h]; exact Nat.le_refl _

theorem k_Bare {p : PV} {x : Nat} (h : Num p x) : PC E 52 [p] (NN x) := by
  obtain ⟨l, rfl, ol, rfl, hl⟩ := h; exact n_Bare l (by omega) ol
theorem k_Small {p : PV} {x : Nat} (h : Num p x) : PC E 87 [p] (.tuple [u (if x < W then x else 0), .bool (decide (x < W))]) := by
  obtain ⟨l, rfl, ol, rfl, hl⟩ := h; exact c_Small l (by omega) ol
theorem k_Add {p q : PV} {x y : Nat} (h : Num p x) (h' : Num q y) : PC E 33 [p, q] (NN (x + y)) := by
  obtain ⟨l, rfl, ol, rfl, hl⟩ := h; obtain ⟨l', rfl, ol', rfl, hl'⟩ := h'; exact c_Add l l' hl hl' ol ol'
theorem k_Cmp {p q : PV} {x y : Nat} (h : Num p x) (h' : Num q y) : PC E 34 [p, q] (.int .i64 (sgn x y)) := by
  obtain ⟨l, rfl, ol, rfl, hl⟩ := h; obtain ⟨l', rfl, ol', rfl, hl'⟩ := h'; exact c_Cmp l l' hl hl' ol ol'
theorem k_Sub_lt {p q : PV} {x y : Nat} (h : Num p x) (h' : Num q y) (hlt : x < y) : PC E 35 [p, q] (.tuple [.lst 0 [], .int .i64 1]) := by
  obtain ⟨l, rfl, ol, rfl, hl⟩ := h; obtain ⟨l', rfl, ol', rfl, hl'⟩ := h'; exact PC.cast (c_Sub l l' hl hl' ol ol') (if_pos hlt)
theorem k_Sub {p q : PV} {x y : Nat} (h : Num p x) (h' : Num q y) (hle : y ≤ x) : PC E 35 [p, q] (.tuple [NN (x - y), .int .i64 0]) := by
  obtain ⟨l, rfl, ol, rfl, hl⟩ := h; obtain ⟨l', rfl, ol', rfl, hl'⟩ := h'; exact PC.cast (c_Sub l l' hl hl' ol ol') (if_neg (by omega))
theorem k_Bits {p : PV} {x : Nat} (h : Num p x) : PC E 38 [p] (.int .i64 (bitLen x)) := by
  obtain ⟨l, rfl, ol, rfl, hl⟩ := h; exact c_Bits l hl ol
theorem k_Odd {p : PV} {x : Nat} (h : Num p x) : PC E 86 [p] (.bool (decide (x % 2 = 1))) := by
  obtain ⟨l, rfl, ol, rfl, hl⟩ := h; exact c_Odd l ol
theorem k_Low {p : PV} {x : Nat} (h : Num p x) : PC E 67 [p] (.int .i64 (tz x)) := by
  obtain ⟨l, rfl, ol, rfl, hl⟩ := h; exact c_Low l hl ol
theorem k_Shr {p : PV} {x : Nat} (h : Num p x) (n : Int) : PC E 68 [p, .int .i64 n] (.tuple [NN (x / 2 ^ n.toNat), .bool (decide (x % 2 ^ n.toNat ≠ 0))]) := by
  obtain ⟨l, rfl, ol, rfl, hl⟩ := h; exact c_Shr l hl ol n
theorem k_Shl {p : PV} {x : Nat} (h : Num p x) (n : Int) (hn : -9223372036854775808 ≤ n) : PC E 39 [p, .int .i64 n] (shlV x n) := by
  obtain ⟨l, rfl, ol, rfl, hl⟩ := h; exact c_Shl l hl ol n hn
theorem k_Shln {p : PV} {x : Nat} (h : Num p x) (n : Nat) (hn : bitLen x + n ≤ 65536) : PC E 39 [p, .int .i64 n] (.tuple [NN (x * 2 ^ n), .int .i64 0]) :=
  PC.cast (k_Shl h n (by omega)) (by
    unfold shlV
    rw [if_neg (by omega)]
    by_cases hx : x = 0
    · rw [if_pos hx]; subst hx; rw [Nat.zero_mul]; rfl
    · rw [if_neg hx, if_neg (by omega), Int.toNat_natCast])
theorem k_Shrn {p : PV} {x : Nat} (h : Num p x) (n : Nat) : PC E 68 [p, .int .i64 n] (.tuple [NN (x / 2 ^ n), .bool (decide (x % 2 ^ n ≠ 0))]) := PC.cast (k_Shr h n) (by rw [Int.toNat_natCast])
theorem sgn_self (x : Int) : sgn x x = 0 := by simp [sgn]
theorem sgn_swap (x y : Int) : sgn y x = -sgn x y := by unfold sgn; split <;> split <;> omega
theorem sgn_neg (x y : Int) : sgn x y < 0 ↔ x < y := by unfold sgn; split <;> (try split) <;> omega
theorem sgn_pos (x y : Int) : 0 < sgn x y ↔ y < x := by unfold sgn; split <;> (try split) <;> omega
theorem sgn_zero (x y : Int) : sgn x y = 0 ↔ x = y := by unfold sgn; split <;> (try split) <;> omega
theorem sgn_mul (x y k : Nat) (hk : 0 < k) : sgn ((x * k : Nat) : Int) ((y * k : Nat) : Int) = sgn x y := by
  have h1 : x * k < y * k ↔ x < y := ⟨fun h => Nat.lt_of_mul_lt_mul_right h, fun h => Nat.mul_lt_mul_of_pos_right h hk⟩
  have h2 : y * k < x * k ↔ y < x := ⟨fun h => Nat.lt_of_mul_lt_mul_right h, fun h => Nat.mul_lt_mul_of_pos_right h hk⟩
  unfold sgn
  simp only [Int.ofNat_lt, h1, h2]
theorem sgn_le (x y : Int) : sgn x y ≤ 0 ↔ x ≤ y := by unfold sgn; split <;> (try split) <;> omega
theorem sgn_range (x y : Int) : -1 ≤ sgn x y ∧ sgn x y ≤ 1 := by unfold sgn; split <;> (try split) <;> omega
end Go.Proofs.YtmnnnapelmhalaaDoor
end
