import Derived.Test.YtfkgaldbcngliaaGreatDoorSn3
import Derived.Test.YtfkgaldbcngliaaGreatDoorSn4
open Go PG Go.Proofs
set_option maxRecDepth 100000
set_option linter.unusedSimpArgs false
set_option linter.unusedVariables false
namespace Go.Proofs.YtfkgaldbcngliaaGreatDoor
open XX
theorem rpow_lt {x y : Rat} (h0 : 0 ≤ x) (h : x < y) {n : Nat} (hn : 0 < n) : x ^ n < y ^ n := by
  obtain ⟨k, rfl⟩ : ∃ k, n = k + 1 := ⟨n - 1, by omega⟩
  rw [Rat.pow_succ, Rat.pow_succ]
  have h1 := rpow_le h0 (Rat.le_of_lt h) k
  have hy : 0 < y := by grind
  have hp : 0 < y ^ k := Rat.pow_pos hy
  have h2 : x ^ k * x ≤ y ^ k * x := Rat.mul_le_mul_of_nonneg_right h1 h0
  have h3 : y ^ k * x < y ^ k * y := Rat.mul_lt_mul_of_pos_left h hp
  grind
theorem rpow_le_iff {x y : Rat} (h0 : 0 ≤ y) {n : Nat} (hn : 0 < n) (h : x ^ n ≤ y ^ n) : x ≤ y := by
  refine Decidable.byContradiction fun hc => ?_
  have := rpow_lt h0 (show y < x by grind) hn
  grind
theorem rinv_lt {x : Rat} (h0 : 0 < x) (h : x < 1) : 1 < x⁻¹ := by
  have hi := Rat.inv_pos.2 h0
  have e : x⁻¹ * x = 1 := Rat.inv_mul_cancel x (by grind)
  have h1 : x⁻¹ * x < x⁻¹ * 1 := Rat.mul_lt_mul_of_pos_left h hi
  grind
theorem rinv_gt {x : Rat} (h : 1 < x) : x⁻¹ < 1 := by
  have hi := Rat.inv_pos.2 (show 0 < x by grind)
  have e : x⁻¹ * x = 1 := Rat.inv_mul_cancel x (by grind)
  have h1 : x⁻¹ * 1 < x⁻¹ * x := Rat.mul_lt_mul_of_pos_left h hi
  grind
theorem zp_pos {x : Rat} (h : 1 < x) {P : Int} (hP : 0 < P) : 1 < x ^ P := by
  obtain ⟨n, rfl⟩ := Int.eq_ofNat_of_zero_le (show 0 ≤ P by omega)
  rw [Rat.zpow_natCast]
  have := rpow_lt (x := 1) (by decide) h (n := n) (by omega)
  rwa [one_pow'] at this
theorem zp_low {x : Rat} (h0 : 0 < x) (h : x < 1) {P : Int} (hP : 0 < P) : x ^ P < 1 := by
  obtain ⟨n, rfl⟩ := Int.eq_ofNat_of_zero_le (show 0 ≤ P by omega)
  rw [Rat.zpow_natCast]
  have := rpow_lt (Rat.le_of_lt h0) h (n := n) (by omega)
  rwa [one_pow'] at this
theorem zp_neg (x : Rat) (P : Int) : x ^ P = (x ^ (-P))⁻¹ := by rw [Rat.zpow_neg, Rat.inv_inv]
theorem sgn_w {a : Ask} (ha : AskOk a) : (sgS a = 1 → 1 < askW a) ∧ (sgS a = -1 → askW a < 1) := by
  have hx := (log_br ha.x (s := 8) (by decide)).1
  have hy := ask_yv a
  have hK := nc_pos (Nat.two_pow_pos (askK a))
  have v1 : (norm 1 0).val = 1 := by decide +kernel
  have ypos : 0 < a.y.sg → 0 < askP a := fun h => by
    have h1 := sg_val.2.2.1 h
    have h2 : (0 : Rat) < (askP a : Rat) := by rw [← hy]; exact Rat.mul_pos h1 hK
    exact Rat.intCast_lt_intCast.1 h2
  have yneg : a.y.sg < 0 → 0 < -askP a := fun h => by
    have h1 := sg_val.2.1.1 h
    have h3 : 0 < -a.y.val * ((2 ^ askK a : Nat) : Rat) := Rat.mul_pos (by grind) hK
    have h2 : (askP a : Rat) < ((0 : Int) : Rat) := by
      rw [← hy]
      show _ < (0 : Rat)
      grind
    have := Rat.intCast_lt_intCast.1 h2
    omega
  have c := cmp_range a.x (norm 1 0)
  have s := sg_in a.y
  have xg : 0 < cmpD a.x (norm 1 0) → 1 < a.x.val := fun h => by have := cmp_val_gt.1 h; rwa [v1] at this
  have xl : cmpD a.x (norm 1 0) < 0 → a.x.val < 1 := fun h => by have := cmp_val_lt.1 h; rwa [v1] at this
  unfold sgS askW
  generalize cmpD a.x (norm 1 0) = C at *
  generalize a.y.sg = Y at *
  have hpos : ∀ P : Int, 0 < a.x.val ^ P := fun P => Rat.zpow_pos hx
  have cy : Y = -1 ∨ Y = 0 ∨ Y = 1 := by omega
  constructor
  · intro h
    rcases cy with rfl | rfl | rfl
    · have h1 := xl (by omega)
      have h2 := yneg (by omega)
      rw [zp_neg]
      exact rinv_lt (hpos _) (zp_low hx h1 h2)
    · omega
    · exact zp_pos (xg (by omega)) (ypos (by omega))
  · intro h
    rcases cy with rfl | rfl | rfl
    · have h1 := xg (by omega)
      have h2 := yneg (by omega)
      rw [zp_neg]
      exact rinv_gt (zp_pos h1 h2)
    · omega
    · exact zp_low hx (xl (by omega)) (ypos (by omega))
theorem big_ln : XL ((2 : Rat) ^ (1024 : Int)) 710 ∧ XU (-746) ((2 : Rat) ^ (-1076 : Int)) := by
  have p2 : (0 : Rat) < 2 := by decide
  have l1 := ln2_lo 20
  have l2 := ln2_hi 20
  constructor
  · exact XL.zpow p2 l1 l2 1024 (by decide +kernel) (by decide +kernel)
  · exact XU.zpow p2 l1 l2 (-1076) (by decide +kernel) (by decide +kernel)
theorem near_ln : XU (1 / 1152921504606846976) (1 + 1 / 576460752303423488) ∧ XL (1 - 1 / 1152921504606846976) (-(1 / 1152921504606846976)) := by
  have h := XU.one_sub (t := 1 / 1152921504606846976) (by decide +kernel) (by decide +kernel)
  constructor
  · exact h.mono Rat.le_refl (by decide +kernel) (by decide +kernel)
  · exact (h.inv (by decide +kernel)).mono Rat.le_refl (by decide +kernel) (by decide +kernel)
theorem bound_w {a : Ask} (ha : AskOk a) {b : Nat} (hb : 32 ≤ b) :
    (boundS (zS a b) (sgS a) = 1 → ((2 : Rat) ^ (1024 : Int)) ^ askQ a ≤ askW a) ∧ (boundS (zS a b) (sgS a) = 2 → askW a ≤ ((2 : Rat) ^ (-1076 : Int)) ^ askQ a) ∧
    (boundS (zS a b) (sgS a) = 3 → 1 < askW a ∧ askW a ≤ (1 + 1 / 576460752303423488) ^ askQ a) ∧ (boundS (zS a b) (sgS a) = 4 → (1 - 1 / 1152921504606846976) ^ askQ a ≤ askW a ∧ askW a < 1) := by
  obtain ⟨g1, g2⟩ := zS_br ha hb
  have hw := askW_pos ha
  obtain ⟨w1, w2⟩ := sgn_w ha
  obtain ⟨b1, b2⟩ := big_ln
  obtain ⟨n1, n2⟩ := near_ln
  have qn := natc0 (askQ a)
  have v1 : (norm 710 0).val = 710 := by decide +kernel
  have v2 : (norm (-746) 0).val = -746 := by decide +kernel
  have v3 : nearD.val = 1 / 1152921504606846976 := by decide +kernel
  have v4 : nearD.neg.val = -(1 / 1152921504606846976) := by rw [val_neg, v3]
  unfold boundS
  by_cases c0 : sgS a = 0 ∨ ¬ (zS a b).right
  · rw [if_pos c0]
    refine ⟨fun h => absurd h (by decide), fun h => absurd h (by decide), fun h => absurd h (by decide), fun h => absurd h (by decide)⟩
  rw [if_neg c0]
  by_cases c1 : 0 ≤ cmpD (zS a b).lo (norm 710 0)
  · rw [if_pos c1]
    refine ⟨fun _ => ?_, fun h => absurd h (by decide), fun h => absurd h (by decide), fun h => absurd h (by decide)⟩
    have h := cmp_val_ge.1 c1
    rw [v1] at h
    have p0 := z2_pos 1024
    have h2 := Rat.mul_le_mul_of_nonneg_left h qn
    exact ((b1.pow (Rat.le_of_lt p0) (askQ a)).mono h2 Rat.le_refl (Rat.le_of_lt (Rat.pow_pos p0))).le g1 (Rat.le_of_lt (Rat.pow_pos p0)) (Rat.le_of_lt hw)
  rw [if_neg c1]
  by_cases c2 : cmpD (zS a b).hi (norm (-746) 0) ≤ 0
  · rw [if_pos c2]
    refine ⟨fun h => absurd h (by decide), fun _ => ?_, fun h => absurd h (by decide), fun h => absurd h (by decide)⟩
    have h := cmp_val_le.1 c2
    rw [v2] at h
    have p0 := z2_pos (-1076)
    have h2 := Rat.mul_le_mul_of_nonneg_left h qn
    exact g2.le ((b2.pow (Rat.le_of_lt p0) (askQ a)).mono h2 Rat.le_refl (Rat.le_of_lt (Rat.pow_pos p0))) (Rat.le_of_lt hw) (Rat.le_of_lt (Rat.pow_pos p0))
  rw [if_neg c2]
  by_cases c3 : sgS a = 1 ∧ cmpD (zS a b).hi nearD < 0
  · rw [if_pos c3]
    refine ⟨fun h => absurd h (by decide), fun h => absurd h (by decide), fun _ => ⟨w1 c3.1, ?_⟩, fun h => absurd h (by decide)⟩
    have h := cmp_val_lt.1 c3.2
    rw [v3] at h
    have p0 : (0 : Rat) < 1 + 1 / 576460752303423488 := by decide +kernel
    have h2 := Rat.mul_le_mul_of_nonneg_left (Rat.le_of_lt h) qn
    exact g2.le ((n1.pow (Rat.le_of_lt p0) (askQ a)).mono h2 Rat.le_refl (Rat.le_of_lt (Rat.pow_pos p0))) (Rat.le_of_lt hw) (Rat.le_of_lt (Rat.pow_pos p0))
  rw [if_neg c3]
  by_cases c4 : sgS a = -1 ∧ 0 < cmpD (zS a b).lo nearD.neg
  · rw [if_pos c4]
    refine ⟨fun h => absurd h (by decide), fun h => absurd h (by decide), fun h => absurd h (by decide), fun _ => ⟨?_, w2 c4.1⟩⟩
    have h := cmp_val_gt.1 c4.2
    rw [v4] at h
    have p0 : (0 : Rat) < 1 - 1 / 1152921504606846976 := by decide +kernel
    have h2 := Rat.mul_le_mul_of_nonneg_left (Rat.le_of_lt h) qn
    exact ((n2.pow (Rat.le_of_lt p0) (askQ a)).mono h2 Rat.le_refl (Rat.le_of_lt (Rat.pow_pos p0))).le g1 (Rat.le_of_lt (Rat.pow_pos p0)) (Rat.le_of_lt hw)
  rw [if_neg c4]
  refine ⟨fun h => absurd h (by decide), fun h => absurd h (by decide), fun h => absurd h (by decide), fun h => absurd h (by decide)⟩
structure En (a : Ask) (neg : Bool) (dir : Int) (r : Nat × Nat) (A B : Dy) : Prop where
  sA : A.s = false
  sB : B.s = false
  mA : A.m ≠ 0
  mB : B.m ≠ 0
  iA : ∀ d, (toS (sgnD A neg) false d).2 ≠ 0
  iB : ∀ d, (toS (sgnD B neg) false d).2 ≠ 0
  lo : A.val ^ askQ a ≤ askW a
  hi : askW a ≤ B.val ^ askQ a
  rA : toS (sgnD A neg) false dir = r
  rB : toS (sgnD B neg) false dir = r
theorem pos_val {d : Dy} (hs : d.s = false) (h0 : d.m ≠ 0) : 0 < d.val := by
  unfold Dy.val
  rw [hs, if_neg Bool.false_ne_true, Int.one_mul]
  exact Rat.mul_pos (nc_pos (Nat.pos_of_ne_zero h0)) (z2_pos _)
theorem two_ge (n : Nat) : n ≤ 2 ^ n := Nat.le_of_lt Nat.lt_two_pow_self
theorem big_two (x : Rat) (k : Nat) : ∃ n : Nat, k ≤ n ∧ x ≤ (2 : Rat) ^ (n : Int) := by
  obtain ⟨j, hj⟩ := arch x
  refine ⟨max j k, by omega, ?_⟩
  rw [z2_nat]
  have := ncast_le (show j ≤ 2 ^ max j k from Nat.le_trans (by omega) (two_ge (max j k)))
  grind
theorem pow_ge_self {x : Rat} (h : 1 ≤ x) {n : Nat} (hn : 0 < n) : x ≤ x ^ n := by
  obtain ⟨k, rfl⟩ : ∃ k, n = k + 1 := ⟨n - 1, by omega⟩
  rw [Rat.pow_succ]
  have h1 := one_le_rpow h k
  have := Rat.mul_le_mul_of_nonneg_right h1 (show 0 ≤ x by grind)
  grind
theorem class_flag {c : Int} (hc : 1 ≤ c ∧ c ≤ 4) (neg : Bool) (dir : Int) : (classS c neg dir).2 ≠ 0 := by
  unfold classS
  split
  · show (5 : Nat) ≠ 0; decide
  split
  · show (3 : Nat) ≠ 0; decide
  split
  · exact toS_more (by cases neg <;> decide) dir
  · exact toS_more (by cases neg <;> decide +kernel) dir
theorem en_class1 {a : Ask} (ha : AskOk a) (h : ((2 : Rat) ^ (1024 : Int)) ^ askQ a ≤ askW a) (neg : Bool) (dir : Int) : ∃ A B, En a neg dir (classS 1 neg dir) A B := by
  obtain ⟨n, hn, hx⟩ := big_two (askW a) 1024
  have hQ := askQ_pos ha
  have h1 : (1 : Rat) ≤ (2 : Rat) ^ (n : Int) := by rw [z2_nat]; exact ncast_le (Nat.two_pow_pos n)
  have h2 : (2 : Rat) ^ (1024 : Int) ≤ (2 : Rat) ^ (n : Int) := by
    rw [show (n : Int) = 1024 + ((n - 1024 : Nat) : Int) by omega, z2_add]
    have := ncast_le (Nat.two_pow_pos (n - 1024))
    have h3 := Rat.mul_le_mul_of_nonneg_left this (Rat.le_of_lt (z2_pos 1024))
    rw [← z2_nat] at h3
    rw [show ((0 + 1 : Nat) : Rat) = 1 from rfl, Rat.mul_one] at h3
    exact h3
  have cA := fun d => class1 (d := ⟨false, 1, 1024⟩) rfl (by decide) (by rw [pw_val]; exact Rat.le_refl) neg d
  have cB := fun d => class1 (d := ⟨false, 1, n⟩) rfl (show (1 : Nat) ≠ 0 by decide) (by rw [pw_val]; exact h2) neg d
  refine ⟨⟨false, 1, 1024⟩, ⟨false, 1, n⟩, ⟨rfl, rfl, by decide, show (1 : Nat) ≠ 0 by decide, fun d => ?_, fun d => ?_, ?_, ?_, cA dir, cB dir⟩⟩
  · rw [cA d]; exact class_flag (by decide) neg d
  · rw [cB d]; exact class_flag (by decide) neg d
  · rw [pw_val]; exact h
  · rw [pw_val]
    exact Rat.le_trans hx (pow_ge_self h1 hQ)
theorem en_class2 {a : Ask} (ha : AskOk a) (h : askW a ≤ ((2 : Rat) ^ (-1076 : Int)) ^ askQ a) (neg : Bool) (dir : Int) : ∃ A B, En a neg dir (classS 2 neg dir) A B := by
  have hw := askW_pos ha
  obtain ⟨n, hn, hx⟩ := big_two ((askW a)⁻¹) 1076
  have hQ := askQ_pos ha
  have h1 : (1 : Rat) ≤ (2 : Rat) ^ (n : Int) := by rw [z2_nat]; exact ncast_le (Nat.two_pow_pos n)
  have hp := z2_pos (n : Int)
  have e0 : (2 : Rat) ^ (-(n : Int)) * (2 : Rat) ^ (n : Int) = 1 := by rw [← z2_add, Int.add_left_neg, z2_zero]
  have h2 : (2 : Rat) ^ (-(n : Int)) ≤ (2 : Rat) ^ (-1076 : Int) := by
    rw [show (-1076 : Int) = -(n : Int) + ((n - 1076 : Nat) : Int) by omega, z2_add]
    have := ncast_le (Nat.two_pow_pos (n - 1076))
    have h3 := Rat.mul_le_mul_of_nonneg_left this (Rat.le_of_lt (z2_pos (-(n : Int))))
    rw [← z2_nat] at h3
    rw [show ((0 + 1 : Nat) : Rat) = 1 from rfl, Rat.mul_one] at h3
    exact h3
  have cA := fun d => class2 (d := ⟨false, 1, -(n : Int)⟩) rfl (show (1 : Nat) ≠ 0 by decide) (by rw [pw_val]; exact h2) neg d
  have cB := fun d => class2 (d := ⟨false, 1, -1076⟩) rfl (by decide) (by rw [pw_val]; exact Rat.le_refl) neg d
  refine ⟨⟨false, 1, -(n : Int)⟩, ⟨false, 1, -1076⟩, ⟨rfl, rfl, show (1 : Nat) ≠ 0 by decide, by decide, fun d => ?_, fun d => ?_, ?_, ?_, cA dir, cB dir⟩⟩
  · rw [cA d]; exact class_flag (by decide) neg d
  · rw [cB d]; exact class_flag (by decide) neg d
  · rw [pw_val]
    have h3 := Rat.le_trans hx (pow_ge_self h1 hQ)
    have e1 : ((2 : Rat) ^ (-(n : Int))) ^ askQ a * ((2 : Rat) ^ (n : Int)) ^ askQ a = 1 := by rw [← rmul_pow, e0, one_pow']
    have hpp : 0 < ((2 : Rat) ^ (-(n : Int))) ^ askQ a := Rat.pow_pos (z2_pos _)
    have h4 := Rat.mul_le_mul_of_nonneg_left h3 (Rat.le_of_lt (Rat.mul_pos hpp hw))
    have e2 : (askW a)⁻¹ * askW a = 1 := Rat.inv_mul_cancel _ (by grind)
    generalize ((2 : Rat) ^ (-(n : Int))) ^ askQ a = X at *
    generalize ((2 : Rat) ^ (n : Int)) ^ askQ a = Y at *
    generalize (askW a)⁻¹ = I at *
    generalize askW a = w at *
    have e3 : X * w * I = X := by grind
    have e4 : X * w * Y = w := by grind
    rw [e3, e4] at h4
    exact h4
  · rw [pw_val]; exact h
end Go.Proofs.YtfkgaldbcngliaaGreatDoor
