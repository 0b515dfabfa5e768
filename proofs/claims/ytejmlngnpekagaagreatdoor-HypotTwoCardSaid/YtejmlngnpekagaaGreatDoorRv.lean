/- What a dyad is worth, as a rational number: sums, products, order. No program stands here. -/
import Derived.Test.YtejmlngnpekagaaGreatDoorLimN
open Go PG Go.Proofs
set_option maxRecDepth 100000
set_option linter.unusedSimpArgs false
set_option linter.unusedVariables false
namespace Go.Proofs.YtejmlngnpekagaaGreatDoor

/-- The worth. -/
def Dy.val (d : Dy) : Rat := ((if d.s = true then -1 else 1) * (d.m : Int) : Int) * (2 : Rat) ^ d.e
theorem two_ne : (2 : Rat) ≠ 0 := by decide
theorem z2_pos (k : Int) : (0 : Rat) < (2 : Rat) ^ k := Rat.zpow_pos (by decide)
theorem z2_add (a b : Int) : (2 : Rat) ^ (a + b) = (2 : Rat) ^ a * (2 : Rat) ^ b := Rat.zpow_add two_ne a b
theorem z2_nat (n : Nat) : (2 : Rat) ^ (n : Int) = ((2 ^ n : Nat) : Rat) := by
  rw [Rat.zpow_natCast, Rat.natCast_pow]; rfl
theorem z2_zero : (2 : Rat) ^ (0 : Int) = 1 := Rat.zpow_zero 2
theorem z2_one : (2 : Rat) ^ (1 : Int) = 2 := Rat.zpow_one 2
theorem ic (n : Nat) : ((n : Int) : Rat) = (n : Rat) := rfl
theorem val_zero {d : Dy} (h : d.m = 0) : d.val = 0 := by
  unfold Dy.val; rw [h]; simp
theorem val_at {d : Dy} {k : Int} (h : d.ge k) : d.val = ((d.at k : Int) : Rat) * (2 : Rat) ^ k := by
  by_cases h0 : d.m = 0
  · rw [val_zero h0, at_zero h0]; simp
  have hk : k ≤ d.e := h.resolve_left h0
  unfold Dy.val Dy.at
  have e1 : (2 : Rat) ^ d.e = ((2 ^ (d.e - k).toNat : Nat) : Rat) * (2 : Rat) ^ k := by
    rw [← z2_nat, ← z2_add]; congr 1; omega
  rw [e1]
  generalize (2 : Rat) ^ k = Z
  generalize 2 ^ (d.e - k).toNat = P
  rw [← Rat.mul_assoc]
  congr 1
  cases d.s <;> simp [Rat.intCast_mul, Rat.natCast_mul, Rat.neg_mul, ic]
theorem val_pt {a b : Dy} {k : Int} (h1 : a.ge k) (h2 : b.ge k) : a.val = b.val ↔ a.at k = b.at k := by
  rw [val_at h1, val_at h2]
  have := z2_pos k
  constructor
  · intro h
    have h3 := Rat.le_of_mul_le_mul_right (a := ((a.at k : Int) : Rat)) (b := ((b.at k : Int) : Rat)) (by rw [h]; exact Rat.le_refl) this
    have h4 := Rat.le_of_mul_le_mul_right (a := ((b.at k : Int) : Rat)) (b := ((a.at k : Int) : Rat)) (by rw [h]; exact Rat.le_refl) this
    exact Rat.intCast_inj.1 (Rat.le_antisymm h3 h4)
  · intro h; rw [h]
theorem val_inj {a b : Dy} (ha : a.ok) (hb : b.ok) (h : a.val = b.val) : a = b :=
  eq_of_at ha hb (k := min a.e b.e) (.inr (by omega)) (.inr (by omega)) ((val_pt (.inr (by omega)) (.inr (by omega))).1 h)
theorem cmp_val_le {a b : Dy} : cmpD a b ≤ 0 ↔ a.val ≤ b.val := by
  have h1 : a.ge (min a.e b.e) := .inr (by omega)
  have h2 : b.ge (min a.e b.e) := .inr (by omega)
  rw [cmp_at h1 h2, sgn_le, val_at h1, val_at h2]
  have := z2_pos (min a.e b.e)
  generalize (2 : Rat) ^ (min a.e b.e) = Z at *
  generalize a.at (min a.e b.e) = x
  generalize b.at (min a.e b.e) = y
  exact ⟨fun h => Rat.mul_le_mul_of_nonneg_right (Rat.intCast_le_intCast.2 h) (Rat.le_of_lt this), fun h => Rat.intCast_le_intCast.1 (Rat.le_of_mul_le_mul_right h this)⟩
theorem cmp_val_lt {a b : Dy} : cmpD a b < 0 ↔ a.val < b.val := by
  have h := cmp_val_le (a := b) (b := a)
  rw [cmp_swap] at h
  constructor
  · intro h1
    exact Rat.not_le.1 fun h2 => by have h3 := h.2 h2; omega
  · intro h1
    have h2 : ¬ b.val ≤ a.val := Rat.not_le.2 h1
    have h3 : ¬ (-cmpD a b ≤ 0) := fun h3 => h2 (h.1 h3)
    omega
theorem cmp_val_ge {a b : Dy} : 0 ≤ cmpD a b ↔ b.val ≤ a.val := by
  have h := cmp_val_le (a := b) (b := a)
  rw [cmp_swap] at h
  rw [← h]; omega
theorem cmp_val_gt {a b : Dy} : 0 < cmpD a b ↔ b.val < a.val := by
  have h := cmp_val_lt (a := b) (b := a)
  rw [cmp_swap] at h
  rw [← h]; omega
theorem cmp_val_eq {a b : Dy} : cmpD a b = 0 ↔ a.val = b.val := by
  have h1 := cmp_val_le (a := a) (b := b)
  have h2 := cmp_val_ge (a := a) (b := b)
  constructor
  · intro h; exact Rat.le_antisymm (h1.1 (by omega)) (h2.1 (by omega))
  · intro h
    have := h1.2 (by rw [h]; exact Rat.le_refl)
    have := h2.2 (by rw [h]; exact Rat.le_refl)
    omega
theorem sg_val {d : Dy} : (d.sg = 0 ↔ d.val = 0) ∧ (d.sg < 0 ↔ d.val < 0) ∧ (0 < d.sg ↔ 0 < d.val) := by
  by_cases h0 : d.m = 0
  · have : d.sg = 0 := by unfold Dy.sg; rw [if_pos h0]
    rw [this, val_zero h0]
    refine ⟨⟨fun _ => rfl, fun _ => rfl⟩, ⟨fun h => by omega, fun h => absurd h (by decide)⟩, ⟨fun h => by omega, fun h => absurd h (by decide)⟩⟩
  have hv : d.val = ((if d.s = true then -1 else 1) * (d.m : Int) : Int) * (2 : Rat) ^ d.e := rfl
  have hp : (0 : Rat) < (d.m : Int) * (2 : Rat) ^ d.e := Rat.mul_pos (by exact_mod_cast Nat.pos_of_ne_zero h0) (z2_pos _)
  have hs : d.sg = if d.s = true then -1 else 1 := by unfold Dy.sg; rw [if_neg h0]
  rw [hs, hv]
  cases d.s
  · simp only [Bool.false_eq_true, if_false, Int.one_mul]
    generalize ((d.m : Int) : Rat) * (2 : Rat) ^ d.e = X at *
    refine ⟨⟨fun h => by omega, fun h => by grind⟩, ⟨fun h => by omega, fun h => by grind⟩, ⟨fun _ => hp, fun _ => by omega⟩⟩
  · simp only [if_true]
    rw [Int.neg_one_mul, Rat.intCast_neg, Rat.neg_mul]
    generalize ((d.m : Int) : Rat) * (2 : Rat) ^ d.e = X at *
    refine ⟨⟨fun h => by omega, fun h => by grind⟩, ⟨fun h => by grind, fun h => by omega⟩, ⟨fun h => by omega, fun h => by grind⟩⟩
theorem val_eq_zero {d : Dy} : d.val = 0 ↔ d.m = 0 := by
  rw [← sg_val.1]
  unfold Dy.sg
  split
  · simp [*]
  · constructor
    · intro h; split at h <;> cases h
    · intro h; exact absurd h ‹_›
theorem val_neg (d : Dy) : d.neg.val = -d.val := by
  rw [val_at (d := d.neg) (neg_ge (Dy.ge_e d)), val_at (Dy.ge_e d), neg_at, Rat.intCast_neg, Rat.neg_mul]
theorem val_negN (d : Dy) : d.negN.val = -d.val := by
  rw [val_at (d := d.negN) (k := d.e) (.inr (Int.le_refl _)), val_at (Dy.ge_e d), negN_at, Rat.intCast_neg, Rat.neg_mul]
theorem val_abs (d : Dy) : d.abs.val = if d.val < 0 then -d.val else d.val := by
  have hp := z2_pos d.e
  rw [val_at (d := d.abs) (abs_ge (Dy.ge_e d)), val_at (Dy.ge_e d), abs_at]
  generalize d.at d.e = z
  generalize (2 : Rat) ^ d.e = Z at *
  have e1 : ((z : Int) : Rat) * Z < 0 ↔ z < 0 := (Rat.mul_neg_iff_of_pos_right hp).trans Rat.intCast_neg_iff
  by_cases hz : z < 0
  · rw [if_pos (e1.2 hz), ← Rat.neg_mul, ← Rat.intCast_neg]
    congr 1
    congr 1
    omega
  · rw [if_neg (fun h => hz (e1.1 h))]
    congr 1
    congr 1
    omega
theorem val_mul (a b : Dy) : (mulS a b).val = a.val * b.val := by
  rw [val_at (mulS_ge (Dy.ge_e a) (Dy.ge_e b)), mulS_at (Dy.ge_e a) (Dy.ge_e b), val_at (Dy.ge_e a), val_at (Dy.ge_e b), Rat.intCast_mul, z2_add]
  generalize (2 : Rat) ^ a.e = Z
  generalize (2 : Rat) ^ b.e = Y
  grind
theorem val_addD (a b : Dy) : (addD a b).val = a.val + b.val := by
  have h1 : a.ge (min a.e b.e) := .inr (by omega)
  have h2 : b.ge (min a.e b.e) := .inr (by omega)
  rw [val_at (addD_ge h1 h2), addD_at h1 h2, val_at h1, val_at h2, Rat.intCast_add, Rat.add_mul]
theorem val_addS {a b : Dy} (ha : a.ok) (hb : b.ok) (fa : a.fits) (fb : b.fits) : (addS a b).val = a.val + b.val := by
  have h1 : a.ge (min a.e b.e) := .inr (by omega)
  have h2 : b.ge (min a.e b.e) := .inr (by omega)
  rw [val_at (addS_ge ha hb fa fb h1 h2), addS_at ha hb fa fb h1 h2, val_at h1, val_at h2, Rat.intCast_add, Rat.add_mul]
theorem Lim.val_add {K : Nat} {a b : Dy} (ha : Lim K a) (hb : Lim K b) (hK : K ≤ 1000000) : (addS a b).val = a.val + b.val := val_addS ha.ok hb.ok (ha.fits hK) (hb.fits hK)
theorem val_sc (d : Dy) (n : Int) : (d.sc n).val = d.val * (2 : Rat) ^ n := by
  rw [val_at (sc_ge (n := n) (Dy.ge_e d)), sc_at, val_at (Dy.ge_e d), z2_add, Rat.mul_assoc]
theorem val_norm (z : Int) {k : Int} (h1 : -2147483648 ≤ k) (h2 : k ≤ 2147483648) : (norm z k).val = (z : Rat) * (2 : Rat) ^ k := by
  rw [val_at (norm_ge z h1 h2), norm_at z h1 h2 (Int.le_refl _), Int.sub_self]
  simp
theorem LimN.val_bare {K : Nat} {d : Dy} (h : LimN K d) (hK : K ≤ 1000000) : d.bare.val = d.val := by
  rw [val_at (h.bare hK).ge, val_at h.1, h.bare_at hK]
/-- Two with the same worth, one of them bare. -/
theorem LimN.bare_of {K : Nat} {d a : Dy} (h : LimN K d) (hK : K ≤ 1000000) (ha : a.ok) (hv : d.val = a.val) : d.bare = a :=
  val_inj (mkD_ok _ _ _) ha (by rw [h.val_bare hK, hv])
end Go.Proofs.YtejmlngnpekagaaGreatDoor
