import Derived.Test.YtfkgaldbcngliaaGreatDoorI2
import Derived.Test.YtfkgaldbcngliaaGreatDoorI1
section
open Go PG Go.Proofs
set_option maxRecDepth 100000
set_option linter.unusedSimpArgs false
set_option linter.unusedVariables false
namespace Go.Proofs.YtfkgaldbcngliaaGreatDoor
def minD (a b : Dy) : Dy := if cmpD b a < 0 then b else a
def maxD (a b : Dy) : Dy := if 0 < cmpD b a then b else a
theorem minD_or (a b : Dy) : minD a b = a ∨ minD a b = b := by unfold minD; split <;> simp
theorem maxD_or (a b : Dy) : maxD a b = a ∨ maxD a b = b := by unfold maxD; split <;> simp
theorem minD_P {P : Dy → Prop} {a b : Dy} (h1 : P a) (h2 : P b) : P (minD a b) := by rcases minD_or a b with h | h <;> rw [h] <;> assumption
theorem maxD_P {P : Dy → Prop} {a b : Dy} (h1 : P a) (h2 : P b) : P (maxD a b) := by rcases maxD_or a b with h | h <;> rw [h] <;> assumption
structure Iv where
  lo : Dy
  hi : Dy
def min4 (p q r s : Dy) : Dy := minD (minD (minD p q) r) s
def max4 (p q r s : Dy) : Dy := maxD (maxD (maxD p q) r) s
theorem min4_P {P : Dy → Prop} {p q r s : Dy} (h1 : P p) (h2 : P q) (h3 : P r) (h4 : P s) : P (min4 p q r s) := minD_P (minD_P (minD_P h1 h2) h3) h4
theorem max4_P {P : Dy → Prop} {p q r s : Dy} (h1 : P p) (h2 : P q) (h3 : P r) (h4 : P s) : P (max4 p q r s) := maxD_P (maxD_P (maxD_P h1 h2) h3) h4
def mulI (i k : Iv) : Iv := ⟨min4 (mulS i.lo k.lo) (mulS i.lo k.hi) (mulS i.hi k.lo) (mulS i.hi k.hi), max4 (mulS i.lo k.lo) (mulS i.lo k.hi) (mulS i.hi k.lo) (mulS i.hi k.hi)⟩
def addI (i k : Iv) : Iv := ⟨addS i.lo k.lo, addS i.hi k.hi⟩
def Iv.right (i : Iv) : Prop := i.lo.fits ∧ i.hi.fits ∧ cmpD i.lo i.hi ≤ 0
instance (i : Iv) : Decidable i.right := inferInstanceAs (Decidable (_ ∧ _))
def Iv.has (i : Iv) (d : Dy) : Prop := i.right ∧ d.fits ∧ cmpD i.lo d ≤ 0 ∧ cmpD d i.hi ≤ 0
instance (i : Iv) (d : Dy) : Decidable (i.has d) := inferInstanceAs (Decidable (_ ∧ _))
def Iv.inside (i k : Iv) : Prop := i.right ∧ k.has i.lo ∧ k.has i.hi
instance (i k : Iv) : Decidable (i.inside k) := inferInstanceAs (Decidable (_ ∧ _))
def Iv.okI (i : Iv) : Prop := i.lo.ok ∧ i.hi.ok
def Iv.ge (i : Iv) (k : Int) : Prop := i.lo.ge k ∧ i.hi.ge k
theorem mulI_P {P : Dy → Prop} {i k : Iv} (h1 : P (mulS i.lo k.lo)) (h2 : P (mulS i.lo k.hi)) (h3 : P (mulS i.hi k.lo)) (h4 : P (mulS i.hi k.hi)) : P (mulI i k).lo ∧ P (mulI i k).hi :=
  ⟨min4_P h1 h2 h3 h4, max4_P h1 h2 h3 h4⟩
theorem Iv.ge.mono {i : Iv} {k k' : Int} (h : i.ge k') (hk : k ≤ k') : i.ge k := ⟨h.1.mono hk, h.2.mono hk⟩
end Go.Proofs.YtfkgaldbcngliaaGreatDoor
end
section
open Go PG Go.Proofs
set_option maxRecDepth 100000
set_option linter.unusedSimpArgs false
set_option linter.unusedVariables false
namespace Go.Proofs.YtfkgaldbcngliaaGreatDoor
def Lim (K : Nat) (d : Dy) : Prop := d.ok ∧ d.ge (-(K : Int)) ∧ (d.at (-(K : Int))).natAbs < 2 ^ (2 * K)
theorem Lim.ok {K : Nat} {d : Dy} (h : Lim K d) : d.ok := h.1
theorem Lim.ge {K : Nat} {d : Dy} (h : Lim K d) : d.ge (-(K : Int)) := h.2.1
theorem Lim.lt {K : Nat} {d : Dy} (h : Lim K d) : (d.at (-(K : Int))).natAbs < 2 ^ (2 * K) := h.2.2
theorem Lim.zero (K : Nat) : Lim K .zero := ⟨Dy.zero_ok, Dy.zero_ge _, by rw [at_zero (d := .zero) rfl]; exact Nat.two_pow_pos _⟩
theorem Lim.m {K : Nat} {d : Dy} (h : Lim K d) : d.m * 2 ^ (d.e + K).toNat < 2 ^ (2 * K) := by
  have := h.lt
  rwa [natAbs_at', show d.e - -(K : Int) = d.e + K by omega] at this
theorem Lim.e_ge {K : Nat} {d : Dy} (h : Lim K d) (h0 : d.m ≠ 0) : -(K : Int) ≤ d.e := h.ge.resolve_left h0
theorem Lim.e_lt {K : Nat} {d : Dy} (h : Lim K d) (h0 : d.m ≠ 0) : d.e < K := by
  have h1 := h.m
  have h2 := h.e_ge h0
  have h3 : 2 ^ (d.e + K).toNat < 2 ^ (2 * K) := Nat.lt_of_le_of_lt (by
    have := Nat.mul_le_mul_right (2 ^ (d.e + K).toNat) (show 1 ≤ d.m by omega)
    omega) h1
  have h4 := (Nat.pow_lt_pow_iff_right (by decide : 1 < 2)).1 h3
  omega
theorem Lim.bits {K : Nat} {d : Dy} (h : Lim K d) : bitLen d.m ≤ 2 * K := by
  refine (bitLen_le _ _).2 (Nat.lt_of_le_of_lt ?_ h.m)
  have := Nat.mul_le_mul_left d.m (Nat.two_pow_pos (d.e + K).toNat)
  omega
theorem Lim.top_lt {K : Nat} {d : Dy} (h : Lim K d) (h0 : d.m ≠ 0) : d.top < K := by
  have h1 := h.e_ge h0
  have h2 := (top_at h0 h1).1
  have h3 : 2 ^ (d.top - -(K : Int)).toNat < 2 ^ (2 * K) := Nat.lt_of_le_of_lt h2 h.lt
  have h4 := (Nat.pow_lt_pow_iff_right (by decide : 1 < 2)).1 h3
  have h5 := top_of h0
  have h6 := bitLen_pos h0
  omega
theorem Lim.e0 {K : Nat} {d : Dy} (h : Lim K d) : -(K : Int) ≤ d.e ∧ d.e ≤ K := by
  by_cases h0 : d.m = 0
  · rw [h.ok.z h0]
    show -(K : Int) ≤ 0 ∧ (0 : Int) ≤ K
    omega
  · have := h.e_ge h0
    have := h.e_lt h0
    omega
theorem Lim.fits {K : Nat} {d : Dy} (h : Lim K d) (hK : K ≤ 1000000) : d.fits := by
  have := h.e0
  exact ⟨by omega, by omega⟩
theorem Lim.of {K : Nat} {d : Dy} {k : Int} (ho : d.ok) (hg : d.ge (-(K : Int))) (hk : k ≤ -(K : Int)) (hl : (d.at k).natAbs < 2 ^ (K - k).toNat) : Lim K d := by
  refine ⟨ho, hg, ?_⟩
  have h1 := at_shift' (d := d) hk hg
  rw [h1, Int.natAbs_mul, Int.natAbs_natCast] at hl
  rw [show (K - k).toNat = 2 * K + (-(K : Int) - k).toNat by omega, Nat.pow_add] at hl
  exact Nat.lt_of_mul_lt_mul_right hl
theorem Lim.mono {K J : Nat} {d : Dy} (h : Lim K d) (hK : K ≤ J) : Lim J d := by
  refine ⟨h.ok, h.ge.mono (by omega), ?_⟩
  rw [at_shift' (d := d) (k := -(J : Int)) (k' := -(K : Int)) (by omega) h.ge, Int.natAbs_mul, Int.natAbs_natCast, show (-(K : Int) - -(J : Int)).toNat = J - K by omega]
  refine Nat.lt_of_lt_of_le (Nat.mul_lt_mul_of_pos_right h.lt (Nat.two_pow_pos _)) ?_
  rw [← Nat.pow_add]
  exact Nat.pow_le_pow_right (by decide) (by omega)
theorem Lim.neg {K : Nat} {d : Dy} (h : Lim K d) : Lim K d.neg := ⟨neg_ok h.ok, neg_ge h.ge, by rw [neg_at, Int.natAbs_neg]; exact h.lt⟩
theorem Lim.abs {K : Nat} {d : Dy} (h : Lim K d) : Lim K d.abs := ⟨abs_ok h.ok, abs_ge h.ge, by rw [abs_at, Int.natAbs_natCast]; exact h.lt⟩
theorem Lim.add {K : Nat} {a b : Dy} (ha : Lim K a) (hb : Lim K b) (hK : K ≤ 1000000) : Lim (K + 1) (addS a b) := by
  have fa := ha.fits hK
  have fb := hb.fits hK
  have ha' := ha.mono (J := K + 1) (by omega)
  have hb' := hb.mono (J := K + 1) (by omega)
  refine ⟨addS_ok _ _, (addS_ge ha.ok hb.ok fa fb ha'.ge hb'.ge), ?_⟩
  rw [addS_at ha.ok hb.ok fa fb ha'.ge hb'.ge]
  have e1 := at_shift' (d := a) (k := -((K + 1 : Nat) : Int)) (k' := -(K : Int)) (by omega) ha.ge
  have e2 := at_shift' (d := b) (k := -((K + 1 : Nat) : Int)) (k' := -(K : Int)) (by omega) hb.ge
  rw [e1, e2, show (-(K : Int) - -((K + 1 : Nat) : Int)).toNat = 1 by omega, show 2 * (K + 1) = 2 * K + 2 by omega, Nat.pow_add]
  have := ha.lt
  have := hb.lt
  omega
theorem Lim.addE {K : Nat} {a b : Dy} (ha : Lim K a) (hb : Lim K b) (hK : K ≤ 32767) : addE a b :=
  ⟨ha.fits (by omega), hb.fits (by omega), fun h1 h2 => by
    have := ha.top_lt h1; have := hb.top_lt h2; have := ha.e_ge h1; have := hb.e_ge h2; omega, (ha.add hb (by omega)).fits (by omega)⟩
theorem Lim.mul {K J : Nat} {a b : Dy} (ha : Lim K a) (hb : Lim J b) : Lim (K + J) (mulS a b) := by
  have e : -((K + J : Nat) : Int) = -(K : Int) + -(J : Int) := by omega
  refine ⟨mulS_ok ha.ok hb.ok, by rw [e]; exact mulS_ge ha.ge hb.ge, ?_⟩
  rw [e, mulS_at ha.ge hb.ge, Int.natAbs_mul, show 2 * (K + J) = 2 * K + 2 * J by omega, Nat.pow_add]
  exact Nat.mul_lt_mul'' ha.lt hb.lt
theorem Lim.mulE {K J : Nat} {a b : Dy} (ha : Lim K a) (hb : Lim J b) (hK : K + J ≤ 32767) : mulE a b :=
  ⟨ha.fits (by omega), hb.fits (by omega), fun _ _ => by have := ha.bits; have := hb.bits; omega, (ha.mul hb).fits (by omega)⟩
theorem Lim.sc {K J : Nat} {d : Dy} (h : Lim K d) {n : Int} (hn : -(J : Int) ≤ n ∧ n ≤ J) : Lim (K + J) (d.sc n) := by
  refine ⟨sc_ok h.ok n, (sc_ge h.ge).mono (by omega), ?_⟩
  have e1 := at_shift' (d := d.sc n) (k := -((K + J : Nat) : Int)) (k' := -(K : Int) + n) (by omega) (sc_ge h.ge)
  rw [e1, sc_at, Int.natAbs_mul, Int.natAbs_natCast]
  refine Nat.lt_of_lt_of_le (Nat.mul_lt_mul_of_pos_right h.lt (Nat.two_pow_pos _)) ?_
  rw [← Nat.pow_add]
  exact Nat.pow_le_pow_right (by decide) (by omega)
theorem Lim.RD {K : Nat} {d : Dy} (h : Lim K d) (hK : K ≤ 500000) : RD d.pv d := RD.fit h.ok (by have := h.bits; omega) (h.fits (by omega))
theorem Lim.norm {K : Nat} {z : Int} (hz : z.natAbs < 2 ^ K) (hK : K ≤ 1000000) : Lim K (norm z 0) := by
  refine ⟨norm_ok _ _, (norm_ge z (by decide) (by decide)).mono (by omega), ?_⟩
  rw [norm_at z (by decide) (by decide) (by omega), Int.natAbs_mul, Int.natAbs_natCast, show (0 - -(K : Int)).toNat = K by omega, show 2 * K = K + K by omega, Nat.pow_add]
  exact Nat.mul_lt_mul_of_pos_right hz (Nat.two_pow_pos _)
theorem Lim.mk {s : Bool} {x : Nat} {e : Int} {n J : Nat} (hb : bitLen x ≤ n) (he : -(J : Int) ≤ e ∧ e ≤ J) (hJ : n + J ≤ 1000000) : Lim (n + J) (mkD s x e) := by
  refine ⟨mkD_ok _ _ _, (mkD_ge s x (by omega) (by omega)).mono (by omega), ?_⟩
  rw [mkD_at s x (by omega) (by omega) (show -((n + J : Nat) : Int) ≤ e by omega)]
  have h1 := (bitLen_le _ _).1 hb
  have h2 : x * 2 ^ (e - -((n + J : Nat) : Int)).toNat < 2 ^ n * 2 ^ (e - -((n + J : Nat) : Int)).toNat := Nat.mul_lt_mul_of_pos_right h1 (Nat.two_pow_pos _)
  have h3 : 2 ^ n * 2 ^ (e - -((n + J : Nat) : Int)).toNat ≤ 2 ^ (2 * (n + J)) := by
    rw [← Nat.pow_add]; exact Nat.pow_le_pow_right (by decide) (by omega)
  generalize x * 2 ^ (e - -((n + J : Nat) : Int)).toNat = y at *
  cases s <;> simp <;> omega
theorem addV_lim {K : Nat} {a b : Dy} (ha : Lim K a) (hb : Lim K b) (hK : K ≤ 32767) : addV a b = .tuple [(addS a b).pv, .int .i64 0] := if_pos (ha.addE hb hK)
theorem mulV_lim {K J : Nat} {a b : Dy} (ha : Lim K a) (hb : Lim J b) (hK : K + J ≤ 32767) : mulV a b = .tuple [(mulS a b).pv, .int .i64 0] := if_pos (ha.mulE hb hK)
end Go.Proofs.YtfkgaldbcngliaaGreatDoor
end
section
open Go PG Go.Proofs
set_option maxRecDepth 100000
set_option linter.unusedSimpArgs false
set_option linter.unusedVariables false
namespace Go.Proofs.YtfkgaldbcngliaaGreatDoor
theorem fd_lim (b : Nat) : Lim 1153 (fd b) := by
  have h1 := fm_lt b
  have h2 := fe_lt b
  exact Lim.mk (n := 53) (J := 1100) ((bitLen_le _ _).2 (by show fm b < 9007199254740992; omega)) (by omega) (by decide)
def fd0 (x : Nat) : Dy := if fe x < 2047 then fd x else .zero
def K0 : Nat := 2306
end Go.Proofs.YtfkgaldbcngliaaGreatDoor
end
section
open Go PG Go.Proofs
set_option maxRecDepth 100000
set_option linter.unusedSimpArgs false
set_option linter.unusedVariables false
namespace Go.Proofs.YtfkgaldbcngliaaGreatDoor
def LimN (K : Nat) (d : Dy) : Prop := d.ge (-(K : Int)) ∧ (d.at (-(K : Int))).natAbs < 2 ^ (2 * K) ∧ -(K : Int) ≤ d.e ∧ d.e ≤ K
theorem Lim.N {K : Nat} {d : Dy} (h : Lim K d) : LimN K d := ⟨h.ge, h.lt, h.e0.1, h.e0.2⟩
theorem LimN.mono {K J : Nat} {d : Dy} (h : LimN K d) (hK : K ≤ J) : LimN J d := by
  obtain ⟨h1, h2, h3, h4⟩ := h
  refine ⟨h1.mono (by omega), ?_, by omega, by omega⟩
  rw [at_shift' (d := d) (k := -(J : Int)) (k' := -(K : Int)) (by omega) h1, Int.natAbs_mul, Int.natAbs_natCast, show (-(K : Int) - -(J : Int)).toNat = J - K by omega]
  refine Nat.lt_of_lt_of_le (Nat.mul_lt_mul_of_pos_right h2 (Nat.two_pow_pos _)) ?_
  rw [← Nat.pow_add]
  exact Nat.pow_le_pow_right (by decide) (by omega)
theorem LimN.bits {K : Nat} {d : Dy} (h : LimN K d) : bitLen d.m ≤ 2 * K := by
  have h2 := h.2.1
  rw [natAbs_at'] at h2
  refine (bitLen_le _ _).2 (Nat.lt_of_le_of_lt ?_ h2)
  have := Nat.mul_le_mul_left d.m (Nat.two_pow_pos (d.e - -(K : Int)).toNat)
  omega
def Dy.bare (d : Dy) : Dy := mkD d.s d.m d.e
theorem LimN.bare_at {K : Nat} {d : Dy} (h : LimN K d) (hK : K ≤ 1000000) : d.bare.at (-(K : Int)) = d.at (-(K : Int)) := by
  have := h.2.2.1; have := h.2.2.2
  unfold Dy.bare
  rw [mkD_at d.s d.m (by omega) (by omega) (by omega)]
  unfold Dy.at
  cases d.s <;> simp
theorem LimN.bare {K : Nat} {d : Dy} (h : LimN K d) (hK : K ≤ 1000000) : Lim K d.bare := by
  have := h.2.2.1; have := h.2.2.2
  refine ⟨mkD_ok _ _ _, (mkD_ge d.s d.m (by omega) (by omega)).mono (by omega), ?_⟩
  rw [h.bare_at hK]
  exact h.2.1
theorem Lim.bare {K : Nat} {d : Dy} (h : Lim K d) (hK : K ≤ 1000000) : d.bare = d :=
  ok_self h.ok (by have := h.e0; omega) (by have := h.e0; omega)
theorem LimN.add {K : Nat} {a b : Dy} (ha : LimN K a) (hb : LimN K b) : LimN (K + 1) (addD a b) := by
  have ha' := ha.mono (J := K + 1) (by omega)
  have hb' := hb.mono (J := K + 1) (by omega)
  have he := addD_e (l := -(K : Int)) (h := K) ha.2.2 hb.2.2
  refine ⟨addD_ge ha'.1 hb'.1, ?_, by omega, by omega⟩
  rw [addD_at ha'.1 hb'.1]
  have e1 := at_shift' (d := a) (k := -((K + 1 : Nat) : Int)) (k' := -(K : Int)) (by omega) ha.1
  have e2 := at_shift' (d := b) (k := -((K + 1 : Nat) : Int)) (k' := -(K : Int)) (by omega) hb.1
  rw [e1, e2, show (-(K : Int) - -((K + 1 : Nat) : Int)).toNat = 1 by omega, show 2 * (K + 1) = 2 * K + 2 by omega, Nat.pow_add]
  have := ha.2.1
  have := hb.2.1
  omega
def Dy.negN (d : Dy) : Dy := ⟨!d.s, d.m, d.e⟩
theorem negN_at (d : Dy) (k : Int) : d.negN.at k = -d.at k := by
  unfold Dy.at Dy.negN
  cases d.s <;> simp
theorem LimN.negN {K : Nat} {d : Dy} (h : LimN K d) : LimN K d.negN := ⟨h.1, by rw [negN_at, Int.natAbs_neg]; exact h.2.1, h.2.2⟩
end Go.Proofs.YtfkgaldbcngliaaGreatDoor
end
section
open Go PG Go.Proofs
set_option maxRecDepth 100000
set_option linter.unusedSimpArgs false
set_option linter.unusedVariables false
namespace Go.Proofs.YtfkgaldbcngliaaGreatDoor
theorem LimN.mul {K J : Nat} {a b : Dy} (ha : LimN K a) (hb : LimN J b) : LimN (K + J) (mulS a b) := by
  have e : -((K + J : Nat) : Int) = -(K : Int) + -(J : Int) := by omega
  refine ⟨by rw [e]; exact mulS_ge ha.1 hb.1, ?_, ?_⟩
  · rw [e, mulS_at ha.1 hb.1, Int.natAbs_mul, show 2 * (K + J) = 2 * K + 2 * J by omega, Nat.pow_add]
    exact Nat.mul_lt_mul'' ha.2.1 hb.2.1
  · have := ha.2.2
    have := hb.2.2
    unfold mulS
    split
    · show _ ≤ (0 : Int) ∧ (0 : Int) ≤ _; omega
    · show _ ≤ a.e + b.e ∧ a.e + b.e ≤ _; omega
end Go.Proofs.YtfkgaldbcngliaaGreatDoor
end
section
open Go PG Go.Proofs
set_option maxRecDepth 100000
set_option linter.unusedSimpArgs false
set_option linter.unusedVariables false
namespace Go.Proofs.YtfkgaldbcngliaaGreatDoor
def Dy.val (d : Dy) : Rat := ((if d.s = true then -1 else 1) * (d.m : Int) : Int) * (2 : Rat) ^ d.e
theorem two_ne : (2 : Rat) ≠ 0 := by decide
theorem z2_pos (k : Int) : (0 : Rat) < (2 : Rat) ^ k := Rat.zpow_pos (by decide)
theorem z2_add (a b : Int) : (2 : Rat) ^ (a + b) = (2 : Rat) ^ a * (2 : Rat) ^ b := Rat.zpow_add two_ne a b
theorem z2_nat (n : Nat) : (2 : Rat) ^ (n : Int) = ((2 ^ n : Nat) : Rat) := by
  rw [Rat.zpow_natCast, Rat.natCast_pow]; rfl
theorem z2_zero : (2 : Rat) ^ (0 : Int) = 1 := Rat.zpow_zero 2
theorem z2_one : (2 : Rat) ^ (1 : Int) = 2 := Rat.zpow_one 2
theorem ic (n : Nat) : ((n : Int) : Rat) = (n : Rat) := rfl
theorem val_zero {d : Dy} (h : d.m = 0) : d.val = 0 := by
  unfold Dy.val; rw [h]; simp
theorem val_at {d : Dy} {k : Int} (h : d.ge k) : d.val = ((d.at k : Int) : Rat) * (2 : Rat) ^ k := by
  by_cases h0 : d.m = 0
  · rw [val_zero h0, at_zero h0]; simp
  have hk : k ≤ d.e := h.resolve_left h0
  unfold Dy.val Dy.at
  have e1 : (2 : Rat) ^ d.e = ((2 ^ (d.e - k).toNat : Nat) : Rat) * (2 : Rat) ^ k := by
    rw [← z2_nat, ← z2_add]; congr 1; omega
  rw [e1]
  generalize (2 : Rat) ^ k = Z
  generalize 2 ^ (d.e - k).toNat = P
  rw [← Rat.mul_assoc]
  congr 1
  cases d.s <;> simp [Rat.intCast_mul, Rat.natCast_mul, Rat.neg_mul, ic]
theorem cmp_val_le {a b : Dy} : cmpD a b ≤ 0 ↔ a.val ≤ b.val := by
  have h1 : a.ge (min a.e b.e) := .inr (by omega)
  have h2 : b.ge (min a.e b.e) := .inr (by omega)
  rw [cmp_at h1 h2, sgn_le, val_at h1, val_at h2]
  have := z2_pos (min a.e b.e)
  generalize (2 : Rat) ^ (min a.e b.e) = Z at *
  generalize a.at (min a.e b.e) = x
  generalize b.at (min a.e b.e) = y
  exact ⟨fun h => Rat.mul_le_mul_of_nonneg_right (Rat.intCast_le_intCast.2 h) (Rat.le_of_lt this), fun h => Rat.intCast_le_intCast.1 (Rat.le_of_mul_le_mul_right h this)⟩
theorem cmp_val_lt {a b : Dy} : cmpD a b < 0 ↔ a.val < b.val := by
  have h := cmp_val_le (a := b) (b := a)
  rw [cmp_swap] at h
  constructor
  · intro h1
    exact Rat.not_le.1 fun h2 => by have h3 := h.2 h2; omega
  · intro h1
    have h2 : ¬ b.val ≤ a.val := Rat.not_le.2 h1
    have h3 : ¬ (-cmpD a b ≤ 0) := fun h3 => h2 (h.1 h3)
    omega
theorem cmp_val_ge {a b : Dy} : 0 ≤ cmpD a b ↔ b.val ≤ a.val := by
  have h := cmp_val_le (a := b) (b := a)
  rw [cmp_swap] at h
  rw [← h]; omega
theorem cmp_val_gt {a b : Dy} : 0 < cmpD a b ↔ b.val < a.val := by
  have h := cmp_val_lt (a := b) (b := a)
  rw [cmp_swap] at h
  rw [← h]; omega
theorem cmp_val_eq {a b : Dy} : cmpD a b = 0 ↔ a.val = b.val := by
  have h1 := cmp_val_le (a := a) (b := b)
  have h2 := cmp_val_ge (a := a) (b := b)
  constructor
  · intro h; exact Rat.le_antisymm (h1.1 (by omega)) (h2.1 (by omega))
  · intro h
    have := h1.2 (by rw [h]; exact Rat.le_refl)
    have := h2.2 (by rw [h]; exact Rat.le_refl)
    omega
theorem sg_val {d : Dy} : (d.sg = 0 ↔ d.val = 0) ∧ (d.sg < 0 ↔ d.val < 0) ∧ (0 < d.sg ↔ 0 < d.val) := by
  by_cases h0 : d.m = 0
  · have : d.sg = 0 := by unfold Dy.sg; rw [if_pos h0]
    rw [this, val_zero h0]
    refine ⟨⟨fun _ => rfl, fun _ => rfl⟩, ⟨fun h => by omega, fun h => absurd h (by decide)⟩, ⟨fun h => by omega, fun h => absurd h (by decide)⟩⟩
  have hv : d.val = ((if d.s = true then -1 else 1) * (d.m : Int) : Int) * (2 : Rat) ^ d.e := rfl
  have hp : (0 : Rat) < (d.m : Int) * (2 : Rat) ^ d.e := Rat.mul_pos (by exact_mod_cast Nat.pos_of_ne_zero h0) (z2_pos _)
  have hs : d.sg = if d.s = true then -1 else 1 := by unfold Dy.sg; rw [if_neg h0]
  rw [hs, hv]
  cases d.s
  · simp only [Bool.false_eq_true, if_false, Int.one_mul]
    generalize ((d.m : Int) : Rat) * (2 : Rat) ^ d.e = X at *
    refine ⟨⟨fun h => by omega, fun h => by grind⟩, ⟨fun h => by omega, fun h => by grind⟩, ⟨fun _ => hp, fun _ => by omega⟩⟩
  · simp only [if_true]
    rw [Int.neg_one_mul, Rat.intCast_neg, Rat.neg_mul]
    generalize ((d.m : Int) : Rat) * (2 : Rat) ^ d.e = X at *
    refine ⟨⟨fun h => by omega, fun h => by grind⟩, ⟨fun h => by grind, fun h => by omega⟩, ⟨fun h => by omega, fun h => by grind⟩⟩
theorem val_eq_zero {d : Dy} : d.val = 0 ↔ d.m = 0 := by
  rw [← sg_val.1]
  unfold Dy.sg
  split
  · simp [*]
  · constructor
    · intro h; split at h <;> cases h
    · intro h; exact absurd h ‹_›
theorem val_neg (d : Dy) : d.neg.val = -d.val := by
  rw [val_at (d := d.neg) (neg_ge (Dy.ge_e d)), val_at (Dy.ge_e d), neg_at, Rat.intCast_neg, Rat.neg_mul]
theorem val_abs (d : Dy) : d.abs.val = if d.val < 0 then -d.val else d.val := by
  have hp := z2_pos d.e
  rw [val_at (d := d.abs) (abs_ge (Dy.ge_e d)), val_at (Dy.ge_e d), abs_at]
  generalize d.at d.e = z
  generalize (2 : Rat) ^ d.e = Z at *
  have e1 : ((z : Int) : Rat) * Z < 0 ↔ z < 0 := (Rat.mul_neg_iff_of_pos_right hp).trans Rat.intCast_neg_iff
  by_cases hz : z < 0
  · rw [if_pos (e1.2 hz), ← Rat.neg_mul, ← Rat.intCast_neg]
    congr 1
    congr 1
    omega
  · rw [if_neg (fun h => hz (e1.1 h))]
    congr 1
    congr 1
    omega
theorem val_mul (a b : Dy) : (mulS a b).val = a.val * b.val := by
  rw [val_at (mulS_ge (Dy.ge_e a) (Dy.ge_e b)), mulS_at (Dy.ge_e a) (Dy.ge_e b), val_at (Dy.ge_e a), val_at (Dy.ge_e b), Rat.intCast_mul, z2_add]
  generalize (2 : Rat) ^ a.e = Z
  generalize (2 : Rat) ^ b.e = Y
  grind
theorem val_addS {a b : Dy} (ha : a.ok) (hb : b.ok) (fa : a.fits) (fb : b.fits) : (addS a b).val = a.val + b.val := by
  have h1 : a.ge (min a.e b.e) := .inr (by omega)
  have h2 : b.ge (min a.e b.e) := .inr (by omega)
  rw [val_at (addS_ge ha hb fa fb h1 h2), addS_at ha hb fa fb h1 h2, val_at h1, val_at h2, Rat.intCast_add, Rat.add_mul]
theorem Lim.val_add {K : Nat} {a b : Dy} (ha : Lim K a) (hb : Lim K b) (hK : K ≤ 1000000) : (addS a b).val = a.val + b.val := val_addS ha.ok hb.ok (ha.fits hK) (hb.fits hK)
theorem val_norm (z : Int) {k : Int} (h1 : -2147483648 ≤ k) (h2 : k ≤ 2147483648) : (norm z k).val = (z : Rat) * (2 : Rat) ^ k := by
  rw [val_at (norm_ge z h1 h2), norm_at z h1 h2 (Int.le_refl _), Int.sub_self]
  simp
end Go.Proofs.YtfkgaldbcngliaaGreatDoor
end
