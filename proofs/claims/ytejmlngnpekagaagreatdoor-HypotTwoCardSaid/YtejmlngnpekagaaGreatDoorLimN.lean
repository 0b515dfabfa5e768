/- The reference's numbers within bounds; what its functions hand back for them. -/
import Derived.Test.YtejmlngnpekagaaGreatDoorLim
import Derived.Test.YtejmlngnpekagaaGreatDoorRd7
open Go PG Go.Proofs
set_option maxRecDepth 100000
set_option linter.unusedSimpArgs false
set_option linter.unusedVariables false
namespace Go.Proofs.YtejmlngnpekagaaGreatDoor

/-- A number below 2^K, a whole number of units of 2^-K, bare or not. -/
def LimN (K : Nat) (d : Dy) : Prop := d.ge (-(K : Int)) ∧ (d.at (-(K : Int))).natAbs < 2 ^ (2 * K) ∧ -(K : Int) ≤ d.e ∧ d.e ≤ K
theorem Lim.N {K : Nat} {d : Dy} (h : Lim K d) : LimN K d := ⟨h.ge, h.lt, h.e0.1, h.e0.2⟩
theorem LimN.mono {K J : Nat} {d : Dy} (h : LimN K d) (hK : K ≤ J) : LimN J d := by
  obtain ⟨h1, h2, h3, h4⟩ := h
  refine ⟨h1.mono (by omega), ?_, by omega, by omega⟩
  rw [at_shift' (d := d) (k := -(J : Int)) (k' := -(K : Int)) (by omega) h1, Int.natAbs_mul, Int.natAbs_natCast, show (-(K : Int) - -(J : Int)).toNat = J - K by omega]
  refine Nat.lt_of_lt_of_le (Nat.mul_lt_mul_of_pos_right h2 (Nat.two_pow_pos _)) ?_
  rw [← Nat.pow_add]
  exact Nat.pow_le_pow_right (by decide) (by omega)
theorem LimN.bits {K : Nat} {d : Dy} (h : LimN K d) : bitLen d.m ≤ 2 * K := by
  have h2 := h.2.1
  rw [natAbs_at'] at h2
  refine (bitLen_le _ _).2 (Nat.lt_of_le_of_lt ?_ h2)
  have := Nat.mul_le_mul_left d.m (Nat.two_pow_pos (d.e - -(K : Int)).toNat)
  omega
/-- Made bare. -/
def Dy.bare (d : Dy) : Dy := mkD d.s d.m d.e
theorem LimN.bare_at {K : Nat} {d : Dy} (h : LimN K d) (hK : K ≤ 1000000) : d.bare.at (-(K : Int)) = d.at (-(K : Int)) := by
  have := h.2.2.1; have := h.2.2.2
  unfold Dy.bare
  rw [mkD_at d.s d.m (by omega) (by omega) (by omega)]
  unfold Dy.at
  cases d.s <;> simp
theorem LimN.bare {K : Nat} {d : Dy} (h : LimN K d) (hK : K ≤ 1000000) : Lim K d.bare := by
  have := h.2.2.1; have := h.2.2.2
  refine ⟨mkD_ok _ _ _, (mkD_ge d.s d.m (by omega) (by omega)).mono (by omega), ?_⟩
  rw [h.bare_at hK]
  exact h.2.1
theorem Lim.bare {K : Nat} {d : Dy} (h : Lim K d) (hK : K ≤ 1000000) : d.bare = d :=
  ok_self h.ok (by have := h.e0; omega) (by have := h.e0; omega)
theorem LimN.add {K : Nat} {a b : Dy} (ha : LimN K a) (hb : LimN K b) : LimN (K + 1) (addD a b) := by
  have ha' := ha.mono (J := K + 1) (by omega)
  have hb' := hb.mono (J := K + 1) (by omega)
  have he := addD_e (l := -(K : Int)) (h := K) ha.2.2 hb.2.2
  refine ⟨addD_ge ha'.1 hb'.1, ?_, by omega, by omega⟩
  rw [addD_at ha'.1 hb'.1]
  have e1 := at_shift' (d := a) (k := -((K + 1 : Nat) : Int)) (k' := -(K : Int)) (by omega) ha.1
  have e2 := at_shift' (d := b) (k := -((K + 1 : Nat) : Int)) (k' := -(K : Int)) (by omega) hb.1
  rw [e1, e2, show (-(K : Int) - -((K + 1 : Nat) : Int)).toNat = 1 by omega, show 2 * (K + 1) = 2 * K + 2 by omega, Nat.pow_add]
  have := ha.2.1
  have := hb.2.1
  omega
/-- The document's sum, made bare, is the sum of what is bare. -/
theorem addD_bare {K : Nat} {a b : Dy} (ha : LimN K a) (hb : LimN K b) (hK : K ≤ 900000) : (addD a b).bare = addS a.bare b.bare := by
  have hs := ha.add hb
  have hA := (ha.mono (J := K + 1) (by omega)).bare (by omega)
  have hB := (hb.mono (J := K + 1) (by omega)).bare (by omega)
  refine eq_of_at (k := -((K + 1 : Nat) : Int)) (mkD_ok _ _ _) (addS_ok _ _) (hs.bare (by omega)).ge (addS_ge hA.ok hB.ok (hA.fits (by omega)) (hB.fits (by omega)) hA.ge hB.ge) ?_
  rw [hs.bare_at (by omega), addD_at (ha.mono (J := K + 1) (by omega)).1 (hb.mono (J := K + 1) (by omega)).1, addS_at hA.ok hB.ok (hA.fits (by omega)) (hB.fits (by omega)) hA.ge hB.ge,
    (ha.mono (J := K + 1) (by omega)).bare_at (by omega), (hb.mono (J := K + 1) (by omega)).bare_at (by omega)]
theorem cmp_bare {K : Nat} {a b : Dy} (ha : LimN K a) (hb : LimN K b) (hK : K ≤ 1000000) : cmpD a b = cmpD a.bare b.bare := by
  rw [cmp_at ha.1 hb.1, cmp_at (ha.bare hK).ge (hb.bare hK).ge, ha.bare_at hK, hb.bare_at hK]
def Dy.negN (d : Dy) : Dy := ⟨!d.s, d.m, d.e⟩
theorem negN_at (d : Dy) (k : Int) : d.negN.at k = -d.at k := by
  unfold Dy.at Dy.negN
  cases d.s <;> simp
theorem LimN.negN {K : Nat} {d : Dy} (h : LimN K d) : LimN K d.negN := ⟨h.1, by rw [negN_at, Int.natAbs_neg]; exact h.2.1, h.2.2⟩
theorem negN_bare {K : Nat} {d : Dy} (h : LimN K d) (hK : K ≤ 1000000) : d.negN.bare = d.bare.neg := by
  refine eq_of_at (k := -(K : Int)) (mkD_ok _ _ _) (neg_ok (mkD_ok _ _ _)) (h.negN.bare hK).ge (neg_ge (h.bare hK).ge) ?_
  rw [h.negN.bare_at hK, negN_at, neg_at, h.bare_at hK]
theorem LimN.absN {K : Nat} {d : Dy} (h : LimN K d) : LimN K d.abs := ⟨h.1, by rw [abs_at, Int.natAbs_natCast]; exact h.2.1, h.2.2⟩
theorem abs_bare {K : Nat} {d : Dy} (h : LimN K d) (hK : K ≤ 1000000) : d.abs.bare = d.bare.abs := by
  refine eq_of_at (k := -(K : Int)) (mkD_ok _ _ _) (abs_ok (mkD_ok _ _ _)) (h.absN.bare hK).ge (abs_ge (h.bare hK).ge) ?_
  rw [h.absN.bare_at hK, abs_at, abs_at, h.bare_at hK]

theorem l_Add {K : Nat} {a b : Dy} (ha : LimN K a) (hb : LimN K b) (hK : K ≤ 500000) : PC E 73 [a.nv, b.nv] (addD a b).nv :=
  c_5Add a b (by have := ha.bits; omega) (by have := hb.bits; omega) (by have := ha.2.2; omega) (by have := hb.2.2; omega) (fun _ _ => by have := ha.2.2; have := hb.2.2; omega)
theorem l_Cmp {K : Nat} {a b : Dy} (ha : LimN K a) (hb : LimN K b) (hK : K ≤ 500000) : PC E 33 [a.nv, b.nv] (.int .i64 (cmpD a b)) :=
  c_5Cmp a b (by have := ha.bits; omega) (by have := hb.bits; omega) (by have := ha.2.2; omega) (by have := hb.2.2; omega) (fun _ _ _ => by have := ha.2.2; have := hb.2.2; omega)
theorem l_To {K : Nat} {d : Dy} (h : LimN K d) (hK : K ≤ 500000) : PC E 18 [d.nv] (.tuple [d.bare.pv, .int .i64 0]) := by
  refine PC.cast (c_5To d.s d.m d.e (by have := h.bits; omega)) ?_
  exact if_pos ((h.bare (by omega)).fits (by omega))
end Go.Proofs.YtejmlngnpekagaaGreatDoor
