/- What is rounded lies within so many halves of the step. No program stands here. -/
import Derived.Test.YtejmlngnpekagaaDoorUr2
open Go PG Go.Proofs
set_option maxRecDepth 100000
set_option linter.unusedSimpArgs false
set_option linter.unusedVariables false
namespace Go.Proofs.YtejmlngnpekagaaDoor

theorem fd_withS_at (s : Bool) {v : Nat} (hv : v < 9223372036854775808) (k : Int) : (fd (withS s v)).at k = (if s = true then -1 else 1) * (fd v).at k := by
  rw [fd_withS s hv]
  have hs : (fd v).m ≠ 0 → (fd v).s = false := fun h0 => by rw [fd_s h0, fs_small hv]
  by_cases h0 : (fd v).m = 0
  · rw [show (fd v).at k = 0 from at_zero h0 k, Int.mul_zero]
    exact at_zero (d := ⟨s && decide ((fd v).m ≠ 0), (fd v).m, (fd v).e⟩) h0 k
  · unfold Dy.at
    rw [hs h0, decide_eq_true h0, Bool.and_true]
    cases s <;> simp
theorem fe_withS (s : Bool) {v : Nat} (hv : v < 9223372036854775808) : fe (withS s v) = fe v := by
  have h := (withS_fields s hv).2.2.1
  exact h
theorem at_sign (d : Dy) (k : Int) : d.at k = (if d.s = true then -1 else 1) * ((d.at k).natAbs : Int) := by
  rw [natAbs_at']
  unfold Dy.at
  cases d.s <;> simp

theorem round_within {d : Dy} {K : Nat} (hl : Lim K d) (hK : K ≤ 20000) (h0 : d.m ≠ 0) (ht : d.top ≤ 1023) (dir : Int) (hv : vS d (upM d false dir (unitOf d.top)) < INF) {z : Int} (hz : z = if dir = 0 then 1 else 2) :
    cmpD (addS (fd (withS d.s (vS d (upM d false dir (unitOf d.top))))) d.neg).abs (bndD (withS d.s (vS d (upM d false dir (unitOf d.top)))) z) ≤ 0 := by
  have hI : INF = 9218868437227405312 := rfl
  have he := hl.e_ge h0
  obtain ⟨k, hk⟩ : ∃ k : Int, k = -((K + 2000 : Nat) : Int) := ⟨_, rfl⟩
  have hb := off_bound h0 ht (k := k) (by omega) (by omega) (by omega) dir hv
  generalize vS d (upM d false dir (unitOf d.top)) = v at *
  have hv2 : v < 9223372036854775808 := by omega
  have Ld := (hl.mono (J := K + 2000) (by omega))
  have Lf := (fd_lim (withS d.s v)).mono (J := K + 2000) (by omega)
  have Ls := (Lf.add Ld.neg (by omega)).abs
  have Lb := (bnd_lim (withS d.s v) (z := z) (by rw [hz]; split <;> omega)).2.2
  have e1 : (addS (fd (withS d.s v)) d.neg).at k = (fd (withS d.s v)).at k - d.at k := by
    rw [addS_at Lf.ok Ld.neg.ok (Lf.fits (by omega)) (Ld.neg.fits (by omega)) (hk ▸ Lf.ge) (hk ▸ Ld.neg.ge), neg_at]; omega
  have g1 : (addS (fd (withS d.s v)) d.neg).ge k := addS_ge Lf.ok Ld.neg.ok (Lf.fits (by omega)) (Ld.neg.fits (by omega)) (hk ▸ Lf.ge) (hk ▸ Ld.neg.ge)
  have e2 : ((addS (fd (withS d.s v)) d.neg).at k).natAbs = ((fd v).at k - ((d.at k).natAbs : Int)).natAbs := by
    rw [e1, fd_withS_at d.s hv2]
    have := at_sign d k
    revert this
    generalize (d.at k).natAbs = n
    generalize d.at k = x
    cases d.s <;> simp only [Bool.false_eq_true, if_false, if_true] <;> omega
  have hus : (ulpS (withS d.s v)).at k = ((2 ^ (max (fe v : Int) 1 - 1075 - k).toNat : Nat) : Int) := by
    rw [nat_at (d := ulpS _) rfl]
    unfold ulpS
    dsimp only
    rw [Nat.one_mul, fe_withS d.s hv2]
  have hug : (ulpS (withS d.s v)).ge k := (ulpS_lim _).ge.mono (by omega)
  have e3 : (bndD (withS d.s v) z).at (k + -1) = (ulpS (withS d.s v)).at k * z := by
    unfold bndD
    rw [sc_at]
    have := mulS_at hug (norm_ge z (k := 0) (by decide) (by decide))
    rw [Int.add_zero] at this
    rw [this, norm_at z (k := 0) (j := 0) (by decide) (by decide) (Int.le_refl _)]
    simp
  have g3 : (bndD (withS d.s v) z).ge (k + -1) := Lb.ge.mono (by omega)
  have g1' : (addS (fd (withS d.s v)) d.neg).abs.ge (k + -1) := abs_ge (g1.mono (by omega))
  rw [cmp_at g1' g3, sgn_le, e3, hus, at_shift' (k' := k) (by omega) (abs_ge g1), abs_at, e2, show (k - (k + -1)).toNat = 1 by omega, Nat.pow_one, hz]
  generalize ((fd v).at k - ((d.at k).natAbs : Int)).natAbs = A at *
  generalize 2 ^ (max (fe v : Int) 1 - 1075 - k).toNat = P at *
  split at hb <;> rename_i hd
  · rw [if_pos hd]; omega
  · rw [if_neg hd]; omega
end Go.Proofs.YtejmlngnpekagaaDoor
