/- What is rounded lies within half a step, or a step: in units of a small power. No program stands here. -/
import Derived.Test.YtejmlngnpekagaaDoorUr1
open Go PG Go.Proofs
set_option maxRecDepth 100000
set_option linter.unusedSimpArgs false
set_option linter.unusedVariables false
namespace Go.Proofs.YtejmlngnpekagaaDoor

theorem off_bound {d : Dy} (h0 : d.m ≠ 0) (ht : d.top ≤ 1023) {k : Int} (hk : k ≤ d.e) (hk2 : k ≤ -1075) (he : k ≥ -100000) (dir : Int) (hv : vS d (upM d false dir (unitOf d.top)) < INF) :
    2 * ((fd (vS d (upM d false dir (unitOf d.top)))).at k - ((d.at k).natAbs : Int)).natAbs ≤ (if dir = 0 then 1 else 2) * 2 ^ (max (fe (vS d (upM d false dir (unitOf d.top))) : Int) 1 - 1075 - k).toNat := by
  have hr := unit_range ht
  have hp := flo_ok h0 ht
  have hl : low d = packB (flo d (unitOf d.top)) (unitOf d.top) := if_neg (by omega)
  obtain ⟨r, e, hr2, hb⟩ := parts_at d (unitOf d.top) hk (show k ≤ unitOf d.top - 1 by omega)
  have hvd : ∀ a, vS d a = if a = true then packB (flo d (unitOf d.top)) (unitOf d.top) + 1 else packB (flo d (unitOf d.top)) (unitOf d.top) := fun a => by rw [← hl]; rfl
  have hst := step_ge hp (upM d false dir (unitOf d.top)) (by rw [← hvd]; exact hv)
  rw [← hvd] at hst
  have hnb := near_bound (M := flo d (unitOf d.top)) (odd := decide (flo d (unitOf d.top) % 2 = 1)) (s := d.s) (dir := dir) e hr2 hb
  have hup : awayS dir d.s (decide (flo d (unitOf d.top) % 2 = 1)) (hf d (unitOf d.top)) (bl d (unitOf d.top)) = upM d false dir (unitOf d.top) := by unfold upM; rw [Bool.or_false]
  rw [hup] at hnb
  have e2 : 2 * 2 ^ (unitOf d.top - 1 - k).toNat = 2 ^ (unitOf d.top - k).toNat := by rw [show (unitOf d.top - k).toNat = (unitOf d.top - 1 - k).toNat + 1 by omega, Nat.pow_succ, Nat.mul_comm]
  rw [e2] at hnb
  have hat : (fd (vS d (upM d false dir (unitOf d.top)))).at k = (((if upM d false dir (unitOf d.top) = true then flo d (unitOf d.top) + 1 else flo d (unitOf d.top)) * 2 ^ (unitOf d.top - k).toNat : Nat) : Int) := by
    rw [hvd]
    cases upM d false dir (unitOf d.top)
    · simp only [Bool.false_eq_true, if_false]
      rw [pack_fd hp, mkD_at _ _ (by omega) (by omega) (by omega)]
      simp
    · simp only [if_true]
      rw [pack_fd1 hp, mkD_at _ _ (by omega) (by omega) (by omega)]
      simp
  rw [hat]
  refine Nat.le_trans hnb (Nat.mul_le_mul_left _ (Nat.pow_le_pow_right (by decide) (by omega)))
end Go.Proofs.YtejmlngnpekagaaDoor
