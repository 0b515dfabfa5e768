/- Products of the reference's numbers within bounds. -/
import Derived.Test.YtejmlngnpekagaaGreatDoorLimN
import Derived.Test.YtejmlngnpekagaaGreatDoorRm
open Go PG Go.Proofs
set_option maxRecDepth 100000
set_option linter.unusedSimpArgs false
set_option linter.unusedVariables false
namespace Go.Proofs.YtejmlngnpekagaaGreatDoor

theorem LimN.mul {K J : Nat} {a b : Dy} (ha : LimN K a) (hb : LimN J b) : LimN (K + J) (mulS a b) := by
  have e : -((K + J : Nat) : Int) = -(K : Int) + -(J : Int) := by omega
  refine ⟨by rw [e]; exact mulS_ge ha.1 hb.1, ?_, ?_⟩
  · rw [e, mulS_at ha.1 hb.1, Int.natAbs_mul, show 2 * (K + J) = 2 * K + 2 * J by omega, Nat.pow_add]
    exact Nat.mul_lt_mul'' ha.2.1 hb.2.1
  · have := ha.2.2
    have := hb.2.2
    unfold mulS
    split
    · show _ ≤ (0 : Int) ∧ (0 : Int) ≤ _; omega
    · show _ ≤ a.e + b.e ∧ a.e + b.e ≤ _; omega
theorem l_2Mul {x y : Nat} (hx : bitLen x ≤ 1000000) (hy : bitLen y ≤ 1000000) : PC E 66 [VN x, VN y] (VN (x * y)) :=
  c_2Mul x y (Nat.le_trans (dgB_le_of_bits (n := 62500) (by omega)) (by decide)) (Nat.le_trans (dgB_le_of_bits (n := 62500) (by omega)) (by decide))
theorem dgB_len0 {x : Nat} : (dg B x).length = 0 ↔ x = 0 := ⟨dgB_nil, fun h => by rw [h]; rfl⟩
end Go.Proofs.YtejmlngnpekagaaGreatDoor
