/- Places, distances and steps: ulps' functions. -/
import Derived.Test.YtejmlngnpekagaaGreatDoorNx2
open Go PG Go.Proofs
set_option maxRecDepth 100000
set_option linter.unusedSimpArgs false
set_option linter.unusedVariables false
namespace Go.Proofs.YtejmlngnpekagaaGreatDoor

/-- Bits in their order. -/
def plc (b : Nat) : Int := if fs b = true then -(fsz b : Int) else fsz b
theorem plc_range (b : Nat) : -9223372036854775808 < plc b ∧ plc b < 9223372036854775808 := by
  have := fsz_lt b
  unfold plc; split <;> omega
theorem wu64 (x : Int) : IntKind.wrap .u64 x = x % 18446744073709551616 := IntKind.wrap_u64 x
/-- The bits at a place. -/
def atS (z : Int) : Option Nat := if z.natAbs ≤ INF then some (withS (decide (z < 0)) z.natAbs) else none
/-- The step at a number. -/
def ulpS (b : Nat) : Dy := ⟨false, 1, max (fe b : Int) 1 - 1075⟩
theorem ulpS_ok (b : Nat) : (ulpS b).ok := .inr (show 1 % 2 = 1 by decide)
theorem ulpS_fits (b : Nat) : (ulpS b).fits := by
  have := fe_lt b
  constructor
  · show (-1073741824 : Int) ≤ max (fe b : Int) 1 - 1075; omega
  · show max (fe b : Int) 1 - 1075 ≤ 1073741824; omega
theorem mid_sub (b : Nat) (hf0 : fe b < 2047) : addS (mid (fsz b)) (fd (fsz b)).neg = ⟨false, 1, max (fe b : Int) 1 - 1076⟩ := by
  have hfe := fe_lt b
  have hz := fsz_lt b
  have ok1 := mid_ok (fsz b)
  have f1 := mid_fits (fsz b)
  have ok2 := neg_ok (fd_ok' (fsz b))
  have f2 := neg_fits (fd_fits (fsz b))
  have g1 := mid_ge (fsz b)
  have g2 := neg_ge ((fd_ge (fsz b)).mono (k := -1075) (by omega))
  refine eq_of_at (k := -1075) (addS_ok _ _) (.inr rfl) (addS_ge ok1 ok2 f1 f2 g1 g2) (.inr (by dsimp only; omega)) ?_
  rw [addS_at ok1 ok2 f1 f2 g1 g2, neg_at, mid_at, fd_at' hz (by omega), nat_at (d := ⟨false, 1, max (fe b : Int) 1 - 1076⟩) rfl]
  unfold fv
  rw [(fm_fsz b).1, (fm_fsz b).2]
  dsimp only
  rw [show (-1074 - -1075 : Int).toNat = 1 by decide, show (max (fe b : Int) 1 - 1076 - -1075).toNat = max (fe b) 1 - 1 by omega]
  generalize 2 ^ (max (fe b) 1 - 1) = P
  rw [Nat.add_mul, Nat.mul_comm 2 (fm b), Nat.mul_assoc, Nat.mul_assoc, Nat.mul_comm P, Nat.pow_one]
  omega
theorem mid_less (b : Nat) (hf0 : fe b < 2047) : addV (mid (fsz b)) (fd (fsz b)).neg = .tuple [(Dy.mk false 1 (max (fe b : Int) 1 - 1076)).pv, .int .i64 0] := by
  have hfe := fe_lt b
  have f1 := mid_fits (fsz b)
  have f2 := neg_fits (fd_fits (fsz b))
  have he := fd_e (fsz b)
  have hbb := fd_bits (fsz b)
  have hmb := mid_bits (fsz b)
  have e1 : (mid (fsz b)).e = max (fe b : Int) 1 - 1076 := by show max (fe (fsz b) : Int) 1 - 1076 = _; rw [(fm_fsz b).2]
  have e := mid_sub b hf0
  unfold addV
  rw [e]
  refine if_pos ⟨f1, f2, fun h h' => ?_, by rw [e]; constructor <;> dsimp only <;> omega⟩
  rw [top_of h, top_of h', neg_m, e1]
  have : (fd (fsz b)).neg.e = (fd (fsz b)).e := by
    unfold Dy.neg; rw [neg_m] at h'; rw [if_neg h']
  rw [this]
  omega
end Go.Proofs.YtejmlngnpekagaaGreatDoor
