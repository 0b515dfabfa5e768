/- Neighbours, middles and breakpoints: next's functions. -/
import Derived.Test.YtejmlngnpekagaaGreatDoorRd7
open Go PG Go.Proofs
set_option maxRecDepth 100000
set_option linter.unusedSimpArgs false
set_option linter.unusedVariables false
namespace Go.Proofs.YtejmlngnpekagaaGreatDoor

def upS (b : Nat) : Nat := if fe b < 2047 then (if b = 9223372036854775808 then 1 else if fs b = true then b - 1 else b + 1) else 0
def downS (b : Nat) : Nat := if fe b < 2047 then (if b = 0 then 9223372036854775809 else if fs b = true then b + 1 else b - 1) else 0
theorem b_lt {b : Nat} (hb : b < W) : b < 18446744073709551616 := hb
theorem wrapu {x : Int} {n : Nat} (h : x = (n : Int)) (hn : n < W) : IntKind.wrap .u64 x = (n : Int) := by rw [h]; exact wrap_nat64 hn
theorem fe_top {b : Nat} (hb : b < W) (hf : fe b < 2047) : b + 1 < W := by
  have := b_lt hb
  show _ < 18446744073709551616
  unfold fe at hf; omega
theorem one_top (s : Bool) (e : Int) : Dy.top ⟨s, 1, e⟩ = e := by
  unfold Dy.top
  dsimp only
  rw [if_neg (by decide), show bitLen 1 = 1 by decide]
  omega
theorem one_bits (s : Bool) (e : Int) : bitLen (Dy.mk s 1 e).m ≤ 1000000 := by show bitLen 1 ≤ 1000000; decide
/-- The middle, with the bits' sign. -/
def mdS (b : Nat) : Dy := ⟨fs b, (mid b).m, (mid b).e⟩
theorem mid_add (b : Nat) (hf : fe b < 2047) : addV (fd (fsz b)) ⟨false, 1, max (fe b : Int) 1 - 1075 - 1⟩ = .tuple [(mid b).pv, .int .i64 0] := by
  have hfe := fe_lt b
  have he := fd_e (fsz b)
  have hb := fd_bits (fsz b)
  have ok1 := fd_ok' (fsz b)
  have f1 := fd_fits (fsz b)
  have ok2 : Dy.ok ⟨false, 1, max (fe b : Int) 1 - 1075 - 1⟩ := .inr rfl
  have f2 : Dy.fits ⟨false, 1, max (fe b : Int) 1 - 1075 - 1⟩ := by constructor <;> dsimp only <;> omega
  have g1 : (fd (fsz b)).ge (-1075) := .inr (by omega)
  have g2 : Dy.ge ⟨false, 1, max (fe b : Int) 1 - 1075 - 1⟩ (-1075) := .inr (by dsimp only; omega)
  have e : addS (fd (fsz b)) ⟨false, 1, max (fe b : Int) 1 - 1075 - 1⟩ = mid b := by
    refine eq_of_at (k := -1075) (addS_ok _ _) (mid_ok b) (addS_ge ok1 ok2 f1 f2 g1 g2) (mid_ge b) ?_
    rw [addS_at ok1 ok2 f1 f2 g1 g2, mid_at, fd_at' (fsz_lt b) (by omega), nat_at rfl]
    unfold fv
    rw [(fm_fsz b).1, (fm_fsz b).2]
    dsimp only
    rw [show (-1074 - -1075 : Int).toNat = 1 by decide, show (max (fe b : Int) 1 - 1075 - 1 - -1075).toNat = max (fe b) 1 - 1 by omega]
    generalize 2 ^ (max (fe b) 1 - 1) = P
    rw [Nat.add_mul, Nat.mul_comm 2 (fm b), Nat.mul_assoc, Nat.mul_assoc, Nat.mul_comm P, Nat.pow_one]
    omega
  unfold addV
  rw [e]
  refine if_pos ⟨f1, f2, fun h _ => ?_, by rw [e]; exact mid_fits b⟩
  rw [top_of h]
  rw [one_top]
  dsimp only
  omega
end Go.Proofs.YtejmlngnpekagaaGreatDoor
