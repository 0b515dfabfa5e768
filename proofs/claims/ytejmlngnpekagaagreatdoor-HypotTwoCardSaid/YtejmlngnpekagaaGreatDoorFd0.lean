/- A finite number's dyad, 0 for others; how great it may be. No program stands here. -/
import Derived.Test.YtejmlngnpekagaaGreatDoorLim
open Go PG Go.Proofs
set_option maxRecDepth 100000
set_option linter.unusedSimpArgs false
set_option linter.unusedVariables false
namespace Go.Proofs.YtejmlngnpekagaaGreatDoor

theorem fd_lim (b : Nat) : Lim 1153 (fd b) := by
  have h1 := fm_lt b
  have h2 := fe_lt b
  exact Lim.mk (n := 53) (J := 1100) ((bitLen_le _ _).2 (by show fm b < 9007199254740992; omega)) (by omega) (by decide)
def fd0 (x : Nat) : Dy := if fe x < 2047 then fd x else .zero
theorem fd0_lim (x : Nat) : Lim 1153 (fd0 x) := by
  unfold fd0; split
  · exact fd_lim x
  · exact Lim.zero _
/-- The bound of a product of two numbers. -/
def K0 : Nat := 2306
theorem K0_eq : K0 = 2306 := rfl
theorem fd0_limK (x : Nat) : Lim K0 (fd0 x) := (fd0_lim x).mono (by rw [K0_eq]; decide)
theorem prod_limK (x y : Nat) : Lim K0 (mulS (fd0 x) (fd0 y)) := (fd0_lim x).mul (fd0_lim y)
end Go.Proofs.YtejmlngnpekagaaGreatDoor
