/- basic: the laws' example; the document's products and sums. -/
import Derived.Test.YtmnojbkakgfinaaGreatDoorK7
import Derived.Test.YtmnojbkakgfinaaGreatDoorI4
import Derived.Test.YtmnojbkakgfinaaGreatDoorK9
import Derived.Test.YtmnojbkakgfinaaGreatDoorI5
open Go PG Go.Proofs
set_option maxRecDepth 100000
set_option linter.unusedSimpArgs false
set_option linter.unusedVariables false
namespace Go.Proofs.YtmnojbkakgfinaaGreatDoor

/-- What the document answers for NaNs. -/
def earlyS (w : Nat) : Nat × Nat := if w = 5 then (9221120237041090560, 16) else (9221120237041090560, 0)
def ansB (r : Nat × Nat) : PV := .agg [.int .u64 (r.1 : Int), .int .i64 (r.2 : Int)]
theorem ge_fs (x : Nat) : decide ((x : Int) ≥ 9223372036854775808) = fs x := by unfold fs; exact decide_eq_decide.2 (by omega)
theorem fd0_fin {x : Nat} (h : kind x ≤ 2) : fd0 x = fd x := by unfold fd0; rw [if_pos (fd_fin h)]
/-- The document's sum before rounding. -/
def sumD (x y z : Nat) : Dy := addD (mulS (fd x) (fd y)) (fd z)
theorem sumD_lim (x y z : Nat) : LimN 2307 (sumD x y z) := ((fd_lim x).mul (fd_lim y)).N.add ((fd_lim z).N.mono (by decide))
theorem sumD_bare {x y z : Nat} (h : kind x ≤ 2 ∧ kind y ≤ 2 ∧ kind z ≤ 2) : (sumD x y z).bare = addS (mulS (fd0 x) (fd0 y)) (fd0 z) := by
  rw [fd0_fin h.1, fd0_fin h.2.1, fd0_fin h.2.2]
  have hp := (fd_lim x).mul (fd_lim y)
  have := addD_bare (K := 2306) hp.N ((fd_lim z).N.mono (by decide)) (by decide)
  rw [hp.bare (by decide), (fd_lim z).bare (by decide)] at this
  exact this
theorem fmaS_fin {x y z : Nat} (dir : Int) (h : kind x ≤ 2 ∧ kind y ≤ 2 ∧ kind z ≤ 2) : fmaS x y z dir = if (sumD x y z).m ≠ 0 then toS (sumD x y z) false dir
    else if (mulS (fd x) (fd y)).m = 0 ∧ z &&& 9223372036854775808 = sgB x y then (sgB x y, 0)
    else if dir = 3 then (9223372036854775808, 0) else (0, 0) := by
  have e1 := sumD_bare h
  have e2 := toS_bare (sumD_lim x y z) (by decide) false dir
  have e3 := bare_m0 (sumD_lim x y z) (by decide)
  rw [e1] at e2 e3
  unfold fmaS
  rw [if_neg (by omega), if_neg (by omega), if_neg (by omega), if_neg (by omega), if_neg (by omega), if_neg (by omega), e2]
  rw [fd0_fin h.1, fd0_fin h.2.1] at *
  simp only [ne_eq, e3]
end Go.Proofs.YtmnojbkakgfinaaGreatDoor