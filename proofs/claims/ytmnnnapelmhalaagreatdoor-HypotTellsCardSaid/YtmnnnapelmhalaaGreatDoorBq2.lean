/- basic: quotients; what wrong directions give; the laws' example. -/
import Derived.Test.YtmnnnapelmhalaaGreatDoorBq1
import Derived.Test.YtmnnnapelmhalaaGreatDoorI4
import Derived.Test.YtmnnnapelmhalaaGreatDoorI3
open Go PG Go.Proofs
set_option maxRecDepth 100000
set_option linter.unusedSimpArgs false
set_option linter.unusedVariables false
namespace Go.Proofs.YtmnnnapelmhalaaGreatDoor

/-- A quotient's bits and flags. -/
def divS (x y : Nat) (dir : Int) : Nat × Nat :=
  if kind x = 5 ∨ kind y = 5 then (9221120237041090560, 16)
  else if kind x = 4 ∨ kind y = 4 then (9221120237041090560, 0)
  else if (kind x = 0 ∨ kind x = 3) ∧ kind y = kind x then (9221120237041090560, 16)
  else if kind x = 3 then (9218868437227405312 ||| sgB x y, 0)
  else if kind x = 0 ∨ kind y = 3 then (sgB x y, 0)
  else if kind y = 0 then (9218868437227405312 ||| sgB x y, 8)
  else toS (partD (fd x) (fd y)) (partR (fd x) (fd y)) dir
theorem fd_may {x : Nat} (h : kind x = 1 ∨ kind x = 2) : mayP (fd x) := by
  have hl := fd_lim x
  have hf : fe x < 2047 := by unfold kind at h; have := fe_lt x; (repeat' split at h) <;> omega
  refine ⟨hl.fits (by decide), fun h0 => ?_, ?_⟩
  · have h1 := (fd0_m x).1 (by unfold fd0; rw [if_pos hf]; exact h0)
    omega
  · have := fd_bits x; omega
theorem part_fits {x y : Nat} : (partD (fd x) (fd y)).fits := by
  have h1 := fd_e x
  have h2 := fd_e y
  have h3 := fd_bits x
  have h4 := fd_bits y
  have hn : partN (fd x) (fd y) ≤ 130 := by unfold partN; omega
  refine mkD_fits ?_ (by omega) (by omega)
  rw [bitLen_le]
  have h5 := bitLen_shl_le (fd x).m (partN (fd x) (fd y))
  exact Nat.lt_of_le_of_lt (Nat.div_le_self _ _) ((bitLen_le _ 100000).1 (by omega))
theorem fd_fin {x : Nat} (h : kind x ≤ 2) : fe x < 2047 := by
  unfold kind at h; have := fe_lt x; (repeat' split at h) <;> omega
end Go.Proofs.YtmnnnapelmhalaaGreatDoor
