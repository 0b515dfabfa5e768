/- basic and the document: NaNs, flags. -/
import Derived.Test.YtmnnnapelmhalaaGreatDoorBq3
open Go PG Go.Proofs
set_option maxRecDepth 100000
set_option linter.unusedSimpArgs false
set_option linter.unusedVariables false
namespace Go.Proofs.YtmnnnapelmhalaaGreatDoor

theorem toS_fl (d : Dy) (more : Bool) (dir : Int) : (toS d more dir).2 < 256 := by
  by_cases h0 : d.m = 0
  · unfold toS; rw [if_pos h0]; decide
  by_cases ht : 1023 < d.top
  · rw [toS_big h0 ht]; simp
  rw [toS_no h0 (by omega)]
  dsimp only
  repeat' split
  all_goals decide
theorem fmaS_fl (x y z : Nat) (dir : Int) : (fmaS x y z dir).2 < 256 := by
  have h := toS_fl (addS (mulS (fd0 x) (fd0 y)) (fd0 z)) false dir
  unfold fmaS
  repeat' split
  all_goals first | exact h | simp
theorem divS_fl (x y : Nat) (dir : Int) : (divS x y dir).2 < 256 := by
  have h := toS_fl (partD (fd x) (fd y)) (partR (fd x) (fd y)) dir
  unfold divS
  repeat' split
  all_goals first | exact h | simp
theorem worst3 (x y z : Nat) : (worstS [x, y, z] = 0 ↔ kind x ≤ 3 ∧ kind y ≤ 3 ∧ kind z ≤ 3) ∧ (worstS [x, y, z] = 5 ↔ kind x = 5 ∨ kind y = 5 ∨ kind z = 5) := by
  have h1 := kind_le x; have h2 := kind_le y; have h3 := kind_le z
  unfold worstS
  simp only [List.foldl_cons, List.foldl_nil]
  generalize kind x = a at *
  generalize kind y = b at *
  generalize kind z = c at *
  (repeat' split) <;> omega
theorem worst2 (x y : Nat) : (worstS [x, y] = 0 ↔ kind x ≤ 3 ∧ kind y ≤ 3) ∧ (worstS [x, y] = 5 ↔ kind x = 5 ∨ kind y = 5) := by
  have h1 := kind_le x; have h2 := kind_le y
  unfold worstS
  simp only [List.foldl_cons, List.foldl_nil]
  generalize kind x = a at *
  generalize kind y = b at *
  (repeat' split) <;> omega
theorem worst1 (x : Nat) : (worstS [x] = 0 ↔ kind x ≤ 3) ∧ (worstS [x] = 5 ↔ kind x = 5) := by
  have h1 := kind_le x
  unfold worstS
  simp only [List.foldl_cons, List.foldl_nil]
  generalize kind x = a at *
  (repeat' split) <;> omega
theorem fmaS_early {x y z w : Nat} (dir : Int) (h0 : w = 0 ↔ kind x ≤ 3 ∧ kind y ≤ 3 ∧ kind z ≤ 3) (h5 : w = 5 ↔ kind x = 5 ∨ kind y = 5 ∨ kind z = 5) (h : w ≠ 0) : earlyS w = fmaS x y z dir := by
  have h1 := kind_le x; have h2 := kind_le y; have h3 := kind_le z
  unfold earlyS fmaS
  by_cases hw : w = 5
  · rw [if_pos hw, if_pos (h5.1 hw)]
  · rw [if_neg hw, if_neg (fun h => hw (h5.2 h)), if_pos (by omega)]
theorem divS_early {x y w : Nat} (dir : Int) (h0 : w = 0 ↔ kind x ≤ 3 ∧ kind y ≤ 3) (h5 : w = 5 ↔ kind x = 5 ∨ kind y = 5) (h : w ≠ 0) : earlyS w = divS x y dir := by
  have h1 := kind_le x; have h2 := kind_le y
  unfold earlyS divS
  by_cases hw : w = 5
  · rw [if_pos hw, if_pos (h5.1 hw)]
  · rw [if_neg hw, if_neg (fun h => hw (h5.2 h)), if_pos (by omega)]
end Go.Proofs.YtmnnnapelmhalaaGreatDoor
