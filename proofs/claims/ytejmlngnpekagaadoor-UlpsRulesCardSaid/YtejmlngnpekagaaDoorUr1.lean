/- What is rounded lies within half a step, or a step. No program stands here. -/
import Derived.Test.YtejmlngnpekagaaDoorUl3
import Derived.Test.YtejmlngnpekagaaDoorTo3
open Go PG Go.Proofs
set_option maxRecDepth 100000
set_option linter.unusedSimpArgs false
set_option linter.unusedVariables false
namespace Go.Proofs.YtejmlngnpekagaaDoor

/-- Half a step or one, in halves of units. -/
theorem near_bound {M A P r : Nat} {H B odd s : Bool} {dir : Int} (hA : A = (2 * M + (if H = true then 1 else 0)) * P + r) (hr : r < P) (hB : r = 0 ↔ B = false) :
    2 * (((if awayS dir s odd H B = true then M + 1 else M) * (2 * P) : Nat) - (A : Int)).natAbs ≤ (if dir = 0 then 1 else 2) * (2 * P) := by
  have hV : ∀ b : Bool, (if b = true then M + 1 else M) * (2 * P) = if b = true then 2 * (M * P) + 2 * P else 2 * (M * P) := fun b => by
    cases b
    · simp only [Bool.false_eq_true, if_false]; exact Nat.mul_left_comm _ _ _
    · simp only [if_true]; rw [Nat.add_mul, Nat.mul_left_comm, Nat.one_mul]
  have hA2 : A = (if H = true then 2 * (M * P) + P else 2 * (M * P)) + r := by
    rw [hA]
    cases H
    · simp only [Bool.false_eq_true, if_false, Nat.add_zero, Nat.mul_assoc]
    · simp only [if_true]; rw [Nat.add_mul, Nat.mul_assoc, Nat.one_mul]
  rw [hV]
  clear hV hA
  generalize M * P = Q at *
  unfold awayS
  by_cases hd : dir = 0
  · rw [if_pos hd, if_pos hd]
    cases H <;> cases B <;> cases odd <;> simp only [Bool.and_self, Bool.and_true, Bool.and_false, Bool.or_self, Bool.or_true, Bool.or_false, Bool.false_eq_true, if_true, if_false, iff_true, iff_false, reduceCtorEq] at hA2 hB ⊢ <;> omega
  · rw [if_neg hd, if_neg hd]
    generalize upw dir s = U
    cases H <;> cases B <;> cases U <;> simp only [Bool.and_self, Bool.and_true, Bool.and_false, Bool.or_self, Bool.or_true, Bool.or_false, Bool.false_eq_true, if_true, if_false, iff_true, iff_false, reduceCtorEq] at hA2 hB ⊢ <;> omega
/-- The step at what is rounded is not below the unit. -/
theorem step_ge {M : Nat} {t : Int} (h : PackOk M t) (a : Bool) (hv : (if a = true then packB M t + 1 else packB M t) < INF) : t ≤ max (fe (if a = true then packB M t + 1 else packB M t) : Int) 1 - 1075 := by
  obtain ⟨-, -, h3⟩ := pack_fields h.lt h.lo h.hi h.sub
  have hI : INF = 9218868437227405312 := rfl
  cases a
  · simp only [Bool.false_eq_true, if_false]; omega
  · simp only [if_true] at hv ⊢
    have : fe (packB M t) ≤ fe (packB M t + 1) := by unfold fe; omega
    omega
end Go.Proofs.YtejmlngnpekagaaDoor
