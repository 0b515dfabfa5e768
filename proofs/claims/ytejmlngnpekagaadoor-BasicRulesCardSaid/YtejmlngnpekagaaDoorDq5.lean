/- Division: long division, and division by any number. -/
import Derived.Test.YtejmlngnpekagaaDoorDq4
open Go PG Go.Proofs
set_option maxRecDepth 100000
set_option linter.unusedSimpArgs false
set_option linter.unusedVariables false
namespace Go.Proofs.YtejmlngnpekagaaDoor

/-- What stands in the row when k digits are still to come. -/
def remK (A V k : Nat) : Nat := A / W ^ k % V * W ^ k + A % W ^ k
theorem remK_zero (A V : Nat) : remK A V 0 = A % V := by
  unfold remK
  rw [Nat.pow_zero, Nat.div_one, Nat.mod_one, Nat.mul_one, Nat.add_zero]
theorem remK_top {A V k : Nat} (h : A / W ^ k < V) : remK A V k = A := by
  unfold remK
  rw [Nat.mod_eq_of_lt h, Nat.mul_comm]
  exact Nat.div_add_mod A (W ^ k)
/-- One digit: the part of the row, the digit, what is left. -/
theorem remK_step {A V k n : Nat} (hV : 0 < V) (hVn : V < W ^ n) :
    remK A V (k + 1) / W ^ k < V * W ∧ remK A V (k + 1) / W ^ k / V = A / V / W ^ k % W ∧ remK A V k = remK A V (k + 1) % W ^ k + W ^ k * (remK A V (k + 1) / W ^ k % V) ∧ remK A V (k + 1) < W ^ (k + n + 1) := by
  have hk := Nat.pow_pos (n := k) W0
  have hp : W ^ (k + 1) = W ^ k * W := Nat.pow_succ ..
  have e1 : A / W ^ (k + 1) = A / W ^ k / W := by rw [hp, Nat.div_div_eq_div_mul]
  have e2 : A % W ^ (k + 1) = A % W ^ k + W ^ k * (A / W ^ k % W) := by rw [hp, Nat.mod_mul]
  have e3 : A / V / W ^ k = A / W ^ k / V := by rw [Nat.div_div_eq_div_mul, Nat.div_div_eq_div_mul, Nat.mul_comm]
  have er : remK A V (k + 1) = A % W ^ k + W ^ k * (A / W ^ k / W % V * W + A / W ^ k % W) := by
    unfold remK
    rw [e1, e2, hp, Nat.mul_add, Nat.mul_left_comm]
    omega
  have hml := Nat.mod_lt A hk
  have ed : remK A V (k + 1) / W ^ k = A / W ^ k / W % V * W + A / W ^ k % W := by
    rw [er, Nat.add_mul_div_left _ _ hk, Nat.div_eq_of_lt hml, Nat.zero_add]
  have em : remK A V (k + 1) % W ^ k = A % W ^ k := by rw [er, Nat.add_mul_mod_self_left, Nat.mod_eq_of_lt hml]
  rw [ed, em, e3]
  have hs := small_step (X := A / W ^ k) (n := V) (i := 0) hV
  simp only [Nat.pow_zero, Nat.div_one, Nat.zero_add, Nat.pow_one] at hs
  have hlt : A / W ^ k / W % V * W + A / W ^ k % W < V * W := by
    have a := Nat.mod_lt (A / W ^ k / W) hV
    have b := Nat.mod_lt (A / W ^ k) W0
    have : (A / W ^ k / W % V + 1) * W ≤ V * W := Nat.mul_le_mul_right _ a
    rw [Nat.add_mul, Nat.one_mul] at this
    omega
  refine ⟨hlt, hs.1, ?_, ?_⟩
  · rw [hs.2]
    unfold remK
    rw [Nat.add_comm, Nat.mul_comm]
  · rw [er]
    have h1 : W ^ k * (A / W ^ k / W % V * W + A / W ^ k % W) + W ^ k ≤ W ^ k * (V * W) := by
      rw [← Nat.mul_succ]; exact Nat.mul_le_mul_left _ hlt
    have h2 : W ^ k * (V * W) ≤ W ^ k * (W ^ n * W) := Nat.mul_le_mul_left _ (Nat.mul_le_mul_right _ (Nat.le_of_lt hVn))
    have h3 : W ^ k * (W ^ n * W) = W ^ (k + n + 1) := by rw [← Nat.pow_succ, ← Nat.pow_add]; congr 1
    omega
/-- A part of a row of a number, as a number; the row when the part holds another. -/
theorem part_num {X o n m : Nat} (hX : X < W ^ (o + n + 1)) : dv W (((tab W X m).drop o).take (n + 1)) = (X % W ^ m) / W ^ o % W ^ (n + 1) := by
  have okP := ok_tab W0 X m
  have okd : Ok W ((tab W X m).drop o) := fun d hd => okP d (List.mem_of_mem_drop hd)
  rw [(dv_take _ okd _).1, (dv_take _ okP _).2, dv_tab]
theorem row_num {X o n m T : Nat} (hm : o + n + 1 ≤ m) (hX : X < W ^ (o + n + 1)) : rowL (tab W X m) o T (n + 1) = tab W (X % W ^ o + W ^ o * (T % W ^ (n + 1))) m := by
  have okP := ok_tab W0 X m
  have hXm : X < W ^ m := Nat.lt_of_lt_of_le hX (Nat.pow_le_pow_right W0 hm)
  have dP : dv W (tab W X m) = X := (dv_tab X m).trans (Nat.mod_eq_of_lt hXm)
  have hd0 : X / W ^ (o + (n + 1)) = 0 := Nat.div_eq_of_lt (by rw [← Nat.add_assoc]; exact hX)
  have okR : Ok W (rowL (tab W X m) o T (n + 1)) := by
    intro d hd
    unfold rowL at hd
    rcases List.mem_append.1 hd with hd | hd
    · exact okP d (List.mem_of_mem_take hd)
    · rcases List.mem_append.1 hd with hd | hd
      · exact ok_tab W0 _ _ d hd
      · exact okP d (List.mem_of_mem_drop hd)
  have hlen : (rowL (tab W X m) o T (n + 1)).length = m := by rw [rowL_len (by rw [tab_length]; omega), tab_length]
  have hdv : dv W (rowL (tab W X m) o T (n + 1)) = X % W ^ o + W ^ o * (T % W ^ (n + 1)) := by
    unfold rowL
    rw [dv_append, dv_append, (dv_take _ okP _).1, (dv_take _ okP _).2, dP, dv_tab, tab_length, List.length_take, tab_length, Nat.min_eq_left (by omega), hd0, Nat.mul_zero, Nat.add_zero]
  have := tab_of okR
  rw [hdv, hlen] at this
  exact this
/-- A row with a number in a part: the part taken out, put in anew. -/
theorem put_num {Y o Z n m : Nat} (hY : Y < W ^ o) (hZ : Z < W ^ (n + 1)) (hm : o + n + 1 ≤ m) (T : Nat) :
    dv W (((tab W (Y + W ^ o * Z) m).drop o).take (n + 1)) = Z ∧ rowL (tab W (Y + W ^ o * Z) m) o T (n + 1) = tab W (Y + W ^ o * (T % W ^ (n + 1))) m := by
  have ho := Nat.pow_pos (n := o) W0
  have hX : Y + W ^ o * Z < W ^ (o + n + 1) := by
    have : W ^ o * (Z + 1) ≤ W ^ o * W ^ (n + 1) := Nat.mul_le_mul_left _ hZ
    rw [← Nat.pow_add, Nat.mul_add, Nat.mul_one, ← Nat.add_assoc] at this
    omega
  have hXm : Y + W ^ o * Z < W ^ m := Nat.lt_of_lt_of_le hX (Nat.pow_le_pow_right W0 hm)
  refine ⟨?_, ?_⟩
  · rw [part_num hX, Nat.mod_eq_of_lt hXm, Nat.add_mul_div_left _ _ ho, Nat.div_eq_of_lt hY, Nat.zero_add, Nat.mod_eq_of_lt hZ]
  · rw [row_num hm hX, Nat.add_mul_mod_self_left, Nat.mod_eq_of_lt hY]
end Go.Proofs.YtejmlngnpekagaaDoor
