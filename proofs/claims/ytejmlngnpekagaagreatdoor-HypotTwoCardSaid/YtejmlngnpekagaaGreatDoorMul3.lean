/- Products: prod.product, prod.Mul, dyad.Mul. -/
import Derived.Test.YtejmlngnpekagaaGreatDoorMul2
open Go PG Go.Proofs
set_option maxRecDepth 100000
set_option linter.unusedSimpArgs false
set_option linter.unusedVariables false
namespace Go.Proofs.YtejmlngnpekagaaGreatDoor

/-- A list of limbs is told by its worth. -/
theorem tab_of {l : List Nat} (h : Ok W l) : l = tab W (dv W l) l.length := by
  apply List.ext_getElem?
  intro i
  by_cases hi : i < l.length
  · have hg := dv_get W0 l h i
    rw [List.getD_eq_getElem?_getD, List.getElem?_eq_getElem hi] at hg
    rw [List.getElem?_eq_getElem hi]
    simp only [Option.getD_some] at hg
    simp [tab, hi, hg]
  · rw [List.getElem?_eq_none (by omega), List.getElem?_eq_none (by rw [tab_length]; omega)]
theorem dv_take (l : List Nat) (h : Ok W l) (i : Nat) : dv W (l.take i) = dv W l % W ^ i ∧ dv W (l.drop i) = dv W l / W ^ i := by
  by_cases hi : i ≤ l.length
  · have h1 := dv_append (b := W) (l.take i) (l.drop i)
    rw [List.take_append_drop, List.length_take, Nat.min_eq_left hi] at h1
    have h2 : dv W (l.take i) < W ^ i := by
      have := dv_lt (l.take i) (fun d hd => h d (List.mem_of_mem_take hd))
      rwa [List.length_take, Nat.min_eq_left hi] at this
    have hp := Nat.pow_pos (n := i) W0
    constructor
    · rw [h1, Nat.add_mul_mod_self_left, Nat.mod_eq_of_lt h2]
    · rw [h1, Nat.add_mul_div_left _ _ hp, Nat.div_eq_of_lt h2, Nat.zero_add]
  · have h1 : dv W l < W ^ i := Nat.lt_of_lt_of_le (dv_lt l h) (Nat.pow_le_pow_right W0 (by omega))
    rw [List.take_of_length_le (by omega), List.drop_eq_nil_of_le (by omega), Nat.mod_eq_of_lt h1, Nat.div_eq_of_lt h1]
    exact ⟨rfl, rfl⟩
theorem rowL_tab {P bi i m : Nat} {a : List Nat} (ha : Ok W a) (hP : P < W ^ (a.length + i)) (hm : i + a.length + 1 ≤ m) (hb : bi < W) :
    rowL (tab W P m) i (rowT (tab W P m) a i bi) (a.length + 1) = tab W (P + W ^ i * (vl a * bi)) m := by
  have okP := ok_tab W0 P m
  have hPm : P < W ^ m := Nat.lt_of_lt_of_le hP (Nat.pow_le_pow_right W0 (by omega))
  have dP : dv W (tab W P m) = P := (dv_tab P m).trans (Nat.mod_eq_of_lt hPm)
  have hA := dv_lt a ha
  have hi := Nat.pow_pos (n := i) W0
  have hPi : P / W ^ i < W ^ a.length := by
    rw [Nat.div_lt_iff_lt_mul hi, ← Nat.pow_add]; exact hP
  have okd : Ok W ((tab W P m).drop i) := fun d hd => okP d (List.mem_of_mem_drop hd)
  have hT : rowT (tab W P m) a i bi = P / W ^ i + vl a * bi := by
    unfold rowT
    rw [(dv_take _ okd _).1, (dv_take _ okP _).2, dP, Nat.mod_eq_of_lt hPi]
  rw [hT]
  have hTl : P / W ^ i + vl a * bi < W ^ (a.length + 1) := by
    have h1 : vl a * bi ≤ (W ^ a.length - 1) * (W - 1) := Nat.mul_le_mul (by have : vl a < W ^ a.length := hA; omega) (by omega)
    have hq := Nat.pow_pos (n := a.length) W0
    rw [Nat.pow_succ]
    clear hT dP hPm okd
    generalize P / W ^ i = Z at *
    generalize W ^ a.length = Q at *
    obtain ⟨q, rfl⟩ : ∃ q, Q = q + 1 := ⟨Q - 1, by omega⟩
    obtain ⟨w, hw⟩ : ∃ w, W = w + 1 := ⟨W - 1, by have := W0; omega⟩
    rw [hw] at h1 ⊢
    simp only [Nat.add_sub_cancel] at h1
    rw [Nat.add_mul, Nat.mul_add, Nat.mul_one, Nat.one_mul]
    omega
  have hd0 : P / W ^ (i + (a.length + 1)) = 0 := Nat.div_eq_of_lt (Nat.lt_of_lt_of_le hP (Nat.pow_le_pow_right W0 (by omega)))
  generalize hTT : P / W ^ i + vl a * bi = T at *
  have okR : Ok W (rowL (tab W P m) i T (a.length + 1)) := by
    intro d hd
    unfold rowL at hd
    rcases List.mem_append.1 hd with hd | hd
    · exact okP d (List.mem_of_mem_take hd)
    · rcases List.mem_append.1 hd with hd | hd
      · exact ok_tab W0 _ _ d hd
      · exact okP d (List.mem_of_mem_drop hd)
  have hlen : (rowL (tab W P m) i T (a.length + 1)).length = m := by rw [rowL_len (by rw [tab_length]; omega), tab_length]
  have hdv : dv W (rowL (tab W P m) i T (a.length + 1)) = P + W ^ i * (vl a * bi) := by
    unfold rowL
    rw [dv_append, dv_append, (dv_take _ okP _).1, (dv_take _ okP _).2, dP, dv_tab, tab_length, List.length_take, tab_length, Nat.min_eq_left (by omega), hd0, Nat.mul_zero, Nat.add_zero, Nat.mod_eq_of_lt hTl, ← hTT, Nat.mul_add, ← Nat.add_assoc, Nat.mod_add_div]
  have := tab_of okR
  rw [hdv, hlen] at this
  exact this
end Go.Proofs.YtejmlngnpekagaaGreatDoor
