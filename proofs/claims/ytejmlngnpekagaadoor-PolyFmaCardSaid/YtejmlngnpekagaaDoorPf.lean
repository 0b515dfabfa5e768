/- A polynomial with its coefficients turned; a line and a product with a sum. Plain laws. -/
import Derived.Test.YtejmlngnpekagaaDoorPol2
import Derived.Test.YtejmlngnpekagaaDoorBas3
open Go PG Go.Proofs
set_option maxRecDepth 100000
set_option linter.unusedSimpArgs false
set_option linter.unusedVariables false
namespace Go.Proofs.YtejmlngnpekagaaDoor

theorem xor_top {b : Nat} (hb : b < W) : b ^^^ 9223372036854775808 = if 9223372036854775808 ≤ b then b - 9223372036854775808 else b + 9223372036854775808 := by
  have hb' : b < 18446744073709551616 := hb
  have e : (9223372036854775808 : Nat) = 2 ^ 63 := by decide
  have key : ∀ c, c < 9223372036854775808 → c ^^^ 9223372036854775808 = c + 9223372036854775808 := by
    intro c hc
    apply Nat.eq_of_testBit_eq
    intro i
    rw [Nat.testBit_xor, e, Nat.testBit_two_pow, Nat.add_comm c]
    rcases Nat.lt_trichotomy i 63 with h | h | h
    · rw [Nat.testBit_two_pow_add_gt h, decide_eq_false (by omega), Bool.xor_false]
    · subst h
      rw [Nat.testBit_two_pow_add_eq]; simp
    · have h64 : 2 ^ 64 ≤ 2 ^ i := Nat.pow_le_pow_right (by decide) h
      have h63 : (2 : Nat) ^ 64 = 18446744073709551616 := by decide
      rw [← e, Nat.testBit_lt_two_pow (by omega), Nat.testBit_lt_two_pow (show 9223372036854775808 + c < 2 ^ i by omega), decide_eq_false (by omega), Bool.xor_false]
  split
  · rename_i h
    obtain ⟨c, rfl⟩ : ∃ c, b = c + 9223372036854775808 := ⟨b - 9223372036854775808, by omega⟩
    rw [← key c (by omega), Nat.xor_assoc, Nat.xor_self, Nat.xor_zero, key c (by omega)]
    omega
  · rename_i h
    exact key b (by omega)
/-- A number with its sign turned. -/
def tn (b : Nat) : Nat := b ^^^ 9223372036854775808
theorem tn_fields {b : Nat} (hb : b < W) : tn b < W ∧ fs (tn b) = !fs b ∧ fe (tn b) = fe b ∧ fm (tn b) = fm b := by
  have hb' : b < 18446744073709551616 := hb
  have hW : W = 18446744073709551616 := rfl
  unfold tn
  rw [xor_top hb]
  have h1 : fe (if 9223372036854775808 ≤ b then b - 9223372036854775808 else b + 9223372036854775808) = fe b := by unfold fe; split <;> omega
  have h2 : ff (if 9223372036854775808 ≤ b then b - 9223372036854775808 else b + 9223372036854775808) = ff b := by unfold ff; split <;> omega
  refine ⟨by split <;> omega, ?_, h1, by unfold fm; rw [h1, h2]⟩
  unfold fs
  split
  · rename_i h; rw [decide_eq_true h, decide_eq_false (by omega)]; rfl
  · rename_i h; rw [decide_eq_false h, decide_eq_true (by omega)]; rfl
theorem fd_tn {b : Nat} (hb : b < W) : fd (tn b) = (fd b).neg := by
  obtain ⟨-, h1, h2, h3⟩ := tn_fields hb
  have e : ∀ c, fd c = mkD (fs c) (fm c) (max (fe c : Int) 1 - 1075) := fun c => rfl
  rw [e, e, h1, h2, h3]
  unfold mkD Dy.neg
  by_cases h : fm b = 0
  · simp only [h, if_pos]; rfl
  · rw [if_neg h, if_neg h, if_neg]
    exact fun h0 => h (by
      have := mkD_m0 (s := fs b) (x := fm b) (e := max (fe b : Int) 1 - 1075)
      unfold mkD at this
      rw [if_neg h] at this
      exact this.1 h0)
theorem polyV_tn {l : List Nat} (ol : Ok W l) (x : Rat) : polyV (l.map tn) x = -polyV l x := by
  induction l with
  | nil => rfl
  | cons b l ih =>
    have ih := ih (fun d h => ol d (List.mem_cons_of_mem _ h))
    rw [List.map_cons, polyV_cons, polyV_cons, ih, fd_tn (ol b (List.mem_cons_self ..)), val_neg]
    grind
theorem right_tn {l : List Nat} (ol : Ok W l) : rightP (l.map tn) ↔ rightP l := by
  unfold rightP
  rw [List.length_map]
  refine and_congr Iff.rfl ⟨fun h b hb => ?_, fun h b hb => ?_⟩
  · have := h (tn b) (List.mem_map_of_mem hb)
    rwa [(tn_fields (ol b hb)).2.2.1] at this
  · obtain ⟨c, hc, rfl⟩ := List.mem_map.1 hb
    rw [(tn_fields (ol c hc)).2.2.1]
    exact h c hc
theorem cmp_tn {l : List Nat} (ol : Ok W l) (hr : rightP l) (x : Nat) : cmpD (valP l x) (valP (l.map tn) x).neg = 0 := by
  rw [cmp_val_eq, val_neg, (valP_spec hr x).2, (valP_spec ((right_tn ol).2 hr) x).2, polyV_tn ol]
  grind
theorem kind_fin {b : Nat} (h : kind b ≤ 2) : fe b < 2047 := Decidable.byContradiction fun h2 => by have := (kind_num b).2 h2; omega
/-- A line's value is the product and the sum. -/
theorem line_fma {c a x : Nat} (hc : kind c ≤ 2) (ha : kind a ≤ 2) (hx : kind x ≤ 2) (dir : Int) :
    ∃ v f t, toS (valP [c, a] x) false dir = (v, f) ∧ fmaS a x c dir = (t, f) ∧ (v = t ∨ (v = 0 ∧ (t = 0 ∨ t = 9223372036854775808))) := by
  have fc := kind_fin hc
  have fa := kind_fin ha
  have fx := kind_fin hx
  have hr : rightP [c, a] := ⟨by simp, fun b hb => by simp at hb; rcases hb with rfl | rfl <;> assumption⟩
  obtain ⟨hl, hv⟩ := valP_spec hr x
  have hls := sum_limB a x c
  have hsv := Lim.val_add (prod_limK a x) ((fd0_lim c).mono (by rw [K0_eq]; decide)) (by rw [K0_eq]; decide)
  rw [val_mul, fd0_fin fc, fd0_fin fa, fd0_fin fx] at hsv
  rw [fd0_fin fc, fd0_fin fa, fd0_fin fx] at hls
  have e : valP [c, a] x = addS (mulS (fd a) (fd x)) (fd c) := by
    refine val_inj hl.ok hls.ok ?_
    rw [hv, hsv, polyV_cons, polyV_cons]
    show ((0 : Rat) * _ + _) * _ + _ = _
    grind
  unfold fmaS
  rw [if_neg (by omega), if_neg (by omega), if_neg (by omega), if_neg (by omega), if_neg (by omega), if_neg (by omega), fd0_fin fc, fd0_fin fa, fd0_fin fx, e]
  by_cases h0 : (addS (mulS (fd a) (fd x)) (fd c)).m ≠ 0
  · rw [if_pos h0]
    exact ⟨_, _, _, rfl, rfl, .inl rfl⟩
  · rw [if_neg h0]
    have h0 := Decidable.not_not.1 h0
    have e0 : toS (addS (mulS (fd a) (fd x)) (fd c)) false dir = (0, 0) := if_pos h0
    rw [e0]
    by_cases h1 : (mulS (fd a) (fd x)).m = 0 ∧ c &&& 9223372036854775808 = sgB a x
    · rw [if_pos h1]
      exact ⟨_, _, _, rfl, rfl, .inr ⟨rfl, by unfold sgB; split <;> simp⟩⟩
    · rw [if_neg h1]
      by_cases h2 : dir = 3
      · rw [if_pos h2]; exact ⟨_, _, _, rfl, rfl, .inr ⟨rfl, .inr rfl⟩⟩
      · rw [if_neg h2]; exact ⟨_, _, _, rfl, rfl, .inr ⟨rfl, .inl rfl⟩⟩
end Go.Proofs.YtejmlngnpekagaaDoor
