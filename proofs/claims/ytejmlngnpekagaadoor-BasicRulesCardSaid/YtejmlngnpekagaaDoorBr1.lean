/- basic's laws without a reference, in plain terms. -/
import Derived.Test.YtejmlngnpekagaaDoorBq6
import Derived.Test.YtejmlngnpekagaaDoorRoL
import Derived.Test.YtejmlngnpekagaaDoorRv
open Go PG Go.Proofs
set_option maxRecDepth 100000
set_option linter.unusedSimpArgs false
set_option linter.unusedVariables false
namespace Go.Proofs.YtejmlngnpekagaaDoor

/-- What is rounded without a flag is a number. -/
theorem toS_exact0 {d : Dy} (hok : d.ok) (h0 : d.m ≠ 0) {dir : Int} (hz : (toS d false dir).2 = 0) : ∃ b, b < W ∧ fe b < 2047 ∧ fd b = d ∧ fs b = d.s ∧ toS d false dir = (b, 0) := by
  by_cases ht : 1023 < d.top
  · rw [toS_big h0 ht] at hz
    simp at hz
  have hodd := hok.odd h0
  have hx : hf d (unitOf d.top) = false ∧ bl d (unitOf d.top) = false := by
    rw [toS_no h0 (by omega)] at hz
    dsimp only at hz
    split at hz
    · cases hz
    split at hz
    · split at hz <;> cases hz
    · rename_i h
      cases h1 : hf d (unitOf d.top) <;> cases h2 : bl d (unitOf d.top) <;> simp [h1, h2] at h ⊢
  have he : unitOf d.top ≤ d.e := Int.not_lt.1 fun hlt => by
    obtain ⟨e1, e2, -⟩ := bl_n hlt
    obtain ⟨hx1, hx2⟩ := hx
    rw [e1] at hx2
    unfold hf at hx1
    rw [e2] at hx1
    have hx2 := of_decide_eq_false hx2
    have hx1 := of_decide_eq_false hx1
    obtain hn | ⟨n, hn⟩ : (unitOf d.top - d.e).toNat - 1 = 0 ∨ ∃ n, (unitOf d.top - d.e).toNat - 1 = n + 1 := by
      rcases (unitOf d.top - d.e).toNat - 1 with _ | n
      · exact .inl rfl
      · exact .inr ⟨n, rfl⟩
    · rw [hn, Nat.pow_zero, Nat.div_one] at hx1
      exact hx1 hodd
    · rw [hn, Nat.pow_succ] at hx2
      have h3 : d.m % (2 ^ n * 2) = 0 := Decidable.not_not.1 hx2
      have h4 : 2 ∣ d.m := Nat.dvd_trans ⟨2 ^ n, Nat.mul_comm _ _⟩ (Nat.dvd_of_mod_eq_zero h3)
      omega
  obtain ⟨b, -, hb, hf, hfd, hs⟩ := exact_fd hodd (by omega) he
  refine ⟨b, hb, hf, hfd, hs, ?_⟩
  rw [← hfd, toS_fd hf, withS_self hb, if_neg]
  intro h
  exact h0 (by rw [← hfd]; exact (fd_m0 hf).2 h)
theorem toS_self {b : Nat} (hb : b < W) (hf : fe b < 2047) (h0 : (fd b).m ≠ 0) (dir : Int) : toS (fd b) false dir = (b, 0) := by
  rw [toS_fd hf, withS_self hb, if_neg (fun h => h0 ((fd_m0 hf).2 h))]
theorem isq_unique {a r s : Nat} (h : Isq a r) (h' : Isq a s) : r = s := by
  rcases Nat.lt_trichotomy r s with hl | hl | hl
  · have := Nat.mul_le_mul hl hl
    have := h.2; have := h'.1
    simp only [Nat.succ_eq_add_one] at *
    omega
  · exact hl
  · have := Nat.mul_le_mul hl hl
    have := h.1; have := h'.2
    simp only [Nat.succ_eq_add_one] at *
    omega
theorem isq_sq (c : Nat) : Isq (c * c) c := ⟨Nat.le_refl _, by
  have : (c + 1) * (c + 1) = c * c + 2 * c + 1 := by grind
  omega⟩
theorem sgB_comm (x y : Nat) : sgB x y = sgB y x := by
  unfold sgB
  cases fs x <;> cases fs y <;> rfl
theorem fmaS_mul_comm (x y : Nat) (dir : Int) : fmaS x y (sgB x y) dir = fmaS y x (sgB y x) dir := by
  rw [sgB_comm y x]
  unfold fmaS
  rw [sgB_comm y x, mulS_comm (fd0 y) (fd0 x)]
  have h1 : ∀ k, (kind y = k ∨ kind x = k ∨ kind (sgB x y) = k) = (kind x = k ∨ kind y = k ∨ kind (sgB x y) = k) := fun k => propext (by omega)
  have h2 : ∀ k, (kind y = k ∨ kind x = k) = (kind x = k ∨ kind y = k) := fun k => propext (by omega)
  simp only [h1, h2]
theorem inf_bits {z : Nat} (hz : z < W) (h : kind z = 3) : z = 9218868437227405312 ||| (if fs z = true then 9223372036854775808 else 0) := by
  have eW : W = 18446744073709551616 := by decide
  have o1 : (9218868437227405312 ||| 9223372036854775808 : Nat) = 18442240474082181120 := by decide
  have o2 : (9218868437227405312 ||| 0 : Nat) = 9218868437227405312 := by decide
  have h1 : fe z = 2047 ∧ ff z = 0 := by
    have := fe_lt z
    unfold kind at h
    repeat' split at h
    all_goals first | omega | cases h
  obtain ⟨h2, h3⟩ := h1
  unfold fe at h2
  unfold ff at h3
  unfold fs
  rw [eW] at hz
  split
  · rename_i h; simp at h; omega
  · rename_i h; simp at h; omega
/-- A sum. -/
theorem fmaS_one {x y : Nat} (hy : y < W) (dir : Int) : fmaS x 4607182418800017408 y dir =
    if kind x = 5 ∨ kind y = 5 then (9221120237041090560, 16)
    else if kind x = 4 ∨ kind y = 4 then (9221120237041090560, 0)
    else if kind x = 3 ∧ kind y = 3 ∧ (if fs y = true then 9223372036854775808 else 0) ≠ (if fs x = true then 9223372036854775808 else 0) then (9221120237041090560, 16)
    else if kind x = 3 then (9218868437227405312 ||| (if fs x = true then 9223372036854775808 else 0), 0)
    else if kind y = 3 then (y, 0)
    else if (addS (fd0 x) (fd0 y)).m ≠ 0 then toS (addS (fd0 x) (fd0 y)) false dir
    else if (fd0 x).m = 0 ∧ (if fs y = true then 9223372036854775808 else 0) = (if fs x = true then 9223372036854775808 else 0) then ((if fs x = true then 9223372036854775808 else 0), 0)
    else if dir = 3 then (9223372036854775808, 0) else (0, 0) := by
  have k1 : kind 4607182418800017408 = 2 := by decide
  have k2 : fs 4607182418800017408 = false := by decide
  have k3 : fd0 4607182418800017408 = ⟨false, 1, 0⟩ := by decide +kernel
  have k4 : mulS (fd0 x) ⟨false, 1, 0⟩ = fd0 x := by
    have ho := (fd0_lim x).ok
    generalize fd0 x = d at *
    rcases ho with rfl | ho
    · decide
    · obtain ⟨s, m, e⟩ := d
      unfold mulS
      rw [if_neg (by dsimp only at ho ⊢; omega)]
      simp
  have hzt : y &&& 9223372036854775808 = if fs y = true then 9223372036854775808 else 0 := by
    rw [and_top hy]; unfold fs; simp
  have hsg : sgB x 4607182418800017408 = if fs x = true then 9223372036854775808 else 0 := by unfold sgB; rw [k2, Bool.bne_false]
  unfold fmaS
  rw [k1, k3, k4, hzt, hsg]
  generalize (if fs y = true then 9223372036854775808 else 0) = a
  generalize (if fs x = true then 9223372036854775808 else 0) = b
  have e1 : (kind x = 5 ∨ 2 = 5 ∨ kind y = 5) = (kind x = 5 ∨ kind y = 5) := propext (by omega)
  have e2 : (kind x = 4 ∨ 2 = 4 ∨ kind y = 4) = (kind x = 4 ∨ kind y = 4) := propext (by omega)
  have e3 : (kind x = 3 ∧ (kind x = 0 ∨ 2 = 0)) = False := propext ⟨by omega, False.elim⟩
  have e4 : (kind x = 3 ∨ 2 = 3) = (kind x = 3) := propext (by omega)
  simp only [e1, e2, e3, e4, if_false]
theorem fmaS_add_comm {x y : Nat} (hx : x < W) (hy : y < W) (dir : Int) : fmaS x 4607182418800017408 y dir = fmaS y 4607182418800017408 x dir := by
  have ix := inf_bits hx
  have iy := inf_bits hy
  have lx := fd0_lim x
  have ly := fd0_lim y
  have sx : (fd0 x).m = 0 → addS (fd0 x) (fd0 y) = fd0 y := addS_zl ly.ok (lx.fits (by decide)) (ly.fits (by decide))
  have sy : (fd0 y).m = 0 → addS (fd0 x) (fd0 y) = fd0 x := addS_zr lx.ok (lx.fits (by decide)) (ly.fits (by decide))
  rw [fmaS_one hy, fmaS_one hx, addS_comm (fd0 y) (fd0 x)]
  generalize (if fs y = true then 9223372036854775808 else 0) = b at *
  generalize (if fs x = true then 9223372036854775808 else 0) = a at *
  by_cases h5 : kind x = 5 ∨ kind y = 5
  · rw [if_pos h5, if_pos (show kind y = 5 ∨ kind x = 5 from h5.symm)]
  rw [if_neg h5, if_neg (show ¬ (kind y = 5 ∨ kind x = 5) from fun h => h5 h.symm)]
  by_cases h4 : kind x = 4 ∨ kind y = 4
  · rw [if_pos h4, if_pos (show kind y = 4 ∨ kind x = 4 from h4.symm)]
  rw [if_neg h4, if_neg (show ¬ (kind y = 4 ∨ kind x = 4) from fun h => h4 h.symm)]
  by_cases h3 : kind x = 3
  · by_cases h3' : kind y = 3
    · by_cases hab : a = b
      · subst hab
        simp [h3, h3']
      · have hba : ¬ b = a := fun h => hab h.symm
        simp [h3, h3', hab, hba]
    · have := ix h3
      simp only [h3, h3', false_and, and_false, true_and, if_false, if_true]
      rw [← this]
  by_cases h3' : kind y = 3
  · have := iy h3'
    simp only [h3, h3', false_and, and_false, true_and, if_false, if_true]
    rw [← this]
  simp only [h3, h3', false_and, and_false, true_and, if_false, if_true]
  by_cases hm : (addS (fd0 x) (fd0 y)).m = 0
  · have hm' : ((addS (fd0 x) (fd0 y)).m ≠ 0) = False := eq_false (fun h => h hm)
    simp only [hm', if_false]
    by_cases hc : (fd0 x).m = 0 ∧ b = a
    · rw [if_pos hc, if_pos ⟨by rw [sx hc.1] at hm; exact hm, hc.2.symm⟩, hc.2]
    · rw [if_neg hc, if_neg (show ¬ ((fd0 y).m = 0 ∧ a = b) from fun h => hc ⟨by rw [sy h.1] at hm; exact hm, h.2.symm⟩)]
  · rw [if_pos hm, if_pos hm]
theorem fd_m_fin {x : Nat} (h : kind x = 1 ∨ kind x = 2) : (fd x).m ≠ 0 := (fd_may h).2.1
theorem divS_self {x : Nat} (h : kind x = 2) (dir : Int) : divS x x dir = (4607182418800017408, 0) := by
  have hm := fd_m_fin (.inr h)
  unfold divS
  rw [if_neg (by omega), if_neg (by omega), if_neg (by omega), if_neg (by omega), if_neg (by omega), if_neg (by omega)]
  have hn : partN (fd x) (fd x) = 70 := by unfold partN; omega
  have hR : partR (fd x) (fd x) = false := by
    unfold partR
    rw [Nat.mul_mod_right]
    rfl
  have hD : partD (fd x) (fd x) = ⟨false, 1, 0⟩ := by
    unfold partD
    rw [hn, Nat.mul_div_cancel_left _ (Nat.pos_of_ne_zero hm), Int.sub_self]
    cases (fd x).s <;> decide +kernel
  rw [hR, hD, show (⟨false, 1, 0⟩ : Dy) = fd 4607182418800017408 by decide +kernel]
  exact toS_self (by decide) (by decide) (by decide +kernel) dir
theorem fd0_fn {x : Nat} (h : kind x ≤ 2) : fd0 x = fd x := by unfold fd0; rw [if_pos (fd_fin h)]
theorem fmaS_self {x : Nat} (hx : x < W) (h : kind x = 2) (dir : Int) : fmaS x 4607182418800017408 0 dir = (x, 0) := by
  have hm := fd_m_fin (.inr h)
  have k0 : kind 0 = 0 := by decide
  have hz : (fd0 0).m = 0 := (fd0_m 0).2 (.inl k0)
  rw [fmaS_one (by decide), k0, if_neg (by omega), if_neg (by omega), if_neg (by omega), if_neg (by omega), if_neg (by omega)]
  rw [addS_zr (fd0_lim x).ok ((fd0_lim x).fits (by decide)) ((fd0_lim 0).fits (by decide)) hz, fd0_fn (by omega), if_pos hm]
  exact toS_self hx (fd_fin (by omega)) hm dir
theorem kind_of {b : Nat} (hf : fe b < 2047) (h0 : (fd b).m ≠ 0) : kind b = 1 ∨ kind b = 2 := by
  have h1 : kind b ≤ 2 := by unfold kind; (repeat' split) <;> omega
  have h2 : kind b ≠ 0 := fun h => h0 (by
    have := (fd0_m b).2 (.inl h)
    rwa [fd0_fn h1] at this)
  omega
/-- A product by itself. -/
theorem fmaS_sq {x : Nat} (h : kind x = 2) (dir : Int) : fmaS x x (sgB x x) dir = toS (mulS (fd x) (fd x)) false dir := by
  have hs : sgB x x = 0 := by unfold sgB; rw [bne_self_eq_false]; rfl
  have k0 : kind 0 = 0 := by decide
  have hz : (fd0 0).m = 0 := (fd0_m 0).2 (.inl k0)
  have hm := fd_m_fin (.inr h)
  have hp : (mulS (fd x) (fd x)).m ≠ 0 := by
    unfold mulS
    rw [if_neg (by omega)]
    exact Nat.mul_ne_zero hm hm
  have hl := (fd_lim x).mul (fd_lim x)
  rw [hs]
  unfold fmaS
  rw [k0, fd0_fn (by omega), if_neg (by omega), if_neg (by omega), if_neg (by omega), if_neg (by omega), if_neg (by omega), if_neg (by omega)]
  rw [addS_zr hl.ok (hl.fits (by decide)) ((fd0_lim 0).fits (by decide)) hz, if_pos hp]
/-- The root of an exact square. -/
theorem sqrt_sq {x : Nat} (hx : x < W) (h : kind x = 2) {dir : Int} (hz : (fmaS x x (sgB x x) dir).2 = 0) {r : Nat} (hr : Isq (rootM (fd (fmaS x x (sgB x x) dir).1)) r) :
    (fmaS x x (sgB x x) dir).1 < W ∧ sqrtS (fmaS x x (sgB x x) dir).1 r dir = (fsz x, 0) := by
  rw [fmaS_sq h] at hz hr ⊢
  have hm := fd_m_fin (.inr h)
  have hodd := (fd_lim x).ok.odd hm
  have hl := (fd_lim x).mul (fd_lim x)
  have hP : mulS (fd x) (fd x) = ⟨false, (fd x).m * (fd x).m, (fd x).e + (fd x).e⟩ := by
    unfold mulS
    rw [if_neg (by omega), bne_self_eq_false]
  have hPm : (mulS (fd x) (fd x)).m ≠ 0 := by rw [hP]; exact Nat.mul_ne_zero hm hm
  obtain ⟨b, hb, hf, hfd, hs, e⟩ := toS_exact0 hl.ok hPm hz
  rw [e] at hr ⊢
  refine ⟨hb, ?_⟩
  dsimp only at hr ⊢
  have hk := kind_of hf (by rw [hfd]; exact hPm)
  have hs0 : fs b = false := by rw [hs, hP]
  unfold sqrtS
  rw [if_neg (by omega), if_neg (by omega), if_neg (by omega), hs0, if_neg (by decide), if_neg (by omega)]
  have hev := rootN_even (fd b)
  obtain ⟨k, hk2⟩ : ∃ k, rootN (fd b) = 2 * k := by
    refine ⟨rootN (fd b) / 2, ?_⟩
    have he : (fd b).e = (fd x).e + (fd x).e := by rw [hfd, hP]
    omega
  have hM : rootM (fd b) = ((fd x).m * 2 ^ k) * ((fd x).m * 2 ^ k) := by
    unfold rootM
    rw [hk2, show 2 * k = k + k by omega, Nat.pow_add, hfd, hP]
    dsimp only
    grind
  rw [hM] at hr ⊢
  obtain rfl := isq_unique hr (isq_sq _)
  have hD : rootD (fd b) ((fd x).m * 2 ^ k) = fd (fsz x) := by
    unfold rootD
    rw [hk2, show ((fd b).e - ((2 * k : Nat) : Int)) / 2 = (fd x).e - k by rw [hfd, hP]; dsimp only; omega]
    have he := fd_e x
    have hN := rootN_le (fd b)
    rw [mkD_shift hodd (by omega) (by omega), ← fd_abs]
    unfold Dy.abs
    rw [show (fd x).e - (k : Int) + k = (fd x).e by omega]
  rw [hD, decide_eq_false (fun h => h rfl)]
  have hw := fd_fin (x := x) (by omega)
  have e1 : fe (fsz x) = fe x := by
    have := withS_fields (fs x) (fsz_lt x)
    rw [withS_self hx] at this
    exact this.2.2.1.symm
  refine toS_self (Nat.lt_trans (fsz_lt x) (by decide)) (by rw [e1]; exact hw) ?_ dir
  rw [← fd_abs]
  exact hm
end Go.Proofs.YtejmlngnpekagaaDoor
