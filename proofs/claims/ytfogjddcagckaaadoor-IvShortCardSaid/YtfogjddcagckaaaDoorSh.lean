/- An end with fewer bits: plain laws. -/
import Derived.Test.YtfogjddcagckaaaDoorLimN
import Derived.Test.YtfogjddcagckaaaDoorTo2
open Go PG Go.Proofs
set_option maxRecDepth 100000
set_option linter.unusedSimpArgs false
set_option linter.unusedVariables false
namespace Go.Proofs.YtfogjddcagckaaaDoor

/-- The unit of so many bits; the end with fewer bits. -/
def shU (d : Dy) (b : Int) : Int := d.top - b + 1
def shN (d : Dy) (dir t : Int) : Nat := if upM d false dir t = true then flo d t + 1 else flo d t
def shS (d : Dy) (b dir : Int) : Dy := if d.m = 0 ∨ shU d b ≤ d.e then d else mkD d.s (shN d dir (shU d b)) (shU d b)

theorem shN_spec {d : Dy} {t dir : Int} (he : d.e < t) : ∃ P, P = 2 ^ (t - d.e).toNat ∧ d.m < shN d dir t * P + P ∧ shN d dir t * P < d.m + P ∧ (upw dir d.s = false → dir ≠ 0 → shN d dir t * P ≤ d.m) ∧ (upw dir d.s = true → dir ≠ 0 → d.m ≤ shN d dir t * P) := by
  obtain ⟨r, h1, h2, h3⟩ := parts_at d t (k := d.e) (Int.le_refl _) (by omega)
  rw [natAbs_at', Int.sub_self] at h1
  simp only [Int.toNat_zero, Nat.pow_zero, Nat.mul_one] at h1
  have e2 : 2 ^ (t - d.e).toNat = 2 * 2 ^ (t - 1 - d.e).toNat := by rw [show (t - d.e).toNat = (t - 1 - d.e).toNat + 1 by omega, Nat.pow_succ, Nat.mul_comm]
  refine ⟨_, rfl, ?_⟩
  rw [e2]
  unfold shN upM awayS
  generalize 2 ^ (t - 1 - d.e).toNat = Q at *
  generalize flo d t = F at *
  generalize bl d t = L at *
  generalize hf d t = H at *
  generalize upw dir d.s = up at *
  have m1 : (2 * F) * Q = F * (2 * Q) := by rw [Nat.mul_comm 2 F, Nat.mul_assoc]
  have m2 : (F + 1) * (2 * Q) = F * (2 * Q) + 2 * Q := by rw [Nat.add_mul, Nat.one_mul]
  have m3 : (2 * F + 1) * Q = F * (2 * Q) + Q := by rw [Nat.add_mul, Nat.one_mul, m1]
  have h0 : L = false → r = 0 := fun h => h3.2 h
  have h0' : L = true → r ≠ 0 := fun h h' => by rw [h3.1 h'] at h; cases h
  cases H
  · simp only [Bool.false_eq_true, if_false, Nat.add_zero, m1] at h1
    cases L
    · have := h0 rfl
      have e : (if dir = 0 then false && ((false || false) || decide (F % 2 = 1)) else (false || (false || false)) && up) = false := by split <;> rfl
      rw [e]
      simp only [Bool.false_eq_true, if_false]
      refine ⟨by omega, by omega, fun _ _ => by omega, fun _ _ => by omega⟩
    · have := h0' rfl
      by_cases hd : dir = 0
      · simp only [if_pos hd, Bool.false_and, Bool.false_eq_true, if_false]
        refine ⟨by omega, by omega, fun _ h => absurd hd h, fun _ h => absurd hd h⟩
      · simp only [if_neg hd, Bool.false_or, Bool.true_or, Bool.true_and]
        cases up
        · simp only [Bool.false_eq_true, if_false]
          refine ⟨by omega, by omega, fun _ _ => by omega, fun h => by cases h⟩
        · simp only [if_true, m2]
          refine ⟨by omega, by omega, (fun h => by cases h), fun _ _ => by omega⟩
  · simp only [if_true, m3] at h1
    by_cases hd : dir = 0
    · simp only [if_pos hd]
      split
      · rw [m2]
        refine ⟨by omega, by omega, fun _ h => absurd hd h, fun _ h => absurd hd h⟩
      · refine ⟨by omega, by omega, fun _ h => absurd hd h, fun _ h => absurd hd h⟩
    · simp only [if_neg hd, Bool.true_or, Bool.true_and]
      cases up
      · simp only [Bool.false_eq_true, if_false]
        refine ⟨by omega, by omega, fun _ _ => by omega, fun h => by cases h⟩
      · simp only [if_true, m2]
        refine ⟨by omega, by omega, (fun h => by cases h), fun _ _ => by omega⟩
/-- How it lies to what it was made of, at the latter's own unit. -/
theorem shS_spec {d : Dy} {K : Nat} (hl : Lim K d) (hK : K ≤ 100000) {b : Int} (hb : 1 ≤ b ∧ b ≤ 4096) {dir : Int} (hd : dir = 2 ∨ dir = 3) (h0 : d.m ≠ 0) (he : d.e < shU d b) :
    (shS d b dir).ge (shU d b) ∧ (shS d b dir).ok ∧ ((d.at d.e - (shS d b dir).at d.e).natAbs < 2 ^ (shU d b - d.e).toNat) ∧ (dir = 3 → (shS d b dir).at d.e ≤ d.at d.e) ∧ (dir = 2 → d.at d.e ≤ (shS d b dir).at d.e) ∧
    ((shS d b dir).at d.e).natAbs ≤ 2 * (d.at d.e).natAbs ∧ ((shS d b dir).m ≠ 0 → shU (shS d b dir) b ≤ (shS d b dir).e) := by
  have e0 := hl.e0
  have ht := hl.top_lt h0
  have hdt := top_of h0
  have hbp := bitLen_pos h0
  have hu : shU d b = d.top - b + 1 := rfl
  unfold shS
  rw [if_neg (by omega)]
  obtain ⟨P, hP, p1, p2, p3, p4⟩ := shN_spec (d := d) (t := shU d b) (dir := dir) he
  generalize hn : shN d dir (shU d b) = n at *
  generalize ht' : shU d b = t at *
  have hat := mkD_at d.s n (e := t) (k := d.e) (by omega) (by omega) (by omega)
  rw [← hP] at hat
  have hself : d.at d.e = (if d.s = true then -1 else 1) * (d.m : Int) := by
    unfold Dy.at
    rw [Int.sub_self]
    simp
  have hPm : P ≤ d.m := by
    have h1 : 2 ^ (bitLen d.m - 1) ≤ d.m := Nat.le_of_not_lt fun h => by
      have := (bitLen_le _ _).2 h
      omega
    refine Nat.le_trans ?_ h1
    rw [hP]
    exact Nat.pow_le_pow_right (by decide) (by omega)
  have hge : (mkD d.s n t).ge t := mkD_ge d.s n (by omega) (by omega)
  have hup : upw dir d.s = (decide (dir = 2) && !d.s || decide (dir = 3) && d.s) := rfl
  rw [hat, hself]
  refine ⟨hge, mkD_ok _ _ _, ?_, ?_, ?_, ?_, ?_⟩
  · rw [← hP]
    generalize n * P = x at *
    cases d.s <;> simp only [Bool.false_eq_true, if_false, if_true] <;> omega
  · intro h3
    subst h3
    generalize n * P = x at *
    cases hs : d.s
    · rw [hs] at p3 p4 hup
      have := p3 hup (by decide)
      simp only [Bool.false_eq_true, if_false]; omega
    · rw [hs] at p3 p4 hup
      have := p4 hup (by decide)
      simp only [if_true]; omega
  · intro h2
    subst h2
    generalize n * P = x at *
    cases hs : d.s
    · rw [hs] at p3 p4 hup
      have := p4 hup (by decide)
      simp only [Bool.false_eq_true, if_false]; omega
    · rw [hs] at p3 p4 hup
      have := p3 hup (by decide)
      simp only [if_true]; omega
  · generalize n * P = x at *
    cases d.s <;> simp only [Bool.false_eq_true, if_false, if_true] <;> omega
  · intro hm
    have hn0 : n ≠ 0 := fun h => hm (mkD_m0.2 h)
    -- n is at most 2^b
    have hnb : n ≤ 2 ^ b.toNat := by
      have h1 : d.m < 2 ^ bitLen d.m := (bitLen_le _ _).1 (Nat.le_refl _)
      have h2 : 2 ^ bitLen d.m = 2 ^ b.toNat * P := by rw [hP, ← Nat.pow_add]; congr 1; omega
      have h3 : n * P < (2 ^ b.toNat + 1) * P := by rw [Nat.add_mul, Nat.one_mul, ← h2]; omega
      have := Nat.lt_of_mul_lt_mul_right h3
      omega
    have hge' := hge.resolve_left hm
    have ha := mkD_at d.s n (e := t) (k := t) (by omega) (by omega) (Int.le_refl _)
    rw [Int.sub_self] at ha
    have hta := top_at hm hge'
    rw [ha] at hta
    simp only [Int.toNat_zero, Nat.pow_zero, Nat.mul_one] at hta
    have habs : ((if d.s = true then (-1 : Int) else 1) * (n : Int)).natAbs = n := by cases d.s <;> simp
    rw [habs] at hta
    have hT := top_of hm
    have hbp' := bitLen_pos hm
    unfold shU
    by_cases hlt : n < 2 ^ b.toNat
    · have h5 : 2 ^ ((mkD d.s n t).top - t).toNat < 2 ^ b.toNat := Nat.lt_of_le_of_lt hta.1 hlt
      have h6 := (Nat.pow_lt_pow_iff_right (by decide : 1 < 2)).1 h5
      omega
    · have hne : n = 2 ^ b.toNat := by omega
      have htz : tz n = b.toNat := tz_of (m := 0) (by rw [hne]; simp)
      have hme : (mkD d.s n t).e = t + b := by
        unfold mkD
        rw [if_neg hn0, htz]
        show cut t + _ = _
        rw [cut_id (by omega) (by omega)]
        omega
      have hmm : (mkD d.s n t).m = 1 := by
        unfold mkD
        rw [if_neg hn0, htz, hne]
        exact Nat.div_self (Nat.two_pow_pos _)
      rw [hT, hme, hmm]
      have : bitLen 1 = 1 := by decide
      omega
theorem shS_lim {d : Dy} {K : Nat} (hl : Lim K d) (hK : K ≤ 100000) {b : Int} (hb : 1 ≤ b ∧ b ≤ 4096) {dir : Int} (hd : dir = 2 ∨ dir = 3) : Lim (K + 1) (shS d b dir) := by
  by_cases h0 : d.m = 0 ∨ shU d b ≤ d.e
  · unfold shS; rw [if_pos h0]; exact hl.mono (by omega)
  · have hm : d.m ≠ 0 := fun h => h0 (.inl h)
    obtain ⟨h1, h2, -, -, -, h6, -⟩ := shS_spec hl hK hb hd hm (by omega)
    have e0 := hl.e_ge hm
    have hg : (shS d b dir).ge (-(K : Int)) := h1.mono (by omega)
    refine ⟨h2, hg.mono (by omega), ?_⟩
    have hge : (shS d b dir).ge d.e := h1.mono (by omega)
    rw [at_shift' (k := -((K + 1 : Nat) : Int)) (k' := d.e) (by omega) hge, Int.natAbs_mul, Int.natAbs_natCast]
    have hl2 := hl.lt
    rw [at_shift' (d := d) (k := -(K : Int)) (k' := d.e) (by omega) d.ge_e, Int.natAbs_mul, Int.natAbs_natCast] at hl2
    rw [show (d.e - -((K + 1 : Nat) : Int)).toNat = (d.e - -(K : Int)).toNat + 1 by omega, Nat.pow_succ, show 2 * (K + 1) = 2 * K + 2 by omega, Nat.pow_add]
    have h7 := Nat.mul_le_mul_right (2 ^ (d.e - -(K : Int)).toNat) h6
    generalize 2 ^ (d.e - -(K : Int)).toNat = Q at *
    rw [Nat.mul_assoc] at h7
    rw [← Nat.mul_assoc]
    omega
theorem shS_id {d : Dy} {K : Nat} (hl : Lim K d) (hK : K ≤ 100000) {b : Int} (hb : 1 ≤ b ∧ b ≤ 4096) {dir : Int} (hd : dir = 2 ∨ dir = 3) : shS (shS d b dir) b dir = shS d b dir := by
  by_cases h0 : d.m = 0 ∨ shU d b ≤ d.e
  · have e : shS d b dir = d := by unfold shS; rw [if_pos h0]
    rw [e, e]
  · obtain ⟨-, -, -, -, -, -, h7⟩ := shS_spec hl hK hb hd (fun h => h0 (.inl h)) (by omega)
    generalize shS d b dir = s at *
    unfold shS
    by_cases hm : s.m = 0
    · rw [if_pos (.inl hm)]
    · rw [if_pos (.inr (h7 hm))]
theorem shS_le {d : Dy} {K : Nat} (hl : Lim K d) (hK : K ≤ 100000) {b : Int} (hb : 1 ≤ b ∧ b ≤ 4096) : cmpD (shS d b 3) d ≤ 0 ∧ cmpD d (shS d b 2) ≤ 0 := by
  by_cases h0 : d.m = 0 ∨ shU d b ≤ d.e
  · have e : ∀ dir, shS d b dir = d := fun dir => by unfold shS; rw [if_pos h0]
    rw [e, e, cmp_self]; decide
  · have hm : d.m ≠ 0 := fun h => h0 (.inl h)
    obtain ⟨h1, -, -, h4, -, -, -⟩ := shS_spec hl hK hb (dir := 3) (.inr rfl) hm (by omega)
    obtain ⟨g1, -, -, -, g5, -, -⟩ := shS_spec hl hK hb (dir := 2) (.inl rfl) hm (by omega)
    rw [cmp_le (h1.mono (show d.e ≤ _ by omega)) d.ge_e, cmp_le d.ge_e (g1.mono (show d.e ≤ _ by omega))]
    exact ⟨h4 rfl, g5 rfl⟩
theorem sgn_lt_at {a b : Dy} {k : Int} (h1 : a.ge k) (h2 : b.ge k) : cmpD a b < 0 ↔ a.at k < b.at k := by rw [cmp_at h1 h2, sgn_neg]
/-- Less than a unit off. -/
theorem shS_off {d : Dy} {K : Nat} (hl : Lim K d) (hK : K ≤ 100000) {b : Int} (hb : 1 ≤ b ∧ b ≤ 4096) {dir : Int} (hd : dir = 2 ∨ dir = 3) (hm : d.m ≠ 0) :
    cmpD (addD d (shS d b dir).negN).abs ⟨false, 1, shU d b⟩ < 0 ∧ (shU d b ≤ d.e → (addD d (shS d b dir).negN).m = 0) ∧ ((shS d b dir).m ≠ 0 → shU d b ≤ (shS d b dir).e) := by
  by_cases h0 : shU d b ≤ d.e
  · have e : shS d b dir = d := by unfold shS; rw [if_pos (.inr h0)]
    rw [e]
    have hz : (addD d d.negN).m = 0 := by
      unfold addD
      have h1 : ¬ d.s = d.negN.s := by show ¬ d.s = !d.s; cases d.s <;> decide
      have h2 : d.negN.m = d.m := rfl
      have h3 : d.negN.e = d.e := rfl
      rw [if_neg hm, if_neg (by rw [h2]; exact hm), if_neg h1, h2, h3, if_pos (Nat.le_refl _)]
      exact Nat.sub_self _
    refine ⟨?_, fun _ => hz, fun _ => h0⟩
    rw [cmp_at (a := (addD d d.negN).abs) (b := ⟨false, 1, shU d b⟩) (k := shU d b) (.inl hz) (.inr (Int.le_refl _)), at_zero (d := (addD d d.negN).abs) hz]
    have : (Dy.mk false 1 (shU d b)).at (shU d b) = 1 := by unfold Dy.at; simp
    rw [this]
    decide
  · obtain ⟨h1, h2, h3, -, -, -, -⟩ := shS_spec hl hK hb hd hm (by omega)
    refine ⟨?_, fun h => absurd h h0, fun hs => h1.resolve_left hs⟩
    have g1 : (shS d b dir).ge d.e := h1.mono (by omega)
    have g2 : (shS d b dir).negN.ge d.e := g1
    have g3 := addD_ge d.ge_e g2
    rw [sgn_lt_at (k := d.e) (abs_ge g3) (.inr (show d.e ≤ shU d b by omega)), abs_at, addD_at d.ge_e g2, negN_at]
    have : (Dy.mk false 1 (shU d b)).at d.e = ((2 ^ (shU d b - d.e).toNat : Nat) : Int) := by unfold Dy.at; simp
    rw [this]
    omega
end Go.Proofs.YtfogjddcagckaaaDoor
