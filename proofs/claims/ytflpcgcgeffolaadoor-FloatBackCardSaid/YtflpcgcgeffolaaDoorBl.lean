/- The bits below a number, and the middle above them: plain laws. No program stands here. -/
import Derived.Test.YtflpcgcgeffolaaDoorDv
open Go PG Go.Proofs
set_option maxRecDepth 100000
set_option linter.unusedSimpArgs false
set_option linter.unusedVariables false
namespace Go.Proofs.YtflpcgcgeffolaaDoor

/-- Infinity's bits, behind the greatest number: as 2^1024. -/
def INF : Nat := 9218868437227405312
theorem fd_ok' (b : Nat) : (fd b).ok := mkD_ok _ _ _
theorem fd_ge (b : Nat) : (fd b).ge (-1074) := .inr (fd_e b).1
theorem fs_small {b : Nat} (h : b < 9223372036854775808) : fs b = false := decide_eq_false (by omega)
theorem fd_at' {b : Nat} (hb : b < 9223372036854775808) {k : Int} (hk : k ≤ -1074) : (fd b).at k = ((fv b * 2 ^ (-1074 - k).toNat : Nat) : Int) := by
  rw [at_shift' hk (fd_ge b), fd_at, fs_small hb, if_neg (by decide), Int.one_mul, Int.natCast_mul]
theorem fv_mono {a b : Nat} (hb : b < 9223372036854775808) (h : a ≤ b) : fv a ≤ fv b := by
  rcases Nat.lt_or_ge a b with h1 | h1
  · exact Nat.le_of_lt (fv_lt hb h1)
  · rw [show a = b by omega]; exact Nat.le_refl _

/-- The greatest size (infinity's too) that is worth at most n. -/
def Bel (b : Nat) (n : Dy) : Prop := b ≤ INF ∧ cmpD (fd b) n ≤ 0 ∧ (b = INF ∨ 0 < cmpD (fd (b + 1)) n)
theorem INF_lt : INF < 9223372036854775808 := by decide
theorem fd_le_trans {a b : Nat} {n : Dy} (hb : b ≤ INF) (h : a ≤ b) (hc : cmpD (fd b) n ≤ 0) : cmpD (fd a) n ≤ 0 := by
  have hI := INF_lt
  have hK : min n.e (-1074) ≤ -1074 := by omega
  rw [cmp_at (k := min n.e (-1074)) ((fd_ge _).mono hK) (.inr (by omega)), sgn_le] at hc ⊢
  rw [fd_at' (by omega) hK] at hc ⊢
  have := Nat.mul_le_mul_right (2 ^ (-1074 - min n.e (-1074)).toNat) (fv_mono (by omega) h)
  omega
theorem bel_unique {a b : Nat} {n : Dy} (ha : Bel a n) (hb : Bel b n) : a = b := by
  have h1 := ha.1
  have h2 := hb.1
  rcases Nat.lt_trichotomy a b with h | h | h
  · have h3 := ha.2.2.resolve_left (by omega)
    have := fd_le_trans (a := a + 1) hb.1 (by omega) hb.2.1
    omega
  · exact h
  · have h3 := hb.2.2.resolve_left (by omega)
    have := fd_le_trans (a := b + 1) ha.1 (by omega) ha.2.1
    omega

/-- Packed units are worth them; one more unit is one more size. -/
structure PackOk (M : Nat) (t : Int) : Prop where
  lt : M < 9007199254740992
  lo : -1074 ≤ t
  hi : t ≤ 971
  sub : M < 4503599627370496 → t = -1074
theorem pack_succ {M : Nat} {t : Int} (h : PackOk M t) : packB (M + 1) t = packB M t + 1 := by
  have h1 := h.lt
  have h2 := h.lo
  have h3 := h.sub
  unfold packB
  by_cases hM : 4503599627370496 ≤ M
  · rw [if_pos hM, if_pos (by omega)]; omega
  · rw [if_neg hM]
    by_cases h4 : 4503599627370496 ≤ M + 1
    · rw [if_pos h4]
      have := h3 (by omega)
      subst this
      rw [show (-1074 + 1075 : Int).toNat = 1 by decide]
      omega
    · rw [if_neg h4]
theorem pack_lt_inf {M : Nat} {t : Int} (h : PackOk M t) : packB M t < INF := by
  have h1 := h.lt
  have h2 := h.lo
  have h4 := h.hi
  have h3 := h.sub
  show packB M t < 9218868437227405312
  unfold packB
  split <;> omega
theorem pack_fd {M : Nat} {t : Int} (h : PackOk M t) : fd (packB M t) = mkD false M t := by
  have hp := pack_fields h.lt h.lo h.hi h.sub
  have hl := pack_lt_inf h
  have hI := INF_lt
  unfold fd
  rw [fs_small (by omega), hp.2.1, hp.2.2]
theorem pack_fd1 {M : Nat} {t : Int} (h : PackOk M t) : fd (packB M t + 1) = mkD false (M + 1) t := by
  have h1 := h.lt
  have h2 := h.lo
  have h4 := h.hi
  have h3 := h.sub
  rw [← pack_succ h]
  by_cases hM : M + 1 < 9007199254740992
  · exact pack_fd ⟨hM, h2, h4, fun h5 => h3 (by omega)⟩
  · have e : M + 1 = 9007199254740992 := by omega
    rw [e]
    have e1 : packB 9007199254740992 t = (t + 1076).toNat * 4503599627370496 := by
      unfold packB
      rw [if_pos (by omega)]
      omega
    rw [e1]
    have e2 : fe ((t + 1076).toNat * 4503599627370496) = (t + 1076).toNat := by unfold fe; omega
    have e3 : ff ((t + 1076).toNat * 4503599627370496) = 0 := by unfold ff; omega
    have e4 : fm ((t + 1076).toNat * 4503599627370496) = 4503599627370496 := by unfold fm; rw [e2, e3, if_neg (by omega)]
    unfold fd
    rw [fs_small (by omega), e2, e4, show max ((t + 1076).toNat : Int) 1 - 1075 = t + 1 by omega]
    refine eq_of_at (k := t) (mkD_ok _ _ _) (mkD_ok _ _ _) ((mkD_ge _ _ (by omega) (by omega)).mono (by omega)) (mkD_ge _ _ (by omega) (by omega)) ?_
    rw [mkD_at _ _ (by omega) (by omega) (by omega), mkD_at _ _ (by omega) (by omega) (Int.le_refl _), Int.sub_self, show (t + 1 - t).toNat = 1 by omega]
    decide

/-- How many whole units of 2^t are in its size. -/
def flo (d : Dy) (t : Int) : Nat := d.m * 2 ^ (d.e - t).toNat / 2 ^ (t - d.e).toNat
def low (d : Dy) : Nat := if 1023 < d.top then INF else packB (flo d (unitOf d.top)) (unitOf d.top)
theorem flo_spec (d : Dy) (t : Int) {k : Int} (h1 : k ≤ d.e) (h2 : k ≤ t) : flo d t * 2 ^ (t - k).toNat ≤ (d.at k).natAbs ∧ (d.at k).natAbs < (flo d t + 1) * 2 ^ (t - k).toNat := by
  have e : (d.at k).natAbs = d.m * 2 ^ (d.e - k).toNat := by
    unfold Dy.at
    cases d.s <;> simp only [Bool.false_eq_true, if_false, if_true] <;> omega
  rw [e]
  unfold flo
  rcases Int.le_total t d.e with h | h
  · rw [show (t - d.e).toNat = 0 by omega, Nat.pow_zero, Nat.div_one]
    have e2 : 2 ^ (d.e - k).toNat = 2 ^ (d.e - t).toNat * 2 ^ (t - k).toNat := by rw [← Nat.pow_add]; congr 1; omega
    rw [e2, ← Nat.mul_assoc]
    have := Nat.two_pow_pos (t - k).toNat
    refine ⟨Nat.le_refl _, ?_⟩
    rw [Nat.add_mul]
    omega
  · rw [show (d.e - t).toNat = 0 by omega, Nat.pow_zero, Nat.mul_one]
    have e2 : 2 ^ (t - k).toNat = 2 ^ (t - d.e).toNat * 2 ^ (d.e - k).toNat := by rw [← Nat.pow_add]; congr 1; omega
    rw [e2, ← Nat.mul_assoc, ← Nat.mul_assoc]
    have hp := Nat.two_pow_pos (t - d.e).toNat
    constructor
    · exact Nat.mul_le_mul_right _ (Nat.div_mul_le_self _ _)
    · refine Nat.mul_lt_mul_of_pos_right ?_ (Nat.two_pow_pos _)
      have := Nat.lt_mul_div_succ d.m hp
      rw [Nat.mul_comm]
      exact this
theorem flo_ok {d : Dy} (h0 : d.m ≠ 0) (ht : d.top ≤ 1023) : PackOk (flo d (unitOf d.top)) (unitOf d.top) := by
  have hu : unitOf d.top = max (d.top - 52) (-1074) := rfl
  have hr := unit_range ht
  have hs := flo_spec d (unitOf d.top) (k := min d.e (unitOf d.top)) (by omega) (by omega)
  have htop := top_at h0 (k := min d.e (unitOf d.top)) (by omega)
  generalize hk : min d.e (unitOf d.top) = k at *
  generalize unitOf d.top = t at *
  have hP := Nat.two_pow_pos (t - k).toNat
  refine ⟨?_, hr.1, hr.2, fun hlt => ?_⟩
  · have h2 : 2 ^ (d.top + 1 - k).toNat ≤ 9007199254740992 * 2 ^ (t - k).toNat := by
      rw [show (9007199254740992 : Nat) = 2 ^ 53 by decide, ← Nat.pow_add]
      exact Nat.pow_le_pow_right (by decide) (by omega)
    exact Nat.lt_of_mul_lt_mul_right (a := 2 ^ (t - k).toNat) (by omega)
  · refine Decidable.byContradiction fun hne => ?_
    have h2 : 4503599627370496 * 2 ^ (t - k).toNat = 2 ^ (d.top - k).toNat := by
      rw [show (4503599627370496 : Nat) = 2 ^ 52 by decide, ← Nat.pow_add]
      congr 1
      have := hr.1
      have : k ≤ t := by omega
      omega
    have h3 : (flo d t + 1) * 2 ^ (t - k).toNat ≤ 4503599627370496 * 2 ^ (t - k).toNat := Nat.mul_le_mul_right _ (by omega)
    omega
theorem nat_at {d : Dy} (h : d.s = false) (k : Int) : d.at k = ((d.m * 2 ^ (d.e - k).toNat : Nat) : Int) := by
  unfold Dy.at; rw [h]; simp
theorem abs_top (d : Dy) : d.abs.top = d.top := rfl
theorem fd_INF : fd INF = ⟨false, 1, 1024⟩ := by
  have h : fm INF = 2 ^ 52 * (2 * 0 + 1) := by decide
  have ht : tz (2 ^ 52 * (2 * 0 + 1)) = 52 := tz_of (m := 0) rfl
  unfold fd mkD
  rw [h, if_neg (by decide), ht]
  decide
theorem abs_le {d : Dy} {k : Int} (h : k ≤ d.e) : d.abs.ge k := .inr h
theorem abs_0 {d : Dy} {k : Int} (h : d.m = 0) : d.abs.ge k := .inl h
theorem INF_ge {k : Int} (h : k ≤ 1024) : (fd INF).ge k := by rw [fd_INF]; exact .inr h
theorem bel_low {d : Dy} : Bel (low d) d.abs := by
  unfold low
  by_cases ht : 1023 < d.top
  · rw [if_pos ht]
    have h0 : d.m ≠ 0 := fun h => by
      have : d.top = 0 := if_pos h
      omega
    refine ⟨Nat.le_refl _, ?_, .inl rfl⟩
    have h1 := top_at h0 (k := min d.e 0) (by omega)
    rw [cmp_at (k := min d.e 0) (INF_ge (by omega)) (abs_le (d := d) (by omega)), sgn_le, fd_INF, nat_at rfl, abs_at]
    dsimp only
    have : 2 ^ (1024 - min d.e 0).toNat ≤ 2 ^ (d.top - min d.e 0).toNat := Nat.pow_le_pow_right (by decide) (by omega)
    rw [Nat.one_mul]
    omega
  · rw [if_neg ht]
    by_cases h0 : d.m = 0
    · have e1 : d.top = 0 := if_pos h0
      have e2 : flo d (unitOf d.top) = 0 := by unfold flo; rw [h0, Nat.zero_mul, Nat.zero_div]
      rw [e2, e1]
      have e3 : packB 0 (unitOf 0) = 0 := by decide
      rw [e3]
      refine ⟨by decide, ?_, .inr ?_⟩
      · rw [cmp_at (k := -1074) (fd_ge _) (abs_0 h0), sgn_le, at_zero (d := d.abs) h0, fd_at' (by decide) (by decide)]
        decide
      · rw [cmp_at (k := -1074) (fd_ge _) (abs_0 h0), sgn_pos, at_zero (d := d.abs) h0, fd_at' (by decide) (by decide)]
        decide
    · have hp := flo_ok h0 (by omega)
      have hl := pack_lt_inf hp
      have hr := unit_range (d := d) (by omega)
      have hs := flo_spec d (unitOf d.top) (k := min d.e (unitOf d.top)) (by omega) (by omega)
      have hf := pack_fd hp
      have hf1 := pack_fd1 hp
      generalize flo d (unitOf d.top) = M at *
      generalize unitOf d.top = t at *
      have g1 : ∀ x, (mkD false x t).ge (min d.e t) := fun x => (mkD_ge _ _ (by omega) (by omega)).mono (by omega)
      refine ⟨by omega, ?_, .inr ?_⟩
      · rw [hf, cmp_at (k := min d.e t) (g1 _) (abs_le (d := d) (by omega)), sgn_le, mkD_at _ _ (by omega) (by omega) (by omega), abs_at]
        simp only [Bool.false_eq_true, if_false, Int.one_mul]
        omega
      · rw [hf1, cmp_at (k := min d.e t) (g1 _) (abs_le (d := d) (by omega)), sgn_pos, mkD_at _ _ (by omega) (by omega) (by omega), abs_at]
        simp only [Bool.false_eq_true, if_false, Int.one_mul]
        omega

/-- The middle of a size and the next one. -/
def mid (b : Nat) : Dy := ⟨false, 2 * fm b + 1, max (fe b : Int) 1 - 1076⟩
theorem mid_ok (b : Nat) : (mid b).ok := .inr (show (2 * fm b + 1) % 2 = 1 by omega)
theorem mid_fits (b : Nat) : (mid b).fits := by
  have := fe_lt b
  constructor
  · show (-1073741824 : Int) ≤ max (fe b : Int) 1 - 1076
    omega
  · show max (fe b : Int) 1 - 1076 ≤ 1073741824
    omega
theorem mid_bits (b : Nat) : bitLen (mid b).m ≤ 54 := (bitLen_le _ 54).2 (show 2 * fm b + 1 < 18014398509481984 by have := fm_lt b; omega)
theorem mid_ge (b : Nat) : (mid b).ge (-1075) := .inr (show (-1075 : Int) ≤ max (fe b : Int) 1 - 1076 by omega)
theorem mid_at (b : Nat) : (mid b).at (-1075) = (((2 * fm b + 1) * 2 ^ (max (fe b) 1 - 1) : Nat) : Int) := by
  rw [nat_at rfl]
  show (((2 * fm b + 1) * 2 ^ (max (fe b : Int) 1 - 1076 - -1075).toNat : Nat) : Int) = _
  rw [show (max (fe b : Int) 1 - 1076 - -1075).toNat = max (fe b) 1 - 1 by omega]
/-- One size more is one unit more. -/
theorem fv_succ {b : Nat} (hb : b < INF) : fv (b + 1) = (fm b + 1) * 2 ^ (max (fe b) 1 - 1) := by
  have hb' : b < 9218868437227405312 := hb
  have hfe : fe b = b / 4503599627370496 := by unfold fe; omega
  have hff : ff b = b % 4503599627370496 := rfl
  by_cases h : b % 4503599627370496 + 1 < 4503599627370496
  · have e1 : fe (b + 1) = fe b := by rw [hfe]; unfold fe; omega
    have e2 : ff (b + 1) = ff b + 1 := by rw [hff]; unfold ff; omega
    have e3 : fm (b + 1) = fm b + 1 := by
      unfold fm; rw [e1, e2]; split <;> omega
    unfold fv
    rw [e1, e3]
  · have e1 : fe (b + 1) = fe b + 1 := by rw [hfe]; unfold fe; omega
    have e2 : ff (b + 1) = 0 := by unfold ff; omega
    have e3 : fm (b + 1) = 4503599627370496 := by unfold fm; rw [e1, e2, if_neg (by omega)]
    have e4 : ff b = 4503599627370495 := by rw [hff]; omega
    unfold fv
    rw [e1, e3]
    unfold fm
    rw [e4]
    by_cases h0 : fe b = 0
    · rw [if_pos h0, h0]; decide
    · rw [if_neg h0, show max (fe b + 1) 1 - 1 = (max (fe b) 1 - 1) + 1 by omega, Nat.pow_succ]
      generalize 2 ^ (max (fe b) 1 - 1) = P
      omega
theorem mid_sum {b : Nat} (hb : b < INF) : (mid b).at (-1075) = ((fv b + fv (b + 1) : Nat) : Int) := by
  rw [mid_at, fv_succ hb]
  unfold fv
  generalize 2 ^ (max (fe b) 1 - 1) = P
  congr 1
  rw [← Nat.add_mul]
  congr 1
  omega
theorem pack_mid {M : Nat} {t : Int} (h : PackOk M t) : mid (packB M t) = ⟨false, 2 * M + 1, t - 1⟩ := by
  have hp := pack_fields h.lt h.lo h.hi h.sub
  unfold mid
  rw [hp.2.1]
  congr 1
  omega
end Go.Proofs.YtflpcgcgeffolaaDoor
