/- Rounding: what bits and flags a dyad has in a direction; where it lies between two neighbours. No program stands here. -/
import Derived.Test.YtflpcgcgeffolaaDoorBl
open Go PG Go.Proofs
set_option maxRecDepth 100000
set_option linter.unusedSimpArgs false
set_option linter.unusedVariables false
namespace Go.Proofs.YtflpcgcgeffolaaDoor

/-- Half a unit, and what is below the half. -/
def hf (d : Dy) (t : Int) : Bool := decide (flo d (t - 1) % 2 = 1)
def bl (d : Dy) (t : Int) : Bool := decide (d.m * 2 ^ (d.e - (t - 1)).toNat % 2 ^ (t - 1 - d.e).toNat ≠ 0)

theorem natAbs_at (d : Dy) (k : Int) : (d.at k).natAbs = d.m * 2 ^ (d.e - k).toNat := by
  unfold Dy.at
  cases d.s <;> simp only [Bool.false_eq_true, if_false, if_true] <;> omega
/-- The size, at a small unit: whole halves and a rest. -/
theorem parts_at (d : Dy) (t : Int) {k : Int} (h1 : k ≤ d.e) (h2 : k ≤ t - 1) :
    ∃ r, (d.at k).natAbs = (2 * flo d t + (if hf d t then 1 else 0)) * 2 ^ (t - 1 - k).toNat + r ∧ r < 2 ^ (t - 1 - k).toNat ∧ (r = 0 ↔ bl d t = false) := by
  have hs := flo_spec d t (k := k) h1 (by omega)
  have hs1 := flo_spec d (t - 1) (k := k) h1 h2
  have e2 : 2 ^ (t - k).toNat = 2 * 2 ^ (t - 1 - k).toNat := by rw [show (t - k).toNat = (t - 1 - k).toNat + 1 by omega, Nat.pow_succ, Nat.mul_comm]
  rw [e2, ← Nat.mul_assoc, ← Nat.mul_assoc] at hs
  have hb : ((d.at k).natAbs - flo d (t - 1) * 2 ^ (t - 1 - k).toNat = 0) ↔ bl d t = false := by
    unfold bl
    rw [natAbs_at] at hs1 ⊢
    rw [decide_eq_false_iff_not, ne_eq, Decidable.not_not]
    unfold flo at hs1 ⊢
    rcases Int.le_total (t - 1) d.e with h | h
    · rw [show (t - 1 - d.e).toNat = 0 by omega, Nat.pow_zero, Nat.div_one, Nat.mod_one, Nat.mul_assoc, ← Nat.pow_add, show (d.e - (t - 1)).toNat + (t - 1 - k).toNat = (d.e - k).toNat by omega, Nat.sub_self]
    · rw [show (d.e - (t - 1)).toNat = 0 by omega, Nat.pow_zero, Nat.mul_one] at hs1 ⊢
      have e3 : 2 ^ (t - 1 - k).toNat = 2 ^ (t - 1 - d.e).toNat * 2 ^ (d.e - k).toNat := by rw [← Nat.pow_add]; congr 1; omega
      rw [e3, ← Nat.mul_assoc]
      have hd := Nat.div_add_mod d.m (2 ^ (t - 1 - d.e).toNat)
      have hq := Nat.two_pow_pos (d.e - k).toNat
      generalize 2 ^ (t - 1 - d.e).toNat = P at *
      generalize 2 ^ (d.e - k).toNat = Q at *
      rw [← Nat.sub_mul, Nat.mul_comm (d.m / P) P, show d.m - P * (d.m / P) = d.m % P by omega]
      constructor
      · intro h
        rcases Nat.mul_eq_zero.1 h with h | h
        · exact h
        · omega
      · intro h; rw [h, Nat.zero_mul]
  have hq : flo d (t - 1) = 2 * flo d t + (if hf d t then 1 else 0) := by
    have hP := Nat.two_pow_pos (t - 1 - k).toNat
    have a1 : flo d t * 2 < flo d (t - 1) + 1 := Nat.lt_of_mul_lt_mul_right (a := 2 ^ (t - 1 - k).toNat) (by omega)
    have a2 : flo d (t - 1) < (flo d t + 1) * 2 := Nat.lt_of_mul_lt_mul_right (a := 2 ^ (t - 1 - k).toNat) (by omega)
    unfold hf
    by_cases h : flo d (t - 1) % 2 = 1
    · simp only [h, decide_true, if_true]; omega
    · simp only [h, decide_false]
      simp only [Bool.false_eq_true, if_false]
      omega
  rw [← hq]
  refine ⟨(d.at k).natAbs - flo d (t - 1) * 2 ^ (t - 1 - k).toNat, ?_, ?_, hb⟩
  · omega
  · have := hs1.2
    rw [Nat.add_mul, Nat.one_mul] at this
    omega

/-- Where a size lies between its neighbours. -/
theorem pos_mid {d : Dy} (h0 : d.m ≠ 0) (ht : d.top ≤ 1023) :
    cmpD d.abs (mid (low d)) = (if hf d (unitOf d.top) = true then (if bl d (unitOf d.top) = true then 1 else 0) else -1) ∧
    (cmpD (fd (low d)) d.abs = 0 ↔ hf d (unitOf d.top) = false ∧ bl d (unitOf d.top) = false) := by
  have hp := flo_ok h0 ht
  have hl : low d = packB (flo d (unitOf d.top)) (unitOf d.top) := if_neg (by omega)
  have hr := unit_range ht
  obtain ⟨r, h1, h2, h3⟩ := parts_at d (unitOf d.top) (k := min d.e (unitOf d.top - 1)) (by omega) (by omega)
  have hm := pack_mid hp
  have hf' := pack_fd hp
  rw [hl, hm, hf']
  generalize flo d (unitOf d.top) = M at *
  generalize hf d (unitOf d.top) = H at *
  generalize bl d (unitOf d.top) = B at *
  generalize unitOf d.top = t at *
  have g1 : (mkD false M t).ge (min d.e (t - 1)) := (mkD_ge _ _ (by omega) (by omega)).mono (by omega)
  have g2 : d.abs.ge (min d.e (t - 1)) := .inr (show _ ≤ d.e by omega)
  have g3 : (⟨false, 2 * M + 1, t - 1⟩ : Dy).ge (min d.e (t - 1)) := .inr (show _ ≤ t - 1 by omega)
  rw [cmp_at g2 g3, cmp_at g1 g2, abs_at, mkD_at _ _ (by omega) (by omega) (by omega), nat_at (d := ⟨false, 2 * M + 1, t - 1⟩) rfl, h1]
  simp only [Bool.false_eq_true, if_false, Int.one_mul]
  have e2 : 2 ^ (t - min d.e (t - 1)).toNat = 2 * 2 ^ (t - 1 - min d.e (t - 1)).toNat := by rw [show (t - min d.e (t - 1)).toNat = (t - 1 - min d.e (t - 1)).toNat + 1 by omega, Nat.pow_succ, Nat.mul_comm]
  rw [e2]
  generalize 2 ^ (t - 1 - min d.e (t - 1)).toNat = P at *
  rw [show M * (2 * P) = 2 * M * P by rw [← Nat.mul_assoc, Nat.mul_comm M 2], Nat.add_mul (2 * M), Nat.add_mul (2 * M)]
  generalize 2 * M * P = Q at *
  clear g1 g2 g3 hm hf' hl hp
  constructor
  · unfold sgn
    cases H <;> cases B <;> simp at h3 ⊢ <;> (repeat' split) <;> omega
  · rw [sgn_zero]
    cases H <;> cases B <;> simp at h3 ⊢ <;> omega

/-- Does a direction go away from 0? -/
def upw (dir : Int) (s : Bool) : Bool := (decide (dir = 2) && !s) || (decide (dir = 3) && s)
/-- Is what lies between two rounded away from 0? -/
def awayS (dir : Int) (s odd half below : Bool) : Bool := if dir = 0 then half && (below || odd) else (half || below) && upw dir s
def MAX : Nat := 9218868437227405311
/-- Bits and flags without a sign. -/
def magS (d : Dy) (more : Bool) (dir : Int) : Nat × Nat :=
  if 1023 < d.top then ((if dir = 0 ∨ upw dir d.s = true then INF else MAX), 5)
  else if (if awayS dir d.s (decide (low d % 2 = 1)) (hf d (unitOf d.top)) (bl d (unitOf d.top) || more) = true then low d + 1 else low d) = INF then (INF, 5)
  else ((if awayS dir d.s (decide (low d % 2 = 1)) (hf d (unitOf d.top)) (bl d (unitOf d.top) || more) = true then low d + 1 else low d),
    if (hf d (unitOf d.top) || (bl d (unitOf d.top) || more)) = true then (if d.top < -1022 then 3 else 1) else 0)
/-- Bits and flags of a dyad, and a little more, in a direction. -/
def toS (d : Dy) (more : Bool) (dir : Int) : Nat × Nat := if d.m = 0 then (0, 0) else (withS d.s (magS d more dir).1, (magS d more dir).2)

theorem odd_pack {M : Nat} {t : Int} (h : PackOk M t) : packB M t % 2 = M % 2 := by
  have := h.lo
  unfold packB; split <;> omega
/-- The bits of packed units. -/
theorem fd_withS (s : Bool) {b : Nat} (hb : b < 9223372036854775808) : fd (withS s b) = ⟨s && decide ((fd b).m ≠ 0), (fd b).m, (fd b).e⟩ := by
  have hw := withS_fields s hb
  have hfm : fm (withS s b) = fm b := by unfold fm; rw [hw.2.2.1, hw.2.2.2.1]
  unfold fd
  rw [hfm, hw.2.1, hw.2.2.1, fs_small hb]
  generalize max (fe b : Int) 1 - 1075 = t
  unfold mkD
  by_cases hx : fm b = 0
  · simp only [hx, if_true]; cases s <;> rfl
  · simp only [hx, if_false]
    obtain ⟨m, hm⟩ := tz_spec hx
    have : fm b / 2 ^ tz (fm b) = 2 * m + 1 := Nat.div_eq_of_eq_mul_right (Nat.two_pow_pos _) hm
    rw [this]
    simp
theorem mkD_sw (s : Bool) (x : Nat) (e : Int) : (mkD s x e).m = (mkD false x e).m ∧ (mkD s x e).e = (mkD false x e).e := by
  unfold mkD; split <;> exact ⟨rfl, rfl⟩
theorem fd_inj {a b : Nat} (ha : a < 9223372036854775808) (hb : b < 9223372036854775808) (h : fd a = fd b) : a = b := by
  have h1 := fd_cmp ha hb
  rw [h, cmp_self] at h1
  have := (sgn_zero a b).1 h1.symm
  omega
theorem withS_self {b : Nat} (hb : b < W) : withS (fs b) (fsz b) = b := by
  have : b < 18446744073709551616 := hb
  unfold withS fs fsz
  by_cases h : 9223372036854775808 ≤ b
  · rw [decide_eq_true h, if_pos rfl]; omega
  · rw [decide_eq_false h, if_neg (by decide)]; omega
/-- The bits of so many units, with a sign, if there are such. -/
theorem exact_pack (s : Bool) {M v : Nat} {t : Int} (hv : v ≤ INF) (hfd : fd v = mkD false M t) :
    (if (mkD s M t).fits then exactS (mkD s M t) else none) = if M = 0 then some 0 else if v = INF then none else some (withS s v) := by
  have hI : INF = 9218868437227405312 := rfl
  by_cases hM : M = 0
  · rw [if_pos hM, hM]; rfl
  rw [if_neg hM]
  have hm0 : (mkD s M t).m ≠ 0 := by
    rw [mkD, if_neg hM]
    obtain ⟨m, hm⟩ := tz_spec hM
    have : M / 2 ^ tz M = 2 * m + 1 := Nat.div_eq_of_eq_mul_right (Nat.two_pow_pos _) hm
    show M / 2 ^ tz M ≠ 0
    omega
  have hsw := mkD_sw s M t
  have hs : (mkD s M t).s = s := by rw [mkD, if_neg hM]
  rcases exact_cases (mkD_ok s M t) with ⟨b, e1, hb, hfe, hfd2⟩ | ⟨e1, hn⟩
  · rw [e1]
    have hbW : b < 18446744073709551616 := hb
    have hz := fsz_lt b
    have e2 := fd_withS (fs b) hz
    rw [withS_self hb] at e2
    have e3 : fd (fsz b) = fd v := by
      rw [hfd]
      have q1 : (fd (fsz b)).m = (mkD false M t).m := by rw [← hsw.1, ← hfd2, e2]
      have q2 : (fd (fsz b)).e = (mkD false M t).e := by rw [← hsw.2, ← hfd2, e2]
      have q3 : (fd (fsz b)).s = (mkD false M t).s := by
        have : ∀ (x : Nat) (e : Int), (mkD false x e).s = false := fun x e => by unfold mkD; split <;> rfl
        unfold fd; rw [fs_small hz, this, this]
      revert q1 q2 q3
      cases fd (fsz b); cases mkD false M t
      simp only
      rintro rfl rfl rfl; rfl
    have e4 := fd_inj hz (by omega) e3
    have e5 : fs b = s := by
      rw [← hs, ← hfd2]
      have : fm b ≠ 0 := fun h => hm0 (by rw [← hfd2]; unfold fd; rw [h]; rfl)
      unfold fd; rw [mkD, if_neg this]
    rw [if_neg (fun h => by unfold fe at hfe; unfold fsz at e4; omega), ← e4, ← e5, withS_self hb]
  · rw [e1]
    by_cases h : v = INF
    · rw [if_pos h]
    · exfalso
      refine hn (withS s v) ?_ ?_
      · rw [(withS_fields s (by omega)).2.2.1]; unfold fe; omega
      · rw [fd_withS s (by omega), hfd]
        have h4 : (mkD false M t).m ≠ 0 := by rw [← hsw.1]; exact hm0
        rw [decide_eq_true h4, Bool.and_true, ← hsw.1, ← hsw.2]
        revert hs
        cases mkD s M t
        simp only
        rintro rfl; rfl
end Go.Proofs.YtflpcgcgeffolaaDoor
