/- A rounding looks at the worth alone. -/
import Derived.Test.YtejmlngnpekagaaGreatDoorRd8
import Derived.Test.YtejmlngnpekagaaGreatDoorLimN
open Go PG Go.Proofs
set_option maxRecDepth 100000
set_option linter.unusedSimpArgs false
set_option linter.unusedVariables false
namespace Go.Proofs.YtejmlngnpekagaaGreatDoor

theorem parts_uniq {f f' h h' P r r' : Nat} (hh : h ≤ 1) (hh' : h' ≤ 1) (hr : r < P) (hr' : r' < P) (he : (2 * f + h) * P + r = (2 * f' + h') * P + r') : f = f' ∧ h = h' ∧ r = r' := by
  have hP : 0 < P := by omega
  have e1 : ((2 * f + h) * P + r) / P = 2 * f + h := by rw [Nat.mul_comm, Nat.mul_add_div hP, Nat.div_eq_of_lt hr]; omega
  have e2 : ((2 * f' + h') * P + r') / P = 2 * f' + h' := by rw [Nat.mul_comm, Nat.mul_add_div hP, Nat.div_eq_of_lt hr']; omega
  rw [he, e2] at e1
  have e3 : f = f' := by omega
  have e4 : h = h' := by omega
  subst e3 e4
  exact ⟨rfl, rfl, by omega⟩
theorem pow_sandwich {a b A : Nat} (h1 : 2 ^ a ≤ A) (h2 : A < 2 ^ b) : a < b := by
  refine Decidable.byContradiction fun h => ?_
  have := Nat.pow_le_pow_right (n := 2) (by decide) (show b ≤ a by omega)
  omega
theorem top_congr {d d' : Dy} {k : Int} (h0 : d.m ≠ 0) (h0' : d'.m ≠ 0) (ha : (d.at k).natAbs = (d'.at k).natAbs) (hk : k ≤ d.e) (hk' : k ≤ d'.e) : d.top = d'.top := by
  obtain ⟨a1, a2⟩ := top_at h0 hk
  obtain ⟨b1, b2⟩ := top_at h0' hk'
  have t1 : d.top = bitLen d.m - 1 + d.e := if_neg h0
  have t2 : d'.top = bitLen d'.m - 1 + d'.e := if_neg h0'
  have p1 := bitLen_pos h0
  have p2 := bitLen_pos h0'
  rw [ha] at a1 a2
  have c1 := pow_sandwich a1 b2
  have c2 := pow_sandwich b1 a2
  omega
theorem toS_congr {d d' : Dy} {k : Int} (h0 : d.m ≠ 0) (h0' : d'.m ≠ 0) (hs : d.s = d'.s) (ha : (d.at k).natAbs = (d'.at k).natAbs) (hk : k ≤ d.e) (hk' : k ≤ d'.e) (hk2 : k ≤ -1075) (more : Bool) (dir : Int) : toS d more dir = toS d' more dir := by
  have ht := top_congr h0 h0' ha hk hk'
  have hu : k ≤ unitOf d.top - 1 := by unfold unitOf; omega
  obtain ⟨r, e, hr, hb⟩ := parts_at d (unitOf d.top) hk hu
  obtain ⟨r', e', hr', hb'⟩ := parts_at d' (unitOf d.top) hk' hu
  rw [← ha, e] at e'
  obtain ⟨g1, g2, g3⟩ := parts_uniq (by split <;> omega) (by split <;> omega) hr hr' e'
  have g4 : hf d (unitOf d.top) = hf d' (unitOf d.top) := by
    cases hx : hf d (unitOf d.top) <;> cases hy : hf d' (unitOf d.top) <;> simp [hx, hy] at g2 <;> rfl
  have g5 : bl d (unitOf d.top) = bl d' (unitOf d.top) := by
    rw [g3] at hb
    cases hx : bl d (unitOf d.top) <;> cases hy : bl d' (unitOf d.top) <;> simp [hx, hy] at hb hb' <;> first | rfl | exact absurd hb hb' | exact absurd hb' hb
  have g6 : low d = low d' := by unfold low; rw [← ht, g1]
  unfold toS magS
  rw [if_neg h0, if_neg h0', ← hs, ← ht, ← g4, ← g5, ← g6]
theorem bare_s {K : Nat} {d : Dy} (h : LimN K d) (hK : K ≤ 1000000) (h0 : d.m ≠ 0) : d.bare.m ≠ 0 ∧ d.bare.s = d.s ∧ -(K : Int) ≤ d.bare.e := by
  have e := h.bare_at hK
  have hP := Nat.two_pow_pos (d.e - -(K : Int)).toNat
  have hm : d.bare.m ≠ 0 := by
    intro hz
    have e2 := congrArg Int.natAbs e
    rw [natAbs_at', natAbs_at', hz, Nat.zero_mul] at e2
    have := Nat.mul_pos (Nat.pos_of_ne_zero h0) hP
    omega
  refine ⟨hm, ?_, ((h.bare hK).ge).resolve_left hm⟩
  have hQ := Nat.two_pow_pos (d.bare.e - -(K : Int)).toNat
  have p1 := Nat.mul_pos (Nat.pos_of_ne_zero h0) hP
  have p2 := Nat.mul_pos (Nat.pos_of_ne_zero hm) hQ
  unfold Dy.at at e
  generalize d.m * _ = x at *
  generalize d.bare.m * _ = y at *
  cases h1 : d.bare.s <;> cases h2 : d.s <;> simp only [h1, h2, Bool.false_eq_true, if_false, if_true] at e <;> first | rfl | omega
theorem bare_m0 {K : Nat} {d : Dy} (h : LimN K d) (hK : K ≤ 1000000) : d.bare.m = 0 ↔ d.m = 0 := by
  constructor
  · intro hz
    exact Decidable.byContradiction fun h0 => (bare_s h hK h0).1 hz
  · intro hz
    unfold Dy.bare
    rw [hz]
    exact mkD_m0.2 rfl
theorem toS_bare {K : Nat} {d : Dy} (h : LimN K d) (hK : K ≤ 900000) (more : Bool) (dir : Int) : toS d.bare more dir = toS d more dir := by
  have h' := h.mono (J := K + 1075) (by omega)
  by_cases h0 : d.m = 0
  · have h1 := (bare_m0 h' (by omega)).2 h0
    unfold toS
    rw [if_pos h1, if_pos h0]
  · obtain ⟨h1, h2, h3⟩ := bare_s h' (by omega) h0
    have h4 := h'.2.2.1
    refine toS_congr (k := -((K + 1075 : Nat) : Int)) h1 h0 h2 (congrArg Int.natAbs (h'.bare_at (by omega))) h3 h4 (by omega) more dir
end Go.Proofs.YtejmlngnpekagaaGreatDoor
