/- Dyads within bounds: below 2^K, in units of 2^-K: what is near enough to be added and multiplied. No program stands here. -/
import Derived.Test.YtejmlngnpekagaaGreatDoorIvP
open Go PG Go.Proofs
set_option maxRecDepth 100000
set_option linter.unusedSimpArgs false
set_option linter.unusedVariables false
namespace Go.Proofs.YtejmlngnpekagaaGreatDoor

/-- A bare dyad below 2^K, a whole number of units of 2^-K. -/
def Lim (K : Nat) (d : Dy) : Prop := d.ok ∧ d.ge (-(K : Int)) ∧ (d.at (-(K : Int))).natAbs < 2 ^ (2 * K)
theorem Lim.ok {K : Nat} {d : Dy} (h : Lim K d) : d.ok := h.1
theorem Lim.ge {K : Nat} {d : Dy} (h : Lim K d) : d.ge (-(K : Int)) := h.2.1
theorem Lim.lt {K : Nat} {d : Dy} (h : Lim K d) : (d.at (-(K : Int))).natAbs < 2 ^ (2 * K) := h.2.2
theorem Lim.zero (K : Nat) : Lim K .zero := ⟨Dy.zero_ok, Dy.zero_ge _, by rw [at_zero (d := .zero) rfl]; exact Nat.two_pow_pos _⟩
theorem Lim.m {K : Nat} {d : Dy} (h : Lim K d) : d.m * 2 ^ (d.e + K).toNat < 2 ^ (2 * K) := by
  have := h.lt
  rwa [natAbs_at', show d.e - -(K : Int) = d.e + K by omega] at this
theorem Lim.e_ge {K : Nat} {d : Dy} (h : Lim K d) (h0 : d.m ≠ 0) : -(K : Int) ≤ d.e := h.ge.resolve_left h0
theorem Lim.e_lt {K : Nat} {d : Dy} (h : Lim K d) (h0 : d.m ≠ 0) : d.e < K := by
  have h1 := h.m
  have h2 := h.e_ge h0
  have h3 : 2 ^ (d.e + K).toNat < 2 ^ (2 * K) := Nat.lt_of_le_of_lt (by
    have := Nat.mul_le_mul_right (2 ^ (d.e + K).toNat) (show 1 ≤ d.m by omega)
    omega) h1
  have h4 := (Nat.pow_lt_pow_iff_right (by decide : 1 < 2)).1 h3
  omega
theorem Lim.bits {K : Nat} {d : Dy} (h : Lim K d) : bitLen d.m ≤ 2 * K := by
  refine (bitLen_le _ _).2 (Nat.lt_of_le_of_lt ?_ h.m)
  have := Nat.mul_le_mul_left d.m (Nat.two_pow_pos (d.e + K).toNat)
  omega
theorem Lim.top_lt {K : Nat} {d : Dy} (h : Lim K d) (h0 : d.m ≠ 0) : d.top < K := by
  have h1 := h.e_ge h0
  have h2 := (top_at h0 h1).1
  have h3 : 2 ^ (d.top - -(K : Int)).toNat < 2 ^ (2 * K) := Nat.lt_of_le_of_lt h2 h.lt
  have h4 := (Nat.pow_lt_pow_iff_right (by decide : 1 < 2)).1 h3
  have h5 := top_of h0
  have h6 := bitLen_pos h0
  omega
theorem Lim.e0 {K : Nat} {d : Dy} (h : Lim K d) : -(K : Int) ≤ d.e ∧ d.e ≤ K := by
  by_cases h0 : d.m = 0
  · rw [h.ok.z h0]
    show -(K : Int) ≤ 0 ∧ (0 : Int) ≤ K
    omega
  · have := h.e_ge h0
    have := h.e_lt h0
    omega
theorem Lim.fits {K : Nat} {d : Dy} (h : Lim K d) (hK : K ≤ 1000000) : d.fits := by
  have := h.e0
  exact ⟨by omega, by omega⟩
/-- From any unit that is fine enough. -/
theorem Lim.of {K : Nat} {d : Dy} {k : Int} (ho : d.ok) (hg : d.ge (-(K : Int))) (hk : k ≤ -(K : Int)) (hl : (d.at k).natAbs < 2 ^ (K - k).toNat) : Lim K d := by
  refine ⟨ho, hg, ?_⟩
  have h1 := at_shift' (d := d) hk hg
  rw [h1, Int.natAbs_mul, Int.natAbs_natCast] at hl
  rw [show (K - k).toNat = 2 * K + (-(K : Int) - k).toNat by omega, Nat.pow_add] at hl
  exact Nat.lt_of_mul_lt_mul_right hl
theorem Lim.mono {K J : Nat} {d : Dy} (h : Lim K d) (hK : K ≤ J) : Lim J d := by
  refine ⟨h.ok, h.ge.mono (by omega), ?_⟩
  rw [at_shift' (d := d) (k := -(J : Int)) (k' := -(K : Int)) (by omega) h.ge, Int.natAbs_mul, Int.natAbs_natCast, show (-(K : Int) - -(J : Int)).toNat = J - K by omega]
  refine Nat.lt_of_lt_of_le (Nat.mul_lt_mul_of_pos_right h.lt (Nat.two_pow_pos _)) ?_
  rw [← Nat.pow_add]
  exact Nat.pow_le_pow_right (by decide) (by omega)
theorem Lim.neg {K : Nat} {d : Dy} (h : Lim K d) : Lim K d.neg := ⟨neg_ok h.ok, neg_ge h.ge, by rw [neg_at, Int.natAbs_neg]; exact h.lt⟩
theorem Lim.abs {K : Nat} {d : Dy} (h : Lim K d) : Lim K d.abs := ⟨abs_ok h.ok, abs_ge h.ge, by rw [abs_at, Int.natAbs_natCast]; exact h.lt⟩
theorem Lim.add {K : Nat} {a b : Dy} (ha : Lim K a) (hb : Lim K b) (hK : K ≤ 1000000) : Lim (K + 1) (addS a b) := by
  have fa := ha.fits hK
  have fb := hb.fits hK
  have ha' := ha.mono (J := K + 1) (by omega)
  have hb' := hb.mono (J := K + 1) (by omega)
  refine ⟨addS_ok _ _, (addS_ge ha.ok hb.ok fa fb ha'.ge hb'.ge), ?_⟩
  rw [addS_at ha.ok hb.ok fa fb ha'.ge hb'.ge]
  have e1 := at_shift' (d := a) (k := -((K + 1 : Nat) : Int)) (k' := -(K : Int)) (by omega) ha.ge
  have e2 := at_shift' (d := b) (k := -((K + 1 : Nat) : Int)) (k' := -(K : Int)) (by omega) hb.ge
  rw [e1, e2, show (-(K : Int) - -((K + 1 : Nat) : Int)).toNat = 1 by omega, show 2 * (K + 1) = 2 * K + 2 by omega, Nat.pow_add]
  have := ha.lt
  have := hb.lt
  omega
theorem Lim.addE {K : Nat} {a b : Dy} (ha : Lim K a) (hb : Lim K b) (hK : K ≤ 32767) : addE a b :=
  ⟨ha.fits (by omega), hb.fits (by omega), fun h1 h2 => by
    have := ha.top_lt h1; have := hb.top_lt h2; have := ha.e_ge h1; have := hb.e_ge h2; omega, (ha.add hb (by omega)).fits (by omega)⟩
theorem Lim.mul {K J : Nat} {a b : Dy} (ha : Lim K a) (hb : Lim J b) : Lim (K + J) (mulS a b) := by
  have e : -((K + J : Nat) : Int) = -(K : Int) + -(J : Int) := by omega
  refine ⟨mulS_ok ha.ok hb.ok, by rw [e]; exact mulS_ge ha.ge hb.ge, ?_⟩
  rw [e, mulS_at ha.ge hb.ge, Int.natAbs_mul, show 2 * (K + J) = 2 * K + 2 * J by omega, Nat.pow_add]
  exact Nat.mul_lt_mul'' ha.lt hb.lt
theorem Lim.mulE {K J : Nat} {a b : Dy} (ha : Lim K a) (hb : Lim J b) (hK : K + J ≤ 32767) : mulE a b :=
  ⟨ha.fits (by omega), hb.fits (by omega), fun _ _ => by have := ha.bits; have := hb.bits; omega, (ha.mul hb).fits (by omega)⟩
theorem Lim.sc {K J : Nat} {d : Dy} (h : Lim K d) {n : Int} (hn : -(J : Int) ≤ n ∧ n ≤ J) : Lim (K + J) (d.sc n) := by
  refine ⟨sc_ok h.ok n, (sc_ge h.ge).mono (by omega), ?_⟩
  have e1 := at_shift' (d := d.sc n) (k := -((K + J : Nat) : Int)) (k' := -(K : Int) + n) (by omega) (sc_ge h.ge)
  rw [e1, sc_at, Int.natAbs_mul, Int.natAbs_natCast]
  refine Nat.lt_of_lt_of_le (Nat.mul_lt_mul_of_pos_right h.lt (Nat.two_pow_pos _)) ?_
  rw [← Nat.pow_add]
  exact Nat.pow_le_pow_right (by decide) (by omega)
theorem Lim.RD {K : Nat} {d : Dy} (h : Lim K d) (hK : K ≤ 500000) : RD d.pv d := RD.fit h.ok (by have := h.bits; omega) (h.fits (by omega))
theorem Lim.norm {K : Nat} {z : Int} (hz : z.natAbs < 2 ^ K) (hK : K ≤ 1000000) : Lim K (norm z 0) := by
  refine ⟨norm_ok _ _, (norm_ge z (by decide) (by decide)).mono (by omega), ?_⟩
  rw [norm_at z (by decide) (by decide) (by omega), Int.natAbs_mul, Int.natAbs_natCast, show (0 - -(K : Int)).toNat = K by omega, show 2 * K = K + K by omega, Nat.pow_add]
  exact Nat.mul_lt_mul_of_pos_right hz (Nat.two_pow_pos _)
/-- What is made of a number of limbs and a small exponent. -/
theorem Lim.mk {s : Bool} {x : Nat} {e : Int} {n J : Nat} (hb : bitLen x ≤ n) (he : -(J : Int) ≤ e ∧ e ≤ J) (hJ : n + J ≤ 1000000) : Lim (n + J) (mkD s x e) := by
  refine ⟨mkD_ok _ _ _, (mkD_ge s x (by omega) (by omega)).mono (by omega), ?_⟩
  rw [mkD_at s x (by omega) (by omega) (show -((n + J : Nat) : Int) ≤ e by omega)]
  have h1 := (bitLen_le _ _).1 hb
  have h2 : x * 2 ^ (e - -((n + J : Nat) : Int)).toNat < 2 ^ n * 2 ^ (e - -((n + J : Nat) : Int)).toNat := Nat.mul_lt_mul_of_pos_right h1 (Nat.two_pow_pos _)
  have h3 : 2 ^ n * 2 ^ (e - -((n + J : Nat) : Int)).toNat ≤ 2 ^ (2 * (n + J)) := by
    rw [← Nat.pow_add]; exact Nat.pow_le_pow_right (by decide) (by omega)
  generalize x * 2 ^ (e - -((n + J : Nat) : Int)).toNat = y at *
  cases s <;> simp <;> omega
theorem addV_lim {K : Nat} {a b : Dy} (ha : Lim K a) (hb : Lim K b) (hK : K ≤ 32767) : addV a b = .tuple [(addS a b).pv, .int .i64 0] := if_pos (ha.addE hb hK)
theorem mulV_lim {K J : Nat} {a b : Dy} (ha : Lim K a) (hb : Lim J b) (hK : K + J ≤ 32767) : mulV a b = .tuple [(mulS a b).pv, .int .i64 0] := if_pos (ha.mulE hb hK)
theorem scaleV_lim {K J : Nat} {d : Dy} (h : Lim K d) {n : Int} (hn : -(J : Int) ≤ n ∧ n ≤ J) (hK : K + J ≤ 1000000) : scaleV d n = .tuple [(d.sc n).pv, .int .i64 0] := by
  unfold scaleV okD
  rw [if_pos (h.fits (by omega)), show min (max n (-4294967296)) 4294967296 = n by omega, if_pos ((h.sc hn).fits (by omega))]
end Go.Proofs.YtejmlngnpekagaaGreatDoor
