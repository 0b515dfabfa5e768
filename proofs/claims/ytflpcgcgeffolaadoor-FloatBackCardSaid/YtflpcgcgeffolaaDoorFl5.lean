/- The bits that are worth a dyad are worth it: plain laws on exactS. -/
import Derived.Test.YtflpcgcgeffolaaDoorLFlA
open Go PG Go.Proofs
set_option maxRecDepth 100000
set_option linter.unusedSimpArgs false
set_option linter.unusedVariables false
namespace Go.Proofs.YtflpcgcgeffolaaDoor

theorem mkD_shift {s : Bool} {m j : Nat} {t : Int} (h : m % 2 = 1) (h1 : -2147483648 ≤ t) (h2 : t ≤ 2147483648) : mkD s (m * 2 ^ j) t = ⟨s, m, t + j⟩ := by
  have hp := Nat.two_pow_pos j
  have ht : tz (m * 2 ^ j) = j := tz_of (m := m / 2) (by rw [Nat.mul_comm, show 2 * (m / 2) + 1 = m by omega])
  have h0 : m * 2 ^ j ≠ 0 := Nat.mul_ne_zero (by omega) (by omega)
  unfold mkD
  rw [if_neg h0, ht, cut_id h1 h2, Nat.mul_div_cancel _ hp]
theorem withS_fields (s : Bool) {b : Nat} (hb : b < 9223372036854775808) : withS s b < W ∧ fs (withS s b) = s ∧ fe (withS s b) = fe b ∧ ff (withS s b) = ff b ∧ fsz (withS s b) = b := by
  show withS s b < 18446744073709551616 ∧ _
  unfold withS fs fe ff fsz
  cases s
  · simp only [Bool.false_eq_true, if_false]
    exact ⟨by omega, decide_eq_false (by omega), trivial, trivial, by omega⟩
  · simp only [if_true]
    exact ⟨by omega, decide_eq_true (by omega), by omega, by omega, by omega⟩
theorem unit_range {d : Dy} (h : d.top ≤ 1023) : -1074 ≤ unitOf d.top ∧ unitOf d.top ≤ 971 := by unfold unitOf; omega
/-- What is packed is worth what was packed. -/
theorem pack_fields {M : Nat} {t : Int} (hM : M < 9007199254740992) (h1 : -1074 ≤ t) (h2 : t ≤ 971) (hs : M < 4503599627370496 → t = -1074) :
    fe (packB M t) < 2047 ∧ fm (packB M t) = M ∧ max (fe (packB M t) : Int) 1 - 1075 = t := by
  unfold packB
  by_cases h : 4503599627370496 ≤ M
  · rw [if_pos h]
    have e1 : fe (M - 4503599627370496 + (t + 1075).toNat * 4503599627370496) = (t + 1075).toNat := by unfold fe; omega
    have e2 : ff (M - 4503599627370496 + (t + 1075).toNat * 4503599627370496) = M - 4503599627370496 := by unfold ff; omega
    unfold fm
    rw [e1, e2, if_neg (by omega)]
    omega
  · rw [if_neg h]
    have ht := hs (by omega)
    have e1 : fe M = 0 := by unfold fe; omega
    have e2 : ff M = M := by unfold ff; omega
    unfold fm
    rw [e1, e2, if_pos rfl]
    omega
theorem exact_fd {d : Dy} (h : d.m % 2 = 1) (h1 : d.top ≤ 1023) (h2 : unitOf d.top ≤ d.e) :
    ∃ b, exactS d = some b ∧ b < W ∧ fe b < 2047 ∧ fd b = d ∧ fs b = d.s := by
  have h0 : d.m ≠ 0 := by omega
  have hM := exact_bits h0 h2
  have hlt : d.m * 2 ^ (d.e - unitOf d.top).toNat < 9007199254740992 := (bitLen_le _ 53).1 hM
  have hr := unit_range h1
  have hbl := bitLen_shl d.m (d.e - unitOf d.top).toNat h0
  have htop : d.top = bitLen d.m - 1 + d.e := if_neg h0
  have hu : unitOf d.top = max (d.top - 52) (-1074) := rfl
  have hp := pack_fields hlt hr.1 hr.2 (fun hlt2 => by
    have := (bitLen_le (d.m * 2 ^ (d.e - unitOf d.top).toNat) 52).2 hlt2
    omega)
  have hpl := packB_lt hlt hr.1 hr.2
  have hw := withS_fields d.s hpl
  refine ⟨_, by unfold exactS; rw [if_neg h0, if_neg (by omega)], hw.1, by rw [hw.2.2.1]; exact hp.1, ?_, hw.2.1⟩
  unfold fd
  have hfm : fm (withS d.s (packB (d.m * 2 ^ (d.e - unitOf d.top).toNat) (unitOf d.top))) = d.m * 2 ^ (d.e - unitOf d.top).toNat := by
    unfold fm
    rw [hw.2.2.1, hw.2.2.2.1]
    exact hp.2.1
  rw [hfm, hw.2.1, hw.2.2.1, hp.2.2, mkD_shift h (by omega) (by omega)]
  obtain ⟨s, m, e⟩ := d
  simp only at *
  rw [show unitOf (Dy.top ⟨s, m, e⟩) + ((e - unitOf (Dy.top ⟨s, m, e⟩)).toNat : Int) = e by omega]
end Go.Proofs.YtflpcgcgeffolaaDoor
