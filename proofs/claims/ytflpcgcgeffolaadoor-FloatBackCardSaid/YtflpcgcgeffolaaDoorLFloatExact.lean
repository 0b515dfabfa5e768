/- The contract of the law FloatExact: at whatever reads as its arguments it returns true. -/
import Derived.Test.YtflpcgcgeffolaaDoorFl5
import Derived.Test.YtflpcgcgeffolaaDoorArgs2
import Derived.Test.YtflpcgcgeffolaaDoorRd20
open Go PG Go.Proofs
set_option maxRecDepth 100000
set_option linter.unusedSimpArgs false
set_option linter.unusedVariables false
namespace Go.Proofs.YtflpcgcgeffolaaDoor

theorem mkD_ok (s : Bool) (x : Nat) (e : Int) : mkD s x e = .zero ∨ (mkD s x e).m % 2 = 1 := by
  by_cases hx : x = 0
  · left; subst hx; rfl
  · right
    rw [mkD, if_neg hx]
    obtain ⟨m, hm⟩ := tz_spec hx
    have : x / 2 ^ tz x = 2 * m + 1 := Nat.div_eq_of_eq_mul_right (Nat.two_pow_pos _) hm
    show x / 2 ^ tz x % 2 = 1
    omega

/-- What some bits are worth has bits. -/
theorem fd_exact (b : Nat) (hf : fe b < 2047) (h : (fd b).m ≠ 0) : (fd b).top ≤ 1023 ∧ unitOf (fd b).top ≤ (fd b).e := by
  have hx : fm b ≠ 0 := fun hx => h (by unfold fd; rw [hx]; rfl)
  have ht : (fd b).top = bitLen (fd b).m - 1 + (fd b).e := if_neg h
  have hfm := fm_bits b
  obtain ⟨m, hm⟩ := tz_spec hx
  have hd : fm b / 2 ^ tz (fm b) = 2 * m + 1 := Nat.div_eq_of_eq_mul_right (Nat.two_pow_pos _) hm
  have hbl : bitLen (2 * m + 1) + tz (fm b) = bitLen (fm b) := by
    have := bitLen_shl (2 * m + 1) (tz (fm b)) (by omega)
    rw [Nat.mul_comm, ← hm] at this
    exact this.symm
  have hfd : fd b = ⟨fs b, 2 * m + 1, (max (fe b : Int) 1 - 1075) + tz (fm b)⟩ := by
    have := fe_lt b
    unfold fd
    rw [mkD, if_neg hx, hd, cut_id (by omega) (by omega)]
  have e1 : (fd b).m = 2 * m + 1 := by rw [hfd]
  have e2 : (fd b).e = (max (fe b : Int) 1 - 1075) + tz (fm b) := by rw [hfd]
  rw [e1, e2] at ht
  rw [e2]
  unfold unitOf
  rw [ht]
  have hbp : bitLen (fm b) = 0 ∨ 0 < bitLen (fm b) := by omega
  constructor <;> omega

theorem kind2 (b : Nat) : decide ((kind b : Int) ≤ 2) = decide (fe b < 2047) := by
  have := kind_num b
  exact decide_eq_decide.2 (by omega)

/-- Either bits are told that are worth it, or none are. -/
theorem exact_cases {d : Dy} (hok : d = Dy.zero ∨ d.m % 2 = 1) :
    (∃ b, (if d.fits then exactS d else none) = some b ∧ b < W ∧ fe b < 2047 ∧ fd b = d) ∨ ((if d.fits then exactS d else none) = none ∧ ∀ n, fe n < 2047 → fd n ≠ d) := by
  rcases hok with rfl | h
  · exact .inl ⟨0, rfl, by decide, by decide, rfl⟩
  · have h0 : d.m ≠ 0 := by omega
    by_cases hx : d.top ≤ 1023 ∧ unitOf d.top ≤ d.e
    · obtain ⟨b, y1, y2, y3, y4, y5⟩ := exact_fd h hx.1 hx.2
      have hf : d.fits := by rw [← y4]; exact fd_fits b
      exact .inl ⟨b, by rw [if_pos hf]; exact y1, y2, y3, y4⟩
    · refine .inr ⟨?_, fun n hn hd => ?_⟩
      · by_cases hf : d.fits
        · rw [if_pos hf]; unfold exactS; rw [if_neg h0, if_pos (by omega)]
        · rw [if_neg hf]
      · subst hd
        exact hx (fd_exact n hn h0)

end Go.Proofs.YtflpcgcgeffolaaDoor
