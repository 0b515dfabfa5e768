/- Bits and what they are worth, there and back: plain laws; float.Dyad's value reads as a dyad. -/
import Derived.Test.YtflpcgcgeffolaaDoorRn
import Derived.Test.YtflpcgcgeffolaaDoorDy2
open Go PG Go.Proofs
set_option maxRecDepth 100000
set_option linter.unusedSimpArgs false
set_option linter.unusedVariables false
namespace Go.Proofs.YtflpcgcgeffolaaDoor

theorem fm_fsz (b : Nat) : fm (fsz b) = fm b ∧ fe (fsz b) = fe b := by
  have e1 : fe (fsz b) = fe b := by unfold fe fsz; omega
  have e2 : ff (fsz b) = ff b := by unfold ff fsz; omega
  unfold fm; rw [e1, e2]; exact ⟨rfl, rfl⟩
theorem fm_zero {b : Nat} (hf : fe b < 2047) : fm b = 0 ↔ fsz b = 0 := by
  unfold fm fe ff fsz at *
  split <;> omega
theorem fsz_INF {b : Nat} : fe b < 2047 ↔ fsz b < INF := by
  have hI : INF = 9218868437227405312 := rfl
  rw [hI]
  unfold fe fsz; omega
theorem fd_abs (b : Nat) : (fd b).abs = fd (fsz b) := by
  obtain ⟨e1, e2⟩ := fm_fsz b
  have h := fs_small (fsz_lt b)
  unfold fd Dy.abs
  rw [e1, e2, h]
  unfold mkD
  split <;> rfl
theorem fd_m0 {b : Nat} (hf : fe b < 2047) : (fd b).m = 0 ↔ fsz b = 0 := by
  unfold fd
  rw [mkD_m0, fm_zero hf]
theorem fd_s {b : Nat} (h : (fd b).m ≠ 0) : (fd b).s = fs b := by
  unfold fd at *
  exact mkD_s (fun h2 => h (by rw [h2]; rfl))
/-- The bits of what some bits are worth. -/
theorem exact_back {b : Nat} (hb : b < W) (hf : fe b < 2047) : (if (fd b).fits then exactS (fd b) else none) = some (if fsz b = 0 then 0 else b) := by
  obtain ⟨e1, e2⟩ := fm_fsz b
  have hI := fsz_INF.1 hf
  have h : fd (fsz b) = mkD false (fm b) (max (fe b : Int) 1 - 1075) := by
    unfold fd; rw [e1, e2, fs_small (fsz_lt b)]
  have k := exact_pack (fs b) (v := fsz b) (by omega) h
  rw [show mkD (fs b) (fm b) (max (fe b : Int) 1 - 1075) = fd b from rfl] at k
  rw [k]
  by_cases h0 : fsz b = 0
  · rw [if_pos h0, if_pos ((fm_zero hf).2 h0)]
  · rw [if_neg h0, if_neg (fun h => h0 ((fm_zero hf).1 h)), if_neg (by omega), withS_self hb]
theorem fsz0 {b : Nat} (hb : b < W) (h : fsz b = 0) : b = 0 ∨ b = 9223372036854775808 := by
  have : b < 18446744073709551616 := hb
  unfold fsz at h; omega
theorem RD.fd (b : Nat) : RD (fd b).pv (fd b) := RD.fit (fd_ok' b) (by have := fd_bits b; omega) (fd_fits b)
theorem r_FDyad {b : Nat} (hb : b < W) : PC E 28 [u b] (.tuple [(if fe b < 2047 then fd b else .zero).pv, .bool (decide (fe b < 2047))]) := by
  refine PC.cast (c_FDyad b hb) ?_
  by_cases h : fe b < 2047
  · rw [if_pos h, if_pos h, decide_eq_true h]
  · rw [if_neg h, if_neg h, decide_eq_false h]
theorem fd_abs_cmp (a b : Nat) : cmpD (fd a).abs (fd b).abs = sgn (fsz a) (fsz b) := by
  rw [fd_abs, fd_abs, fd_cmp (fsz_lt a) (fsz_lt b)]
end Go.Proofs.YtflpcgcgeffolaaDoor
