import Derived.Test.YtfkgaldbcngliaaGreatDoorI1
open Go PG Go.Proofs
set_option maxRecDepth 100000
set_option linter.unusedSimpArgs false
set_option linter.unusedVariables false
namespace Go.Proofs.YtfkgaldbcngliaaGreatDoor
def svb (b : Nat) : Int := if fs b = true then -(fsz b : Int) else fsz b
def mir (k : Nat) : Nat := if k = 2 then 3 else if k = 3 then 2 else k
theorem toS_fd {b : Nat} (hf0 : fe b < 2047) (dir : Int) : toS (fd b) false dir = (if fsz b = 0 then 0 else withS (fs b) (fsz b), 0) := by
  have hI := fsz_INF.1 hf0
  by_cases hz : fsz b = 0
  · rw [if_pos hz]
    exact if_pos ((fd_m0 hf0).2 hz)
  · rw [if_neg hz]
    have h0 : (fd b).m ≠ 0 := fun h => hz ((fd_m0 hf0).1 h)
    have hlow : low (fd b) = fsz b := by
      have hI' := INF_lt
      refine bel_unique (n := (fd b).abs) bel_low ⟨by omega, ?_, .inr ?_⟩
      · rw [fd_abs, cmp_self]; decide
      · rw [fd_abs, fd_cmp (by omega) (by omega), sgn_pos]; omega
    have ht : (fd b).top ≤ 1023 := by
      refine Decidable.byContradiction fun hn => ?_
      have : low (fd b) = INF := if_pos (by omega)
      omega
    have hx := (pos_mid h0 ht).2.1 (by rw [hlow, fd_abs, cmp_self])
    rw [toS_no h0 ht, upM_low h0 ht, hx.1, hx.2]
    have ha : awayS dir (fd b).s (decide (low (fd b) % 2 = 1)) false (false || false) = false := by
      unfold awayS; split <;> rfl
    rw [ha]
    unfold vS
    rw [hlow, fd_s h0, if_neg (by decide), if_neg (by omega), if_neg (by decide)]
end Go.Proofs.YtfkgaldbcngliaaGreatDoor
