/- Whole numbers as bits, and back; texts of whole numbers that are moved. -/
import Derived.Test.YtmnojbkakgfinaaGreatDoorK8
import Derived.Test.YtmnojbkakgfinaaGreatDoorStr5
open Go PG Go.Proofs Go.RowKit
set_option maxRecDepth 100000
set_option linter.unusedSimpArgs false
set_option linter.unusedVariables false
namespace Go.Proofs.YtmnojbkakgfinaaGreatDoor

/-- The bits of a whole number. -/
def wn (m : Nat) : Nat := if m = 0 then 0 else packB (m * 2 ^ (53 - bitLen m)) (-((53 - bitLen m : Nat) : Int))
theorem wn_norm {m : Nat} (h0 : m ≠ 0) (h : m < 9007199254740992) : 4503599627370496 ≤ m * 2 ^ (53 - bitLen m) ∧ m * 2 ^ (53 - bitLen m) < 9007199254740992 ∧ bitLen m ≤ 53 ∧ 1 ≤ bitLen m := by
  have hb : bitLen m ≤ 53 := (bitLen_le m 53).2 h
  have h1 : 1 ≤ bitLen m := Nat.pos_of_ne_zero fun e => h0 (by have := (bitLen_le m 0).1 (by omega); omega)
  have h2 : m < 2 ^ bitLen m := (bitLen_le m _).1 (Nat.le_refl _)
  have h3 : 2 ^ (bitLen m - 1) ≤ m := Nat.not_lt.1 fun hc => by have := (bitLen_le m (bitLen m - 1)).2 hc; omega
  have e1 : 2 ^ (bitLen m - 1) * 2 ^ (53 - bitLen m) = 4503599627370496 := by
    rw [← Nat.pow_add, show bitLen m - 1 + (53 - bitLen m) = 52 by omega]
  have e2 : 2 ^ bitLen m * 2 ^ (53 - bitLen m) = 9007199254740992 := by
    rw [← Nat.pow_add, show bitLen m + (53 - bitLen m) = 53 by omega]
  refine ⟨?_, ?_, hb, h1⟩
  · rw [← e1]; exact Nat.mul_le_mul_right _ h3
  · rw [← e2]; exact Nat.mul_lt_mul_of_pos_right h2 (Nat.two_pow_pos _)
theorem wn_ok {m : Nat} (h0 : m ≠ 0) (h : m < 9007199254740992) : PackOk (m * 2 ^ (53 - bitLen m)) (-((53 - bitLen m : Nat) : Int)) := by
  obtain ⟨h1, h2, h3, h4⟩ := wn_norm h0 h
  exact ⟨h2, by omega, by omega, fun h5 => absurd h1 (Nat.not_le.2 h5)⟩
theorem wn_val {m : Nat} (h : m < 9007199254740992) : wn m < INF ∧ (fd (wn m)).val = (m : Rat) := by
  by_cases h0 : m = 0
  · subst h0
    refine ⟨by decide, ?_⟩
    rw [val_zero (by decide)]
    rfl
  · have hp := wn_ok h0 h
    unfold wn
    rw [if_neg h0]
    refine ⟨pack_lt_inf hp, ?_⟩
    rw [pack_fd hp]
    have hb := (wn_norm h0 h).2.1
    have hs : (mkD false (m * 2 ^ (53 - bitLen m)) (-((53 - bitLen m : Nat) : Int))).abs = mkD false (m * 2 ^ (53 - bitLen m)) (-((53 - bitLen m : Nat) : Int)) := by
      have e : (mkD false (m * 2 ^ (53 - bitLen m)) (-((53 - bitLen m : Nat) : Int))).s = false := by unfold mkD; split <;> rfl
      revert e
      generalize mkD false (m * 2 ^ (53 - bitLen m)) (-((53 - bitLen m : Nat) : Int)) = d
      obtain ⟨s, x, y⟩ := d
      rintro rfl
      rfl
    rw [← hs, mkD_abs_val false _ (by omega) (by omega) (by have := (bitLen_le (m * 2 ^ (53 - bitLen m)) 53).2 hb; omega), Rat.natCast_mul, ← z2_nat, Rat.mul_assoc, ← z2_add, show ((53 - bitLen m : Nat) : Int) + -((53 - bitLen m : Nat) : Int) = 0 by omega, z2_zero, Rat.mul_one]
theorem q10_zero (m : Nat) : q10 m 0 = (m : Rat) := by unfold q10; rw [t10_zero, Rat.mul_one]
theorem q10_move (m z : Nat) : q10 (m * 10 ^ z) (-(z : Int)) = (m : Rat) := by
  unfold q10
  rw [Rat.natCast_mul, ← t10_nat, Rat.mul_assoc, ← t10_add, show (z : Int) + -(z : Int) = 0 by omega, t10_zero, Rat.mul_one]
/-- Whole numbers come through without flags. -/
theorem whole_R {m : Nat} (h : m < 9007199254740992) (z : Nat) (hz : z ≤ 100) (dir : Int) : decR false (m * 10 ^ z) (-(z : Int)) dir = (wn m, 0) := by
  by_cases h0 : m = 0
  · subst h0
    unfold decR
    rw [Nat.zero_mul, if_pos rfl]
    rfl
  · obtain ⟨h1, h2⟩ := wn_val h
    have hz2 := ten_bits z
    have hmb : bitLen m ≤ 53 := (bitLen_le m 53).2 h
    obtain ⟨d, more, g1, g2, g3, g4, g5⟩ := decR_tc false (m := m * 10 ^ z) (e := -(z : Int)) (Nat.mul_ne_zero h0 (ten_ne z)) (by have := bitLen_mul_le m (10 ^ z); omega) (by omega)
    rw [q10_move, ← h2] at g5
    rw [g1, exact_is g2 g4 g5 h1 rfl dir, g3]
    rfl
theorem conv_num {m : Nat} (h : m < 9007199254740992) : (FloatKind.f64.decode (wn m)).toInt .zero = some (m : Int) := by
  by_cases h0 : m = 0
  · subst h0; decide +kernel
  · have hp := wn_ok h0 h
    obtain ⟨h1, h2, h3, h4⟩ := wn_norm h0 h
    have hl := pack_lt_inf hp
    have hf := pack_fields hp.lt hp.lo hp.hi hp.sub
    have hw : wn m = packB (m * 2 ^ (53 - bitLen m)) (-((53 - bitLen m : Nat) : Int)) := if_neg h0
    have hdv : m * 2 ^ (53 - bitLen m) / 2 ^ (53 - bitLen m) = m := Nat.mul_div_cancel _ (Nat.two_pow_pos _)
    obtain ⟨k, hk⟩ : ∃ k, k = 53 - bitLen m := ⟨_, rfl⟩
    rw [← hk] at hw hf hl hp h1 h2 hdv
    have hk52 : k ≤ 52 := by omega
    generalize m * 2 ^ k = M at *
    rw [hw]
    generalize packB M (-(k : Int)) = a at *
    have hI : INF = 9218868437227405312 := rfl
    have hfe : fe a ≠ 0 := fun e => by
      have h5 := hf.2.1
      unfold fm at h5
      rw [if_pos e] at h5
      have := ff_lt a
      omega
    have hfm : fm a = 4503599627370496 + ff a := by unfold fm; rw [if_neg hfe]; omega
    have hrd : Ieee.Format.read Ieee.double a = .number false M (-(k : Int)) := by
      have e1 : Ieee.double.signWeight = 9223372036854775808 := by decide
      have e2 : Ieee.double.binade = 4503599627370496 := by decide
      have e3 : Ieee.double.infRung = 9218868437227405312 := by decide
      have e4 : Ieee.double.leastPlace = -1074 := by decide
      unfold Ieee.Format.read
      simp only [e1, e2, e3, e4]
      have hfe2 : fe a = a / 4503599627370496 := by unfold fe; omega
      have hff2 : ff a = a % 4503599627370496 := rfl
      have g1 : a % 9223372036854775808 = a := Nat.mod_eq_of_lt (by omega)
      have g2 : a / 9223372036854775808 = 0 := Nat.div_eq_of_lt (by omega)
      have g3 : ¬ a < 4503599627370496 := fun hc => hfe (by rw [hfe2]; exact Nat.div_eq_of_lt hc)
      rw [g1, g2, if_neg g3, if_pos (by omega), ← hff2, ← hfm, hf.2.1, ← hfe2]
      have := hf.2.2
      congr 1
      omega
    show (Ieee.Format.read Ieee.double a).toInt .zero = some (m : Int)
    rw [hrd]
    have hlog : 52 ≤ M.log2 := (Nat.le_log2 (by omega)).2 (by omega)
    have ek : (-(k : Int)).toNat = 0 := by omega
    have ek2 : (- -(k : Int)).toNat = k := by omega
    unfold Ieee.Datum.toInt Ieee.Datum.integral Ieee.Toward.cut Ieee.signed
    simp only [ek, ek2, Nat.shiftLeft_zero, Nat.min_eq_left (show k ≤ M.log2 + 2 by omega), Nat.shiftLeft_eq, Nat.one_mul, hdv, Nat.pow_zero, Nat.mul_one, Bool.toNat_false, Nat.add_zero, Bool.false_eq_true, if_false]
theorem s_frombits (b : Nat) : PC E 16 [.int .u64 (b : Nat)] (.flt b) := by
  refine PC.of_value (xs := #[.int .u64 (b : Nat)]) (v := .float .f64 b) (fun g vs hs h => one_int hs h) (fun w => ?_) (fun g => .flt _)
  rw [run_callFunc_extern (P := E.P) Tryz.func16 (by kernel_rfl) (by kernel_rfl) (by kernel_rfl) (e := Extern.MathFloatBits.float64frombits) (by kernel_rfl)]
  rfl
theorem fconv_num {m : Nat} (h : m < 9007199254740992) {P : Program} {t : TypeId} (ht : lk P t = .int .u64) : fconv P t (wn m) = some (.int .u64 (m : Nat)) := by
  unfold fconv
  rw [ht]
  simp only [conv_num h]
  rw [if_pos]
  have e1 : IntKind.u64.min = 0 := by decide
  have e2 : IntKind.u64.max = 18446744073709551615 := by decide
  rw [e1, e2]
  omega
end Go.Proofs.YtmnojbkakgfinaaGreatDoor
