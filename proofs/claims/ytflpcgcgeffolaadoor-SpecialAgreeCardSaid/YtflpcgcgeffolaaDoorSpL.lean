/- Pow of a small whole number is Pown where both tell: plain laws. -/
import Derived.Test.YtflpcgcgeffolaaDoorSpW
import Derived.Test.YtflpcgcgeffolaaDoorSp2
import Derived.Test.YtflpcgcgeffolaaDoorG8
open Go PG Go.Proofs
set_option maxRecDepth 100000
set_option linter.unusedSimpArgs false
set_option linter.unusedVariables false
namespace Go.Proofs.YtflpcgcgeffolaaDoor

theorem tz_shl {x j : Nat} (h : x ≠ 0) : tz (x * 2 ^ j) = tz x + j := by
  obtain ⟨m, hm⟩ := tz_spec h
  refine tz_of (m := m) ?_
  conv => lhs; rw [hm]
  rw [Nat.pow_add]
  simp only [Nat.mul_assoc, Nat.mul_comm, Nat.mul_left_comm]
theorem wbits_facts {k : Int} (h0 : k ≠ 0) (h1 : -1000 < k) (h2 : k < 1000) :
    wbits k < W ∧ kind (wbits k) = 2 ∧ fs (wbits k) = decide (k < 0) ∧ wh (wbits k) = true ∧ od (wbits k) = podd k := by
  have hz : k.natAbs < 1000 := by omega
  have hz0 : k.natAbs ≠ 0 := by omega
  have hbp := bitLen_pos hz0
  have hb10 : bitLen k.natAbs ≤ 10 := (bitLen_le _ 10).2 (by omega)
  have hMb : bitLen (k.natAbs * 2 ^ (53 - bitLen k.natAbs)) = 53 := by rw [bitLen_shl _ _ hz0]; omega
  have hM1 : k.natAbs * 2 ^ (53 - bitLen k.natAbs) < 9007199254740992 := (bitLen_le _ 53).1 (by omega)
  have hM2 : ¬ k.natAbs * 2 ^ (53 - bitLen k.natAbs) < 4503599627370496 := fun h => by have := (bitLen_le _ 52).2 h; omega
  have hM0 : k.natAbs * 2 ^ (53 - bitLen k.natAbs) ≠ 0 := by omega
  have htz := tz_shl (x := k.natAbs) (j := 53 - bitLen k.natAbs) hz0
  obtain ⟨p1, p2, p3⟩ := pack_fields (t := (bitLen k.natAbs : Int) - 53) hM1 (by omega) (by omega) (fun h => absurd h hM2)
  have hpl := packB_lt (unit := (bitLen k.natAbs : Int) - 53) hM1 (by omega) (by omega)
  obtain ⟨w1, w2, w3, w4, w5⟩ := withS_fields (decide (k < 0)) hpl
  have hfm : fm (wbits k) = k.natAbs * 2 ^ (53 - bitLen k.natAbs) := by
    unfold wbits fm; rw [w3, w4]; exact p2
  have hfe : fe (wbits k) = fe (packB (k.natAbs * 2 ^ (53 - bitLen k.natAbs)) ((bitLen k.natAbs : Int) - 53)) := w3
  have hfd : fd (wbits k) = ⟨fs (wbits k), k.natAbs * 2 ^ (53 - bitLen k.natAbs) / 2 ^ tz (k.natAbs * 2 ^ (53 - bitLen k.natAbs)), (tz k.natAbs : Int)⟩ := by
    unfold fd mkD
    rw [hfm, if_neg hM0, hfe, p3, cut_id (by omega) (by omega), htz]
    congr 1
    omega
  obtain ⟨m, hm⟩ := tz_spec hM0
  have hq : k.natAbs * 2 ^ (53 - bitLen k.natAbs) / 2 ^ tz (k.natAbs * 2 ^ (53 - bitLen k.natAbs)) = 2 * m + 1 := Nat.div_eq_of_eq_mul_right (Nat.two_pow_pos _) hm
  rw [hq] at hfd
  have hf0 : fe (wbits k) < 2047 := by rw [hfe]; exact p1
  have hfe0 : fe (wbits k) ≠ 0 := by rw [hfe]; omega
  refine ⟨w1, ?_, w2, ?_, ?_⟩
  · unfold kind
    rw [if_neg (fun h => hfe0 h.1), if_neg hfe0, if_pos hf0]
  · unfold wh
    rw [hfd]
    exact decide_eq_true ⟨hf0, by dsimp only; omega⟩
  · unfold od podd
    rw [hfd]
    refine decide_eq_decide.2 ?_
    dsimp only
    obtain ⟨c, hc⟩ := tz_spec hz0
    constructor
    · intro h
      have ht : tz k.natAbs = 0 := by omega
      rw [ht, Nat.pow_zero, Nat.one_mul] at hc
      omega
    · intro h
      refine ⟨hf0, ?_, by omega⟩
      cases htt : tz k.natAbs with
      | zero => rfl
      | succ j =>
        rw [htt, Nat.pow_succ, Nat.mul_comm (2 ^ j) 2, Nat.mul_assoc] at hc
        omega
/-- The bits of a small whole number, 0 too. -/
def wz (k : Int) : Nat := if k = 0 then 0 else wbits k
theorem agree (x : Nat) {k : Int} (h1 : -1000 < k) (h2 : k < 1000) : ∀ c d, powS x (wz k) = some c → pownS x k = some d → c = d := by
  intro c d hc hd
  unfold wz at hc
  by_cases h0 : k = 0
  · rw [if_pos h0] at hc
    have e1 : kind 0 = 0 := by decide
    unfold powS at hc
    unfold pownS at hd
    rw [e1] at hc
    rw [if_pos h0] at hd
    by_cases hk : kind x = 5
    · rw [if_pos (.inl hk)] at hc
      rw [if_pos hk] at hd
      rw [← Option.some.injEq, ← hc, ← hd]
    · rw [if_neg (by omega), if_pos (.inl rfl)] at hc
      rw [if_neg hk] at hd
      rw [← Option.some.injEq, ← hc, ← hd]
  · rw [if_neg h0] at hc
    obtain ⟨_, e1, e2, e3, e4⟩ := wbits_facts h0 h1 h2
    have ho : kind 4607182418800017408 = 2 := by decide
    unfold powS at hc
    unfold pownS endsS at hd
    rw [e1, e2, e3, e4] at hc
    rw [if_neg h0] at hd
    by_cases hx1 : x = 4607182418800017408
    · subst hx1
      rw [ho] at hd
      simp at hd
    · clear ho
      by_cases hlt : k < 0
      · simp only [hlt, decide_true, hx1] at hc hd
        repeat' split at hc
        all_goals (repeat' split at hd)
        all_goals simp_all
      · simp only [hlt, decide_false, hx1] at hc hd
        repeat' split at hc
        all_goals (repeat' split at hd)
        all_goals simp_all
/-- What is invalid is NaN. -/
theorem pow_inv (x y : Nat) : ∀ b f, powS x y = some (b, f) → (f = 0 ∨ f = 8 ∨ f = 16 ∧ b = bNaN) := by
  intro b f
  unfold powS
  repeat' split
  all_goals (intro h; first | (cases h; done) | (cases h; simp))
theorem pown_inv (x : Nat) (n : Int) : ∀ b f, pownS x n = some (b, f) → (f = 0 ∨ f = 8 ∨ f = 16 ∧ b = bNaN) := by
  intro b f
  unfold pownS endsS
  repeat' split
  all_goals (intro h; first | (cases h; done) | (cases h; simp))
theorem pow_need {x y : Nat} (hx : fe x < 2047) (hy : fe y < 2047) (hn : fs x = false) (hx0 : kind x ≠ 0) (hy0 : kind y ≠ 0) : (powS x y).isSome = decide (x = 4607182418800017408) := by
  have k1 := kind_num x
  have k2 := kind_num y
  unfold powS
  by_cases h : x = 4607182418800017408
  · rw [if_neg (by omega), if_pos (.inr h), decide_eq_true h]; rfl
  · rw [if_neg (by omega), if_neg (fun hh => hh.elim hy0 h), if_neg (by omega), if_neg hx0, if_neg (by omega), if_neg (by omega), if_neg (fun hh => by rw [hn] at hh; cases hh.1), decide_eq_false h]; rfl
end Go.Proofs.YtflpcgcgeffolaaDoor
