/- The document's rounding: planimeterref07's functions. -/
import Derived.Test.YtejmlngnpekagaaDoorG8
open Go PG Go.Proofs
set_option maxRecDepth 100000
set_option linter.unusedSimpArgs false
set_option linter.unusedVariables false
namespace Go.Proofs.YtejmlngnpekagaaDoor

theorem dgB_one {x : Nat} (h0 : x ≠ 0) (h : x < B) : dg B x = [x] := by
  rw [dg_eq B2, if_neg h0, Nat.div_eq_of_lt h, Nat.mod_eq_of_lt h, dg_eq B2, if_pos rfl]
theorem VN_one : VN 1 = .lst 1 [.int .u32 1] := by unfold VN VL V; rw [dgB_one (by decide) (by decide)]; rfl
theorem INF_W {b : Nat} (h : b ≤ INF) : b < W := Nat.lt_of_le_of_lt h (by decide)
/-- The document's sum is worth the sum. -/
theorem addD_ge {a b : Dy} {k : Int} (ha : a.ge k) (hb : b.ge k) : (addD a b).ge k := by
  unfold addD
  by_cases za : a.m = 0
  · rw [if_pos za]; exact hb
  by_cases zb : b.m = 0
  · rw [if_neg za, if_pos zb]; exact ha
  have g1 := ha.resolve_left za
  have g2 := hb.resolve_left zb
  rw [if_neg za, if_neg zb]
  split
  · exact .inr (show k ≤ min a.e b.e by omega)
  · split <;> exact .inr (show k ≤ min a.e b.e by omega)
theorem addD_at {a b : Dy} {k : Int} (ha : a.ge k) (hb : b.ge k) : (addD a b).at k = a.at k + b.at k := by
  by_cases za : a.m = 0
  · rw [at_zero za, Int.zero_add]; unfold addD; rw [if_pos za]
  by_cases zb : b.m = 0
  · rw [at_zero zb, Int.add_zero]; unfold addD; rw [if_neg za, if_pos zb]
  have g1 := ha.resolve_left za
  have g2 := hb.resolve_left zb
  have hge := addD_ge (a := a) (b := b) (k := min a.e b.e) (.inr (by omega)) (.inr (by omega))
  rw [at_shift' (d := addD a b) (k' := min a.e b.e) (by omega) hge, at_shift' (d := a) (k' := min a.e b.e) (by omega) (.inr (by omega)), at_shift' (d := b) (k' := min a.e b.e) (by omega) (.inr (by omega)), ← Int.add_mul]
  congr 1
  unfold addD
  rw [if_neg za, if_neg zb]
  unfold Dy.at
  generalize hk : min a.e b.e = k' at *
  generalize a.m * 2 ^ (a.e - k').toNat = x
  generalize b.m * 2 ^ (b.e - k').toNat = y
  by_cases hs : a.s = b.s
  · rw [if_pos hs, hs]
    dsimp only
    rw [Int.sub_self, show (0 : Int).toNat = 0 from rfl, Nat.pow_zero, Nat.mul_one]
    cases b.s <;> simp <;> omega
  · rw [if_neg hs]
    by_cases hxy : y ≤ x
    · rw [if_pos hxy]
      dsimp only
      rw [Int.sub_self, show (0 : Int).toNat = 0 from rfl, Nat.pow_zero, Nat.mul_one]
      revert hs
      cases a.s <;> cases b.s <;> simp <;> omega
    · rw [if_neg hxy]
      dsimp only
      rw [Int.sub_self, show (0 : Int).toNat = 0 from rfl, Nat.pow_zero, Nat.mul_one]
      revert hs
      cases a.s <;> cases b.s <;> simp <;> omega
theorem addD_bits {a b : Dy} {N : Nat} (h1 : bitLen a.m + (a.e - min a.e b.e).toNat ≤ N) (h2 : bitLen b.m + (b.e - min a.e b.e).toNat ≤ N) : bitLen (addD a b).m ≤ N + 1 := by
  have s1 := bitLen_shl_le a.m (a.e - min a.e b.e).toNat
  have s2 := bitLen_shl_le b.m (b.e - min a.e b.e).toNat
  unfold addD
  generalize a.m * 2 ^ (a.e - min a.e b.e).toNat = x at *
  generalize b.m * 2 ^ (b.e - min a.e b.e).toNat = y at *
  have h3 := bitLen_add (x := x) (y := y) (n := N) (by omega) (by omega)
  have h4 := bitLen_mono (Nat.sub_le x y)
  have h5 := bitLen_mono (Nat.sub_le y x)
  split
  · omega
  · split
    · omega
    · split
      · exact h3
      · split
        · show bitLen (x - y) ≤ _; omega
        · show bitLen (y - x) ≤ _; omega
/-- The middle, as the document makes it: not bare. -/
def mid7 (b : Nat) : Dy := ⟨(addD (fd b) (fd (b + 1))).s, (addD (fd b) (fd (b + 1))).m, (addD (fd b) (fd (b + 1))).e - 1⟩
theorem mid7_ge (b : Nat) : (mid7 b).ge (-1075) := by
  rcases addD_ge (fd_ge b) (fd_ge (b + 1)) with h | h
  · exact .inl h
  · exact .inr (show -1075 ≤ (addD (fd b) (fd (b + 1))).e - 1 by omega)
theorem mid7_at {b : Nat} (hb : b < INF) : (mid7 b).at (-1075) = (mid b).at (-1075) := by
  have hI := INF_lt
  have h := addD_at (fd_ge b) (fd_ge (b + 1))
  rw [fd_at, fd_at, fs_small (by omega), fs_small (by omega)] at h
  rw [mid_sum hb]
  have e : (mid7 b).at (-1075) = (addD (fd b) (fd (b + 1))).at (-1074) := by
    unfold mid7 Dy.at
    dsimp only
    rw [show (addD (fd b) (fd (b + 1))).e - 1 - -1075 = (addD (fd b) (fd (b + 1))).e - -1074 by omega]
  rw [e, h]
  simp
theorem mid7_bits (b : Nat) : bitLen (mid7 b).m ≤ 3001 := by
  have e1 := fd_e b
  have e2 := fd_e (b + 1)
  have b1 := fd_bits b
  have b2 := fd_bits (b + 1)
  exact addD_bits (N := 3000) (by omega) (by omega)
theorem addD_e {a b : Dy} {l h : Int} (ha : l ≤ a.e ∧ a.e ≤ h) (hb : l ≤ b.e ∧ b.e ≤ h) : l ≤ (addD a b).e ∧ (addD a b).e ≤ h := by
  unfold addD
  split
  · exact hb
  · split
    · exact ha
    · split
      · exact ⟨show l ≤ min a.e b.e by omega, show min a.e b.e ≤ h by omega⟩
      · split <;> exact ⟨show l ≤ min a.e b.e by omega, show min a.e b.e ≤ h by omega⟩
theorem mid7_e (b : Nat) : -1075 ≤ (mid7 b).e ∧ (mid7 b).e ≤ 1025 := by
  have := addD_e (fd_e b) (fd_e (b + 1))
  exact ⟨show -1075 ≤ (addD (fd b) (fd (b + 1))).e - 1 by omega, show (addD (fd b) (fd (b + 1))).e - 1 ≤ 1025 by omega⟩
theorem cmp_mid7 {b : Nat} (hb : b < INF) (n : Dy) : cmpD n (mid7 b) = cmpD n (mid b) := by
  have h1 : (mid7 b).ge (min n.e (-1075)) := (mid7_ge b).mono (by omega)
  have h2 : (mid b).ge (min n.e (-1075)) := (mid_ge b).mono (by omega)
  have h3 : n.ge (min n.e (-1075)) := .inr (by omega)
  rw [cmp_at h3 h1, cmp_at h3 h2, at_shift' (d := mid7 b) (k' := -1075) (by omega) (mid7_ge b), at_shift' (d := mid b) (k' := -1075) (by omega) (mid_ge b), mid7_at hb]
end Go.Proofs.YtejmlngnpekagaaDoor
