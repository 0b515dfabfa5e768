/- Breakpoints: next.Break, next.Beside, next.Between, and the document's answers for them. -/
import Derived.Test.YtejmlngnpekagaaGreatDoorNx
open Go PG Go.Proofs
set_option maxRecDepth 100000
set_option linter.unusedSimpArgs false
set_option linter.unusedVariables false
namespace Go.Proofs.YtejmlngnpekagaaGreatDoor

/-- Is it a breakpoint? -/
def brkP (d : Dy) : Prop := d.m = 0 ∨ (if 1023 < d.top then d.e = 1024 ∧ d.m = 1 else unitOf d.top - 1 ≤ d.e)
instance (d : Dy) : Decidable (brkP d) := inferInstanceAs (Decidable (_ ∨ _))
theorem bits_one (x : Nat) : bitLen x = 1 ↔ x = 1 := by
  constructor
  · intro h
    have h1 := (bitLen_le x 1).1 (by omega)
    have h2 : ¬ x < 2 ^ 0 := fun h2 => by have := (bitLen_le x 0).2 h2; omega
    omega
  · rintro rfl; decide
/-- The size above a number, if it isn't one. -/
def high (d : Dy) : Nat := if d.m = 0 ∨ 1023 < d.top ∨ unitOf d.top ≤ d.e then low d else low d + 1
theorem low_zero {d : Dy} (h : d.m = 0) : low d = 0 := by
  have e1 : d.top = 0 := if_pos h
  have e2 : flo d (unitOf d.top) = 0 := by unfold flo; rw [h, Nat.zero_mul, Nat.zero_div]
  unfold low
  rw [if_neg (by omega), e2, e1]
  decide
theorem flo_small {d : Dy} (h0 : d.m ≠ 0) {t : Int} (h : d.top < t) : flo d t = 0 := by
  have hs := flo_spec d t (k := min d.e t) (by omega) (by omega)
  have ht := top_at h0 (k := min d.e t) (by omega)
  have h2 : 2 ^ (d.top + 1 - min d.e t).toNat ≤ 2 ^ (t - min d.e t).toNat := Nat.pow_le_pow_right (by decide) (by omega)
  have h3 : flo d t < 1 := Nat.lt_of_mul_lt_mul_right (a := 2 ^ (t - min d.e t).toNat) (by omega)
  omega
theorem exact_low {d : Dy} (h0 : d.m ≠ 0) (ht : d.top ≤ 1023) : (if (mkD false (flo d (unitOf d.top)) (unitOf d.top)).fits then exactS (mkD false (flo d (unitOf d.top)) (unitOf d.top)) else none) = some (low d) := by
  have hp := flo_ok h0 ht
  have hl : low d = packB (flo d (unitOf d.top)) (unitOf d.top) := if_neg (by omega)
  have hI := pack_lt_inf hp
  rw [exact_pack false (by omega) (pack_fd hp), hl]
  by_cases hM : flo d (unitOf d.top) = 0
  · rw [if_pos hM, hM]; rfl
  · rw [if_neg hM, if_neg (by omega)]; rfl
theorem low_le (d : Dy) : low d ≤ INF := bel_low.1
end Go.Proofs.YtejmlngnpekagaaGreatDoor
