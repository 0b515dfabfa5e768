import Derived.Test.YtfkgaldbcngliaaGreatDoorLWholeTotal
import Derived.Test.YtfkgaldbcngliaaGreatDoorRoL
open Go PG Go.Proofs
set_option maxRecDepth 100000
set_option linter.unusedSimpArgs false
set_option linter.unusedVariables false
namespace Go.Proofs.YtfkgaldbcngliaaGreatDoor
open XX
theorem toS_zero {d : Dy} (h0 : d.m ≠ 0) {more : Bool} {dir : Int} (h : (toS d more dir).2 = 0) : more = false ∧ d.top ≤ 1023 ∧ hf d (unitOf d.top) = false ∧ bl d (unitOf d.top) = false := by
  by_cases ht : 1023 < d.top
  · rw [toS_big h0 ht] at h; cases h
  have ht : d.top ≤ 1023 := by omega
  rw [toS_no h0 ht] at h
  dsimp only at h
  split at h
  · cases h
  · split at h
    · split at h <;> cases h
    · rename_i hh
      refine ⟨?_, ht, ?_, ?_⟩ <;> revert hh <;> cases hf d (unitOf d.top) <;> cases bl d (unitOf d.top) <;> cases more <;> simp
theorem toS_nobrk {d : Dy} (hok : d.ok) (h0 : d.m ≠ 0) (hb : ¬ brkP d) (more : Bool) (dir : Int) : (toS d more dir).2 ≠ 0 := fun h => by
  obtain ⟨-, ht, h1, h2⟩ := toS_zero h0 h
  refine hb (.inr ?_)
  rw [if_neg (by omega)]
  -- the unit divides it: hf and bl are 0
  refine Int.not_lt.1 fun hlt => ?_
  unfold bl at h2
  have h3 := of_decide_eq_false h2
  have h4 : d.m * 2 ^ (d.e - (unitOf d.top - 1)).toNat % 2 ^ (unitOf d.top - 1 - d.e).toNat = 0 := Decidable.byContradiction h3
  have hod := hok.resolve_left (fun h => h0 (by rw [h]; rfl))
  rw [show (d.e - (unitOf d.top - 1)).toNat = 0 by omega, Nat.pow_zero, Nat.mul_one] at h4
  obtain ⟨n, hn⟩ : ∃ n, (unitOf d.top - 1 - d.e).toNat = n + 1 := ⟨(unitOf d.top - 1 - d.e).toNat - 1, by omega⟩
  rw [hn, Nat.pow_succ] at h4
  have h5 := Nat.dvd_of_mod_eq_zero h4
  have h6 : 2 ∣ d.m := Nat.dvd_trans (Nat.dvd_mul_left 2 (2 ^ n)) h5
  omega
theorem toS_more {d : Dy} (h0 : d.m ≠ 0) (dir : Int) : (toS d true dir).2 ≠ 0 := fun h => absurd (toS_zero h0 h).1 (by decide)
theorem goS_found {A : Nat → (Nat × Nat) × Iv} {ok : Nat → Bool} : ∀ (l : List Nat) (v : (Nat × Nat) × Iv) (b t : Nat), (goS A ok l v b t).2 = 0 → ∃ n ∈ l, ok n = true ∧ (goS A ok l v b t).1.1 = A n
  | [], v, b, t, h => by cases h
  | n :: l, v, b, t, h => by
    unfold goS at h ⊢
    split at h
    · rename_i hk
      rw [if_pos hk]
      exact ⟨n, by simp, hk, rfl⟩
    · rename_i hk
      rw [if_neg hk]
      obtain ⟨m, h1, h2, h3⟩ := goS_found l (A n) n (t + 1) h
      exact ⟨m, by simp [h1], h2, h3⟩
end Go.Proofs.YtfkgaldbcngliaaGreatDoor
