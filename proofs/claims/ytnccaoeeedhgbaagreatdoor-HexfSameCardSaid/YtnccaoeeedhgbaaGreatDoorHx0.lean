/- Hex digits as texts: plain laws. No program stands here. -/
import Derived.Test.YtnccaoeeedhgbaaGreatDoorStr2
open Go PG Go.Proofs
set_option maxRecDepth 100000
set_option linter.unusedSimpArgs false
set_option linter.unusedVariables false
namespace Go.Proofs.YtnccaoeeedhgbaaGreatDoor

/-- What a hex digit is worth; 255: it is none. -/
def hv (c : UInt8) : Nat := if 48 ≤ c.toNat ∧ c.toNat ≤ 57 then c.toNat - 48 else if 97 ≤ c.toNat ∧ c.toNat ≤ 102 then c.toNat - 87 else 255
def hx (c : UInt8) : Bool := decide (hv c < 16)
theorem hv_lt {c : UInt8} (h : hx c = true) : hv c < 16 := of_decide_eq_true h
/-- The number of hex digits. -/
def hn (l : List UInt8) : Nat := l.foldl (fun n c => n * 16 + hv c) 0
theorem hn_snoc (l : List UInt8) (c : UInt8) : hn (l ++ [c]) = hn l * 16 + hv c := by unfold hn; rw [List.foldl_append]; rfl
theorem hn_lt : ∀ (l : List UInt8), l.all hx = true → hn l < 16 ^ l.length := by
  intro l
  have gen : ∀ (l : List UInt8) (n k : Nat), l.all hx = true → n < 16 ^ k → l.foldl (fun n c => n * 16 + hv c) n < 16 ^ (k + l.length) := by
    intro l
    induction l with
    | nil => intro n k _ h; exact h
    | cons c l ih =>
      intro n k hl h
      rw [List.all_cons, Bool.and_eq_true] at hl
      have h1 := hv_lt hl.1
      rw [List.foldl_cons, List.length_cons, show k + (l.length + 1) = (k + 1) + l.length by omega]
      refine ih _ _ hl.2 ?_
      rw [Nat.pow_succ]
      have : n + 1 ≤ 16 ^ k := h
      omega
  intro h
  have := gen l 0 0 h (by decide)
  rwa [Nat.zero_add] at this
end Go.Proofs.YtnccaoeeedhgbaaGreatDoor
