/- Dyads as whole numbers of units: sums, products, order. No program stands here. -/
import Derived.Test.YtflpcgcgeffolaaDoorLFloatExact
open Go PG Go.Proofs
set_option maxRecDepth 100000
set_option linter.unusedSimpArgs false
set_option linter.unusedVariables false
namespace Go.Proofs.YtflpcgcgeffolaaDoor

/-- It is bare. -/
def Dy.ok (d : Dy) : Prop := d = .zero ∨ d.m % 2 = 1
/-- It is 0, or its exponent is not below k. -/
def Dy.ge (d : Dy) (k : Int) : Prop := d.m = 0 ∨ k ≤ d.e
theorem Dy.ge.mono {d : Dy} {k k' : Int} (h : d.ge k') (hk : k ≤ k') : d.ge k := h.imp id (fun h => Int.le_trans hk h)
theorem Dy.ge_e (d : Dy) : d.ge d.e := .inr (Int.le_refl _)
theorem Dy.zero_ok : Dy.zero.ok := .inl rfl
theorem Dy.zero_fits : Dy.zero.fits := by decide
theorem Dy.zero_ge (k : Int) : Dy.zero.ge k := .inl rfl
theorem Dy.ok.z {d : Dy} (h : d.ok) (h0 : d.m = 0) : d = .zero := by
  rcases h with h | h
  · exact h
  · omega
theorem Dy.ok.odd {d : Dy} (h : d.ok) (h0 : d.m ≠ 0) : d.m % 2 = 1 := by
  rcases h with h | h
  · exact absurd (by rw [h]; rfl) h0
  · exact h
theorem at_zero {d : Dy} (h : d.m = 0) (k : Int) : d.at k = 0 := by
  unfold Dy.at; rw [h]; simp
theorem at_shift' {d : Dy} {k k' : Int} (h1 : k ≤ k') (h2 : d.ge k') : d.at k = d.at k' * ((2 ^ (k' - k).toNat : Nat) : Int) := by
  rcases h2 with h | h
  · rw [at_zero h, at_zero h, Int.zero_mul]
  · exact at_shift d h1 h
theorem two_pow_pos (n : Nat) : (0 : Int) < ((2 ^ n : Nat) : Int) := by
  have := Nat.two_pow_pos n
  omega
theorem mul_cancel {x y : Int} {n : Nat} (h : x * ((2 ^ n : Nat) : Int) = y * ((2 ^ n : Nat) : Int)) : x = y :=
  Int.eq_of_mul_eq_mul_right (Int.ne_of_gt (two_pow_pos n)) h

/-- Bare dyads worth the same are the same. -/
theorem eq_of_at {a b : Dy} {k : Int} (ha : a.ok) (hb : b.ok) (h1 : a.ge k) (h2 : b.ge k) (h : a.at k = b.at k) : a = b := by
  have sa := at_sg a k
  have sb := at_sg b k
  by_cases za : a.m = 0
  · rw [at_zero za] at h
    have : b.sg = 0 := sb.1.1 h.symm
    have zb : b.m = 0 := Decidable.byContradiction fun hn => by
      unfold Dy.sg at this; rw [if_neg hn] at this; revert this; cases b.s <;> simp
    rw [ha.z za, hb.z zb]
  by_cases zb : b.m = 0
  · rw [at_zero zb] at h
    have : a.sg = 0 := sa.1.1 h
    unfold Dy.sg at this; rw [if_neg za] at this; revert this; cases a.s <;> simp
  have ga : k ≤ a.e := h1.resolve_left za
  have gb : k ≤ b.e := h2.resolve_left zb
  have oa := ha.odd za
  have ob := hb.odd zb
  have hs : a.s = b.s := by
    rw [h] at sa
    have e : a.sg = b.sg := by
      have := sg_range a; have := sg_range b; omega
    unfold Dy.sg at e
    rw [if_neg za, if_neg zb] at e
    revert e
    cases a.s <;> cases b.s <;> simp
  unfold Dy.at at h
  rw [hs] at h
  have h3 : a.m * 2 ^ (a.e - k).toNat = b.m * 2 ^ (b.e - k).toNat := by
    revert h
    cases b.s <;> simp only [Bool.false_eq_true, if_false, if_true] <;> omega
  have h4 : (a.e - k).toNat = (b.e - k).toNat := by
    refine odd_unique (m := a.m / 2) (n := b.m / 2) ?_
    rw [show 2 * (a.m / 2) + 1 = a.m by omega, show 2 * (b.m / 2) + 1 = b.m by omega, Nat.mul_comm, h3, Nat.mul_comm]
  rw [h4] at h3
  have h5 := Nat.eq_of_mul_eq_mul_right (Nat.two_pow_pos _) h3
  have h6 : a.e = b.e := by omega
  clear h h1 h2 h3 h4 ga gb oa ob za zb ha hb sa sb
  obtain ⟨_, _, _⟩ := a
  obtain ⟨_, _, _⟩ := b
  simp only at hs h5 h6
  subst hs h5 h6
  rfl

/-- The order, at any unit that is small enough. -/
theorem cmp_at {a b : Dy} {k : Int} (h1 : a.ge k) (h2 : b.ge k) : cmpD a b = sgn (a.at k) (b.at k) := by
  have e := cmpD_at a b (k := min k (min a.e b.e)) (by omega) (by omega)
  rw [e, at_shift' (k := min k (min a.e b.e)) (k' := k) (by omega) h1, at_shift' (k := min k (min a.e b.e)) (k' := k) (by omega) h2, sgn_mulI _ _ _ (Nat.two_pow_pos _)]
theorem cmp_swap (a b : Dy) : cmpD b a = -cmpD a b := by
  rw [cmp_at (a := b) (b := a) (k := min a.e b.e) (.inr (by omega)) (.inr (by omega)), cmp_at (a := a) (b := b) (k := min a.e b.e) (.inr (by omega)) (.inr (by omega)), sgn_swap]
theorem cmp_self (a : Dy) : cmpD a a = 0 := by
  rw [cmp_at (k := a.e) a.ge_e a.ge_e, sgn_self]
theorem cmp_eq {a b : Dy} (ha : a.ok) (hb : b.ok) : cmpD a b = 0 ↔ a = b := by
  constructor
  · intro h
    rw [cmp_at (k := min a.e b.e) (.inr (by omega)) (.inr (by omega)), sgn_zero] at h
    exact eq_of_at ha hb (.inr (by omega)) (.inr (by omega)) h
  · rintro rfl; exact cmp_self a
theorem cmp_range (a b : Dy) : -1 ≤ cmpD a b ∧ cmpD a b ≤ 1 := sgn_range _ _

/-- The bare dyad that is worth so many units of 2^k. -/
def norm (z : Int) (k : Int) : Dy := mkD (decide (z < 0)) z.natAbs k
theorem norm_ok (z k : Int) : (norm z k).ok := mkD_ok _ _ _
theorem norm_at (z : Int) {k j : Int} (h1 : -2147483648 ≤ k) (h2 : k ≤ 2147483648) (hj : j ≤ k) : (norm z k).at j = z * ((2 ^ (k - j).toNat : Nat) : Int) := by
  rw [norm, mkD_at _ _ h1 h2 hj, Int.natCast_mul]
  generalize ((2 ^ (k - j).toNat : Nat) : Int) = n
  rcases Int.lt_or_le z 0 with h | h
  · rw [decide_eq_true h, if_pos rfl, show (z.natAbs : Int) = -z by omega, Int.neg_mul, Int.neg_mul, Int.one_mul, Int.neg_neg]
  · rw [decide_eq_false (by omega), if_neg (by decide), Int.one_mul, show (z.natAbs : Int) = z by omega]
theorem mkD_ge (s : Bool) (x : Nat) {k : Int} (h1 : -2147483648 ≤ k) (h2 : k ≤ 2147483648) : (mkD s x k).ge k := by
  unfold mkD
  by_cases h : x = 0
  · rw [if_pos h]; exact .inl rfl
  · rw [if_neg h]
    right
    show k ≤ cut k + _
    rw [cut_id h1 h2]
    omega
theorem norm_ge (z : Int) {k : Int} (h1 : -2147483648 ≤ k) (h2 : k ≤ 2147483648) : (norm z k).ge k := mkD_ge _ _ h1 h2
theorem fits_r {d : Dy} (h : d.fits) : -2147483648 ≤ d.e ∧ d.e ≤ 2147483648 := ⟨by have := h.1; omega, by have := h.2; omega⟩
theorem norm_self {d : Dy} (h : d.ok) (hf : d.fits) {k : Int} (hk : -2147483648 ≤ k) (hd : k ≤ d.e) : norm (d.at k) k = d := by
  have hr := fits_r hf
  refine eq_of_at (k := k) (norm_ok _ _) h (norm_ge _ hk (by omega)) (.inr hd) ?_
  rw [norm_at _ hk (by omega) (Int.le_refl _), Int.sub_self]
  simp
/-- A sum. -/
def addS (a b : Dy) : Dy := norm (a.at (min a.e b.e) + b.at (min a.e b.e)) (min a.e b.e)
theorem addS_ok (a b : Dy) : (addS a b).ok := norm_ok _ _
theorem addS_zl {a b : Dy} (hb : b.ok) (fa : a.fits) (fb : b.fits) (h : a.m = 0) : addS a b = b := by
  have ra := fits_r fa
  have rb := fits_r fb
  unfold addS
  rw [at_zero h, Int.zero_add]
  exact norm_self hb fb (by omega) (by omega)
theorem addS_comm (a b : Dy) : addS a b = addS b a := by
  unfold addS
  rw [Int.add_comm, show min a.e b.e = min b.e a.e by omega]
theorem addS_zr {a b : Dy} (ha : a.ok) (fa : a.fits) (fb : b.fits) (h : b.m = 0) : addS a b = a := by rw [addS_comm]; exact addS_zl ha fb fa h
theorem addS_at {a b : Dy} (ha : a.ok) (hb : b.ok) (fa : a.fits) (fb : b.fits) {j : Int} (h1 : a.ge j) (h2 : b.ge j) : (addS a b).at j = a.at j + b.at j := by
  by_cases za : a.m = 0
  · rw [addS_zl hb fa fb za, at_zero za, Int.zero_add]
  by_cases zb : b.m = 0
  · rw [addS_zr ha fa fb zb, at_zero zb, Int.add_zero]
  have g1 := h1.resolve_left za
  have g2 := h2.resolve_left zb
  have ra := fits_r fa
  have rb := fits_r fb
  unfold addS
  rw [norm_at _ (by omega) (by omega) (by omega), Int.add_mul, ← at_shift' (by omega) (.inr (by omega)), ← at_shift' (by omega) (.inr (by omega))]
theorem addS_ge {a b : Dy} (ha : a.ok) (hb : b.ok) (fa : a.fits) (fb : b.fits) {j : Int} (h1 : a.ge j) (h2 : b.ge j) : (addS a b).ge j := by
  by_cases za : a.m = 0
  · rw [addS_zl hb fa fb za]; exact h2
  by_cases zb : b.m = 0
  · rw [addS_zr ha fa fb zb]; exact h1
  have g1 := h1.resolve_left za
  have g2 := h2.resolve_left zb
  have ra := fits_r fa
  have rb := fits_r fb
  exact (norm_ge _ (by omega) (by omega)).mono (by omega)

/-- With the other sign; without a sign; times 2^n; a product. -/
def Dy.neg (d : Dy) : Dy := if d.m = 0 then .zero else ⟨!d.s, d.m, d.e⟩
def Dy.abs (d : Dy) : Dy := ⟨false, d.m, d.e⟩
def Dy.sc (d : Dy) (n : Int) : Dy := if d.m = 0 then .zero else ⟨d.s, d.m, d.e + n⟩
def mulS (a b : Dy) : Dy := if a.m = 0 ∨ b.m = 0 then .zero else ⟨a.s != b.s, a.m * b.m, a.e + b.e⟩
theorem neg_ok {d : Dy} (h : d.ok) : d.neg.ok := by
  unfold Dy.neg
  split
  · exact .inl rfl
  · rename_i h0; exact .inr (h.odd h0)
theorem neg_fits {d : Dy} (h : d.fits) : d.neg.fits := by
  unfold Dy.neg
  split
  · exact Dy.zero_fits
  · exact h
theorem neg_ge {d : Dy} {k : Int} (h : d.ge k) : d.neg.ge k := by
  unfold Dy.neg
  split
  · exact .inl rfl
  · exact h
theorem neg_m (d : Dy) : d.neg.m = d.m := by
  unfold Dy.neg
  split
  · rename_i h; rw [h]; rfl
  · rfl
theorem neg_at (d : Dy) (k : Int) : d.neg.at k = -d.at k := by
  unfold Dy.neg
  split
  · rename_i h; rw [at_zero h, at_zero (d := .zero) rfl]; rfl
  · unfold Dy.at
    cases d.s <;> simp
theorem abs_ge {d : Dy} {k : Int} (h : d.ge k) : d.abs.ge k := h
theorem abs_at (d : Dy) (k : Int) : d.abs.at k = ((d.at k).natAbs : Int) := by
  unfold Dy.abs Dy.at
  dsimp only
  generalize d.m * 2 ^ (d.e - k).toNat = n
  cases d.s <;> simp
theorem abs_ok {d : Dy} (h : d.ok) : d.abs.ok := by
  rcases h with h | h
  · left; rw [h]; rfl
  · exact .inr h
theorem sc_ok {d : Dy} (h : d.ok) (n : Int) : (d.sc n).ok := by
  unfold Dy.sc
  split
  · exact .inl rfl
  · rename_i h0; exact .inr (h.odd h0)
theorem sc_at (d : Dy) (n k : Int) : (d.sc n).at (k + n) = d.at k := by
  unfold Dy.sc
  split
  · rename_i h; rw [at_zero h, at_zero (d := .zero) rfl]
  · unfold Dy.at
    dsimp only
    rw [show d.e + n - (k + n) = d.e - k by omega]
theorem sc_ge {d : Dy} {k n : Int} (h : d.ge k) : (d.sc n).ge (k + n) := by
  unfold Dy.sc
  split
  · exact .inl rfl
  · rename_i h0; right; have := h.resolve_left h0; show k + n ≤ d.e + n; omega
theorem odd_mul {a b : Nat} (h1 : a % 2 = 1) (h2 : b % 2 = 1) : (a * b) % 2 = 1 := by rw [Nat.mul_mod, h1, h2]
theorem mulS_ok {a b : Dy} (ha : a.ok) (hb : b.ok) : (mulS a b).ok := by
  unfold mulS
  split
  · exact .inl rfl
  · rename_i h; exact .inr (odd_mul (ha.odd (fun h0 => h (.inl h0))) (hb.odd (fun h0 => h (.inr h0))))
theorem mulS_ge {a b : Dy} {i j : Int} (h1 : a.ge i) (h2 : b.ge j) : (mulS a b).ge (i + j) := by
  unfold mulS
  split
  · exact .inl rfl
  · rename_i h
    have g1 := h1.resolve_left (fun h0 => h (.inl h0))
    have g2 := h2.resolve_left (fun h0 => h (.inr h0))
    right; show i + j ≤ a.e + b.e; omega
theorem mulS_at {a b : Dy} {i j : Int} (h1 : a.ge i) (h2 : b.ge j) : (mulS a b).at (i + j) = a.at i * b.at j := by
  unfold mulS
  by_cases h : a.m = 0 ∨ b.m = 0
  · rw [if_pos h, at_zero (d := .zero) rfl]
    rcases h with h | h
    · rw [at_zero h, Int.zero_mul]
    · rw [at_zero h, Int.mul_zero]
  · rw [if_neg h]
    have g1 := h1.resolve_left (fun h0 => h (.inl h0))
    have g2 := h2.resolve_left (fun h0 => h (.inr h0))
    unfold Dy.at
    dsimp only
    rw [show (a.e + b.e - (i + j)).toNat = (a.e - i).toNat + (b.e - j).toNat by omega, Nat.pow_add]
    rw [show a.m * b.m * (2 ^ (a.e - i).toNat * 2 ^ (b.e - j).toNat) = a.m * 2 ^ (a.e - i).toNat * (b.m * 2 ^ (b.e - j).toNat) by simp only [Nat.mul_assoc, Nat.mul_comm, Nat.mul_left_comm]]
    generalize a.m * 2 ^ (a.e - i).toNat = x
    generalize b.m * 2 ^ (b.e - j).toNat = y
    rw [Int.natCast_mul]
    cases a.s <;> cases b.s <;> simp [Int.neg_mul, Int.mul_neg, Int.neg_neg]
theorem mulS_comm (a b : Dy) : mulS a b = mulS b a := by
  unfold mulS
  by_cases h : a.m = 0 ∨ b.m = 0
  · rw [if_pos h, if_pos h.symm]
  · rw [if_neg h, if_neg (fun hc => h hc.symm), Nat.mul_comm, Int.add_comm]
    cases a.s <;> cases b.s <;> rfl
theorem neg_neg {d : Dy} (h : d.ok) : d.neg.neg = d :=
  eq_of_at (k := d.e) (neg_ok (neg_ok h)) h (neg_ge (neg_ge d.ge_e)) d.ge_e (by rw [neg_at, neg_at, Int.neg_neg])

/-- The top and the worth. -/
theorem top_at {d : Dy} (h0 : d.m ≠ 0) {k : Int} (hk : k ≤ d.e) : 2 ^ (d.top - k).toNat ≤ (d.at k).natAbs ∧ (d.at k).natAbs < 2 ^ (d.top + 1 - k).toNat := by
  have hb := at_bits d k hk h0
  have ht : d.top = bitLen d.m - 1 + d.e := if_neg h0
  have hp := bitLen_pos h0
  have e : (d.at k).natAbs = d.m * 2 ^ (d.e - k).toNat := by
    unfold Dy.at
    cases d.s <;> simp only [Bool.false_eq_true, if_false, if_true] <;> omega
  rw [e]
  generalize d.m * 2 ^ (d.e - k).toNat = x at *
  have h1 := (bitLen_le x (d.top + 1 - k).toNat).1 (by omega)
  have h2 : ¬ x < 2 ^ (d.top - k).toNat := fun h => by
    have := (bitLen_le _ _).2 h
    omega
  omega
end Go.Proofs.YtflpcgcgeffolaaDoor
