/- Several parts in one text. -/
import Derived.Test.YtejmlngnpekagaaDoorG7
/- Dyads as whole numbers of units: sums, products, order. No program stands here. -/
section
open Go PG Go.Proofs
set_option maxRecDepth 100000
set_option linter.unusedSimpArgs false
set_option linter.unusedVariables false
namespace Go.Proofs.YtejmlngnpekagaaDoor

/-- It is bare. -/
def Dy.ok (d : Dy) : Prop := d = .zero ∨ d.m % 2 = 1
/-- It is 0, or its exponent is not below k. -/
def Dy.ge (d : Dy) (k : Int) : Prop := d.m = 0 ∨ k ≤ d.e
theorem Dy.ge.mono {d : Dy} {k k' : Int} (h : d.ge k') (hk : k ≤ k') : d.ge k := h.imp id (fun h => Int.le_trans hk h)
theorem Dy.ge_e (d : Dy) : d.ge d.e := .inr (Int.le_refl _)
theorem Dy.zero_ok : Dy.zero.ok := .inl rfl
theorem Dy.zero_fits : Dy.zero.fits := by decide
theorem Dy.zero_ge (k : Int) : Dy.zero.ge k := .inl rfl
theorem Dy.ok.z {d : Dy} (h : d.ok) (h0 : d.m = 0) : d = .zero := by
  rcases h with h | h
  · exact h
  · omega
theorem Dy.ok.odd {d : Dy} (h : d.ok) (h0 : d.m ≠ 0) : d.m % 2 = 1 := by
  rcases h with h | h
  · exact absurd (by rw [h]; rfl) h0
  · exact h
theorem at_zero {d : Dy} (h : d.m = 0) (k : Int) : d.at k = 0 := by
  unfold Dy.at; rw [h]; simp
theorem at_shift' {d : Dy} {k k' : Int} (h1 : k ≤ k') (h2 : d.ge k') : d.at k = d.at k' * ((2 ^ (k' - k).toNat : Nat) : Int) := by
  rcases h2 with h | h
  · rw [at_zero h, at_zero h, Int.zero_mul]
  · exact at_shift d h1 h
theorem two_pow_pos (n : Nat) : (0 : Int) < ((2 ^ n : Nat) : Int) := by
  have := Nat.two_pow_pos n
  omega
theorem mul_cancel {x y : Int} {n : Nat} (h : x * ((2 ^ n : Nat) : Int) = y * ((2 ^ n : Nat) : Int)) : x = y :=
  Int.eq_of_mul_eq_mul_right (Int.ne_of_gt (two_pow_pos n)) h

/-- Bare dyads worth the same are the same. -/
theorem eq_of_at {a b : Dy} {k : Int} (ha : a.ok) (hb : b.ok) (h1 : a.ge k) (h2 : b.ge k) (h : a.at k = b.at k) : a = b := by
  have sa := at_sg a k
  have sb := at_sg b k
  by_cases za : a.m = 0
  · rw [at_zero za] at h
    have : b.sg = 0 := sb.1.1 h.symm
    have zb : b.m = 0 := Decidable.byContradiction fun hn => by
      unfold Dy.sg at this; rw [if_neg hn] at this; revert this; cases b.s <;> simp
    rw [ha.z za, hb.z zb]
  by_cases zb : b.m = 0
  · rw [at_zero zb] at h
    have : a.sg = 0 := sa.1.1 h
    unfold Dy.sg at this; rw [if_neg za] at this; revert this; cases a.s <;> simp
  have ga : k ≤ a.e := h1.resolve_left za
  have gb : k ≤ b.e := h2.resolve_left zb
  have oa := ha.odd za
  have ob := hb.odd zb
  have hs : a.s = b.s := by
    rw [h] at sa
    have e : a.sg = b.sg := by
      have := sg_range a; have := sg_range b; omega
    unfold Dy.sg at e
    rw [if_neg za, if_neg zb] at e
    revert e
    cases a.s <;> cases b.s <;> simp
  unfold Dy.at at h
  rw [hs] at h
  have h3 : a.m * 2 ^ (a.e - k).toNat = b.m * 2 ^ (b.e - k).toNat := by
    revert h
    cases b.s <;> simp only [Bool.false_eq_true, if_false, if_true] <;> omega
  have h4 : (a.e - k).toNat = (b.e - k).toNat := by
    refine odd_unique (m := a.m / 2) (n := b.m / 2) ?_
    rw [show 2 * (a.m / 2) + 1 = a.m by omega, show 2 * (b.m / 2) + 1 = b.m by omega, Nat.mul_comm, h3, Nat.mul_comm]
  rw [h4] at h3
  have h5 := Nat.eq_of_mul_eq_mul_right (Nat.two_pow_pos _) h3
  have h6 : a.e = b.e := by omega
  clear h h1 h2 h3 h4 ga gb oa ob za zb ha hb sa sb
  obtain ⟨_, _, _⟩ := a
  obtain ⟨_, _, _⟩ := b
  simp only at hs h5 h6
  subst hs h5 h6
  rfl

/-- The order, at any unit that is small enough. -/
theorem cmp_at {a b : Dy} {k : Int} (h1 : a.ge k) (h2 : b.ge k) : cmpD a b = sgn (a.at k) (b.at k) := by
  have e := cmpD_at a b (k := min k (min a.e b.e)) (by omega) (by omega)
  rw [e, at_shift' (k := min k (min a.e b.e)) (k' := k) (by omega) h1, at_shift' (k := min k (min a.e b.e)) (k' := k) (by omega) h2, sgn_mulI _ _ _ (Nat.two_pow_pos _)]
theorem cmp_swap (a b : Dy) : cmpD b a = -cmpD a b := by
  rw [cmp_at (a := b) (b := a) (k := min a.e b.e) (.inr (by omega)) (.inr (by omega)), cmp_at (a := a) (b := b) (k := min a.e b.e) (.inr (by omega)) (.inr (by omega)), sgn_swap]
theorem cmp_self (a : Dy) : cmpD a a = 0 := by
  rw [cmp_at (k := a.e) a.ge_e a.ge_e, sgn_self]
theorem cmp_eq {a b : Dy} (ha : a.ok) (hb : b.ok) : cmpD a b = 0 ↔ a = b := by
  constructor
  · intro h
    rw [cmp_at (k := min a.e b.e) (.inr (by omega)) (.inr (by omega)), sgn_zero] at h
    exact eq_of_at ha hb (.inr (by omega)) (.inr (by omega)) h
  · rintro rfl; exact cmp_self a
theorem cmp_range (a b : Dy) : -1 ≤ cmpD a b ∧ cmpD a b ≤ 1 := sgn_range _ _

/-- The bare dyad that is worth so many units of 2^k. -/
def norm (z : Int) (k : Int) : Dy := mkD (decide (z < 0)) z.natAbs k
theorem norm_ok (z k : Int) : (norm z k).ok := mkD_ok _ _ _
theorem norm_at (z : Int) {k j : Int} (h1 : -2147483648 ≤ k) (h2 : k ≤ 2147483648) (hj : j ≤ k) : (norm z k).at j = z * ((2 ^ (k - j).toNat : Nat) : Int) := by
  rw [norm, mkD_at _ _ h1 h2 hj, Int.natCast_mul]
  generalize ((2 ^ (k - j).toNat : Nat) : Int) = n
  rcases Int.lt_or_le z 0 with h | h
  · rw [decide_eq_true h, if_pos rfl, show (z.natAbs : Int) = -z by omega, Int.neg_mul, Int.neg_mul, Int.one_mul, Int.neg_neg]
  · rw [decide_eq_false (by omega), if_neg (by decide), Int.one_mul, show (z.natAbs : Int) = z by omega]
theorem mkD_ge (s : Bool) (x : Nat) {k : Int} (h1 : -2147483648 ≤ k) (h2 : k ≤ 2147483648) : (mkD s x k).ge k := by
  unfold mkD
  by_cases h : x = 0
  · rw [if_pos h]; exact .inl rfl
  · rw [if_neg h]
    right
    show k ≤ cut k + _
    rw [cut_id h1 h2]
    omega
theorem norm_ge (z : Int) {k : Int} (h1 : -2147483648 ≤ k) (h2 : k ≤ 2147483648) : (norm z k).ge k := mkD_ge _ _ h1 h2
theorem fits_r {d : Dy} (h : d.fits) : -2147483648 ≤ d.e ∧ d.e ≤ 2147483648 := ⟨by have := h.1; omega, by have := h.2; omega⟩
theorem norm_self {d : Dy} (h : d.ok) (hf : d.fits) {k : Int} (hk : -2147483648 ≤ k) (hd : k ≤ d.e) : norm (d.at k) k = d := by
  have hr := fits_r hf
  refine eq_of_at (k := k) (norm_ok _ _) h (norm_ge _ hk (by omega)) (.inr hd) ?_
  rw [norm_at _ hk (by omega) (Int.le_refl _), Int.sub_self]
  simp
/-- A sum. -/
def addS (a b : Dy) : Dy := norm (a.at (min a.e b.e) + b.at (min a.e b.e)) (min a.e b.e)
theorem addS_ok (a b : Dy) : (addS a b).ok := norm_ok _ _
theorem addS_zl {a b : Dy} (hb : b.ok) (fa : a.fits) (fb : b.fits) (h : a.m = 0) : addS a b = b := by
  have ra := fits_r fa
  have rb := fits_r fb
  unfold addS
  rw [at_zero h, Int.zero_add]
  exact norm_self hb fb (by omega) (by omega)
theorem addS_comm (a b : Dy) : addS a b = addS b a := by
  unfold addS
  rw [Int.add_comm, show min a.e b.e = min b.e a.e by omega]
theorem addS_zr {a b : Dy} (ha : a.ok) (fa : a.fits) (fb : b.fits) (h : b.m = 0) : addS a b = a := by rw [addS_comm]; exact addS_zl ha fb fa h
theorem addS_at {a b : Dy} (ha : a.ok) (hb : b.ok) (fa : a.fits) (fb : b.fits) {j : Int} (h1 : a.ge j) (h2 : b.ge j) : (addS a b).at j = a.at j + b.at j := by
  by_cases za : a.m = 0
  · rw [addS_zl hb fa fb za, at_zero za, Int.zero_add]
  by_cases zb : b.m = 0
  · rw [addS_zr ha fa fb zb, at_zero zb, Int.add_zero]
  have g1 := h1.resolve_left za
  have g2 := h2.resolve_left zb
  have ra := fits_r fa
  have rb := fits_r fb
  unfold addS
  rw [norm_at _ (by omega) (by omega) (by omega), Int.add_mul, ← at_shift' (by omega) (.inr (by omega)), ← at_shift' (by omega) (.inr (by omega))]
theorem addS_ge {a b : Dy} (ha : a.ok) (hb : b.ok) (fa : a.fits) (fb : b.fits) {j : Int} (h1 : a.ge j) (h2 : b.ge j) : (addS a b).ge j := by
  by_cases za : a.m = 0
  · rw [addS_zl hb fa fb za]; exact h2
  by_cases zb : b.m = 0
  · rw [addS_zr ha fa fb zb]; exact h1
  have g1 := h1.resolve_left za
  have g2 := h2.resolve_left zb
  have ra := fits_r fa
  have rb := fits_r fb
  exact (norm_ge _ (by omega) (by omega)).mono (by omega)

/-- With the other sign; without a sign; times 2^n; a product. -/
def Dy.neg (d : Dy) : Dy := if d.m = 0 then .zero else ⟨!d.s, d.m, d.e⟩
def Dy.abs (d : Dy) : Dy := ⟨false, d.m, d.e⟩
def Dy.sc (d : Dy) (n : Int) : Dy := if d.m = 0 then .zero else ⟨d.s, d.m, d.e + n⟩
def mulS (a b : Dy) : Dy := if a.m = 0 ∨ b.m = 0 then .zero else ⟨a.s != b.s, a.m * b.m, a.e + b.e⟩
theorem neg_ok {d : Dy} (h : d.ok) : d.neg.ok := by
  unfold Dy.neg
  split
  · exact .inl rfl
  · rename_i h0; exact .inr (h.odd h0)
theorem neg_fits {d : Dy} (h : d.fits) : d.neg.fits := by
  unfold Dy.neg
  split
  · exact Dy.zero_fits
  · exact h
theorem neg_ge {d : Dy} {k : Int} (h : d.ge k) : d.neg.ge k := by
  unfold Dy.neg
  split
  · exact .inl rfl
  · exact h
theorem neg_m (d : Dy) : d.neg.m = d.m := by
  unfold Dy.neg
  split
  · rename_i h; rw [h]; rfl
  · rfl
theorem neg_at (d : Dy) (k : Int) : d.neg.at k = -d.at k := by
  unfold Dy.neg
  split
  · rename_i h; rw [at_zero h, at_zero (d := .zero) rfl]; rfl
  · unfold Dy.at
    cases d.s <;> simp
theorem abs_ge {d : Dy} {k : Int} (h : d.ge k) : d.abs.ge k := h
theorem abs_at (d : Dy) (k : Int) : d.abs.at k = ((d.at k).natAbs : Int) := by
  unfold Dy.abs Dy.at
  dsimp only
  generalize d.m * 2 ^ (d.e - k).toNat = n
  cases d.s <;> simp
theorem abs_ok {d : Dy} (h : d.ok) : d.abs.ok := by
  rcases h with h | h
  · left; rw [h]; rfl
  · exact .inr h
theorem sc_ok {d : Dy} (h : d.ok) (n : Int) : (d.sc n).ok := by
  unfold Dy.sc
  split
  · exact .inl rfl
  · rename_i h0; exact .inr (h.odd h0)
theorem sc_at (d : Dy) (n k : Int) : (d.sc n).at (k + n) = d.at k := by
  unfold Dy.sc
  split
  · rename_i h; rw [at_zero h, at_zero (d := .zero) rfl]
  · unfold Dy.at
    dsimp only
    rw [show d.e + n - (k + n) = d.e - k by omega]
theorem sc_ge {d : Dy} {k n : Int} (h : d.ge k) : (d.sc n).ge (k + n) := by
  unfold Dy.sc
  split
  · exact .inl rfl
  · rename_i h0; right; have := h.resolve_left h0; show k + n ≤ d.e + n; omega
theorem odd_mul {a b : Nat} (h1 : a % 2 = 1) (h2 : b % 2 = 1) : (a * b) % 2 = 1 := by rw [Nat.mul_mod, h1, h2]
theorem mulS_ok {a b : Dy} (ha : a.ok) (hb : b.ok) : (mulS a b).ok := by
  unfold mulS
  split
  · exact .inl rfl
  · rename_i h; exact .inr (odd_mul (ha.odd (fun h0 => h (.inl h0))) (hb.odd (fun h0 => h (.inr h0))))
theorem mulS_ge {a b : Dy} {i j : Int} (h1 : a.ge i) (h2 : b.ge j) : (mulS a b).ge (i + j) := by
  unfold mulS
  split
  · exact .inl rfl
  · rename_i h
    have g1 := h1.resolve_left (fun h0 => h (.inl h0))
    have g2 := h2.resolve_left (fun h0 => h (.inr h0))
    right; show i + j ≤ a.e + b.e; omega
theorem mulS_at {a b : Dy} {i j : Int} (h1 : a.ge i) (h2 : b.ge j) : (mulS a b).at (i + j) = a.at i * b.at j := by
  unfold mulS
  by_cases h : a.m = 0 ∨ b.m = 0
  · rw [if_pos h, at_zero (d := .zero) rfl]
    rcases h with h | h
    · rw [at_zero h, Int.zero_mul]
    · rw [at_zero h, Int.mul_zero]
  · rw [if_neg h]
    have g1 := h1.resolve_left (fun h0 => h (.inl h0))
    have g2 := h2.resolve_left (fun h0 => h (.inr h0))
    unfold Dy.at
    dsimp only
    rw [show (a.e + b.e - (i + j)).toNat = (a.e - i).toNat + (b.e - j).toNat by omega, Nat.pow_add]
    rw [show a.m * b.m * (2 ^ (a.e - i).toNat * 2 ^ (b.e - j).toNat) = a.m * 2 ^ (a.e - i).toNat * (b.m * 2 ^ (b.e - j).toNat) by simp only [Nat.mul_assoc, Nat.mul_comm, Nat.mul_left_comm]]
    generalize a.m * 2 ^ (a.e - i).toNat = x
    generalize b.m * 2 ^ (b.e - j).toNat = y
    rw [Int.natCast_mul]
    cases a.s <;> cases b.s <;> simp [Int.neg_mul, Int.mul_neg, Int.neg_neg]
theorem mulS_comm (a b : Dy) : mulS a b = mulS b a := by
  unfold mulS
  by_cases h : a.m = 0 ∨ b.m = 0
  · rw [if_pos h, if_pos h.symm]
  · rw [if_neg h, if_neg (fun hc => h hc.symm), Nat.mul_comm, Int.add_comm]
    cases a.s <;> cases b.s <;> rfl
theorem neg_neg {d : Dy} (h : d.ok) : d.neg.neg = d :=
  eq_of_at (k := d.e) (neg_ok (neg_ok h)) h (neg_ge (neg_ge d.ge_e)) d.ge_e (by rw [neg_at, neg_at, Int.neg_neg])

/-- The top and the worth. -/
theorem top_at {d : Dy} (h0 : d.m ≠ 0) {k : Int} (hk : k ≤ d.e) : 2 ^ (d.top - k).toNat ≤ (d.at k).natAbs ∧ (d.at k).natAbs < 2 ^ (d.top + 1 - k).toNat := by
  have hb := at_bits d k hk h0
  have ht : d.top = bitLen d.m - 1 + d.e := if_neg h0
  have hp := bitLen_pos h0
  have e : (d.at k).natAbs = d.m * 2 ^ (d.e - k).toNat := by
    unfold Dy.at
    cases d.s <;> simp only [Bool.false_eq_true, if_false, if_true] <;> omega
  rw [e]
  generalize d.m * 2 ^ (d.e - k).toNat = x at *
  have h1 := (bitLen_le x (d.top + 1 - k).toNat).1 (by omega)
  have h2 : ¬ x < 2 ^ (d.top - k).toNat := fun h => by
    have := (bitLen_le _ _).2 h
    omega
  omega
end Go.Proofs.YtejmlngnpekagaaDoor
end

/- The bits below a number, and the middle above them: plain laws. No program stands here. -/
section
open Go PG Go.Proofs
set_option maxRecDepth 100000
set_option linter.unusedSimpArgs false
set_option linter.unusedVariables false
namespace Go.Proofs.YtejmlngnpekagaaDoor

/-- Infinity's bits, behind the greatest number: as 2^1024. -/
def INF : Nat := 9218868437227405312
theorem fd_ok' (b : Nat) : (fd b).ok := mkD_ok _ _ _
theorem fd_ge (b : Nat) : (fd b).ge (-1074) := .inr (fd_e b).1
theorem fs_small {b : Nat} (h : b < 9223372036854775808) : fs b = false := decide_eq_false (by omega)
theorem fd_at' {b : Nat} (hb : b < 9223372036854775808) {k : Int} (hk : k ≤ -1074) : (fd b).at k = ((fv b * 2 ^ (-1074 - k).toNat : Nat) : Int) := by
  rw [at_shift' hk (fd_ge b), fd_at, fs_small hb, if_neg (by decide), Int.one_mul, Int.natCast_mul]
theorem fv_mono {a b : Nat} (hb : b < 9223372036854775808) (h : a ≤ b) : fv a ≤ fv b := by
  rcases Nat.lt_or_ge a b with h1 | h1
  · exact Nat.le_of_lt (fv_lt hb h1)
  · rw [show a = b by omega]; exact Nat.le_refl _

/-- The greatest size (infinity's too) that is worth at most n. -/
def Bel (b : Nat) (n : Dy) : Prop := b ≤ INF ∧ cmpD (fd b) n ≤ 0 ∧ (b = INF ∨ 0 < cmpD (fd (b + 1)) n)
theorem INF_lt : INF < 9223372036854775808 := by decide
theorem fd_le_trans {a b : Nat} {n : Dy} (hb : b ≤ INF) (h : a ≤ b) (hc : cmpD (fd b) n ≤ 0) : cmpD (fd a) n ≤ 0 := by
  have hI := INF_lt
  have hK : min n.e (-1074) ≤ -1074 := by omega
  rw [cmp_at (k := min n.e (-1074)) ((fd_ge _).mono hK) (.inr (by omega)), sgn_le] at hc ⊢
  rw [fd_at' (by omega) hK] at hc ⊢
  have := Nat.mul_le_mul_right (2 ^ (-1074 - min n.e (-1074)).toNat) (fv_mono (by omega) h)
  omega
theorem bel_unique {a b : Nat} {n : Dy} (ha : Bel a n) (hb : Bel b n) : a = b := by
  have h1 := ha.1
  have h2 := hb.1
  rcases Nat.lt_trichotomy a b with h | h | h
  · have h3 := ha.2.2.resolve_left (by omega)
    have := fd_le_trans (a := a + 1) hb.1 (by omega) hb.2.1
    omega
  · exact h
  · have h3 := hb.2.2.resolve_left (by omega)
    have := fd_le_trans (a := b + 1) ha.1 (by omega) ha.2.1
    omega

/-- Packed units are worth them; one more unit is one more size. -/
structure PackOk (M : Nat) (t : Int) : Prop where
  lt : M < 9007199254740992
  lo : -1074 ≤ t
  hi : t ≤ 971
  sub : M < 4503599627370496 → t = -1074
theorem pack_succ {M : Nat} {t : Int} (h : PackOk M t) : packB (M + 1) t = packB M t + 1 := by
  have h1 := h.lt
  have h2 := h.lo
  have h3 := h.sub
  unfold packB
  by_cases hM : 4503599627370496 ≤ M
  · rw [if_pos hM, if_pos (by omega)]; omega
  · rw [if_neg hM]
    by_cases h4 : 4503599627370496 ≤ M + 1
    · rw [if_pos h4]
      have := h3 (by omega)
      subst this
      rw [show (-1074 + 1075 : Int).toNat = 1 by decide]
      omega
    · rw [if_neg h4]
theorem pack_lt_inf {M : Nat} {t : Int} (h : PackOk M t) : packB M t < INF := by
  have h1 := h.lt
  have h2 := h.lo
  have h4 := h.hi
  have h3 := h.sub
  show packB M t < 9218868437227405312
  unfold packB
  split <;> omega
theorem pack_fd {M : Nat} {t : Int} (h : PackOk M t) : fd (packB M t) = mkD false M t := by
  have hp := pack_fields h.lt h.lo h.hi h.sub
  have hl := pack_lt_inf h
  have hI := INF_lt
  unfold fd
  rw [fs_small (by omega), hp.2.1, hp.2.2]
theorem pack_fd1 {M : Nat} {t : Int} (h : PackOk M t) : fd (packB M t + 1) = mkD false (M + 1) t := by
  have h1 := h.lt
  have h2 := h.lo
  have h4 := h.hi
  have h3 := h.sub
  rw [← pack_succ h]
  by_cases hM : M + 1 < 9007199254740992
  · exact pack_fd ⟨hM, h2, h4, fun h5 => h3 (by omega)⟩
  · have e : M + 1 = 9007199254740992 := by omega
    rw [e]
    have e1 : packB 9007199254740992 t = (t + 1076).toNat * 4503599627370496 := by
      unfold packB
      rw [if_pos (by omega)]
      omega
    rw [e1]
    have e2 : fe ((t + 1076).toNat * 4503599627370496) = (t + 1076).toNat := by unfold fe; omega
    have e3 : ff ((t + 1076).toNat * 4503599627370496) = 0 := by unfold ff; omega
    have e4 : fm ((t + 1076).toNat * 4503599627370496) = 4503599627370496 := by unfold fm; rw [e2, e3, if_neg (by omega)]
    unfold fd
    rw [fs_small (by omega), e2, e4, show max ((t + 1076).toNat : Int) 1 - 1075 = t + 1 by omega]
    refine eq_of_at (k := t) (mkD_ok _ _ _) (mkD_ok _ _ _) ((mkD_ge _ _ (by omega) (by omega)).mono (by omega)) (mkD_ge _ _ (by omega) (by omega)) ?_
    rw [mkD_at _ _ (by omega) (by omega) (by omega), mkD_at _ _ (by omega) (by omega) (Int.le_refl _), Int.sub_self, show (t + 1 - t).toNat = 1 by omega]
    decide

/-- How many whole units of 2^t are in its size. -/
def flo (d : Dy) (t : Int) : Nat := d.m * 2 ^ (d.e - t).toNat / 2 ^ (t - d.e).toNat
def low (d : Dy) : Nat := if 1023 < d.top then INF else packB (flo d (unitOf d.top)) (unitOf d.top)
theorem flo_spec (d : Dy) (t : Int) {k : Int} (h1 : k ≤ d.e) (h2 : k ≤ t) : flo d t * 2 ^ (t - k).toNat ≤ (d.at k).natAbs ∧ (d.at k).natAbs < (flo d t + 1) * 2 ^ (t - k).toNat := by
  have e : (d.at k).natAbs = d.m * 2 ^ (d.e - k).toNat := by
    unfold Dy.at
    cases d.s <;> simp only [Bool.false_eq_true, if_false, if_true] <;> omega
  rw [e]
  unfold flo
  rcases Int.le_total t d.e with h | h
  · rw [show (t - d.e).toNat = 0 by omega, Nat.pow_zero, Nat.div_one]
    have e2 : 2 ^ (d.e - k).toNat = 2 ^ (d.e - t).toNat * 2 ^ (t - k).toNat := by rw [← Nat.pow_add]; congr 1; omega
    rw [e2, ← Nat.mul_assoc]
    have := Nat.two_pow_pos (t - k).toNat
    refine ⟨Nat.le_refl _, ?_⟩
    rw [Nat.add_mul]
    omega
  · rw [show (d.e - t).toNat = 0 by omega, Nat.pow_zero, Nat.mul_one]
    have e2 : 2 ^ (t - k).toNat = 2 ^ (t - d.e).toNat * 2 ^ (d.e - k).toNat := by rw [← Nat.pow_add]; congr 1; omega
    rw [e2, ← Nat.mul_assoc, ← Nat.mul_assoc]
    have hp := Nat.two_pow_pos (t - d.e).toNat
    constructor
    · exact Nat.mul_le_mul_right _ (Nat.div_mul_le_self _ _)
    · refine Nat.mul_lt_mul_of_pos_right ?_ (Nat.two_pow_pos _)
      have := Nat.lt_mul_div_succ d.m hp
      rw [Nat.mul_comm]
      exact this
theorem flo_ok {d : Dy} (h0 : d.m ≠ 0) (ht : d.top ≤ 1023) : PackOk (flo d (unitOf d.top)) (unitOf d.top) := by
  have hu : unitOf d.top = max (d.top - 52) (-1074) := rfl
  have hr := unit_range ht
  have hs := flo_spec d (unitOf d.top) (k := min d.e (unitOf d.top)) (by omega) (by omega)
  have htop := top_at h0 (k := min d.e (unitOf d.top)) (by omega)
  generalize hk : min d.e (unitOf d.top) = k at *
  generalize unitOf d.top = t at *
  have hP := Nat.two_pow_pos (t - k).toNat
  refine ⟨?_, hr.1, hr.2, fun hlt => ?_⟩
  · have h2 : 2 ^ (d.top + 1 - k).toNat ≤ 9007199254740992 * 2 ^ (t - k).toNat := by
      rw [show (9007199254740992 : Nat) = 2 ^ 53 by decide, ← Nat.pow_add]
      exact Nat.pow_le_pow_right (by decide) (by omega)
    exact Nat.lt_of_mul_lt_mul_right (a := 2 ^ (t - k).toNat) (by omega)
  · refine Decidable.byContradiction fun hne => ?_
    have h2 : 4503599627370496 * 2 ^ (t - k).toNat = 2 ^ (d.top - k).toNat := by
      rw [show (4503599627370496 : Nat) = 2 ^ 52 by decide, ← Nat.pow_add]
      congr 1
      have := hr.1
      have : k ≤ t := by omega
      omega
    have h3 : (flo d t + 1) * 2 ^ (t - k).toNat ≤ 4503599627370496 * 2 ^ (t - k).toNat := Nat.mul_le_mul_right _ (by omega)
    omega
theorem nat_at {d : Dy} (h : d.s = false) (k : Int) : d.at k = ((d.m * 2 ^ (d.e - k).toNat : Nat) : Int) := by
  unfold Dy.at; rw [h]; simp
theorem abs_top (d : Dy) : d.abs.top = d.top := rfl
theorem fd_INF : fd INF = ⟨false, 1, 1024⟩ := by
  have h : fm INF = 2 ^ 52 * (2 * 0 + 1) := by decide
  have ht : tz (2 ^ 52 * (2 * 0 + 1)) = 52 := tz_of (m := 0) rfl
  unfold fd mkD
  rw [h, if_neg (by decide), ht]
  decide
theorem abs_le {d : Dy} {k : Int} (h : k ≤ d.e) : d.abs.ge k := .inr h
theorem abs_0 {d : Dy} {k : Int} (h : d.m = 0) : d.abs.ge k := .inl h
theorem INF_ge {k : Int} (h : k ≤ 1024) : (fd INF).ge k := by rw [fd_INF]; exact .inr h
theorem bel_low {d : Dy} : Bel (low d) d.abs := by
  unfold low
  by_cases ht : 1023 < d.top
  · rw [if_pos ht]
    have h0 : d.m ≠ 0 := fun h => by
      have : d.top = 0 := if_pos h
      omega
    refine ⟨Nat.le_refl _, ?_, .inl rfl⟩
    have h1 := top_at h0 (k := min d.e 0) (by omega)
    rw [cmp_at (k := min d.e 0) (INF_ge (by omega)) (abs_le (d := d) (by omega)), sgn_le, fd_INF, nat_at rfl, abs_at]
    dsimp only
    have : 2 ^ (1024 - min d.e 0).toNat ≤ 2 ^ (d.top - min d.e 0).toNat := Nat.pow_le_pow_right (by decide) (by omega)
    rw [Nat.one_mul]
    omega
  · rw [if_neg ht]
    by_cases h0 : d.m = 0
    · have e1 : d.top = 0 := if_pos h0
      have e2 : flo d (unitOf d.top) = 0 := by unfold flo; rw [h0, Nat.zero_mul, Nat.zero_div]
      rw [e2, e1]
      have e3 : packB 0 (unitOf 0) = 0 := by decide
      rw [e3]
      refine ⟨by decide, ?_, .inr ?_⟩
      · rw [cmp_at (k := -1074) (fd_ge _) (abs_0 h0), sgn_le, at_zero (d := d.abs) h0, fd_at' (by decide) (by decide)]
        decide
      · rw [cmp_at (k := -1074) (fd_ge _) (abs_0 h0), sgn_pos, at_zero (d := d.abs) h0, fd_at' (by decide) (by decide)]
        decide
    · have hp := flo_ok h0 (by omega)
      have hl := pack_lt_inf hp
      have hr := unit_range (d := d) (by omega)
      have hs := flo_spec d (unitOf d.top) (k := min d.e (unitOf d.top)) (by omega) (by omega)
      have hf := pack_fd hp
      have hf1 := pack_fd1 hp
      generalize flo d (unitOf d.top) = M at *
      generalize unitOf d.top = t at *
      have g1 : ∀ x, (mkD false x t).ge (min d.e t) := fun x => (mkD_ge _ _ (by omega) (by omega)).mono (by omega)
      refine ⟨by omega, ?_, .inr ?_⟩
      · rw [hf, cmp_at (k := min d.e t) (g1 _) (abs_le (d := d) (by omega)), sgn_le, mkD_at _ _ (by omega) (by omega) (by omega), abs_at]
        simp only [Bool.false_eq_true, if_false, Int.one_mul]
        omega
      · rw [hf1, cmp_at (k := min d.e t) (g1 _) (abs_le (d := d) (by omega)), sgn_pos, mkD_at _ _ (by omega) (by omega) (by omega), abs_at]
        simp only [Bool.false_eq_true, if_false, Int.one_mul]
        omega

/-- The middle of a size and the next one. -/
def mid (b : Nat) : Dy := ⟨false, 2 * fm b + 1, max (fe b : Int) 1 - 1076⟩
theorem mid_ok (b : Nat) : (mid b).ok := .inr (show (2 * fm b + 1) % 2 = 1 by omega)
theorem mid_fits (b : Nat) : (mid b).fits := by
  have := fe_lt b
  constructor
  · show (-1073741824 : Int) ≤ max (fe b : Int) 1 - 1076
    omega
  · show max (fe b : Int) 1 - 1076 ≤ 1073741824
    omega
theorem mid_bits (b : Nat) : bitLen (mid b).m ≤ 54 := (bitLen_le _ 54).2 (show 2 * fm b + 1 < 18014398509481984 by have := fm_lt b; omega)
theorem mid_ge (b : Nat) : (mid b).ge (-1075) := .inr (show (-1075 : Int) ≤ max (fe b : Int) 1 - 1076 by omega)
theorem mid_at (b : Nat) : (mid b).at (-1075) = (((2 * fm b + 1) * 2 ^ (max (fe b) 1 - 1) : Nat) : Int) := by
  rw [nat_at rfl]
  show (((2 * fm b + 1) * 2 ^ (max (fe b : Int) 1 - 1076 - -1075).toNat : Nat) : Int) = _
  rw [show (max (fe b : Int) 1 - 1076 - -1075).toNat = max (fe b) 1 - 1 by omega]
/-- One size more is one unit more. -/
theorem fv_succ {b : Nat} (hb : b < INF) : fv (b + 1) = (fm b + 1) * 2 ^ (max (fe b) 1 - 1) := by
  have hb' : b < 9218868437227405312 := hb
  have hfe : fe b = b / 4503599627370496 := by unfold fe; omega
  have hff : ff b = b % 4503599627370496 := rfl
  by_cases h : b % 4503599627370496 + 1 < 4503599627370496
  · have e1 : fe (b + 1) = fe b := by rw [hfe]; unfold fe; omega
    have e2 : ff (b + 1) = ff b + 1 := by rw [hff]; unfold ff; omega
    have e3 : fm (b + 1) = fm b + 1 := by
      unfold fm; rw [e1, e2]; split <;> omega
    unfold fv
    rw [e1, e3]
  · have e1 : fe (b + 1) = fe b + 1 := by rw [hfe]; unfold fe; omega
    have e2 : ff (b + 1) = 0 := by unfold ff; omega
    have e3 : fm (b + 1) = 4503599627370496 := by unfold fm; rw [e1, e2, if_neg (by omega)]
    have e4 : ff b = 4503599627370495 := by rw [hff]; omega
    unfold fv
    rw [e1, e3]
    unfold fm
    rw [e4]
    by_cases h0 : fe b = 0
    · rw [if_pos h0, h0]; decide
    · rw [if_neg h0, show max (fe b + 1) 1 - 1 = (max (fe b) 1 - 1) + 1 by omega, Nat.pow_succ]
      generalize 2 ^ (max (fe b) 1 - 1) = P
      omega
theorem mid_sum {b : Nat} (hb : b < INF) : (mid b).at (-1075) = ((fv b + fv (b + 1) : Nat) : Int) := by
  rw [mid_at, fv_succ hb]
  unfold fv
  generalize 2 ^ (max (fe b) 1 - 1) = P
  congr 1
  rw [← Nat.add_mul]
  congr 1
  omega
theorem pack_mid {M : Nat} {t : Int} (h : PackOk M t) : mid (packB M t) = ⟨false, 2 * M + 1, t - 1⟩ := by
  have hp := pack_fields h.lt h.lo h.hi h.sub
  unfold mid
  rw [hp.2.1]
  congr 1
  omega
end Go.Proofs.YtejmlngnpekagaaDoor
end

/- Rounding: what bits and flags a dyad has in a direction; where it lies between two neighbours. No program stands here. -/
section
open Go PG Go.Proofs
set_option maxRecDepth 100000
set_option linter.unusedSimpArgs false
set_option linter.unusedVariables false
namespace Go.Proofs.YtejmlngnpekagaaDoor

/-- Half a unit, and what is below the half. -/
def hf (d : Dy) (t : Int) : Bool := decide (flo d (t - 1) % 2 = 1)
def bl (d : Dy) (t : Int) : Bool := decide (d.m * 2 ^ (d.e - (t - 1)).toNat % 2 ^ (t - 1 - d.e).toNat ≠ 0)

theorem natAbs_at (d : Dy) (k : Int) : (d.at k).natAbs = d.m * 2 ^ (d.e - k).toNat := by
  unfold Dy.at
  cases d.s <;> simp only [Bool.false_eq_true, if_false, if_true] <;> omega
/-- The size, at a small unit: whole halves and a rest. -/
theorem parts_at (d : Dy) (t : Int) {k : Int} (h1 : k ≤ d.e) (h2 : k ≤ t - 1) :
    ∃ r, (d.at k).natAbs = (2 * flo d t + (if hf d t then 1 else 0)) * 2 ^ (t - 1 - k).toNat + r ∧ r < 2 ^ (t - 1 - k).toNat ∧ (r = 0 ↔ bl d t = false) := by
  have hs := flo_spec d t (k := k) h1 (by omega)
  have hs1 := flo_spec d (t - 1) (k := k) h1 h2
  have e2 : 2 ^ (t - k).toNat = 2 * 2 ^ (t - 1 - k).toNat := by rw [show (t - k).toNat = (t - 1 - k).toNat + 1 by omega, Nat.pow_succ, Nat.mul_comm]
  rw [e2, ← Nat.mul_assoc, ← Nat.mul_assoc] at hs
  have hb : ((d.at k).natAbs - flo d (t - 1) * 2 ^ (t - 1 - k).toNat = 0) ↔ bl d t = false := by
    unfold bl
    rw [natAbs_at] at hs1 ⊢
    rw [decide_eq_false_iff_not, ne_eq, Decidable.not_not]
    unfold flo at hs1 ⊢
    rcases Int.le_total (t - 1) d.e with h | h
    · rw [show (t - 1 - d.e).toNat = 0 by omega, Nat.pow_zero, Nat.div_one, Nat.mod_one, Nat.mul_assoc, ← Nat.pow_add, show (d.e - (t - 1)).toNat + (t - 1 - k).toNat = (d.e - k).toNat by omega, Nat.sub_self]
    · rw [show (d.e - (t - 1)).toNat = 0 by omega, Nat.pow_zero, Nat.mul_one] at hs1 ⊢
      have e3 : 2 ^ (t - 1 - k).toNat = 2 ^ (t - 1 - d.e).toNat * 2 ^ (d.e - k).toNat := by rw [← Nat.pow_add]; congr 1; omega
      rw [e3, ← Nat.mul_assoc]
      have hd := Nat.div_add_mod d.m (2 ^ (t - 1 - d.e).toNat)
      have hq := Nat.two_pow_pos (d.e - k).toNat
      generalize 2 ^ (t - 1 - d.e).toNat = P at *
      generalize 2 ^ (d.e - k).toNat = Q at *
      rw [← Nat.sub_mul, Nat.mul_comm (d.m / P) P, show d.m - P * (d.m / P) = d.m % P by omega]
      constructor
      · intro h
        rcases Nat.mul_eq_zero.1 h with h | h
        · exact h
        · omega
      · intro h; rw [h, Nat.zero_mul]
  have hq : flo d (t - 1) = 2 * flo d t + (if hf d t then 1 else 0) := by
    have hP := Nat.two_pow_pos (t - 1 - k).toNat
    have a1 : flo d t * 2 < flo d (t - 1) + 1 := Nat.lt_of_mul_lt_mul_right (a := 2 ^ (t - 1 - k).toNat) (by omega)
    have a2 : flo d (t - 1) < (flo d t + 1) * 2 := Nat.lt_of_mul_lt_mul_right (a := 2 ^ (t - 1 - k).toNat) (by omega)
    unfold hf
    by_cases h : flo d (t - 1) % 2 = 1
    · simp only [h, decide_true, if_true]; omega
    · simp only [h, decide_false]
      simp only [Bool.false_eq_true, if_false]
      omega
  rw [← hq]
  refine ⟨(d.at k).natAbs - flo d (t - 1) * 2 ^ (t - 1 - k).toNat, ?_, ?_, hb⟩
  · omega
  · have := hs1.2
    rw [Nat.add_mul, Nat.one_mul] at this
    omega

/-- Where a size lies between its neighbours. -/
theorem pos_mid {d : Dy} (h0 : d.m ≠ 0) (ht : d.top ≤ 1023) :
    cmpD d.abs (mid (low d)) = (if hf d (unitOf d.top) = true then (if bl d (unitOf d.top) = true then 1 else 0) else -1) ∧
    (cmpD (fd (low d)) d.abs = 0 ↔ hf d (unitOf d.top) = false ∧ bl d (unitOf d.top) = false) := by
  have hp := flo_ok h0 ht
  have hl : low d = packB (flo d (unitOf d.top)) (unitOf d.top) := if_neg (by omega)
  have hr := unit_range ht
  obtain ⟨r, h1, h2, h3⟩ := parts_at d (unitOf d.top) (k := min d.e (unitOf d.top - 1)) (by omega) (by omega)
  have hm := pack_mid hp
  have hf' := pack_fd hp
  rw [hl, hm, hf']
  generalize flo d (unitOf d.top) = M at *
  generalize hf d (unitOf d.top) = H at *
  generalize bl d (unitOf d.top) = B at *
  generalize unitOf d.top = t at *
  have g1 : (mkD false M t).ge (min d.e (t - 1)) := (mkD_ge _ _ (by omega) (by omega)).mono (by omega)
  have g2 : d.abs.ge (min d.e (t - 1)) := .inr (show _ ≤ d.e by omega)
  have g3 : (⟨false, 2 * M + 1, t - 1⟩ : Dy).ge (min d.e (t - 1)) := .inr (show _ ≤ t - 1 by omega)
  rw [cmp_at g2 g3, cmp_at g1 g2, abs_at, mkD_at _ _ (by omega) (by omega) (by omega), nat_at (d := ⟨false, 2 * M + 1, t - 1⟩) rfl, h1]
  simp only [Bool.false_eq_true, if_false, Int.one_mul]
  have e2 : 2 ^ (t - min d.e (t - 1)).toNat = 2 * 2 ^ (t - 1 - min d.e (t - 1)).toNat := by rw [show (t - min d.e (t - 1)).toNat = (t - 1 - min d.e (t - 1)).toNat + 1 by omega, Nat.pow_succ, Nat.mul_comm]
  rw [e2]
  generalize 2 ^ (t - 1 - min d.e (t - 1)).toNat = P at *
  rw [show M * (2 * P) = 2 * M * P by rw [← Nat.mul_assoc, Nat.mul_comm M 2], Nat.add_mul (2 * M), Nat.add_mul (2 * M)]
  generalize 2 * M * P = Q at *
  clear g1 g2 g3 hm hf' hl hp
  constructor
  · unfold sgn
    cases H <;> cases B <;> simp at h3 ⊢ <;> (repeat' split) <;> omega
  · rw [sgn_zero]
    cases H <;> cases B <;> simp at h3 ⊢ <;> omega

/-- Does a direction go away from 0? -/
def upw (dir : Int) (s : Bool) : Bool := (decide (dir = 2) && !s) || (decide (dir = 3) && s)
/-- Is what lies between two rounded away from 0? -/
def awayS (dir : Int) (s odd half below : Bool) : Bool := if dir = 0 then half && (below || odd) else (half || below) && upw dir s
def MAX : Nat := 9218868437227405311
/-- Bits and flags without a sign. -/
def magS (d : Dy) (more : Bool) (dir : Int) : Nat × Nat :=
  if 1023 < d.top then ((if dir = 0 ∨ upw dir d.s = true then INF else MAX), 5)
  else if (if awayS dir d.s (decide (low d % 2 = 1)) (hf d (unitOf d.top)) (bl d (unitOf d.top) || more) = true then low d + 1 else low d) = INF then (INF, 5)
  else ((if awayS dir d.s (decide (low d % 2 = 1)) (hf d (unitOf d.top)) (bl d (unitOf d.top) || more) = true then low d + 1 else low d),
    if (hf d (unitOf d.top) || (bl d (unitOf d.top) || more)) = true then (if d.top < -1022 then 3 else 1) else 0)
/-- Bits and flags of a dyad, and a little more, in a direction. -/
def toS (d : Dy) (more : Bool) (dir : Int) : Nat × Nat := if d.m = 0 then (0, 0) else (withS d.s (magS d more dir).1, (magS d more dir).2)

theorem odd_pack {M : Nat} {t : Int} (h : PackOk M t) : packB M t % 2 = M % 2 := by
  have := h.lo
  unfold packB; split <;> omega
/-- The bits of packed units. -/
theorem fd_withS (s : Bool) {b : Nat} (hb : b < 9223372036854775808) : fd (withS s b) = ⟨s && decide ((fd b).m ≠ 0), (fd b).m, (fd b).e⟩ := by
  have hw := withS_fields s hb
  have hfm : fm (withS s b) = fm b := by unfold fm; rw [hw.2.2.1, hw.2.2.2.1]
  unfold fd
  rw [hfm, hw.2.1, hw.2.2.1, fs_small hb]
  generalize max (fe b : Int) 1 - 1075 = t
  unfold mkD
  by_cases hx : fm b = 0
  · simp only [hx, if_true]; cases s <;> rfl
  · simp only [hx, if_false]
    obtain ⟨m, hm⟩ := tz_spec hx
    have : fm b / 2 ^ tz (fm b) = 2 * m + 1 := Nat.div_eq_of_eq_mul_right (Nat.two_pow_pos _) hm
    rw [this]
    simp
theorem mkD_sw (s : Bool) (x : Nat) (e : Int) : (mkD s x e).m = (mkD false x e).m ∧ (mkD s x e).e = (mkD false x e).e := by
  unfold mkD; split <;> exact ⟨rfl, rfl⟩
theorem fd_inj {a b : Nat} (ha : a < 9223372036854775808) (hb : b < 9223372036854775808) (h : fd a = fd b) : a = b := by
  have h1 := fd_cmp ha hb
  rw [h, cmp_self] at h1
  have := (sgn_zero a b).1 h1.symm
  omega
theorem withS_self {b : Nat} (hb : b < W) : withS (fs b) (fsz b) = b := by
  have : b < 18446744073709551616 := hb
  unfold withS fs fsz
  by_cases h : 9223372036854775808 ≤ b
  · rw [decide_eq_true h, if_pos rfl]; omega
  · rw [decide_eq_false h, if_neg (by decide)]; omega
/-- The bits of so many units, with a sign, if there are such. -/
theorem exact_pack (s : Bool) {M v : Nat} {t : Int} (hv : v ≤ INF) (hfd : fd v = mkD false M t) :
    (if (mkD s M t).fits then exactS (mkD s M t) else none) = if M = 0 then some 0 else if v = INF then none else some (withS s v) := by
  have hI : INF = 9218868437227405312 := rfl
  by_cases hM : M = 0
  · rw [if_pos hM, hM]; rfl
  rw [if_neg hM]
  have hm0 : (mkD s M t).m ≠ 0 := by
    rw [mkD, if_neg hM]
    obtain ⟨m, hm⟩ := tz_spec hM
    have : M / 2 ^ tz M = 2 * m + 1 := Nat.div_eq_of_eq_mul_right (Nat.two_pow_pos _) hm
    show M / 2 ^ tz M ≠ 0
    omega
  have hsw := mkD_sw s M t
  have hs : (mkD s M t).s = s := by rw [mkD, if_neg hM]
  rcases exact_cases (mkD_ok s M t) with ⟨b, e1, hb, hfe, hfd2⟩ | ⟨e1, hn⟩
  · rw [e1]
    have hbW : b < 18446744073709551616 := hb
    have hz := fsz_lt b
    have e2 := fd_withS (fs b) hz
    rw [withS_self hb] at e2
    have e3 : fd (fsz b) = fd v := by
      rw [hfd]
      have q1 : (fd (fsz b)).m = (mkD false M t).m := by rw [← hsw.1, ← hfd2, e2]
      have q2 : (fd (fsz b)).e = (mkD false M t).e := by rw [← hsw.2, ← hfd2, e2]
      have q3 : (fd (fsz b)).s = (mkD false M t).s := by
        have : ∀ (x : Nat) (e : Int), (mkD false x e).s = false := fun x e => by unfold mkD; split <;> rfl
        unfold fd; rw [fs_small hz, this, this]
      revert q1 q2 q3
      cases fd (fsz b); cases mkD false M t
      simp only
      rintro rfl rfl rfl; rfl
    have e4 := fd_inj hz (by omega) e3
    have e5 : fs b = s := by
      rw [← hs, ← hfd2]
      have : fm b ≠ 0 := fun h => hm0 (by rw [← hfd2]; unfold fd; rw [h]; rfl)
      unfold fd; rw [mkD, if_neg this]
    rw [if_neg (fun h => by unfold fe at hfe; unfold fsz at e4; omega), ← e4, ← e5, withS_self hb]
  · rw [e1]
    by_cases h : v = INF
    · rw [if_pos h]
    · exfalso
      refine hn (withS s v) ?_ ?_
      · rw [(withS_fields s (by omega)).2.2.1]; unfold fe; omega
      · rw [fd_withS s (by omega), hfd]
        have h4 : (mkD false M t).m ≠ 0 := by rw [← hsw.1]; exact hm0
        rw [decide_eq_true h4, Bool.and_true, ← hsw.1, ← hsw.2]
        revert hs
        cases mkD s M t
        simp only
        rintro rfl; rfl
end Go.Proofs.YtejmlngnpekagaaDoor
end

/- Whatever reads as a dyad: what dyad's functions hand back (Bare, Top, Sign, Of, size, Cmp, Minus, Add, Scale). -/
section
open Go PG Go.Proofs
set_option maxRecDepth 100000
set_option linter.unusedSimpArgs false
set_option linter.unusedVariables false
namespace Go.Proofs.YtejmlngnpekagaaDoor
attribute [local go_sem] Lay2 Lay3 Lay4 Lay5 Lay6 Lay7 Lay8 Lay9 Lay10 Lay11 Lay12 Lay13 Lay14 Lay15 Lay16 Lay17 Lay18 Lay19 Lay21 Lay22 Lay23 Lay24 Lay25 Lay30 Lay33 Lay36 Lay37 Lay46 Lay47 Lay48 Lay53 Lay54 Lay55 Lay59 Lay100 Lay101 Lay127 Lay146 Lay162 Lay168 Lay169 Lay173 Lay185 Lay186 Lay187 Lay188 Lay189 Lay191 Lay192 Lay194 Lay195 Lay196 Lay199 qexec_seq qexec_skip qexec_exit qexec_ret qexec_block qexec_loop qexec_range qexec_cond qexec_region qexec_drawn qops_nil qops_none qops_some put_some put_none pblk_exit pblk_other newDsts_nil inlDsts_nil isInl sget_cons sget_nil qval_some qbool_some qgs_bool qgs_und qfree_some qgrd_true qgrd_false qif_true qif_false qval_ite qval_itn qand_true map_ite map_some' map_none' qdo_move qdo_assign qdo_binOp qdo_pick qdo_unOp qdo_convert qdo_extract qdo_field qdo_fieldAddr qdo_alloc qdo_box qdo_build qdo_buildSlice qdo_load qdo_store qdo_nilCheck qdo_makeFunc qdo_makeSlice qdo_slice qdo_indexAddr qdo_call qcont_val qcont_new qcont_st qcont_app0 qcont_app qcont_inl qcont_call njSV_val njSV_nil njSV_row njSV_ptr njSV_sub binV_val binV_nil binV_nn binV_ptr bin_np bin_nnp nilCmp bin_add bin_sub bin_mul bin_quo bin_rem bin_and bin_or bin_xor bin_andNot bin_eql bin_neq bin_lss bin_leq bin_gtr bin_geq bin_shl bin_shr bin_seql bin_sneq bin_sadd bin_beql bin_aeql bin_aneq eqAnd_some eqCells_nil eqCells_cons fieldTypes isStruct eqCell bin_bneq un_not un_neg nj_ite Nat.beq stepA stepR isNew opSV constSV RV.sv allSome E_mu E_own qkeyIn_none qkeyIn_some qkeyAt_none qkeyAt_some Bool.or_false Bool.false_or Bool.or_true Bool.true_or cst setB res resSV pstart startL killL kill1 eraL frzL svPV rvPV rvInt rvSlice frzOf close closeL pconv pbuiltin pmax2 partPV setCells fillPV zrow bound newSV PV.cells Bk.cells Bk.with SV.key pres presL_nil presL_tmp presL_cell presC2_some cellPV_ptr presC List.toList_toArray List.size_toArray List.getElem?_drop Nat.mul_one Int.toNat_natCast Nat.not_lt_zero Nat.lt_irrefl decide_true decide_false Nat.not_lt Option.some.injEq PV.lst.injEq PV.int.injEq PV.bool.injEq PV.tuple.injEq List.cons.injEq Option.map_some Option.map_none Option.bind_some Option.toList List.map_cons List.map_nil List.nil_append List.cons_append List.append_nil List.zip_cons_cons List.zip_nil_left List.zip_nil_right List.getElem?_cons_zero List.getElem?_cons_succ List.drop_zero List.drop_succ_cons List.take_succ_cons List.take_zero List.set_cons_zero List.set_cons_succ List.length_cons List.length_nil List.length_set List.replicate_one List.replicate_zero bne_self_eq_false beq_self_eq_true Nat.zero_add Nat.add_zero Nat.zero_mul Bool.false_eq_true Bool.true_eq_false Bool.not_true Bool.not_false and_true true_and false_and and_false or_false false_or or_true true_or not_true_eq_false not_false_eq_true ne_eq gt_iff_lt List.mem_cons List.not_mem_nil
attribute [local go_sem ↓] pseq_normal pseq_ret pseq_exit pblk_normal pblk_ret newDsts_cons inlDsts_cons gdst_zero gdst_succ retQ_normal retQ_ret qneed_nil qneed_cons retM_normal retM_ret endR_normal endR_ret endR_exit
attribute [local go_sem] Int.reduceToNat Int.reduceEq Int.reduceNe Int.reduceLT Int.reduceLE Int.reduceNeg Int.reduceAdd Nat.reduceEqDiff Nat.reduceAdd Nat.reduceSub Nat.reduceMul Nat.reduceLeDiff Nat.reduceLT
attribute [local go_sem ↓] reduceIte reduceCtorEq

/-- It reads as the dyad d, bare or not. -/
def RD (p : PV) (d : Dy) : Prop := ∃ (s : Bool) (q : PV) (x : Nat) (e : Int), p = DP s q e ∧ Num q x ∧ bitLen x ≤ 1000000 ∧ d = mkD s x e
theorem RD.ok {p : PV} {d : Dy} (h : RD p d) : d.ok := by
  obtain ⟨s, q, x, e, _, _, _, rfl⟩ := h; exact mkD_ok _ _ _
theorem RD.bits {p : PV} {d : Dy} (h : RD p d) : bitLen d.m ≤ 1000000 := by
  obtain ⟨s, q, x, e, _, _, hb, rfl⟩ := h; exact Nat.le_trans (mkD_bits _ _ _) hb
theorem RD.range {p : PV} {d : Dy} (h : RD p d) : -2147483648 ≤ d.e ∧ d.e ≤ 2148483648 := by
  obtain ⟨s, q, x, e, _, _, hb, rfl⟩ := h; exact mkD_range _ _ _ hb
theorem mkD_m0 {s : Bool} {x : Nat} {e : Int} : (mkD s x e).m = 0 ↔ x = 0 := by
  constructor
  · intro h
    refine Decidable.byContradiction fun hx => ?_
    rw [mkD, if_neg hx] at h
    obtain ⟨m, hm⟩ := tz_spec hx
    have : x / 2 ^ tz x = 2 * m + 1 := Nat.div_eq_of_eq_mul_right (Nat.two_pow_pos _) hm
    have h' : x / 2 ^ tz x = 0 := h
    omega
  · intro h; subst h; rfl
theorem ok_self {d : Dy} (h : d.ok) (h1 : -2147483648 ≤ d.e) (h2 : d.e ≤ 2147483648) : mkD d.s d.m d.e = d := by
  rcases h with h | h
  · rw [h]; rfl
  · exact mkD_self h h1 h2
theorem RD.of {d : Dy} (h : d.ok) (hb : bitLen d.m ≤ 1000000) (h1 : -2147483648 ≤ d.e) (h2 : d.e ≤ 2147483648) : RD d.pv d :=
  ⟨d.s, NN d.m, d.m, d.e, rfl, num_bits hb, hb, (ok_self h h1 h2).symm⟩
theorem RD.fit {d : Dy} (h : d.ok) (hb : bitLen d.m ≤ 1000000) (hf : d.fits) : RD d.pv d := RD.of h hb (fits_r hf).1 (fits_r hf).2
theorem RD.arg {s : Bool} {l : List Nat} {e : Int} (ol : Ok W l) (hl : l.length ≤ 1000) : RD (DP s (NL l) e) (mkD s (vl l) e) :=
  ⟨s, NL l, vl l, e, rfl, num_NL ol (by omega), by have := bits_of_vl ol; omega, rfl⟩
theorem RD.zero : RD Dy.zero.pv .zero := RD.of Dy.zero_ok (by decide) (by decide) (by decide)
/-- A bare dyad with one limb. -/
theorem RD.one {s : Bool} {x : Nat} {e : Int} (hx : x < W) : RD (DP s (.lst 1 [.int .u64 (x : Int)]) e) (mkD s x e) :=
  ⟨s, _, x, e, rfl, num_one hx, Nat.le_trans ((bitLen_le _ 64).2 hx) (by decide), rfl⟩
theorem mkD_odd {s : Bool} {x : Nat} {e : Int} (h : x % 2 = 1) (h1 : -2147483648 ≤ e) (h2 : e ≤ 2147483648) : mkD s x e = ⟨s, x, e⟩ := mkD_self (d := ⟨s, x, e⟩) h h1 h2

theorem r_bare {p : PV} {d : Dy} (h : RD p d) : PC E 74 [p] d.pv := by
  obtain ⟨s, q, x, e, rfl, hq, hb, rfl⟩ := h; exact c_bare hq hb s e
def okD (d : Dy) : PV := if d.fits then .tuple [d.pv, .int .i64 0] else .tuple [Dy.zero.pv, .int .i64 2]
theorem okD_ex (d : Dy) : ∃ (s : Bool) (n : Nat) (cs : List PV) (e c : Int), okD d = .tuple [.agg [.bool s, .lst n cs, .int .i64 e], .int .i64 c] := by
  unfold okD; split <;> exact ⟨_, _, _, _, _, rfl⟩
theorem r_Bare {p : PV} {d : Dy} (h : RD p d) : PC E 75 [p] (okD d) := by
  obtain ⟨s, q, x, e, rfl, hq, hb, rfl⟩ := h; exact c_DBare hq hb s e
theorem r_Top {p : PV} {d : Dy} (h : RD p d) : PC E 41 [p] (.tuple [.int .i64 d.top, .bool (decide (d.m ≠ 0))]) := by
  obtain ⟨s, q, x, e, rfl, hq, hb, rfl⟩ := h
  have h := c_Top hq hb s e
  rwa [show decide (x ≠ 0) = decide ((mkD s x e).m ≠ 0) from decide_eq_decide.2 (by rw [ne_eq, ne_eq, mkD_m0])] at h
theorem mkD_s {s : Bool} {x : Nat} {e : Int} (h : x ≠ 0) : (mkD s x e).s = s := by rw [mkD, if_neg h]
theorem r_Sign {p : PV} {d : Dy} (h : RD p d) : PC E 68 [p] (.int .i64 d.sg) := by
  obtain ⟨s, q, x, e, rfl, hq, hb, rfl⟩ := h
  refine PC.cast (c_Sign hq s e) ?_
  unfold Dy.sg
  by_cases hx : x = 0
  · rw [if_pos hx, if_pos (mkD_m0.2 hx)]
  · rw [if_neg hx, if_neg (fun h => hx (mkD_m0.1 h)), mkD_s hx]
theorem r_5Of {p : PV} {d : Dy} (h : RD p d) : PC E 60 [p] d.nv := by
  obtain ⟨s, q, x, e, rfl, hq, hb, rfl⟩ := h; exact c_5Of hq hb s e
theorem r_Exact {p : PV} {d : Dy} (h : RD p d) : PC E 46 [p] (exPV (if d.fits then exactS d else none)) := by
  obtain ⟨s, q, x, e, rfl, hq, hb, rfl⟩ := h; exact c_Exact hq hb s e
theorem r_Make {q : PV} {x : Nat} (hq : Num q x) (hb : bitLen x ≤ 1000000) (s : Bool) (e : Int) : PC E 45 [.bool s, q, .int .i64 e] (okD (mkD s x e)) := c_Make hq hb s e
theorem tab_zeros (x w p : Nat) (hp : p < 64) : ∀ j, j ≤ w → tab W (x * 2 ^ (64 * w + p)) j = List.replicate j 0
  | 0, _ => rfl
  | j + 1, h => by
    rw [tab_succ, tab_zeros x w p hp j (by omega), ← shl_digit x w p j hp, lb_neg _ _ (by omega), lb_neg _ _ (by omega), Nat.zero_mul, Nat.zero_mod, Nat.zero_div, Nat.or_self, List.replicate_succ']

theorem k_widened (x : Nat) (hb : bitLen x ≤ 1000000) (n : Int) (hn : n ≤ 1000000) (hn' : -9223372036854775808 ≤ n) : ∃ q, Num q (x * 2 ^ n.toNat) ∧ PC E 111 [NN x, .int .i64 n] q := by
  by_cases h0 : n ≤ 0
  · refine ⟨NN x, ?_, ?_⟩
    · rw [show n.toNat = 0 by omega, Nat.pow_zero, Nat.mul_one]; exact num_bits hb
    · refine PC.of_body follows Tryd.func111 (by decide +kernel) rfl (by kernel_rfl) (Nat.le_of_ble_eq_true rfl) (walk ?_)
      simp only [NN, NL]
      simp only [Tryd.f111, go_sem]
      refine qif_dt (by omega) ?_
      simp only [Tryd.f111, go_sem]
      rfl
  · obtain ⟨k, rfl⟩ : ∃ k : Nat, n = k := ⟨n.toNat, by omega⟩
    rw [Int.toNat_natCast]
    have hL := w_of_bits (x := x) (n := 15625) (by omega)
    have hlx := (dg_length_le W2 _ x).1 (Nat.le_refl _)
    have od := ok_dg W2 x
    have hv := dv_dg W2 x
    have e1 : IntKind.wrap .i64 ((k : Int).tdiv 64) = ((k / 64 : Nat) : Int) := by
      rw [Int.tdiv_eq_ediv_of_nonneg (by omega), wrap64 (by omega) (by omega)]; omega
    have e2 : (k : Int).tmod 64 = ((k % 64 : Nat) : Int) := by
      rw [Int.tmod_eq_emod_of_nonneg (by omega)]; omega
    have hkk : k = 64 * (k / 64) + k % 64 := by omega
    have hp : k % 64 < 64 := by omega
    have hw : k / 64 ≤ 15625 := by omega
    generalize k / 64 = w at *
    generalize k % 64 = p at *
    have hx : ∀ i, i < (dg W x).length → (U (dg W x))[i]? = some (u (x / W ^ i % W)) := fun i hi => by
      rw [U_get, ← dv_dg W2 x, ← dv_get W0 _ (ok_dg W2 x) i, dv_dg W2, List.getD_eq_getElem?_getD, List.getElem?_eq_getElem hi]; rfl
    generalize hLL : (dg W x).length = L at *
    have hy : x * 2 ^ k < W ^ (w + L + 1) := by
      have h2 : x * 2 ^ k < W ^ L * 2 ^ k := Nat.mul_lt_mul_of_pos_right hlx (Nat.two_pow_pos k)
      refine Nat.lt_of_lt_of_le h2 ?_
      rw [W_pow, W_pow, ← Nat.pow_add]
      exact Nat.pow_le_pow_right (by decide) (by omega)
    have hdig : ∀ i : Nat, (lb x i * 2 ^ p % W) ||| lb x ((i : Int) - 1) / 2 ^ (64 - p) = x * 2 ^ k / W ^ (w + i) % W := fun i => by
      have := shl_digit x w p (w + i) hp
      rw [show ((w + i : Nat) : Int) - w = (i : Int) by omega, ← hkk] at this
      exact this
    have hz := tab_zeros x w p hp w (Nat.le_refl _)
    rw [← hkk] at hz
    have hend : lb x L = 0 := by
      rw [lb_nat, Nat.div_eq_of_lt hlx, Nat.zero_mod]
    refine ⟨NL (tab W (x * 2 ^ k) (w + L + 1)), ⟨_, rfl, ok_tab W0 _ _, (dv_tab _ _).trans (Nat.mod_eq_of_lt hy), by rw [tab_length]; omega⟩, ?_⟩
    refine PC.of_body follows Tryd.func111 (by decide +kernel) rfl (by kernel_rfl) (Nat.le_of_ble_eq_true rfl) (walk ?_)
    simp only [NN, NL, hLL, tab_length]
    simp only [Tryd.f111, e1, e2, go_sem]
    refine qif_df h0 ?_
    simp only [Tryd.f111, e1, e2, go_sem]
    refine qand_i (by omega) ?_
    simp only [Tryd.f111, e1, e2, go_sem]
    let kk : Nat → Nat := fun i => match i with | 0 => 15 | _ + 1 => 31
    refine PLoop.intro (fun i : Nat => ⟨[(5, .row (kk i)), (6, .val (.int .i64 p)), (7, .val (u (lb x ((i : Int) - 1) / 2 ^ (64 - p)))), (18, .val (.lst L (U (dg W x)))), (19, .val (.int .i64 L)), (20, .val (.int .i64 i))],
      [(kk i, (.row 22 1 (w + i) (U (tab W (x * 2 ^ k) (w + i))), false))]⟩) (fun i => i ≤ L) (fun i => L - i) 0 (by omega) ?_ fun i hi => walk ?_
    · rw [Nat.add_zero, hz, lb_neg _ _ (by omega), Nat.zero_div]
      simp [Wk, sget, kk, u, U_replicate]
    have hwi : IntKind.wrap .i64 ((i : Int) + 1) = ((i + 1 : Nat) : Int) := by rw [wrap64 (by omega) (by omega)]; omega
    have f3 : IntKind.wrap .i64 (64 - (p : Int)) = ((64 - p : Nat) : Int) := by rw [wrap64 (by omega) (by omega)]; omega
    have hc : lb x ((i : Int) - 1) / 2 ^ (64 - p) < W := Nat.lt_of_le_of_lt (Nat.div_le_self _ _) (lb_lt _ _)
    have hd := hdig i
    have hl : x / W ^ i % W = lb x i := (lb_nat x i).symm
    have hll : lb x i < W := lb_lt _ _
    have hc' : lb x (((i + 1 : Nat) : Int) - 1) / 2 ^ (64 - p) = lb x i / 2 ^ (64 - p) := by rw [show ((i + 1 : Nat) : Int) - 1 = (i : Int) by omega]
    have hxi := hx i
    rw [hl] at hxi
    generalize lb x ((i : Int) - 1) / 2 ^ (64 - p) = c at *
    have f5 := b_shl (lb x i) p
    have f6 := b_shr hll (64 - p)
    have f7 := b_or (a := lb x i * 2 ^ p % W) (b := c) (Nat.mod_lt _ W0) hc
    rw [hd] at f7
    obtain ⟨g, hg⟩ : ∃ g : Nat → Nat, ∀ j, g j = x * 2 ^ k / W ^ j % W := ⟨_, fun _ => rfl⟩
    rw [← hg] at f7
    have hlast : i = L → c = g (w + L) := fun h => by
      subst h
      rw [hg, ← hd, hend, Nat.zero_mul, Nat.zero_mod, Nat.zero_or]
    generalize hll2 : lb x i = z at *
    have hrow : ∀ j, U (tab W (x * 2 ^ k) j) ++ [PV.int .u64 (g j : Int)] = U (tab W (x * 2 ^ k) (j + 1)) := fun j => by
      rw [tab_succ, ← U_append, hg]; rfl
    obtain ⟨j, hj⟩ : ∃ j, j = i + 1 := ⟨_, rfl⟩
    rcases i with _ | i
    all_goals
      simp only [kk]
      simp only [Tryd.f111, u, go_sem]
      refine qif_d (fun h => ?_) (fun h => ?_)
      · simp only [Tryd.f111, go_sem]
        refine qand_i (by omega) ?_
        simp only [Tryd.f111, go_sem]
        refine qval_i (congrArg (Option.map _) (hxi (by omega))) ?_
        simp only [Tryd.f111, u, f3, f5, f6, f7, go_sem]
        refine qand_i (by first | omega | (simp [V_length, U_length, tab_length, maxLen]; done) | (simp [V_length, U_length, tab_length, maxLen]; omega) | (refine ⟨?_, ?_⟩ <;> first | omega | (simp [V_length, U_length, tab_length, maxLen]; done) | (simp [V_length, U_length, tab_length, maxLen]; omega))) ?_; simp only [Tryd.f111, u, f3, f5, f6, f7, go_sem]
        refine qand_i (by first | omega | (simp [V_length, U_length, tab_length, maxLen]; done) | (simp [V_length, U_length, tab_length, maxLen]; omega) | (refine ⟨?_, ?_⟩ <;> first | omega | (simp [V_length, U_length, tab_length, maxLen]; done) | (simp [V_length, U_length, tab_length, maxLen]; omega))) ?_; simp only [Tryd.f111, u, f3, f5, f6, f7, go_sem]
        refine qand_i (by first | omega | (simp [V_length, U_length, tab_length, maxLen]; done) | (simp [V_length, U_length, tab_length, maxLen]; omega) | (refine ⟨?_, ?_⟩ <;> first | omega | (simp [V_length, U_length, tab_length, maxLen]; done) | (simp [V_length, U_length, tab_length, maxLen]; omega))) ?_; simp only [Tryd.f111, u, f3, f5, f6, f7, hwi, go_sem]
        refine ⟨j, by omega, by omega, ?_⟩
        subst hj
        rw [hc']
        simp [Wk, sget, kk, u, hrow, Nat.add_assoc]
      · simp only [Tryd.f111, go_sem]
        have e := hlast (by omega)
        refine qand_i (by first | omega | (simp [V_length, U_length, tab_length, maxLen]; done) | (simp [V_length, U_length, tab_length, maxLen]; omega) | (refine ⟨?_, ?_⟩ <;> first | omega | (simp [V_length, U_length, tab_length, maxLen]; done) | (simp [V_length, U_length, tab_length, maxLen]; omega))) ?_; simp only [Tryd.f111, go_sem]
        have e3 : L = j - 1 := by omega
        have e4 : NL (tab W (x * 2 ^ k) (w + L + 1)) = .lst (w + L + 1) (U (tab W (x * 2 ^ k) (w + L)) ++ [PV.int .u64 (g (w + L) : Int)]) := by
          rw [hrow, NL, tab_length]
        rw [e4, e, e3, hj]
        rfl

theorem r_Minus {p : PV} {d : Dy} (h : RD p d) : ∃ r, RD r d.neg ∧ (d.fits → r = d.neg.pv) ∧ PC E 26 [p] r := by
  have hok := h.ok
  have hbits := h.bits
  have hrange := h.range
  have k1 := r_bare h
  by_cases h0 : d.m = 0
  · refine ⟨Dy.zero.pv, ?_, ?_, ?_⟩
    · unfold Dy.neg; rw [if_pos h0]; exact RD.zero
    · intro _; unfold Dy.neg; rw [if_pos h0]
    · obtain ⟨s, q, x, e, rfl, hq, hb, hd⟩ := h
      refine PC.of_body follows Tryd.func26 (by decide +kernel) rfl (by kernel_rfl) (Nat.le_of_ble_eq_true rfl) (walk ?_)
      simp only [Dy.pv, DP, NN, NL] at k1 ⊢
      simp only [Tryd.f26, go_sem]
      refine qcall_i (k1) ?_; simp only [Tryd.f26, go_sem]
      refine qif_dt (by rw [h0]; rfl) ?_
      simp only [Tryd.f26, go_sem]
      rfl
  · have k2 : PC E 75 [DP (!d.s) (NN d.m) d.e] (if d.fits then .tuple [d.neg.pv, .int .i64 0] else .tuple [Dy.zero.pv, .int .i64 2]) := by
      have := c_DBare (num_bits (x := d.m) hbits) hbits (!d.s) d.e
      have ht : tz d.m = 0 := tz_of (m := d.m / 2) (by have := hok.odd h0; rw [Nat.pow_zero, Nat.one_mul]; omega)
      have hm : mkD (!d.s) d.m d.e = ⟨!d.s, d.m, cut d.e⟩ := by unfold mkD; rw [if_neg h0, ht]; simp
      rw [hm] at this
      have hc : cut d.e = d.e ∨ (2147483648 < d.e ∧ cut d.e = 2147483648) := by unfold cut; rw [if_neg (by omega)]; split <;> omega
      have hfi : Dy.fits ⟨!d.s, d.m, cut d.e⟩ ↔ d.fits := by
        unfold Dy.fits
        dsimp only
        omega
      by_cases hf : d.fits
      · rw [if_pos (hfi.2 hf)] at this
        rw [if_pos hf]
        have h3 := this
        have := hf.2
        have e1 : cut d.e = d.e := by omega
        unfold Dy.neg
        rw [if_neg h0]
        rwa [e1] at h3
      · rw [if_neg (fun h => hf (hfi.1 h))] at this
        rw [if_neg hf]
        exact this
    obtain ⟨s, q, x, e, rfl, hq, hb, hd⟩ := h
    have hx : x ≠ 0 := fun hx => h0 (by rw [hd, hx]; rfl)
    have hneg : d.neg = mkD (!s) x e := by
      unfold Dy.neg
      rw [if_neg h0, hd]
      unfold mkD
      rw [if_neg hx, if_neg hx]
    by_cases hf : d.fits
    · refine ⟨d.neg.pv, ?_, fun _ => rfl, ?_⟩
      · exact RD.fit (neg_ok hok) (by rw [neg_m]; exact hbits) (neg_fits hf)
      · refine PC.of_body follows Tryd.func26 (by decide +kernel) rfl (by kernel_rfl) (Nat.le_of_ble_eq_true rfl) (walk ?_)
        rw [if_pos hf] at k2
        have e9 : d.neg.pv = DP (!d.s) (NN d.m) d.e := by unfold Dy.neg; rw [if_neg h0]; rfl
        rw [e9] at k2 ⊢
        simp only [Dy.pv, DP, NN, NL] at k1 k2 ⊢
        simp only [Tryd.f26, go_sem]
        refine qcall_i (k1) ?_; simp only [Tryd.f26, go_sem]
        refine qif_df (fun h => h0 (dg_nil (by omega))) ?_
        simp only [Tryd.f26, go_sem]
        refine qcall_i (k2) ?_; simp only [Tryd.f26, go_sem]
        rfl
    · refine ⟨DP (!s) (NN x) e, ?_, fun h => absurd h hf, ?_⟩
      · exact ⟨!s, NN x, x, e, rfl, num_bits hb, hb, hneg⟩
      · refine PC.of_body follows Tryd.func26 (by decide +kernel) rfl (by kernel_rfl) (Nat.le_of_ble_eq_true rfl) (walk ?_)
        rw [if_neg hf] at k2
        have k3 := k_Bare hq
        simp only [Dy.zero, Dy.pv, DP, NN, NL] at k1 k2 k3 ⊢
        simp only [Tryd.f26, go_sem]
        refine qcall_i (k1) ?_; simp only [Tryd.f26, go_sem]
        refine qif_df (fun h => h0 (dg_nil (by omega))) ?_
        simp only [Tryd.f26, go_sem]
        refine qcall_i (k2) ?_; simp only [Tryd.f26, go_sem]
        refine qcall_i (k3) ?_; simp only [Tryd.f26, go_sem]
        rfl

theorem natAbs_at' (d : Dy) (k : Int) : (d.at k).natAbs = d.m * 2 ^ (d.e - k).toNat := by
  unfold Dy.at
  cases d.s <;> simp only [Bool.false_eq_true, if_false, if_true] <;> omega
theorem cmp_abs {a b : Dy} (h : a.sg = b.sg) (h0 : a.m ≠ 0) (h1 : b.m ≠ 0) : cmpD a b = a.sg * cmpD a.abs b.abs := by
  have ga : a.ge (min a.e b.e) := .inr (by omega)
  have gb : b.ge (min a.e b.e) := .inr (by omega)
  rw [cmp_at ga gb, cmp_at (abs_ge ga) (abs_ge gb), abs_at, abs_at]
  have sa := at_sg a (min a.e b.e)
  have sb := at_sg b (min a.e b.e)
  generalize a.at (min a.e b.e) = x at *
  generalize b.at (min a.e b.e) = y at *
  rw [← h] at sb
  unfold sgn
  rcases sg_range a with h2 | h2 | h2 <;> rw [h2] at sa sb ⊢ <;> (repeat' split) <;> omega
theorem top_of {d : Dy} (h : d.m ≠ 0) : d.top = bitLen d.m - 1 + d.e := if_neg h
theorem r_size {p q : PV} {a b : Dy} (ha : RD p a) (hb : RD q b) (za : a.m ≠ 0) (zb : b.m ≠ 0) : PC E 73 [p, q] (.int .i64 (cmpD a.abs b.abs)) := by
  have k1 := r_bare ha
  have k2 := r_bare hb
  have ba := ha.bits
  have bb := hb.bits
  have ra := ha.range
  have rb := hb.range
  have pa := bitLen_pos za
  have pb := bitLen_pos zb
  have ta := top_of za
  have tb := top_of zb
  have k3 := k_Bits (num_bits ba)
  have k4 := k_Bits (num_bits bb)
  have w1 : IntKind.wrap .i64 ((bitLen a.m : Int) + a.e) = bitLen a.m + a.e := wrap64 (by omega) (by omega)
  have w2 : IntKind.wrap .i64 ((bitLen b.m : Int) + b.e) = bitLen b.m + b.e := wrap64 (by omega) (by omega)
  have w3 : IntKind.wrap .i64 ((bitLen a.m : Int) - bitLen b.m) = (bitLen a.m : Int) - bitLen b.m := wrap64 (by omega) (by omega)
  have w4 : IntKind.wrap .i64 (0 - ((bitLen a.m : Int) - bitLen b.m)) = (bitLen b.m : Int) - bitLen a.m := by rw [wrap64 (by omega) (by omega)]; omega
  obtain ⟨q1, n1, k5⟩ := k_widened a.m ba ((bitLen b.m : Int) - bitLen a.m) (by omega) (by omega)
  obtain ⟨q2, n2, k6⟩ := k_widened b.m bb ((bitLen a.m : Int) - bitLen b.m) (by omega) (by omega)
  have k7 := k_Cmp n1 n2
  obtain ⟨s1, P, x1, e1, rfl, -⟩ := ha
  obtain ⟨s2, Q, x2, e2, rfl, -⟩ := hb
  refine PC.of_body follows Tryd.func73 (by decide +kernel) rfl (by kernel_rfl) (Nat.le_of_ble_eq_true rfl) (walk ?_)
  simp only [Dy.pv, DP, NN, NL] at k1 k2 k3 k4 k5 k6 ⊢
  simp only [Tryd.f73, go_sem]
  refine qcall_i (k1) ?_; simp only [Tryd.f73, go_sem]
  refine qcall_i (k2) ?_; simp only [Tryd.f73, go_sem]
  refine qcall_i (k3) ?_; simp only [Tryd.f73, w1, go_sem]
  refine qcall_i (k4) ?_; simp only [Tryd.f73, w1, w2, go_sem]
  refine qif_d (fun h => ?_) (fun h => ?_)
  · simp only [Tryd.f73, go_sem]
    refine qcall_i (c_Compare_int _ _) ?_
    simp only [Tryd.f73, go_sem]
    rw [cmpD_top (a := a.abs) (b := b.abs) za zb rfl (by rw [abs_top, abs_top]; omega), abs_top, abs_top]
    unfold sgn
    show (if _ then _ else _) = if (decide (a.top < b.top) != false) = true then (-1 : Int) else 1
    by_cases hlt : a.top < b.top
    · rw [decide_eq_true hlt, if_pos (by omega)]; rfl
    · rw [decide_eq_false hlt, if_neg (by omega), if_pos (by omega)]; rfl
  · simp only [Tryd.f73, go_sem]
    refine qcall_i (k3) ?_; simp only [Tryd.f73, w3, go_sem]
    refine qcall_i (k4) ?_; simp only [Tryd.f73, w3, w4, go_sem]
    refine qcall_i (k5) ?_; simp only [Tryd.f73, w3, w4, go_sem]
    refine qcall_i (k6) ?_; simp only [Tryd.f73, go_sem]
    refine qcall_i (k7) ?_; simp only [Tryd.f73, go_sem]
    rw [cmp_at (a := a.abs) (b := b.abs) (k := min a.e b.e) (abs_le (by omega)) (abs_le (by omega)), abs_at, abs_at, natAbs_at', natAbs_at']
    rw [show (a.e - min a.e b.e).toNat = ((bitLen b.m : Int) - bitLen a.m).toNat by omega, show (b.e - min a.e b.e).toNat = ((bitLen a.m : Int) - bitLen b.m).toNat by omega]
theorem r_Cmp {p q : PV} {a b : Dy} (ha : RD p a) (hb : RD q b) : PC E 25 [p, q] (.int .i64 (cmpD a b)) := by
  have k1 := r_Sign ha
  have k2 := r_Sign hb
  have k3 := fun za zb => r_size ha hb za zb
  have ra := sg_range a
  have rb := sg_range b
  obtain ⟨s1, P, x1, e1, rfl, -⟩ := ha
  obtain ⟨s2, Q, x2, e2, rfl, -⟩ := hb
  refine PC.of_body follows Tryd.func25 (by decide +kernel) rfl (by kernel_rfl) (Nat.le_of_ble_eq_true rfl) (walk ?_)
  simp only [DP] at k1 k2 k3 ⊢
  simp only [Tryd.f25, go_sem]
  refine qcall_i (k1) ?_; simp only [Tryd.f25, go_sem]
  refine qcall_i (k2) ?_; simp only [Tryd.f25, go_sem]
  by_cases hs : a.sg ≠ b.sg ∨ a.sg = 0
  · rw [cmpD_sg hs]
    have k4 := c_Compare_int a.sg b.sg
    by_cases h3 : a.sg = b.sg
    · refine qif_df (fun h => h h3) ?_
      simp only [Tryd.f25, go_sem]
      refine qif_dt (by omega) ?_
      simp only [Tryd.f25, go_sem]
      refine qcall_i (k4) ?_; simp only [Tryd.f25, go_sem]
    · refine qif_dt h3 ?_
      simp only [Tryd.f25, go_sem]
      refine qcall_i (k4) ?_; simp only [Tryd.f25, go_sem]
  · have za : a.m ≠ 0 := fun h => hs (.inr (by unfold Dy.sg; rw [if_pos h]))
    have zb : b.m ≠ 0 := fun h => hs (by
      have : b.sg = 0 := by unfold Dy.sg; rw [if_pos h]
      omega)
    refine qif_df (by omega) ?_
    simp only [Tryd.f25, go_sem]
    refine qif_df (by omega) ?_
    simp only [Tryd.f25, go_sem]
    refine qcall_i (k3 za zb) ?_; simp only [Tryd.f25, go_sem]
    have hc := cmp_range a.abs b.abs
    rw [cmp_abs (by omega) za zb]
    rcases sg_range a with h | h | h <;> rw [h] <;> exact wrap64 (by omega) (by omega)

/-- May they be added? -/
def addE (a b : Dy) : Prop := a.fits ∧ b.fits ∧ (a.m ≠ 0 → b.m ≠ 0 → max a.top b.top - min a.e b.e ≤ 65535) ∧ (addS a b).fits
instance (a b : Dy) : Decidable (addE a b) := inferInstanceAs (Decidable (_ ∧ _))
def addV (a b : Dy) : PV := if addE a b then .tuple [(addS a b).pv, .int .i64 0] else .tuple [Dy.zero.pv, .int .i64 2]
/-- The sum, as the program makes it. -/
theorem add_same {a b : Dy} (h : a.s = b.s) : mkD a.s (a.m * 2 ^ (a.e - min a.e b.e).toNat + b.m * 2 ^ (b.e - min a.e b.e).toNat) (min a.e b.e) = addS a b := by
  unfold addS norm Dy.at
  rw [← h]
  generalize a.m * 2 ^ (a.e - min a.e b.e).toNat = x
  generalize b.m * 2 ^ (b.e - min a.e b.e).toNat = y
  cases a.s
  · simp only [Bool.false_eq_true, if_false, Int.one_mul]
    rw [decide_eq_false (by omega), show ((x : Int) + (y : Int)).natAbs = x + y by omega]
  · simp only [if_true]
    by_cases h0 : x + y = 0
    · rw [h0, show (-1 * (x : Int) + -1 * (y : Int)) = 0 by omega]; rfl
    · rw [decide_eq_true (show -1 * (x : Int) + -1 * (y : Int) < 0 by omega), show (-1 * (x : Int) + -1 * (y : Int)).natAbs = x + y by omega]
theorem add_diff {a b : Dy} (h : a.s ≠ b.s) (hle : b.m * 2 ^ (b.e - min a.e b.e).toNat ≤ a.m * 2 ^ (a.e - min a.e b.e).toNat) :
    mkD a.s (a.m * 2 ^ (a.e - min a.e b.e).toNat - b.m * 2 ^ (b.e - min a.e b.e).toNat) (min a.e b.e) = addS a b := by
  unfold addS norm Dy.at
  generalize a.m * 2 ^ (a.e - min a.e b.e).toNat = x at *
  generalize b.m * 2 ^ (b.e - min a.e b.e).toNat = y at *
  generalize min a.e b.e = k
  revert h
  cases a.s <;> cases b.s <;> intro h <;> simp only [Bool.false_eq_true, if_false, if_true, Int.one_mul, ne_eq, not_true_eq_false] at h ⊢
  · rw [decide_eq_false (by omega), show ((x : Int) + -1 * (y : Int)).natAbs = x - y by omega]
  · by_cases h0 : x = y
    · rw [h0, Nat.sub_self, show -1 * (y : Int) + (y : Int) = 0 by omega]; rfl
    · rw [decide_eq_true (by omega), show (-1 * (x : Int) + (y : Int)).natAbs = x - y by omega]
theorem r_Add {p q : PV} {a b : Dy} (ha : RD p a) (hb : RD q b) : PC E 67 [p, q] (addV a b) := by
  have k1 := r_Bare ha
  have k2 := r_Bare hb
  have oa := ha.ok
  have ob := hb.ok
  have ba := ha.bits
  have bb := hb.bits
  obtain ⟨s1, P, x1, e1, rfl, -⟩ := ha
  obtain ⟨s2, Q, x2, e2, rfl, -⟩ := hb
  refine PC.of_body follows Tryd.func67 (by decide +kernel) rfl (by kernel_rfl) (Nat.le_of_ble_eq_true rfl) (walk ?_)
  unfold okD at k1 k2
  by_cases fa : a.fits
  case neg =>
    rw [if_neg fa] at k1
    unfold addV
    rw [if_neg (fun h => fa h.1)]
    simp only [Dy.pv, Dy.zero, DP, NN, NL] at k1 ⊢
    simp only [Tryd.f67, go_sem]
    refine qcall_i (k1) ?_; simp only [Tryd.f67, go_sem]
    rfl
  rw [if_pos fa] at k1
  by_cases fb : b.fits
  case neg =>
    rw [if_neg fb] at k2
    unfold addV
    rw [if_neg (fun h => fb h.2.1)]
    simp only [Dy.pv, Dy.zero, DP, NN, NL] at k1 k2 ⊢
    simp only [Tryd.f67, go_sem]
    refine qcall_i (k1) ?_; simp only [Tryd.f67, go_sem]
    refine qcall_i (k2) ?_; simp only [Tryd.f67, go_sem]
    rfl
  rw [if_pos fb] at k2
  have k3 := r_Top (RD.fit oa ba fa)
  have k4 := r_Top (RD.fit ob bb fb)
  by_cases za : a.m = 0
  · have e : addV a b = .tuple [b.pv, .int .i64 0] := by
      unfold addV
      rw [if_pos ⟨fa, fb, fun h => absurd za h, by rw [addS_zl ob fa fb za]; exact fb⟩, addS_zl ob fa fb za]
    rw [e]
    simp only [Dy.pv, Dy.zero, DP, NN, NL] at k1 k2 ⊢
    simp only [Tryd.f67, go_sem]
    refine qcall_i (k1) ?_; simp only [Tryd.f67, go_sem]
    refine qcall_i (k2) ?_; simp only [Tryd.f67, go_sem]
    refine qif_dt (by rw [za]; rfl) ?_
    simp only [Tryd.f67, go_sem]
    rfl
  by_cases zb : b.m = 0
  · have e : addV a b = .tuple [a.pv, .int .i64 0] := by
      unfold addV
      rw [if_pos ⟨fa, fb, fun _ h => absurd zb h, by rw [addS_zr oa fa fb zb]; exact fa⟩, addS_zr oa fa fb zb]
    rw [e]
    simp only [Dy.pv, Dy.zero, DP, NN, NL] at k1 k2 ⊢
    simp only [Tryd.f67, go_sem]
    refine qcall_i (k1) ?_; simp only [Tryd.f67, go_sem]
    refine qcall_i (k2) ?_; simp only [Tryd.f67, go_sem]
    refine qif_df (fun h => za (dg_nil (by omega))) ?_
    simp only [Tryd.f67, go_sem]
    refine qif_dt (by rw [zb]; rfl) ?_
    simp only [Tryd.f67, go_sem]
    rfl
  have fa1 := fa.1
  have fa2 := fa.2
  have fb1 := fb.1
  have fb2 := fb.2
  have ta := top_of za
  have tb := top_of zb
  have pa := bitLen_pos za
  have pb := bitLen_pos zb
  have w1 : IntKind.wrap .i64 (max a.top b.top - min a.e b.e) = max a.top b.top - min a.e b.e := wrap64 (by omega) (by omega)
  have w2 : IntKind.wrap .i64 (a.e - min a.e b.e) = a.e - min a.e b.e := wrap64 (by omega) (by omega)
  have w3 : IntKind.wrap .i64 (b.e - min a.e b.e) = b.e - min a.e b.e := wrap64 (by omega) (by omega)
  simp only [Dy.pv, Dy.zero, DP, NN, NL] at k1 k2 k3 k4 ⊢
  simp only [Tryd.f67, go_sem]
  refine qcall_i (k1) ?_; simp only [Tryd.f67, go_sem]
  refine qcall_i (k2) ?_; simp only [Tryd.f67, go_sem]
  refine qif_df (fun h => za (dg_nil (by omega))) ?_
  simp only [Tryd.f67, go_sem]
  refine qif_df (fun h => zb (dg_nil (by omega))) ?_
  simp only [Tryd.f67, go_sem]
  refine qcall_i (k3) ?_; simp only [Tryd.f67, go_sem]
  refine qcall_i (k4) ?_; simp only [Tryd.f67, w1, go_sem]
  refine qif_d (fun h => ?_) (fun h => ?_)
  · simp only [Tryd.f67, go_sem]
    unfold addV
    rw [if_neg (fun hh => by have := hh.2.2.1 za zb; omega)]
    rfl
  have s1' := bitLen_shl_le a.m (a.e - min a.e b.e).toNat
  have s2' := bitLen_shl_le b.m (b.e - min a.e b.e).toNat
  obtain ⟨q1, n1, k5⟩ := k_widened a.m ba (a.e - min a.e b.e) (by omega) (by omega)
  obtain ⟨q2, n2, k6⟩ := k_widened b.m bb (b.e - min a.e b.e) (by omega) (by omega)
  have hfin : addV a b = okD (addS a b) := by
    unfold addV okD
    by_cases hf : (addS a b).fits
    · rw [if_pos hf, if_pos ⟨fa, fb, fun _ _ => by omega, hf⟩]
    · rw [if_neg hf, if_neg (fun h => hf h.2.2.2)]
  rw [hfin]
  have es := add_same (a := a) (b := b)
  have ed := add_diff (a := a) (b := b)
  have ed' := add_diff (a := b) (b := a)
  rw [show min b.e a.e = min a.e b.e by omega, addS_comm b a] at ed'
  generalize addS a b = s at *
  obtain ⟨S1, S2, S3, S4, S5, hS⟩ := okD_ex s
  generalize a.m * 2 ^ (a.e - min a.e b.e).toNat = x at *
  generalize b.m * 2 ^ (b.e - min a.e b.e).toNat = y at *
  have k7 := k_Add n1 n2
  have k8 := k_Cmp n1 n2
  simp only [NN, NL] at k5 k6 k7
  simp only [Tryd.f67, w2, go_sem]
  refine qcall_i (k5) ?_; simp only [Tryd.f67, w3, go_sem]
  refine qcall_i (k6) ?_; simp only [Tryd.f67, go_sem]
  have bx : bitLen x ≤ 65536 := by omega
  have by' : bitLen y ≤ 65536 := by omega
  have bxy := bitLen_add bx by'
  by_cases hs : a.s = b.s
  · have h6 : (a.s == b.s) = true := by rw [hs]; exact beq_self_eq_true _
    have k9 := r_Make (num_bits (x := x + y) (by omega)) (by omega) a.s (min a.e b.e)
    rw [es hs, hS] at k9
    rw [hS]
    simp only [Tryd.f67, h6, go_sem]
    refine qcall_i (k7) ?_; simp only [Tryd.f67, go_sem]
    refine qcall_i (k9) ?_; simp only [Tryd.f67, go_sem]
  · have h6 : (a.s == b.s) = false := by simpa using hs
    simp only [Tryd.f67, h6, go_sem]
    refine qcall_i (k8) ?_; simp only [Tryd.f67, go_sem]
    by_cases hxy : y ≤ x
    · have k10 := k_Sub n1 n2 hxy
      have b1 := bitLen_mono (Nat.sub_le x y)
      have k9 := r_Make (num_bits (x := x - y) (by omega)) (by omega) a.s (min a.e b.e)
      rw [ed hs hxy, hS] at k9
      rw [hS]
      simp only [NN, NL] at k9 k10
      refine qif_df (by have := sgn_neg x y; omega) ?_
      simp only [Tryd.f67, go_sem]
      refine qcall_i (k10) ?_; simp only [Tryd.f67, go_sem]
      refine qcall_i (k9) ?_; simp only [Tryd.f67, go_sem]
    · have k10 := k_Sub n2 n1 (by omega)
      have b1 := bitLen_mono (Nat.sub_le y x)
      have k9 := r_Make (num_bits (x := y - x) (by omega)) (by omega) b.s (min a.e b.e)
      rw [ed' (fun h => hs h.symm) (by omega), hS] at k9
      rw [hS]
      simp only [NN, NL] at k9 k10
      refine qif_dt (by have := (sgn_neg x y).2 (by omega); omega) ?_
      simp only [Tryd.f67, go_sem]
      refine qcall_i (k10) ?_; simp only [Tryd.f67, go_sem]
      refine qcall_i (k9) ?_; simp only [Tryd.f67, go_sem]

/-- Times a power of two, as the program does it. -/
def scaleV (d : Dy) (n : Int) : PV := if d.fits then okD (d.sc (min (max n (-4294967296)) 4294967296)) else .tuple [Dy.zero.pv, .int .i64 2]
theorem r_Scale {p : PV} {d : Dy} (h : RD p d) (n : Int) : PC E 52 [p, .int .i64 n] (scaleV d n) := by
  have k1 := r_Bare h
  have hok := h.ok
  have hbits := h.bits
  obtain ⟨s, q, x, e, rfl, hq, hb, hd⟩ := h
  refine PC.of_body follows Tryd.func52 (by decide +kernel) rfl (by kernel_rfl) (Nat.le_of_ble_eq_true rfl) (walk ?_)
  unfold okD at k1
  unfold scaleV
  by_cases hf : d.fits
  · rw [if_pos hf] at k1 ⊢
    by_cases h0 : d.m = 0
    · have e1 : d.sc (min (max n (-4294967296)) 4294967296) = .zero := if_pos h0
      rw [e1]
      rw [hok.z h0] at k1
      simp only [Dy.pv, Dy.zero, DP, NN, NL] at k1 ⊢
      simp only [Tryd.f52, go_sem]
      refine qcall_i (k1) ?_; simp only [Tryd.f52, go_sem]
      refine qif_dt (by decide) ?_
      simp only [Tryd.f52, go_sem]
      rfl
    · have f1 := hf.1
      have f2 := hf.2
      have w1 : IntKind.wrap .i64 (d.e + min (max n (-4294967296)) 4294967296) = d.e + min (max n (-4294967296)) 4294967296 := wrap64 (by omega) (by omega)
      have k2 := r_Make (num_bits hbits) hbits d.s (d.e + min (max n (-4294967296)) 4294967296)
      have e2 : okD (mkD d.s d.m (d.e + min (max n (-4294967296)) 4294967296)) = okD (d.sc (min (max n (-4294967296)) 4294967296)) := by
        have ht : tz d.m = 0 := tz_of (m := d.m / 2) (by have := hok.odd h0; rw [Nat.pow_zero, Nat.one_mul]; omega)
        unfold mkD Dy.sc
        rw [if_neg h0, if_neg h0, ht, Nat.pow_zero, Nat.div_one]
        generalize d.e + min (max n (-4294967296)) 4294967296 = t
        rw [show cut t + ((0 : Nat) : Int) = cut t by omega]
        unfold okD
        by_cases hc : -2147483648 ≤ t ∧ t ≤ 2147483648
        · rw [cut_id hc.1 hc.2]
        · have h1 : ¬ Dy.fits ⟨d.s, d.m, t⟩ := fun hh => by have := hh.1; have := hh.2; dsimp only at *; omega
          have h2 : ¬ Dy.fits ⟨d.s, d.m, cut t⟩ := fun hh => by
            have := hh.1; have := hh.2; dsimp only at *
            unfold cut at *
            split at this <;> (try split at this) <;> omega
          rw [if_neg h1, if_neg h2]
      rw [e2] at k2
      generalize hT : min (max n (-4294967296)) 4294967296 = T at *
      obtain ⟨S1, S2, S3, S4, S5, hS⟩ := okD_ex (d.sc T)
      rw [hS] at k2 ⊢
      simp only [Dy.pv, Dy.zero, DP, NN, NL] at k1 k2 ⊢
      simp only [Tryd.f52, go_sem]
      refine qcall_i (k1) ?_; simp only [Tryd.f52, go_sem]
      refine qif_df (fun h => h0 (dg_nil (by omega))) ?_
      simp only [Tryd.f52, hT, w1, go_sem]
      refine qcall_i (k2) ?_; simp only [Tryd.f52, go_sem]
  · rw [if_neg hf] at k1 ⊢
    simp only [Dy.pv, Dy.zero, DP, NN, NL] at k1 ⊢
    simp only [Tryd.f52, go_sem]
    refine qcall_i (k1) ?_; simp only [Tryd.f52, go_sem]
    rfl
end Go.Proofs.YtejmlngnpekagaaDoor
end

/- Bits and what they are worth, there and back: plain laws; float.Dyad's value reads as a dyad. -/
section
open Go PG Go.Proofs
set_option maxRecDepth 100000
set_option linter.unusedSimpArgs false
set_option linter.unusedVariables false
namespace Go.Proofs.YtejmlngnpekagaaDoor

theorem fm_fsz (b : Nat) : fm (fsz b) = fm b ∧ fe (fsz b) = fe b := by
  have e1 : fe (fsz b) = fe b := by unfold fe fsz; omega
  have e2 : ff (fsz b) = ff b := by unfold ff fsz; omega
  unfold fm; rw [e1, e2]; exact ⟨rfl, rfl⟩
theorem fm_zero {b : Nat} (hf : fe b < 2047) : fm b = 0 ↔ fsz b = 0 := by
  unfold fm fe ff fsz at *
  split <;> omega
theorem fsz_INF {b : Nat} : fe b < 2047 ↔ fsz b < INF := by
  have hI : INF = 9218868437227405312 := rfl
  rw [hI]
  unfold fe fsz; omega
theorem fd_abs (b : Nat) : (fd b).abs = fd (fsz b) := by
  obtain ⟨e1, e2⟩ := fm_fsz b
  have h := fs_small (fsz_lt b)
  unfold fd Dy.abs
  rw [e1, e2, h]
  unfold mkD
  split <;> rfl
theorem fd_m0 {b : Nat} (hf : fe b < 2047) : (fd b).m = 0 ↔ fsz b = 0 := by
  unfold fd
  rw [mkD_m0, fm_zero hf]
theorem fd_s {b : Nat} (h : (fd b).m ≠ 0) : (fd b).s = fs b := by
  unfold fd at *
  exact mkD_s (fun h2 => h (by rw [h2]; rfl))
/-- The bits of what some bits are worth. -/
theorem exact_back {b : Nat} (hb : b < W) (hf : fe b < 2047) : (if (fd b).fits then exactS (fd b) else none) = some (if fsz b = 0 then 0 else b) := by
  obtain ⟨e1, e2⟩ := fm_fsz b
  have hI := fsz_INF.1 hf
  have h : fd (fsz b) = mkD false (fm b) (max (fe b : Int) 1 - 1075) := by
    unfold fd; rw [e1, e2, fs_small (fsz_lt b)]
  have k := exact_pack (fs b) (v := fsz b) (by omega) h
  rw [show mkD (fs b) (fm b) (max (fe b : Int) 1 - 1075) = fd b from rfl] at k
  rw [k]
  by_cases h0 : fsz b = 0
  · rw [if_pos h0, if_pos ((fm_zero hf).2 h0)]
  · rw [if_neg h0, if_neg (fun h => h0 ((fm_zero hf).1 h)), if_neg (by omega), withS_self hb]
theorem fsz0 {b : Nat} (hb : b < W) (h : fsz b = 0) : b = 0 ∨ b = 9223372036854775808 := by
  have : b < 18446744073709551616 := hb
  unfold fsz at h; omega
theorem RD.fd (b : Nat) : RD (fd b).pv (fd b) := RD.fit (fd_ok' b) (by have := fd_bits b; omega) (fd_fits b)
theorem r_FDyad {b : Nat} (hb : b < W) : PC E 66 [u b] (.tuple [(if fe b < 2047 then fd b else .zero).pv, .bool (decide (fe b < 2047))]) := by
  refine PC.cast (c_FDyad b hb) ?_
  by_cases h : fe b < 2047
  · rw [if_pos h, if_pos h, decide_eq_true h]
  · rw [if_neg h, if_neg h, decide_eq_false h]
theorem fd_abs_cmp (a b : Nat) : cmpD (fd a).abs (fd b).abs = sgn (fsz a) (fsz b) := by
  rw [fd_abs, fd_abs, fd_cmp (fsz_lt a) (fsz_lt b)]
end Go.Proofs.YtejmlngnpekagaaDoor
end
