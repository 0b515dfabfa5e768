/- Halving between two numbers, toward a root. No program stands here. -/
import Derived.Test.YtejmlngnpekagaaDoorPol2
open Go PG Go.Proofs
set_option maxRecDepth 100000
set_option linter.unusedSimpArgs false
set_option linter.unusedVariables false
namespace Go.Proofs.YtejmlngnpekagaaDoor

theorem ofInt64 (x : Int) : (BitVec.ofInt 64 x).toNat = (x % 18446744073709551616).toNat := by
  rw [BitVec.toNat_ofInt]; rfl
theorem and_one2 (A : Nat) : A &&& 1 = A % 2 := Nat.and_one_is_mod A
/-- Both odd. -/
theorem odd_both (p q : Int) : bits .and .i64 (bits .and .i64 p q) 1 = if p % 2 = 1 ∧ q % 2 = 1 then 1 else 0 := by
  have h1 : bits .and .i64 p q = IntKind.wrap .i64 (((p % 18446744073709551616).toNat &&& (q % 18446744073709551616).toNat : Nat) : Int) := by
    show IntKind.i64.wrap ((BitVec.ofInt 64 p &&& BitVec.ofInt 64 q).toNat : Int) = _
    rw [BitVec.toNat_and, ofInt64, ofInt64]
  have hm : ((p % 18446744073709551616).toNat &&& (q % 18446744073709551616).toNat) % 2 = if p % 2 = 1 ∧ q % 2 = 1 then 1 else 0 := by
    rw [← and_one2, Nat.and_assoc, and_one2 (q % _).toNat]
    rcases Nat.mod_two_eq_zero_or_one (q % 18446744073709551616).toNat with h | h
    · rw [h, Nat.and_zero, if_neg (by omega)]
    · rw [h, and_one2]
      by_cases hp : p % 2 = 1
      · rw [if_pos ⟨hp, by omega⟩]; omega
      · rw [if_neg (fun h => hp h.1)]; omega
  have hA : (p % 18446744073709551616).toNat &&& (q % 18446744073709551616).toNat < 18446744073709551616 := by
    have : (18446744073709551616 : Nat) = 2 ^ 64 := by decide
    rw [this]
    exact Nat.and_lt_two_pow _ (by omega)
  rw [h1]
  generalize (p % 18446744073709551616).toNat &&& (q % 18446744073709551616).toNat = A at *
  show IntKind.i64.wrap ((BitVec.ofInt 64 _ &&& BitVec.ofInt 64 1).toNat : Int) = _
  have e1 : (BitVec.ofInt 64 1).toNat = 1 := by decide
  rw [BitVec.toNat_and, ofInt64, e1, and_one2]
  have e2 : (IntKind.wrap .i64 (A : Int) % 18446744073709551616).toNat = A := by
    rw [IntKind.wrap_i64]; omega
  rw [e2, hm]
  split <;> decide
theorem mid_place {p q : Int} (hp : -9223372036854775808 < p ∧ p < 9223372036854775808) (hq : -9223372036854775808 < q ∧ q < 9223372036854775808) :
    IntKind.wrap .i64 (IntKind.wrap .i64 (p.fdiv (2 ^ min 1 64) + q.fdiv (2 ^ min 1 64)) + bits .and .i64 (bits .and .i64 p q) 1) = (p + q) / 2 := by
  have e : ∀ x : Int, x.fdiv (2 ^ min 1 64) = x / 2 := fun x => by
    rw [Int.fdiv_eq_ediv_of_nonneg _ (by decide)]
    rfl
  have e2 : IntKind.wrap .i64 (p / 2 + q / 2) = p / 2 + q / 2 := wrap64 (by omega) (by omega)
  rw [odd_both, e, e, e2, wrap64 (by split <;> omega) (by split <;> omega)]
  split <;> omega

theorem plc_bitsAt {z : Int} (h : z.natAbs < INF) : plc (bitsAt z) = z ∧ bitsAt z < W ∧ fe (bitsAt z) < 2047 := by
  have hI : INF = 9218868437227405312 := rfl
  obtain ⟨h0, h1, h3, _, h2⟩ := withS_fields (decide (z < 0)) (b := z.natAbs) (by omega)
  refine ⟨?_, h0, ?_⟩
  · unfold plc bitsAt
    rw [h1, h2]
    by_cases hz : z < 0
    · rw [decide_eq_true hz, if_pos rfl]; omega
    · rw [decide_eq_false hz, if_neg (by decide)]; omega
  · unfold bitsAt
    rw [h3]
    unfold fe; omega
theorem plc_fin {b : Nat} (h : fe b < 2047) : -(INF : Int) < plc b ∧ plc b < INF := by
  have := fsz_INF.1 h
  unfold plc
  split <;> omega
/-- Halving: so many steps from two numbers, by the signs at both. -/
def rootS (sg : Nat → Int) (a b : Int) : Nat → Nat → Nat → Nat × Nat
  | 0, lo, hi => (lo, hi)
  | n + 1, lo, hi => if a = 0 then (lo, lo) else if b = 0 then (hi, hi) else if plc hi - plc lo < 2 then (lo, hi)
    else if sg (bitsAt ((plc lo + plc hi) / 2)) = 0 then (bitsAt ((plc lo + plc hi) / 2), bitsAt ((plc lo + plc hi) / 2))
    else if sg (bitsAt ((plc lo + plc hi) / 2)) = a then rootS sg a b n (bitsAt ((plc lo + plc hi) / 2)) hi else rootS sg a b n lo (bitsAt ((plc lo + plc hi) / 2))
/-- A finite number. -/
def fin64 (b : Nat) : Prop := b < W ∧ fe b < 2047
theorem mid_fin {lo hi : Nat} (h1 : fin64 lo) (h2 : fin64 hi) (h : plc lo ≤ plc hi) : fin64 (bitsAt ((plc lo + plc hi) / 2)) ∧ plc (bitsAt ((plc lo + plc hi) / 2)) = (plc lo + plc hi) / 2 := by
  have r1 := plc_fin h1.2
  have r2 := plc_fin h2.2
  obtain ⟨e1, e2, e3⟩ := plc_bitsAt (z := (plc lo + plc hi) / 2) (by omega)
  exact ⟨⟨e2, e3⟩, e1⟩
theorem rootS_prop {sg : Nat → Int} (hsg : ∀ x, -1 ≤ sg x ∧ sg x ≤ 1) {a b : Int} : ∀ (n : Nat) (lo hi : Nat), fin64 lo → fin64 hi → plc lo ≤ plc hi → a = sg lo → a * sg hi ≤ 0 → (b = 0 → sg hi = 0) →
    fin64 (rootS sg a b n lo hi).1 ∧ fin64 (rootS sg a b n lo hi).2 ∧ plc lo ≤ plc (rootS sg a b n lo hi).1 ∧ plc (rootS sg a b n lo hi).1 ≤ plc (rootS sg a b n lo hi).2 ∧ plc (rootS sg a b n lo hi).2 ≤ plc hi ∧
      sg (rootS sg a b n lo hi).1 * sg (rootS sg a b n lo hi).2 ≤ 0 ∧ (plc (rootS sg a b n lo hi).2 - plc (rootS sg a b n lo hi).1 < 2 ∨ (plc (rootS sg a b n lo hi).2 - plc (rootS sg a b n lo hi).1 - 1) * 2 ^ n ≤ plc hi - plc lo - 1) := by
  intro n
  induction n with
  | zero =>
    intro lo hi f1 f2 h ha hs hb
    refine ⟨f1, f2, Int.le_refl _, h, Int.le_refl _, by show sg lo * sg hi ≤ 0; rw [← ha]; exact hs, .inr ?_⟩
    show (plc hi - plc lo - 1) * 2 ^ 0 ≤ _
    rw [Int.pow_zero, Int.mul_one]; exact Int.le_refl _
  | succ n ih =>
    intro lo hi f1 f2 h ha hs hb
    obtain ⟨m1, m2⟩ := mid_fin f1 f2 h
    show _ ∧ _
    unfold rootS
    by_cases c1 : a = 0
    · rw [if_pos c1]
      refine ⟨f1, f1, Int.le_refl _, Int.le_refl _, h, ?_, .inl (by dsimp only; omega)⟩
      dsimp only; rw [← ha, c1]; decide
    rw [if_neg c1]
    by_cases c2 : b = 0
    · rw [if_pos c2]
      refine ⟨f2, f2, h, Int.le_refl _, Int.le_refl _, ?_, .inl (by dsimp only; omega)⟩
      dsimp only; rw [hb c2]; decide
    rw [if_neg c2]
    by_cases c3 : plc hi - plc lo < 2
    · rw [if_pos c3]
      exact ⟨f1, f2, Int.le_refl _, h, Int.le_refl _, by dsimp only; rw [← ha]; exact hs, .inl c3⟩
    rw [if_neg c3]
    generalize hm : bitsAt ((plc lo + plc hi) / 2) = m at *
    have hmr := hsg m
    by_cases c4 : sg m = 0
    · rw [if_pos c4]
      refine ⟨m1, m1, by dsimp only; omega, Int.le_refl _, by dsimp only; omega, ?_, .inl (by dsimp only; omega)⟩
      dsimp only; rw [c4]; decide
    rw [if_neg c4]
    have har := hsg lo
    rw [← ha] at har
    by_cases c5 : sg m = a
    · rw [if_pos c5]
      obtain ⟨g1, g2, g3, g4, g5, g6, g7⟩ := ih m hi m1 f2 (by omega) c5.symm hs hb
      refine ⟨g1, g2, by omega, g4, g5, g6, ?_⟩
      rcases g7 with g7 | g7
      · exact .inl g7
      · right
        rw [Int.pow_succ, ← Int.mul_assoc]
        omega
    · rw [if_neg c5]
      have hms : a * sg m ≤ 0 := by
        rcases (show a = 1 ∨ a = -1 by omega) with e | e <;> rw [e] at c5 ⊢ <;> omega
      obtain ⟨g1, g2, g3, g4, g5, g6, g7⟩ := ih lo m f1 m1 (by omega) ha hms (fun h => absurd h c2)
      refine ⟨g1, g2, g3, g4, by omega, g6, ?_⟩
      rcases g7 with g7 | g7
      · exact .inl g7
      · right
        rw [Int.pow_succ, ← Int.mul_assoc]
        omega
theorem dsg_range (d : Dy) : -1 ≤ d.sg ∧ d.sg ≤ 1 := by
  unfold Dy.sg
  split
  · decide
  · split <;> decide
theorem sg_congr {d d' : Dy} (h : d.val = d'.val) : d.sg = d'.sg := by
  have r1 := dsg_range d
  have r2 := dsg_range d'
  obtain ⟨a1, a2, a3⟩ := sg_val (d := d)
  obtain ⟨b1, b2, b3⟩ := sg_val (d := d')
  rw [h, ← b1] at a1
  rw [h, ← b2] at a2
  omega
end Go.Proofs.YtejmlngnpekagaaDoor
