import Derived.Test.YtfkgaldbcngliaaGreatDoorWb1
import Derived.Test.YtfkgaldbcngliaaGreatDoorSn1
open Go PG Go.Proofs
set_option maxRecDepth 100000
set_option linter.unusedSimpArgs false
set_option linter.unusedVariables false
namespace Go.Proofs.YtfkgaldbcngliaaGreatDoor
open XX
theorem bfalse {b : Bool} (h : ¬ b = true) : b = false := by
  cases b
  · rfl
  · exact absurd rfl h
def sz (d : Dy) (neg : Bool) : Dy := ⟨neg, d.m, d.e⟩
theorem sgn_sz {d : Dy} (hs : d.s = false) (h0 : d.m ≠ 0) (neg : Bool) : sgnD d neg = sz d neg := by
  obtain ⟨s, m, e⟩ := d
  dsimp only at hs
  subst hs
  unfold sgnD Dy.neg sz
  cases neg with
  | false => rfl
  | true => exact if_neg h0
theorem abs_pos {d : Dy} (hs : d.s = false) : d.abs = d := by
  obtain ⟨s, m, e⟩ := d
  dsimp only at hs
  subst hs
  rfl
theorem toS_sz {d : Dy} (h0 : d.m ≠ 0) (neg more : Bool) (dir : Int) : toS (sz d neg) more dir = (withS neg (magS (sz d neg) more dir).1, (magS (sz d neg) more dir).2) := if_neg h0
theorem mag_flag {d : Dy} (more : Bool) (dir : Int) : (magS d more dir).2 = if 1023 < d.top then 5 else if (magS d more dir).1 = INF then 5 else if (hf d (unitOf d.top) || (bl d (unitOf d.top) || more)) = true then (if d.top < -1022 then 3 else 1) else 0 := by
  unfold magS
  by_cases t : 1023 < d.top
  · rw [if_pos t, if_pos t]
  · rw [if_neg t, if_neg t]
    generalize (if awayS dir d.s (decide (low d % 2 = 1)) (hf d (unitOf d.top)) (bl d (unitOf d.top) || more) = true then low d + 1 else low d) = X
    by_cases e : X = INF
    · rw [if_pos e]; exact (if_pos rfl).symm
    · rw [if_neg e]; exact (if_neg e).symm
theorem mag_mid {a m b : Dy} (ha : a.m ≠ 0) (hm : m.m ≠ 0) (hb : b.m ≠ 0) (s1 : a.s = m.s) (s2 : m.s = b.s) {dir : Int} (h1 : cmpD a.abs m.abs ≤ 0) (h2 : cmpD m.abs b.abs ≤ 0)
    (he : magS a false dir = magS b false dir) (h0 : (magS a false dir).2 ≠ 0) (hmf : (magS m false dir).2 ≠ 0) : magS m false dir = magS a false dir := by
  have b1 := mag_mono ha hm s1 h1 dir
  have b2 := mag_mono hm hb s2 h2 dir
  have t1 := abs_tops ha hm h1
  have t2 := abs_tops hm hb h2
  have fa := mag_flag (d := a) false dir
  have fm := mag_flag (d := m) false dir
  have fb := mag_flag (d := b) false dir
  rw [← he] at b2 fb
  generalize magS a false dir = A at *
  generalize magS m false dir = M at *
  clear he
  have e1 : M.1 = A.1 := by omega
  rw [e1] at fm
  generalize (hf a (unitOf a.top) || (bl a (unitOf a.top) || false)) = x1 at *
  generalize (hf m (unitOf m.top) || (bl m (unitOf m.top) || false)) = x2 at *
  generalize (hf b (unitOf b.top) || (bl b (unitOf b.top) || false)) = x3 at *
  have e2 : M.2 = A.2 := by
    by_cases ta : 1023 < a.top
    · rw [if_pos ta] at fa
      rw [if_pos (by omega)] at fm
      omega
    rw [if_neg ta] at fa
    by_cases iA : A.1 = INF
    · rw [if_pos iA] at fa
      rw [if_pos iA] at fm
      split at fm <;> omega
    rw [if_neg iA] at fa fm fb
    have y1 : A.2 = if a.top < -1022 then 3 else 1 := by
      split at fa
      · exact fa
      · omega
    clear fa
    by_cases tb : 1023 < b.top
    · rw [if_pos tb] at fb
      split at y1 <;> omega
    rw [if_neg tb] at fb
    rw [if_neg (by omega)] at fm
    have y2 : M.2 = if m.top < -1022 then 3 else 1 := by
      split at fm
      · exact fm
      · omega
    have y3 : A.2 = if b.top < -1022 then 3 else 1 := by
      split at fb
      · exact fb
      · omega
    clear fm fb
    split at y1 <;> split at y2 <;> split at y3 <;> omega
  exact Prod.ext e1 e2
theorem toS_mid {a m b : Dy} (pa : a.s = false) (pm : m.s = false) (pb : b.s = false) (ha : a.m ≠ 0) (hm : m.m ≠ 0) (hb : b.m ≠ 0) {neg : Bool} {dir : Int} (h1 : a.val ≤ m.val) (h2 : m.val ≤ b.val)
    (he : toS (sgnD a neg) false dir = toS (sgnD b neg) false dir) (h0 : (toS (sgnD a neg) false dir).2 ≠ 0) (hmf : (toS (sgnD m neg) false dir).2 ≠ 0) : toS (sgnD m neg) false dir = toS (sgnD a neg) false dir := by
  rw [sgn_sz pa ha, toS_sz ha] at he h0 ⊢
  rw [sgn_sz pb hb, toS_sz hb] at he
  rw [sgn_sz pm hm, toS_sz hm] at hmf ⊢
  have c1 : cmpD (sz a neg).abs (sz m neg).abs ≤ 0 := by
    show cmpD a.abs m.abs ≤ 0
    rw [abs_pos pa, abs_pos pm]; exact cmp_val_le.2 h1
  have c2 : cmpD (sz m neg).abs (sz b neg).abs ≤ 0 := by
    show cmpD m.abs b.abs ≤ 0
    rw [abs_pos pm, abs_pos pb]; exact cmp_val_le.2 h2
  have hI := INF_lt
  have l1 := mag_le (d := sz a neg) ha false dir
  have l2 := mag_le (d := sz b neg) hb false dir
  have e1 : (magS (sz a neg) false dir).1 = (magS (sz b neg) false dir).1 := by
    have e := congrArg (fun r : Nat × Nat => svb r.1) he
    dsimp only at e
    rw [svb_withS _ (by omega), svb_withS _ (by omega)] at e
    cases neg <;> simp only [Bool.false_eq_true, if_false, if_true] at e <;> omega
  have e2 := congrArg (fun r : Nat × Nat => r.2) he
  dsimp only at e2
  rw [mag_mid (a := sz a neg) (m := sz m neg) (b := sz b neg) ha hm hb rfl rfl c1 c2 (Prod.ext e1 e2) h0 hmf]
theorem mag_eq {a b : Dy} {x y : Bool} {dir : Int} (hs : a.s = b.s) (ta : a.top ≤ 1023) (tb : b.top ≤ 1023) (hl : low a = low b) (hh : hf a (unitOf a.top) = hf b (unitOf b.top)) (hx : (bl a (unitOf a.top) || x) = (bl b (unitOf b.top) || y)) (ht : a.top < -1022 ↔ b.top < -1022) :
    magS a x dir = magS b y dir := by
  unfold magS
  rw [if_neg (show ¬ 1023 < a.top by omega), if_neg (show ¬ 1023 < b.top by omega), hs, hl, hh, hx]
  have e : (if a.top < -1022 then 3 else 1) = (if b.top < -1022 then 3 else 1) := by
    by_cases h : a.top < -1022
    · rw [if_pos h, if_pos (ht.1 h)]
    · rw [if_neg h, if_neg (fun h2 => h (ht.2 h2))]
  rw [e]
theorem tops_val {a b : Dy} (pa : a.s = false) (pb : b.s = false) (ha : a.m ≠ 0) (hb : b.m ≠ 0) (h : a.val ≤ b.val) : a.top ≤ b.top :=
  abs_tops ha hb (by rw [abs_pos pa, abs_pos pb]; exact cmp_val_le.2 h)
theorem pw_val (e : Int) : (⟨false, 1, e⟩ : Dy).val = (2 : Rat) ^ e := by
  unfold Dy.val
  rw [if_neg Bool.false_ne_true]
  show ((1 : Int) : Rat) * _ = _
  exact Rat.one_mul _
theorem class1 {d : Dy} (pd : d.s = false) (h0 : d.m ≠ 0) (h : (2 : Rat) ^ (1024 : Int) ≤ d.val) (neg : Bool) (dir : Int) : toS (sgnD d neg) false dir = classS 1 neg dir := by
  have ht := tops_val (a := ⟨false, 1, 1024⟩) rfl pd (by decide) h0 (by rw [pw_val]; exact h)
  have e1 : (⟨false, 1, 1024⟩ : Dy).top = 1024 := by decide
  rw [e1] at ht
  rw [sgn_sz pd h0, toS_sz h0]
  have e2 : magS (sz d neg) false dir = ((if dir = 0 ∨ upw dir neg = true then INF else MAX), 5) := if_pos (show 1023 < d.top by omega)
  rw [e2]
  unfold classS
  rw [if_pos rfl]
theorem class2 {d : Dy} (pd : d.s = false) (h0 : d.m ≠ 0) (h : d.val ≤ (2 : Rat) ^ (-1076 : Int)) (neg : Bool) (dir : Int) : toS (sgnD d neg) false dir = classS 2 neg dir := by
  have ht := tops_val (b := ⟨false, 1, -1076⟩) pd rfl h0 (by decide) (by rw [pw_val]; exact h)
  have e1 : (⟨false, 1, -1076⟩ : Dy).top = -1076 := by decide
  rw [e1] at ht
  rw [sgn_sz pd h0, toS_sz h0]
  have hu : unitOf d.top = -1074 := by
    have : unitOf d.top = max (d.top - 52) (-1074) := rfl
    omega
  have f1 : flo d (-1074) = 0 := flo_small h0 (by omega)
  have f2 : flo d (-1074 - 1) = 0 := flo_small h0 (by omega)
  have hl : low (sz d neg) = 0 := by
    show low d = 0
    unfold low
    rw [if_neg (by omega), hu, f1]
    decide
  have hh : hf (sz d neg) (unitOf (sz d neg).top) = false := by
    show hf d (unitOf d.top) = false
    unfold hf
    rw [hu, f2]; rfl
  have hb : bl (sz d neg) (unitOf (sz d neg).top) = true := by
    show bl d (unitOf d.top) = true
    refine Decidable.byContradiction fun hn => ?_
    have hn := bfalse hn
    have := (pos_mid h0 (show d.top ≤ 1023 by omega)).2.2 ⟨hh, hn⟩
    rw [show low d = 0 from hl] at this
    have h3 := cmp_val_eq.1 this
    rw [abs_pos pd, val_zero (d := fd 0) (by decide)] at h3
    exact h0 (val_eq_zero.1 h3.symm)
  have e2 : magS (sz d neg) false dir = (if upw dir neg = true then 1 else 0, 3) := by
    unfold magS
    have htz : (sz d neg).top = d.top := rfl
    rw [if_neg (show ¬ 1023 < (sz d neg).top by omega), hl, hh, hb]
    have ea : awayS dir (sz d neg).s (decide (0 % 2 = 1)) false (true || false) = upw dir neg := by
      unfold awayS
      by_cases hd : dir = 0
      · rw [if_pos hd]; unfold upw; rw [hd]; rfl
      · rw [if_neg hd]; rfl
    rw [ea]
    have ei : ¬ (if upw dir neg = true then 0 + 1 else 0) = INF := by
      unfold INF
      split <;> decide
    rw [if_neg ei, if_pos (show (false || (true || false)) = true by decide), if_pos (show (sz d neg).top < -1022 by omega)]
  rw [e2]
  unfold classS
  rw [if_neg (show ¬ (2 : Int) = 1 by decide), if_pos rfl]
def ONE : Nat := 4607182418800017408
theorem class_near {d : Dy} (pd : d.s = false) (h0 : d.m ≠ 0) {n : Nat} (hn : n < INF) (h1 : (fd n).val ≤ d.val) (h2 : d.val < (fd (n + 1)).val) : low d = n := by
  refine bel_unique (n := d.abs) bel_low ⟨by omega, ?_, .inr ?_⟩
  · rw [abs_pos pd]; exact cmp_val_le.2 h1
  · rw [abs_pos pd]; exact cmp_val_gt.2 h2
theorem class3 {d : Dy} (pd : d.s = false) (h0 : d.m ≠ 0) (h1 : 1 < d.val) (h2 : d.val ≤ 1 + 1 / 576460752303423488) (neg : Bool) (dir : Int) : toS (sgnD d neg) false dir = classS 3 neg dir := by
  have v0 : (fd ONE).val = 1 := by decide +kernel
  have v1 : (1 : Rat) + 1 / 576460752303423488 < (fd (ONE + 1)).val := by decide +kernel
  have v2 : (1 : Rat) + 1 / 576460752303423488 < (mid ONE).val := by decide +kernel
  have hl : low d = ONE := class_near pd h0 (by decide) (by grind) (by grind)
  have t1 := tops_val (a := ⟨false, 1, 0⟩) rfl pd (by decide) h0 (by rw [pw_val, z2_zero]; exact Rat.le_of_lt h1)
  have t2 := tops_val (b := ⟨false, 1, 1⟩) pd rfl h0 (by decide) (by rw [pw_val, z2_one]; grind)
  have e1 : (⟨false, 1, 0⟩ : Dy).top = 0 := by decide
  have e2 : (⟨false, 1, 1⟩ : Dy).top = 1 := by decide
  rw [e1] at t1
  rw [e2] at t2
  obtain ⟨p1, p2⟩ := pos_mid h0 (show d.top ≤ 1023 by omega)
  rw [hl, abs_pos pd] at p1 p2
  have hh : hf d (unitOf d.top) = false := by
    refine bfalse fun hn => ?_
    rw [if_pos hn] at p1
    have : cmpD d (mid ONE) < 0 := cmp_val_lt.2 (by grind)
    split at p1 <;> omega
  have hb : bl d (unitOf d.top) = true := by
    refine Decidable.byContradiction fun hn => ?_
    have := cmp_val_eq.1 (p2.2 ⟨hh, bfalse hn⟩)
    grind
  rw [sgn_sz pd h0, toS_sz h0]
  have ec : classS 3 neg dir = toS (sz ⟨false, 1, 0⟩ neg) true dir := by cases neg <;> rfl
  rw [ec, toS_sz (by decide)]
  have em : magS (sz d neg) false dir = magS (sz ⟨false, 1, 0⟩ neg) true dir := by
    refine mag_eq rfl (show d.top ≤ 1023 by omega) (show (⟨false, 1, 0⟩ : Dy).top ≤ 1023 by decide) ?_ ?_ ?_ ?_
    · show low d = low ⟨false, 1, 0⟩
      rw [hl]; decide +kernel
    · show hf d (unitOf d.top) = hf ⟨false, 1, 0⟩ (unitOf (⟨false, 1, 0⟩ : Dy).top)
      rw [hh]; decide +kernel
    · show (bl d (unitOf d.top) || false) = (bl ⟨false, 1, 0⟩ (unitOf (⟨false, 1, 0⟩ : Dy).top) || true)
      rw [hb, Bool.or_true]; rfl
    · show d.top < -1022 ↔ (⟨false, 1, 0⟩ : Dy).top < -1022
      rw [e1]; omega
  rw [em]
theorem class4 {d : Dy} (pd : d.s = false) (h0 : d.m ≠ 0) (h1 : 1 - 1 / 1152921504606846976 ≤ d.val) (h2 : d.val < 1) (neg : Bool) (dir : Int) : toS (sgnD d neg) false dir = classS 4 neg dir := by
  have v0 : (fd (ONE - 1)).val ≤ 1 - 1 / 1152921504606846976 := by decide +kernel
  have v1 : (1 : Rat) = (fd (ONE - 1 + 1)).val := by decide +kernel
  have v2 : (mid (ONE - 1)).val < 1 - 1 / 1152921504606846976 := by decide +kernel
  have hl : low d = ONE - 1 := class_near pd h0 (by decide) (by grind) (by grind)
  have v3 : (2 : Rat) ^ (-1 : Int) ≤ 1 - 1 / 1152921504606846976 := by decide +kernel
  have t1 := tops_val (a := ⟨false, 1, -1⟩) rfl pd (by decide) h0 (by rw [pw_val]; grind)
  have t2 := tops_val (b := ⟨false, 1, 0⟩) pd rfl h0 (by decide) (by rw [pw_val, z2_zero]; grind)
  have e1 : (⟨false, 1, -1⟩ : Dy).top = -1 := by decide
  have e2 : (⟨false, 1, 0⟩ : Dy).top = 0 := by decide
  rw [e1] at t1
  rw [e2] at t2
  obtain ⟨p1, p2⟩ := pos_mid h0 (show d.top ≤ 1023 by omega)
  rw [hl, abs_pos pd] at p1 p2
  have hc : 0 < cmpD d (mid (ONE - 1)) := cmp_val_gt.2 (by grind)
  have hh : hf d (unitOf d.top) = true := by
    refine Decidable.byContradiction fun hn => ?_
    rw [if_neg hn] at p1
    omega
  have hb : bl d (unitOf d.top) = true := by
    refine Decidable.byContradiction fun hn => ?_
    rw [if_pos hh, if_neg hn] at p1
    omega
  rw [sgn_sz pd h0, toS_sz h0]
  have ec : classS 4 neg dir = toS (sz ⟨false, 18014398509481983, -54⟩ neg) true dir := by
    unfold classS
    rw [if_neg (show ¬ (4 : Int) = 1 by decide), if_neg (show ¬ (4 : Int) = 2 by decide), if_neg (show ¬ (4 : Int) = 3 by decide)]
    have : mkD neg 18014398509481983 (-54) = sz ⟨false, 18014398509481983, -54⟩ neg := by cases neg <;> decide +kernel
    rw [this]
  rw [ec, toS_sz (by decide)]
  have em : magS (sz d neg) false dir = magS (sz ⟨false, 18014398509481983, -54⟩ neg) true dir := by
    have e3 : (⟨false, 18014398509481983, -54⟩ : Dy).top = -1 := by decide +kernel
    refine mag_eq rfl (show d.top ≤ 1023 by omega) (show (⟨false, 18014398509481983, -54⟩ : Dy).top ≤ 1023 by omega) ?_ ?_ ?_ ?_
    · show low d = low ⟨false, 18014398509481983, -54⟩
      rw [hl]; decide +kernel
    · show hf d (unitOf d.top) = hf ⟨false, 18014398509481983, -54⟩ (unitOf (⟨false, 18014398509481983, -54⟩ : Dy).top)
      rw [hh]; decide +kernel
    · show (bl d (unitOf d.top) || false) = (bl ⟨false, 18014398509481983, -54⟩ (unitOf (⟨false, 18014398509481983, -54⟩ : Dy).top) || true)
      rw [hb, Bool.or_true]; rfl
    · show d.top < -1022 ↔ (⟨false, 18014398509481983, -54⟩ : Dy).top < -1022
      rw [e3]; omega
  rw [em]
end Go.Proofs.YtfkgaldbcngliaaGreatDoor
