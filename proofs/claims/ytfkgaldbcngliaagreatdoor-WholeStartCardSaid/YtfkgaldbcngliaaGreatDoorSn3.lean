import Derived.Test.YtfkgaldbcngliaaGreatDoorSn2
open Go PG Go.Proofs
set_option maxRecDepth 100000
set_option linter.unusedSimpArgs false
set_option linter.unusedVariables false
namespace Go.Proofs.YtfkgaldbcngliaaGreatDoor
open XX
def sv (n : Bool × Nat) : Rat := if n.1 = true then -(n.2 : Rat) else (n.2 : Rat)
theorem sv_le (n : Bool × Nat) : sv n ≤ (n.2 : Rat) := by
  unfold sv
  have := natc0 n.2
  split <;> grind
theorem plus_sv (n : Bool × Nat) (m : Nat) : sv (plusS n m) = sv n + (m : Rat) := by
  obtain ⟨ng, n⟩ := n
  unfold sv plusS
  dsimp only
  cases ng with
  | false => simp only [Bool.false_eq_true, if_false]; exact ncast_add n m
  | true =>
    simp only [if_true]
    by_cases h : n ≤ m
    · simp only [if_pos h, Bool.false_eq_true, if_false]
      have : ((m - n : Nat) : Rat) + (n : Rat) = (m : Rat) := by rw [← ncast_add]; congr 1; omega
      grind
    · simp only [if_neg h, if_true]
      have : ((n - m : Nat) : Rat) + (m : Rat) = (n : Rat) := by rw [← ncast_add]; congr 1; omega
      grind
theorem minus_sv (n : Bool × Nat) (m : Nat) : sv (minusS n m) = sv n - (m : Rat) := by
  obtain ⟨ng, n⟩ := n
  unfold sv minusS
  dsimp only
  cases ng with
  | true =>
    simp only [if_true]
    have := ncast_add n m
    grind
  | false =>
    simp only [Bool.false_eq_true, if_false]
    by_cases h : m ≤ n
    · simp only [if_pos h, Bool.false_eq_true, if_false]
      have : ((n - m : Nat) : Rat) + (m : Rat) = (n : Rat) := by rw [← ncast_add]; congr 1; omega
      grind
    · simp only [if_neg h, if_true]
      have : ((m - n : Nat) : Rat) + (n : Rat) = (m : Rat) := by rw [← ncast_add]; congr 1; omega
      grind
theorem fl_bound (d : Dy) (s : Nat) : sv (floorS d s) ≤ d.val * ((2 ^ s : Nat) : Rat) ∧ d.val * ((2 ^ s : Nat) : Rat) ≤ sv (ceilS d s) := by
  obtain ⟨h1, h2⟩ := un_bound d s
  have hv := val_form d
  have e1 : ∀ a, unitsS d s a = divM d s a := fun _ => rfl
  unfold sv floorS ceilS
  dsimp only
  rw [e1, e1]
  by_cases hn : d.sg < 0
  · rw [decide_eq_true hn, if_pos rfl, if_pos rfl]
    have hs : d.s = true := by
      unfold Dy.sg at hn
      split at hn
      · omega
      · split at hn
        · assumption
        · omega
    rw [if_pos hs] at hv
    show -(divM d s true : Rat) ≤ _ ∧ _ ≤ -(divM d s false : Rat)
    rw [hv, Rat.neg_mul]
    grind
  · rw [decide_eq_false hn, if_neg (by decide), if_neg (by decide)]
    have hv2 : d.val = (d.m : Rat) * (2 : Rat) ^ d.e := by
      by_cases h0 : d.m = 0
      · rw [val_zero h0, h0]
        have : ((0 : Nat) : Rat) = 0 := rfl
        rw [this, Rat.zero_mul]
      · rw [hv, if_neg]
        intro hs
        apply hn
        unfold Dy.sg
        rw [if_neg h0, hs]
        decide
    rw [hv2]
    exact ⟨h1, h2⟩
theorem split_br {i : Iv} {s : Nat} (h8 : 8 ≤ s) :
    ∃ u u' : Rat, XL ((2 : Rat) ^ (splitK i s).1) u ∧ XU u' ((2 : Rat) ^ (splitK i s).1) ∧ ((splitK i s).2.1 : Rat) / ((2 ^ s : Nat) : Rat) + u ≤ i.lo.val ∧ i.hi.val ≤ ((splitK i s).2.2 : Rat) / ((2 ^ s : Nat) : Rat) + u' := by
  obtain ⟨b1, b2⟩ := ln2_big h8
  have l1 := ln2_lo s
  have l2 := ln2_hi s
  have hS := nc_pos (Nat.two_pow_pos s)
  have f1 := (fl_bound i.lo s).1
  have f2 := (fl_bound i.hi s).2
  have p2 : (0 : Rat) < 2 := by decide
  have hlo : 0 < (ln2S s).lo := Nat.lt_of_lt_of_le (Nat.two_pow_pos _) b1
  have hle := ncast_le b2
  have z1 := fun (u : Rat) (P : Int) => XL.zpow (u := u) p2 l1 l2 P
  have z2 := fun (u : Rat) (P : Int) => XU.zpow (u := u) p2 l1 l2 P
  have hdiv : ∀ x : Rat, x / ((2 ^ s : Nat) : Rat) * ((2 ^ s : Nat) : Rat) = x := fun x => Rat.div_mul_cancel (by grind)
  have t1 := hdiv ((ln2S s).lo : Rat)
  have t2 := hdiv ((ln2S s).hi : Rat)
  have c0 : ∀ k : Nat, ((k : Int) : Rat) = (k : Rat) := fun _ => rfl
  unfold splitK
  by_cases hn : (floorS i.lo s).1 = true
  · rw [if_pos hn]
    dsimp only
    generalize hq : cD (floorS i.lo s).2 (ln2S s).lo = q
    have g1 := cD_ge (a := (floorS i.lo s).2) hlo
    rw [hq] at g1
    have q1 := plus_sv (floorS i.lo s) (q * (ln2S s).lo)
    have q2 := plus_sv (ceilS i.hi s) (q * (ln2S s).hi)
    have e1 : sv (plusS (floorS i.lo s) (q * (ln2S s).lo)) = ((plusS (floorS i.lo s) (q * (ln2S s).lo)).2 : Rat) := by
      unfold plusS sv
      simp only [if_pos hn, if_pos g1, Bool.false_eq_true, if_false]
    have q3 := sv_le (plusS (ceilS i.hi s) (q * (ln2S s).hi))
    rw [ncast_mul] at q1 q2
    rw [e1] at q1
    generalize ((plusS (floorS i.lo s) (q * (ln2S s).lo)).2 : Rat) = X at *
    generalize ((plusS (ceilS i.hi s) (q * (ln2S s).hi)).2 : Rat) = Y at *
    generalize sv (plusS (ceilS i.hi s) (q * (ln2S s).hi)) = Y' at *
    have d1 := hdiv X
    have d2 := hdiv Y
    have qn := natc0 q
    have s1 : ((ln2S s).lo : Rat) / ((2 ^ s : Nat) : Rat) ≤ ((ln2S s).hi : Rat) / ((2 ^ s : Nat) : Rat) := scale_le hS (by rw [t1, t2]; exact hle)
    generalize ((ln2S s).lo : Rat) / ((2 ^ s : Nat) : Rat) = A at *
    generalize ((ln2S s).hi : Rat) / ((2 ^ s : Nat) : Rat) = B at *
    generalize X / ((2 ^ s : Nat) : Rat) = x at *
    generalize Y / ((2 ^ s : Nat) : Rat) = y at *
    have m1 : (q : Rat) * A ≤ (q : Rat) * B := Rat.mul_le_mul_of_nonneg_left s1 qn
    have e3 : ((-(q : Int) : Int) : Rat) = -(q : Rat) := ic_neg q
    refine ⟨-((q : Rat) * A), -((q : Rat) * B), z1 _ _ (by rw [e3]; grind) (by rw [e3]; grind), z2 _ _ (by rw [e3]; grind) (by rw [e3]; grind), scale_le hS ?_, scale_le hS ?_⟩
    · rw [← d1, ← t1] at q1
      clear z1 z2 l1 l2 hdiv c0
      generalize ((2 ^ s : Nat) : Rat) = S at *
      grind
    · rw [← t2] at q2
      rw [← d2] at q3
      clear z1 z2 l1 l2 hdiv c0
      generalize ((2 ^ s : Nat) : Rat) = S at *
      grind
  · rw [if_neg hn]
    dsimp only
    generalize hq : (floorS i.lo s).2 / (ln2S s).hi = q
    have g1 := Nat.div_add_mod (floorS i.lo s).2 (ln2S s).hi
    rw [hq] at g1
    have q2 := minus_sv (ceilS i.hi s) (q * (ln2S s).lo)
    have e1 : sv (floorS i.lo s) = ((floorS i.lo s).2 : Rat) := by
      unfold sv
      rw [if_neg hn]
    have q3 := sv_le (minusS (ceilS i.hi s) (q * (ln2S s).lo))
    have q1 : ((ln2S s).hi : Rat) * (q : Rat) + ((((floorS i.lo s).2 % (ln2S s).hi : Nat)) : Rat) = ((floorS i.lo s).2 : Rat) := by rw [← ncast_mul, ← ncast_add, g1]
    rw [ncast_mul] at q2
    rw [e1, ← q1] at f1
    generalize (((floorS i.lo s).2 % (ln2S s).hi : Nat) : Rat) = X at *
    generalize ((minusS (ceilS i.hi s) (q * (ln2S s).lo)).2 : Rat) = Y at *
    generalize sv (minusS (ceilS i.hi s) (q * (ln2S s).lo)) = Y' at *
    have d1 := hdiv X
    have d2 := hdiv Y
    have qn := natc0 q
    have s1 : ((ln2S s).lo : Rat) / ((2 ^ s : Nat) : Rat) ≤ ((ln2S s).hi : Rat) / ((2 ^ s : Nat) : Rat) := scale_le hS (by rw [t1, t2]; exact hle)
    generalize ((ln2S s).lo : Rat) / ((2 ^ s : Nat) : Rat) = A at *
    generalize ((ln2S s).hi : Rat) / ((2 ^ s : Nat) : Rat) = B at *
    generalize X / ((2 ^ s : Nat) : Rat) = x at *
    generalize Y / ((2 ^ s : Nat) : Rat) = y at *
    have m1 : (q : Rat) * A ≤ (q : Rat) * B := Rat.mul_le_mul_of_nonneg_left s1 qn
    have e3 : (((q : Nat) : Int) : Rat) = (q : Rat) := rfl
    refine ⟨(q : Rat) * B, (q : Rat) * A, z1 _ _ (by rw [e3]; grind) (by rw [e3]; grind), z2 _ _ (by rw [e3]; grind) (by rw [e3]; grind), scale_le hS ?_, scale_le hS ?_⟩
    · rw [← d1, ← t2] at f1
      clear z1 z2 l1 l2 hdiv c0
      generalize ((2 ^ s : Nat) : Rat) = S at *
      grind
    · rw [← t1] at q2
      rw [← d2] at q3
      clear z1 z2 l1 l2 hdiv c0
      generalize ((2 ^ s : Nat) : Rat) = S at *
      grind
theorem exp_br {i : Iv} {s : Nat} (h8 : 8 ≤ s) (hs : s ≤ 8900) (h : splitOk i s) (hd : decR (expI i s)) :
    0 < (expI i s).lo.val ∧ 0 < (expI i s).hi.val ∧ XL (expI i s).lo.val i.lo.val ∧ XU i.hi.val (expI i s).hi.val := by
  have hK := splitK_range h8 h
  have h0 : 0 < (expI i s).lo.val := sg_val.2.2.1 hd.2
  have hle : (expI i s).lo.val ≤ (expI i s).hi.val := cmp_val_le.1 hd.1.2.2
  have h1 : 0 < (expI i s).hi.val := by grind
  obtain ⟨u, u', z1, z2, z3, z4⟩ := split_br (i := i) h8
  have hz := z2_pos (splitK i s).1
  have r : -2147483648 ≤ -((s : Int) - (splitK i s).1) ∧ -((s : Int) - (splitK i s).1) ≤ 2147483648 := ⟨by omega, by omega⟩
  have ev : ∀ n : Nat, (mkD false n (-((s : Int) - (splitK i s).1))).val = (n : Rat) / ((2 ^ s : Nat) : Rat) * (2 : Rat) ^ (splitK i s).1 := fun n => by
    rw [mk_val _ _ r, if_neg (by decide), show -((s : Int) - (splitK i s).1) = -(s : Int) + (splitK i s).1 by omega, z2_add, ← Rat.mul_assoc, z2_sub]
  have hS := nc_pos (Nat.two_pow_pos s)
  refine ⟨h0, h1, ?_⟩
  by_cases hc : (splitK i s).2.1 ≤ (splitK i s).2.2 ∧ (splitK i s).2.2 ≤ 2 ^ s
  · have e1 : expPN (splitK i s).2.1 (splitK i s).2.2 s = expN (splitK i s).2.1 (splitK i s).2.2 s := if_pos hc
    have x1 := exp_lo (a := (splitK i s).2.1) hc.2
    have x2 := exp_hi (a := (splitK i s).2.1) hc.2
    have n1 := ndiv (natc0 (expN (splitK i s).2.1 (splitK i s).2.2 s).lo) (2 ^ s)
    have n2 := ndiv (natc0 (expN (splitK i s).2.1 (splitK i s).2.2 s).hi) (2 ^ s)
    have y1 := (x1.mul z1 n1 (Rat.le_of_lt hz)).mono z3 Rat.le_refl (Rat.mul_nonneg n1 (Rat.le_of_lt hz))
    have y2 := (x2.mul z2 n2 (Rat.le_of_lt hz)).mono z4 Rat.le_refl (Rat.mul_nonneg n2 (Rat.le_of_lt hz))
    rw [← ev] at y1 y2
    unfold expI at h0 h1 ⊢
    rw [e1] at h0 h1 ⊢
    unfold withinS at h0 h1 ⊢
    by_cases hc2 : 0 < cmpD (mkD false (expN (splitK i s).2.1 (splitK i s).2.2 s).lo (-((s : Int) - (splitK i s).1))) (mkD false (expN (splitK i s).2.1 (splitK i s).2.2 s).hi (-((s : Int) - (splitK i s).1)))
    · have hlt := cmp_val_gt.1 hc2
      rw [if_pos hc2] at h0 h1 ⊢
      exact ⟨y1.mono Rat.le_refl (Rat.le_of_lt hlt) (Rat.le_of_lt h0), y2.mono Rat.le_refl (Rat.le_of_lt hlt) (Rat.le_of_lt h0)⟩
    · rw [if_neg hc2] at h0 h1 ⊢
      exact ⟨y1, y2⟩
  · exfalso
    have e1 : expPN (splitK i s).2.1 (splitK i s).2.2 s = ⟨0, 0⟩ := if_neg hc
    unfold expI withinS at h0
    rw [e1] at h0
    rw [show (if 0 < cmpD (mkD false 0 (-((s : Int) - (splitK i s).1))) (mkD false 0 (-((s : Int) - (splitK i s).1))) then (⟨mkD false 0 (-((s : Int) - (splitK i s).1)), mkD false 0 (-((s : Int) - (splitK i s).1))⟩ : Iv) else ⟨mkD false 0 (-((s : Int) - (splitK i s).1)), mkD false 0 (-((s : Int) - (splitK i s).1))⟩) = ⟨mkD false 0 (-((s : Int) - (splitK i s).1)), mkD false 0 (-((s : Int) - (splitK i s).1))⟩ by split <;> rfl] at h0
    dsimp only at h0
    rw [val_zero (d := mkD false 0 (-((s : Int) - (splitK i s).1))) rfl] at h0
    exact absurd h0 (by decide)
theorem try_br {a : Ask} (ha : AskOk a) {b : Nat} (hb : 32 ≤ b) (h : splitOk (zS a b) (scS a.y b)) (hd : decR (expI (zS a b) (scS a.y b))) :
    0 < (expI (zS a b) (scS a.y b)).lo.val ∧ 0 < (expI (zS a b) (scS a.y b)).hi.val ∧ (expI (zS a b) (scS a.y b)).lo.val ^ askQ a ≤ askW a ∧ askW a ≤ (expI (zS a b) (scS a.y b)).hi.val ^ askQ a := by
  obtain ⟨s1, s2⟩ := scS_range (y := a.y) hb
  obtain ⟨h1, h2, h3, h4⟩ := exp_br (by omega) s2 h hd
  obtain ⟨g1, g2⟩ := zS_br ha hb
  have hw := Rat.le_of_lt (askW_pos ha)
  refine ⟨h1, h2, ?_, ?_⟩
  · exact (h3.pow (Rat.le_of_lt h1) (askQ a)).le g1 (Rat.le_of_lt (Rat.pow_pos h1)) hw
  · exact g2.le (h4.pow (Rat.le_of_lt h2) (askQ a)) hw (Rat.le_of_lt (Rat.pow_pos h2))
theorem askQ_pos {a : Ask} (ha : AskOk a) : 0 < askQ a := Nat.mul_pos ha.n1 (Nat.two_pow_pos _)
end Go.Proofs.YtfkgaldbcngliaaGreatDoor
