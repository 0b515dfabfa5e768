import Derived.Test.YtfkgaldbcngliaaGreatDoorSn1
open Go PG Go.Proofs
set_option maxRecDepth 100000
set_option linter.unusedSimpArgs false
set_option linter.unusedVariables false
namespace Go.Proofs.YtfkgaldbcngliaaGreatDoor
open XX
theorem ic_neg (n : Nat) : ((-(n : Int) : Int) : Rat) = -(n : Rat) := by rw [Rat.intCast_neg]; rfl
theorem XX.XU.zpow {d t t' u : Rat} (hd : 0 < d) (h1 : XU t d) (h2 : XL d t') (P : Int) (g1 : u ≤ (P : Rat) * t) (g2 : u ≤ (P : Rat) * t') : XU u (d ^ P) := by
  rcases Int.le_total 0 P with h | h
  · obtain ⟨n, rfl⟩ := Int.eq_ofNat_of_zero_le h
    rw [Rat.zpow_natCast]
    exact (h1.pow (Rat.le_of_lt hd) n).mono g1 Rat.le_refl (Rat.le_of_lt (Rat.pow_pos hd))
  · obtain ⟨n, hn⟩ := Int.eq_ofNat_of_zero_le (show 0 ≤ -P by omega)
    obtain rfl : P = -(n : Int) := by omega
    have hp : 0 < d ^ n := Rat.pow_pos hd
    rw [Rat.zpow_neg, Rat.zpow_natCast, ← Rat.one_mul (d ^ n)⁻¹, ← Rat.div_def]
    refine ((h2.pow (Rat.le_of_lt hd) n).inv hp).mono ?_ Rat.le_refl (Rat.le_of_lt (rone_div hp))
    rw [ic_neg] at g2
    grind
theorem XX.XL.zpow {d t t' u : Rat} (hd : 0 < d) (h1 : XU t d) (h2 : XL d t') (P : Int) (g1 : (P : Rat) * t ≤ u) (g2 : (P : Rat) * t' ≤ u) : XL (d ^ P) u := by
  rcases Int.le_total 0 P with h | h
  · obtain ⟨n, rfl⟩ := Int.eq_ofNat_of_zero_le h
    rw [Rat.zpow_natCast]
    exact (h2.pow (Rat.le_of_lt hd) n).mono g2 Rat.le_refl (Rat.le_of_lt (Rat.pow_pos hd))
  · obtain ⟨n, hn⟩ := Int.eq_ofNat_of_zero_le (show 0 ≤ -P by omega)
    obtain rfl : P = -(n : Int) := by omega
    have hp : 0 < d ^ n := Rat.pow_pos hd
    rw [Rat.zpow_neg, Rat.zpow_natCast, ← Rat.one_mul (d ^ n)⁻¹, ← Rat.div_def]
    refine ((h1.pow (Rat.le_of_lt hd) n).inv hp).mono ?_ Rat.le_refl (Rat.le_of_lt (rone_div hp))
    rw [ic_neg] at g1
    grind
theorem minD_val (a b : Dy) : (minD a b).val ≤ a.val ∧ (minD a b).val ≤ b.val := by
  unfold minD
  split
  · rename_i h
    have := cmp_val_lt.1 h
    exact ⟨Rat.le_of_lt this, Rat.le_refl⟩
  · rename_i h
    exact ⟨Rat.le_refl, cmp_val_ge.1 (by omega)⟩
theorem maxD_val (a b : Dy) : a.val ≤ (maxD a b).val ∧ b.val ≤ (maxD a b).val := by
  unfold maxD
  split
  · rename_i h
    have := cmp_val_gt.1 h
    exact ⟨Rat.le_of_lt this, Rat.le_refl⟩
  · rename_i h
    exact ⟨Rat.le_refl, cmp_val_le.1 (by omega)⟩
theorem mul_pt (i : Iv) (y : Dy) : (mulI i ⟨y, y⟩).lo.val ≤ i.lo.val * y.val ∧ (mulI i ⟨y, y⟩).lo.val ≤ i.hi.val * y.val ∧ i.lo.val * y.val ≤ (mulI i ⟨y, y⟩).hi.val ∧ i.hi.val * y.val ≤ (mulI i ⟨y, y⟩).hi.val := by
  show (min4 _ _ _ _).val ≤ _ ∧ (min4 _ _ _ _).val ≤ _ ∧ _ ≤ (max4 _ _ _ _).val ∧ _ ≤ (max4 _ _ _ _).val
  unfold min4 max4
  rw [← val_mul, ← val_mul]
  generalize mulS i.lo y = A
  generalize mulS i.hi y = B
  have a1 := minD_val A A
  have a2 := minD_val (minD A A) B
  have a3 := minD_val (minD (minD A A) B) B
  have b1 := maxD_val A A
  have b2 := maxD_val (maxD A A) B
  have b3 := maxD_val (maxD (maxD A A) B) B
  exact ⟨by grind, by grind, by grind, by grind⟩
theorem un_bound (d : Dy) (s : Nat) : (divM d s false : Rat) ≤ (d.m : Rat) * (2 : Rat) ^ d.e * ((2 ^ s : Nat) : Rat) ∧ (d.m : Rat) * (2 : Rat) ^ d.e * ((2 ^ s : Nat) : Rat) ≤ (divM d s true : Rat) := by
  have e1 : (d.m : Rat) * (2 : Rat) ^ d.e * ((2 ^ s : Nat) : Rat) = (d.m : Rat) * (2 : Rat) ^ (d.e + s) := by rw [← z2_nat, Rat.mul_assoc, ← z2_add]
  rw [e1]
  unfold divM
  by_cases h : 0 ≤ d.e + s
  · rw [if_pos h, if_pos h]
    have e2 : ((d.m * 2 ^ (d.e + s).toNat : Nat) : Rat) = (d.m : Rat) * (2 : Rat) ^ (d.e + s) := by
      rw [ncast_mul, ← z2_nat]; congr 2; omega
    rw [e2]
    exact ⟨Rat.le_refl, Rat.le_refl⟩
  · rw [if_neg h, if_neg h]
    have hp : 0 < 2 ^ (-d.e - s).toNat := Nat.two_pow_pos _
    have e2 : (d.m : Rat) * (2 : Rat) ^ (d.e + s) * ((2 ^ (-d.e - s).toNat : Nat) : Rat) = (d.m : Rat) := by
      rw [← z2_nat, Rat.mul_assoc, ← z2_add, show d.e + s + ((-d.e - s).toNat : Int) = 0 by omega, z2_zero, Rat.mul_one]
    generalize (d.m : Rat) * (2 : Rat) ^ (d.e + s) = v at *
    generalize 2 ^ (-d.e - s).toNat = D at *
    have hD := nc_pos hp
    have h1 := Nat.div_add_mod d.m D
    have h2 := Nat.mod_lt d.m hp
    constructor
    · rw [if_neg (fun h => Bool.false_ne_true h.2), Nat.add_zero]
      refine scale_le hD ?_
      rw [e2, ← ncast_mul]
      exact ncast_le (Nat.div_mul_le_self _ _)
    · refine scale_le hD ?_
      rw [e2, ← ncast_mul]
      refine ncast_le ?_
      by_cases h0 : d.m % D = 0
      · rw [if_neg (fun h => h.1 h0), Nat.add_zero]
        rw [h0] at h1
        rw [Nat.mul_comm]; omega
      · rw [if_pos ⟨h0, rfl⟩, Nat.add_mul, Nat.mul_comm]; omega
theorem divQ_bound (d : Dy) {n : Nat} (hn : 0 < n) (s : Nat) : (divQ d n s false : Rat) * n ≤ (d.m : Rat) * (2 : Rat) ^ d.e * ((2 ^ s : Nat) : Rat) ∧ (d.m : Rat) * (2 : Rat) ^ d.e * ((2 ^ s : Nat) : Rat) ≤ (divQ d n s true : Rat) * n := by
  obtain ⟨h1, h2⟩ := un_bound d s
  unfold divQ
  generalize (d.m : Rat) * (2 : Rat) ^ d.e * ((2 ^ s : Nat) : Rat) = v at *
  constructor
  · rw [if_neg (fun h => Bool.false_ne_true h.2), Nat.add_zero]
    generalize divM d s false = M at *
    have := ncast_le (Nat.div_mul_le_self M n)
    rw [ncast_mul] at this
    exact Rat.le_trans this h1
  · generalize divM d s true = M at *
    refine Rat.le_trans h2 ?_
    rw [← ncast_mul]
    refine ncast_le ?_
    have h1 := Nat.div_add_mod M n
    have h2 := Nat.mod_lt M hn
    by_cases h0 : M % n = 0
    · rw [if_neg (fun h => h.1 h0), Nat.add_zero, Nat.mul_comm]
      omega
    · rw [if_pos ⟨h0, rfl⟩, Nat.add_mul, Nat.mul_comm]; omega
theorem val_form (d : Dy) : d.val = if d.s = true then -((d.m : Rat) * (2 : Rat) ^ d.e) else (d.m : Rat) * (2 : Rat) ^ d.e := by
  unfold Dy.val
  split
  · rw [show (-1 * (d.m : Int)) = -(d.m : Int) by omega, ic_neg, Rat.neg_mul]
  · rw [Int.one_mul]; rfl
theorem divD_bound (d : Dy) {n : Nat} (hn : 0 < n) {s : Nat} (hs : s ≤ 100000) : (divD d n s true).val * n ≤ d.val ∧ d.val ≤ (divD d n s false).val * n := by
  have r : -2147483648 ≤ -(s : Int) ∧ -(s : Int) ≤ 2147483648 := ⟨by omega, by omega⟩
  obtain ⟨h1, h2⟩ := divQ_bound d hn s
  have hS := nc_pos (Nat.two_pow_pos s)
  have hdiv : ∀ x : Rat, x / ((2 ^ s : Nat) : Rat) * ((2 ^ s : Nat) : Rat) = x := fun x => Rat.div_mul_cancel (by grind)
  have hneg : ∀ x : Rat, -x / ((2 ^ s : Nat) : Rat) = -(x / ((2 ^ s : Nat) : Rat)) := fun x => by rw [Rat.div_def, Rat.div_def, Rat.neg_mul]
  rw [val_form d]
  unfold divD awayD
  rw [mk_val _ _ r, mk_val _ _ r, z2_sub, z2_sub]
  cases d.s with
  | false =>
    rw [if_neg (by decide), if_neg (by decide), if_neg (by decide)]
    show (divQ d n s false : Rat) / _ * _ ≤ _ ∧ _ ≤ (divQ d n s true : Rat) / _ * _
    have d1 := hdiv (divQ d n s false : Rat)
    have d2 := hdiv (divQ d n s true : Rat)
    generalize (d.m : Rat) * (2 : Rat) ^ d.e = v at *
    generalize (divQ d n s false : Rat) / ((2 ^ s : Nat) : Rat) = A at *
    generalize (divQ d n s true : Rat) / ((2 ^ s : Nat) : Rat) = B at *
    rw [← d1] at h1
    rw [← d2] at h2
    clear hdiv hneg d1 d2
    generalize ((2 ^ s : Nat) : Rat) = S at *
    generalize (n : Rat) = N at *
    exact ⟨scale_le hS (by grind), scale_le hS (by grind)⟩
  | true =>
    rw [if_pos rfl, if_pos rfl, if_pos rfl, hneg, hneg]
    show -((divQ d n s true : Rat) / _) * _ ≤ _ ∧ _ ≤ -((divQ d n s false : Rat) / _) * _
    have d1 := hdiv (divQ d n s false : Rat)
    have d2 := hdiv (divQ d n s true : Rat)
    generalize (d.m : Rat) * (2 : Rat) ^ d.e = v at *
    generalize (divQ d n s false : Rat) / ((2 ^ s : Nat) : Rat) = A at *
    generalize (divQ d n s true : Rat) / ((2 ^ s : Nat) : Rat) = B at *
    rw [← d1] at h1
    rw [← d2] at h2
    clear hdiv hneg d1 d2
    generalize ((2 ^ s : Nat) : Rat) = S at *
    generalize (n : Rat) = N at *
    exact ⟨scale_le hS (by grind), scale_le hS (by grind)⟩
def askK (a : Ask) : Nat := (-a.y.e).toNat
def askP (a : Ask) : Int := a.y.at (-(askK a : Int))
def askQ (a : Ask) : Nat := a.n * 2 ^ askK a
def askW (a : Ask) : Rat := a.x.val ^ askP a
theorem ask_yv (a : Ask) : a.y.val * ((2 ^ askK a : Nat) : Rat) = (askP a : Rat) := by
  unfold askP
  rw [val_at (d := a.y) (k := -(askK a : Int)) (.inr (by unfold askK; omega)), ← z2_nat, Rat.mul_assoc, ← z2_add, Int.add_left_neg, z2_zero, Rat.mul_one]
theorem askW_pos {a : Ask} (ha : AskOk a) : 0 < askW a := Rat.zpow_pos (log_br ha.x (s := 8) (by decide)).1
theorem zI_br {a : Ask} (ha : AskOk a) {b : Nat} (hb : 32 ≤ b) : XU (((2 ^ askK a : Nat) : Rat) * (zI a b).lo.val) (askW a) ∧ XL (askW a) (((2 ^ askK a : Nat) : Rat) * (zI a b).hi.val) := by
  obtain ⟨s1, s2⟩ := scS_range (y := a.y) hb
  obtain ⟨hd, h1, h2⟩ := log_br ha.x (s := scS a.y b) (by omega)
  obtain ⟨m1, m2, m3, m4⟩ := mul_pt (logS a.x (scS a.y b)) a.y
  have hK := nc_pos (Nat.two_pow_pos (askK a))
  have hy := ask_yv a
  unfold zI askW
  generalize ((2 ^ askK a : Nat) : Rat) = K at *
  generalize (mulI (logS a.x (scS a.y b)) ⟨a.y, a.y⟩).lo.val = A at *
  generalize (mulI (logS a.x (scS a.y b)) ⟨a.y, a.y⟩).hi.val = B at *
  have g1 := Rat.mul_le_mul_of_nonneg_left m1 (Rat.le_of_lt hK)
  have g2 := Rat.mul_le_mul_of_nonneg_left m2 (Rat.le_of_lt hK)
  have g3 := Rat.mul_le_mul_of_nonneg_left m3 (Rat.le_of_lt hK)
  have g4 := Rat.mul_le_mul_of_nonneg_left m4 (Rat.le_of_lt hK)
  exact ⟨XU.zpow hd h1 h2 _ (by rw [← hy]; grind) (by rw [← hy]; grind), XL.zpow hd h1 h2 _ (by rw [← hy]; grind) (by rw [← hy]; grind)⟩
theorem zS_br {a : Ask} (ha : AskOk a) {b : Nat} (hb : 32 ≤ b) : XU ((askQ a : Rat) * (zS a b).lo.val) (askW a) ∧ XL (askW a) ((askQ a : Rat) * (zS a b).hi.val) := by
  obtain ⟨h1, h2⟩ := zI_br ha hb
  obtain ⟨s1, s2⟩ := scS_range (y := a.y) hb
  have hK := nc_pos (Nat.two_pow_pos (askK a))
  have hw := Rat.le_of_lt (askW_pos ha)
  have eQ : (askQ a : Rat) = (a.n : Rat) * ((2 ^ askK a : Nat) : Rat) := ncast_mul _ _
  rw [eQ]
  unfold zS
  by_cases hn : 1 < a.n
  · rw [if_pos hn]
    dsimp only
    have b1 := (divD_bound (zI a b).lo (n := a.n) (by omega) (s := scS a.y b) (by omega)).1
    have b2 := (divD_bound (zI a b).hi (n := a.n) (by omega) (s := scS a.y b) (by omega)).2
    have g1 := Rat.mul_le_mul_of_nonneg_left b1 (Rat.le_of_lt hK)
    have g2 := Rat.mul_le_mul_of_nonneg_left b2 (Rat.le_of_lt hK)
    exact ⟨h1.mono (by grind) Rat.le_refl hw, h2.mono (by grind) Rat.le_refl hw⟩
  · rw [if_neg hn]
    have e1 : a.n = 1 := by have := ha.n1; omega
    have e2 : ((1 : Nat) : Rat) = 1 := rfl
    rw [e1, e2, Rat.one_mul]
    exact ⟨h1, h2⟩
end Go.Proofs.YtfkgaldbcngliaaGreatDoor
