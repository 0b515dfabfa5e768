import Derived.Test.YtfkgaldbcngliaaGreatDoorWb1
open Go PG Go.Proofs
set_option maxRecDepth 100000
set_option linter.unusedSimpArgs false
set_option linter.unusedVariables false
namespace Go.Proofs.YtfkgaldbcngliaaGreatDoor
open XX
def powD (d : Dy) (k : Nat) : Dy := ⟨false, d.m ^ k, d.e * k⟩
theorem irt_unique {j a r r' : Nat} (h : Irt j a r) (h' : Irt j a r') : r = r' := by
  have key : ∀ {r r'}, Irt j a r → Irt j a r' → r ≤ r' := fun {r r'} h h' => Nat.not_lt.1 fun hlt => by
    have h1 := Nat.pow_le_pow_left (show r' + 1 ≤ r from hlt) (j + 1)
    have h2 := h.1
    have h3 := h'.2
    omega
  exact Nat.le_antisymm (key h h') (key h' h)
theorem irt_pow {j m : Nat} : Irt j (m ^ (j + 1)) m := ⟨Nat.le_refl _, Nat.pow_lt_pow_left (by omega) (by omega)⟩
theorem pow_gt_bits {m k : Nat} (h : 3 ≤ m) (hk : 1 ≤ k) : k ≤ bitLen (m ^ k) := by
  have h1 : 2 ^ k ≤ m ^ k := Nat.pow_le_pow_left (by omega) k
  refine Nat.not_lt.1 fun hlt => ?_
  have h2 := (bitLen_le (m ^ k) (k - 1)).1 (by omega)
  have h3 : 2 ^ (k - 1) ≤ 2 ^ k := Nat.pow_le_pow_right (by decide) (by omega)
  omega
theorem root_pow {d : Dy} (hs : d.s = false) (hm : d.m % 2 = 1) {k : Nat} (hk : 1 ≤ k) : rootO (powD d k) k = some d := by
  obtain ⟨s, m, e⟩ := d
  dsimp only at hs hm
  subst hs
  unfold rootO powD
  dsimp only
  by_cases c1 : k = 1
  · rw [if_pos c1, c1, Nat.pow_one]; simp
  rw [if_neg c1, if_neg (by simp)]
  have hq : e * (k : Int) / (k : Int) = e := Int.mul_ediv_cancel _ (by omega)
  by_cases c2 : m ^ k = 1
  · have hm1 : m = 1 := by
      rcases Nat.lt_or_ge m 2 with h | h
      · omega
      · have h1 : 2 ≤ m ^ k := Nat.le_trans h (Nat.le_self_pow (n := k) (by omega) m)
        omega
    rw [if_pos c2, hq, hm1]
  rw [if_neg c2]
  have hm3 : 3 ≤ m := by
    rcases Nat.lt_or_ge m 2 with h | h
    · have : m = 1 := by omega
      subst this
      rw [Nat.one_pow] at c2
      exact absurd rfl c2
    · omega
  rw [if_neg (by have := pow_gt_bits hm3 hk; omega)]
  obtain ⟨j, rfl⟩ : ∃ j, k = j + 1 := ⟨k - 1, by omega⟩
  have hr : irtF (j + 1 - 1) (m ^ (j + 1)) = m := irt_unique (irtF_spec _ _) irt_pow
  rw [hr, if_pos rfl, hq]
theorem pow_root {d r : Dy} (hs : d.s = false) {k : Nat} (hk : 1 ≤ k) (h : rootO d k = some r) : powD r k = d := by
  obtain ⟨s, m, e⟩ := d
  dsimp only at hs
  subst hs
  unfold rootO at h
  dsimp only at h
  unfold powD
  split at h
  · rename_i c
    cases h
    subst c
    simp
  rename_i c1
  split at h
  · cases h
  rename_i c2
  have he : e / (k : Int) * k = e := Int.ediv_mul_cancel (Int.dvd_of_emod_eq_zero (Decidable.byContradiction c2))
  split at h
  · rename_i c3
    cases h
    dsimp only
    rw [Nat.one_pow, he, c3]
  split at h
  · cases h
  split at h
  · rename_i c5
    cases h
    dsimp only
    rw [c5, he]
  · cases h
theorem rais_pow {d p : Dy} {k : Nat} (h : raisO d (k : Int) = some p) : p = powD d k := by
  unfold raisO at h
  split at h
  · cases h
  split at h
  · rename_i c
    cases h
    unfold powD
    rw [c, Nat.one_pow]
  split at h
  · cases h
  split at h
  · cases h
    unfold powD
    rw [Int.natAbs_natCast]
  · cases h
theorem rais_of {d : Dy} {k : Nat} (h1 : d.e.natAbs * k ≤ 4096) (h2 : d.m = 1 ∨ k ≤ 54 ∧ bitLen d.m * k ≤ 60000) : raisO d (k : Int) = some (powD d k) := by
  unfold raisO
  rw [Int.natAbs_natCast, if_neg (by omega)]
  by_cases c : d.m = 1
  · rw [if_pos c]
    unfold powD
    rw [c, Nat.one_pow]
  · rw [if_neg c, if_neg (by omega), if_pos (h2.resolve_left c).2]
    rfl
theorem low_one (d : Dy) {e0 : Int} (he : d.e = e0) : lowN d 1 = 1 ∧ lowE d 1 = d.e := by
  unfold lowN lowE
  have : lowT 64 1 d.e = (1, d.e) := by
    show lowT (63 + 1) 1 d.e = _
    unfold lowT
    rw [if_neg (fun h => absurd h.1 (by decide))]
  rw [this]
  exact ⟨rfl, rfl⟩
theorem low_pown {d : Dy} : lowD d 1 = d ∧ lowQ d 1 = 1 := by
  obtain ⟨h1, h2⟩ := low_one d rfl
  have hg : lowG d 1 = 1 := by unfold lowG; rw [h1]; simp
  refine ⟨?_, ?_⟩
  · unfold lowD
    rw [hg, h2, Nat.div_one]
  · unfold lowQ
    rw [h1, hg]
theorem low_root {k : Nat} (hk : 1 ≤ k) : lowD ⟨false, 1, 0⟩ k = ⟨false, 1, 0⟩ ∧ lowQ ⟨false, 1, 0⟩ k = k := by
  have h1 : lowT 64 k 0 = (k, 0) := by
    show lowT (63 + 1) k 0 = _
    unfold lowT
    rw [if_neg (fun h => absurd h.2 (by decide))]
  have h2 : lowN ⟨false, 1, 0⟩ k = k := by unfold lowN; rw [h1]
  have h3 : lowE ⟨false, 1, 0⟩ k = 0 := by unfold lowE; rw [h1]
  have hg : lowG ⟨false, 1, 0⟩ k = 1 := by unfold lowG; rw [h2]; simp
  refine ⟨?_, ?_⟩
  · unfold lowD
    rw [hg, h3]
    simp
  · unfold lowQ
    rw [hg, h2, Nat.div_one]
theorem norm_nat {k : Nat} (hk : 1 ≤ k) (hk2 : k ≤ 1000) : exOfOk (norm (k : Int) 0) ∧ exM (norm (k : Int) 0) = k ∧ exK (norm (k : Int) 0) = 1 ∧ (norm (k : Int) 0).sg = 1 := by
  obtain ⟨g1, g2, g3, g4, g5, g6⟩ := norm_facts (n := (k : Int)) (by omega) (by omega) (by omega)
  have hge := (norm_ge (k : Int) (k := 0) (by decide) (by decide)).resolve_left g2
  have hat := norm_at (k : Int) (k := 0) (j := 0) (by decide) (by decide) (by decide)
  have hl : Lim 10 (norm (k : Int) 0) := Lim.norm (show ((k : Int)).natAbs < 2 ^ 10 by rw [Int.natAbs_natCast]; exact Nat.lt_of_le_of_lt hk2 (by decide)) (by decide)
  have ht := hl.top_lt g2
  have hte := top_eq g2
  have hb0 := bitLen_pos g2
  have hs : (norm (k : Int) 0).s = false := by
    unfold norm
    rw [mkD_s (by omega)]
    exact decide_eq_false (by omega)
  generalize norm (k : Int) 0 = N at *
  have hmax : max N.e 0 = N.e := by omega
  have hmin : max (-N.e) 0 = 0 := by omega
  refine ⟨⟨by omega, by rw [hmax]; omega⟩, ?_, ?_, ?_⟩
  · unfold exM exU
    rw [hs, if_neg Bool.false_ne_true, hmax]
    unfold Dy.at at hat
    rw [hs, if_neg Bool.false_ne_true, Int.one_mul, Int.sub_zero, Int.sub_self] at hat
    rw [hat]
    simp
  · unfold exK
    rw [hmin]; rfl
  · unfold Dy.sg
    rw [if_neg g2, hs]; rfl
theorem one_dy : norm 1 0 = ⟨false, 1, 0⟩ := by decide
theorem exact_pown {x k : Nat} (hk : 1 ≤ k) (hk2 : k ≤ 1000) {dir f t : Int} {p : Dy} (h : exactO (pownA x (k : Int) dir f t) = some p) : p = powD (fd (fsz x)) k := by
  obtain ⟨n1, n2, n3, n4⟩ := norm_nat hk hk2
  unfold exactO at h
  split at h
  · rename_i hs
    cases h
    have hs' : (norm (k : Int) 0).sg * cmpD (fd (fsz x)) (norm 1 0) = 0 := hs
    rw [n4, Int.one_mul] at hs'
    have he := (cmp_eq (fd_ok' _) (norm_ok _ _)).1 hs'
    rw [he, one_dy]
    unfold powD
    simp
  split at h
  · have ey : (pownA x (k : Int) dir f t).y = norm (k : Int) 0 := rfl
    have en : (pownA x (k : Int) dir f t).n = 1 := rfl
    have ex : (pownA x (k : Int) dir f t).x = fd (fsz x) := rfl
    rw [ey, en, ex, low_pown.1, low_pown.2, n2, n3] at h
    unfold powO at h
    rw [Int.natAbs_natCast] at h
    have hg : Nat.gcd k (1 * 1) = 1 := by simp
    rw [hg] at h
    rw [show ((k : Int)).tdiv ((1 : Nat) : Int) = k by simp, if_neg (by omega)] at h
    have hr : rootO (fd (fsz x)) (1 * 1 / 1) = some (fd (fsz x)) := by unfold rootO; simp
    rw [hr] at h
    dsimp only at h
    split at h
    · cases h
    · rename_i q hq
      split at h
      · cases h
        exact rais_pow hq
      · cases h
  · cases h
theorem rootA_y (x : Nat) {k : Nat} (dir f t : Int) : (rootA x (k : Int) dir f t).y = ⟨false, 1, 0⟩ ∧ (rootA x (k : Int) dir f t).n = k ∧ (rootA x (k : Int) dir f t).x = fd (fsz x) := by
  refine ⟨?_, rfl, rfl⟩
  show mkD (decide ((k : Int) < 0)) 1 0 = _
  rw [decide_eq_false (by omega)]
  decide
theorem exact_root {x k : Nat} (hs : (fd (fsz x)).s = false) (hk : 1 ≤ k) {dir f t : Int} {p : Dy} (h : exactO (rootA x (k : Int) dir f t) = some p) : powD p k = fd (fsz x) := by
  obtain ⟨ey, en, ex⟩ := rootA_y x (k := k) dir f t
  unfold exactO at h
  split at h
  · rename_i hz
    cases h
    unfold sgS at hz
    rw [ey, ex, show (⟨false, 1, 0⟩ : Dy).sg = 1 by decide, Int.one_mul] at hz
    have he := (cmp_eq (fd_ok' _) (norm_ok _ _)).1 hz
    rw [he, one_dy]
    unfold powD
    simp
  split at h
  · rw [ey, en, ex, (low_root hk).1, (low_root hk).2, show exM ⟨false, 1, 0⟩ = 1 by decide, show exK ⟨false, 1, 0⟩ = 1 by decide, Nat.one_mul] at h
    unfold powO at h
    have hg : Nat.gcd (1 : Int).natAbs k = 1 := by simp
    rw [hg] at h
    rw [show (1 : Int).tdiv ((1 : Nat) : Int) = 1 by decide, if_neg (by decide), Nat.div_one] at h
    split at h
    · cases h
    · rename_i r hr
      have hp := pow_root hs hk hr
      split at h
      · cases h
      · rename_i q hq
        split at h
        · cases h
          have := rais_pow (k := 1) hq
          rw [this]
          have e1 : powD (powD r 1) k = powD r k := by unfold powD; simp
          rw [e1]
          exact hp
        · cases h
  · cases h
theorem find_root {x k : Nat} {d : Dy} (hs : d.s = false) (hm : d.m % 2 = 1) (hd : fd (fsz x) = powD d k) (hk : 1 ≤ k) (hk2 : k ≤ 1000) (he : d.e.natAbs ≤ 4096) (hb : bitLen d.m ≤ 60000) (hbr : brkP d) {dir f t : Int} : exactO (rootA x (k : Int) dir f t) = some d := by
  obtain ⟨ey, en, ex⟩ := rootA_y x (k := k) dir f t
  unfold exactO
  by_cases hz : sgS (rootA x (k : Int) dir f t) = 0
  · rw [if_pos hz]
    unfold sgS at hz
    rw [ey, ex, show (⟨false, 1, 0⟩ : Dy).sg = 1 by decide, Int.one_mul] at hz
    have he1 := (cmp_eq (fd_ok' _) (norm_ok _ _)).1 hz
    rw [hd, one_dy] at he1
    unfold powD at he1
    simp only [Dy.mk.injEq, true_and] at he1
    have hm1 : d.m = 1 := by
      rcases Nat.lt_or_ge d.m 2 with h | h
      · omega
      · have h1 : 2 ≤ d.m ^ k := Nat.le_trans h (Nat.le_self_pow (n := k) (by omega) _)
        omega
    have he0 : d.e = 0 := by
      rcases Int.mul_eq_zero.1 he1.2 with h | h
      · exact h
      · omega
    rw [one_dy]
    obtain ⟨s, m, e⟩ := d
    dsimp only at hs hm1 he0
    rw [hs, hm1, he0]
  rw [if_neg hz]
  have hw : wholeOk (rootA x (k : Int) dir f t).y (rootA x (k : Int) dir f t).n := by
    rw [ey, en]
    unfold wholeOk
    rw [(low_root hk).1, (low_root hk).2]
    refine ⟨by decide, by omega, ?_⟩
    rw [show exK ⟨false, 1, 0⟩ = 1 by decide]
    exact (Nat.le_div_iff_mul_le (by omega)).2 (by omega)
  rw [if_pos hw, ey, en, ex, (low_root hk).1, (low_root hk).2, show exM ⟨false, 1, 0⟩ = 1 by decide, show exK ⟨false, 1, 0⟩ = 1 by decide, Nat.one_mul]
  unfold powO
  have hg : Nat.gcd (1 : Int).natAbs k = 1 := by simp
  rw [hg]
  rw [show (1 : Int).tdiv ((1 : Nat) : Int) = 1 by decide, if_neg (by decide), Nat.div_one, hd, root_pow hs hm hk]
  dsimp only
  have hr : raisO d ((1 : Nat) : Int) = some (powD d 1) := rais_of (by omega) (.inr ⟨by decide, by omega⟩)
  rw [show ((1 : Nat) : Int) = 1 from rfl] at hr
  rw [hr]
  have e1 : powD d 1 = d := by
    obtain ⟨s, m, e⟩ := d
    dsimp only at hs
    unfold powD
    rw [hs]; simp
  rw [e1]
  dsimp only
  rw [if_pos hbr]
theorem find_pown {x k : Nat} (hk : 1 ≤ k) (hk2 : k ≤ 54) (he : (fd (fsz x)).e.natAbs * k ≤ 4096) (hbr : brkP (powD (fd (fsz x)) k)) {dir f t : Int} : exactO (pownA x (k : Int) dir f t) = some (powD (fd (fsz x)) k) := by
  obtain ⟨n1, n2, n3, n4⟩ := norm_nat hk (show k ≤ 1000 by omega)
  have ey : (pownA x (k : Int) dir f t).y = norm (k : Int) 0 := rfl
  have en : (pownA x (k : Int) dir f t).n = 1 := rfl
  have ex : (pownA x (k : Int) dir f t).x = fd (fsz x) := rfl
  unfold exactO
  by_cases hz : sgS (pownA x (k : Int) dir f t) = 0
  · rw [if_pos hz]
    have hs' : (norm (k : Int) 0).sg * cmpD (fd (fsz x)) (norm 1 0) = 0 := hz
    rw [n4, Int.one_mul] at hs'
    have he1 := (cmp_eq (fd_ok' _) (norm_ok _ _)).1 hs'
    rw [he1, one_dy]
    unfold powD
    simp
  rw [if_neg hz]
  have hw : wholeOk (pownA x (k : Int) dir f t).y (pownA x (k : Int) dir f t).n := by
    rw [ey, en]
    unfold wholeOk
    rw [low_pown.1, low_pown.2, n3]
    exact ⟨n1, by decide, by decide⟩
  rw [if_pos hw, ey, en, ex, low_pown.1, low_pown.2, n2, n3]
  unfold powO
  rw [Int.natAbs_natCast]
  have hg : Nat.gcd k (1 * 1) = 1 := by simp
  rw [hg]
  rw [show ((k : Int)).tdiv ((1 : Nat) : Int) = k by simp, if_neg (by omega)]
  have hr : rootO (fd (fsz x)) (1 * 1 / 1) = some (fd (fsz x)) := by unfold rootO; simp
  rw [hr]
  dsimp only
  have hb := fd_bits (fsz x)
  have hr2 : raisO (fd (fsz x)) (k : Int) = some (powD (fd (fsz x)) k) := rais_of he (.inr ⟨hk2, by
    have := Nat.mul_le_mul hb hk2
    omega⟩)
  rw [hr2]
  dsimp only
  rw [if_pos hbr]
theorem fd_brk {b : Nat} (hf : fe b < 2047) : brkP (fd b) := by
  by_cases h0 : (fd b).m = 0
  · exact .inl h0
  · obtain ⟨h1, h2⟩ := fd_exact b hf h0
    refine .inr ?_
    rw [if_neg (by omega)]
    omega
end Go.Proofs.YtfkgaldbcngliaaGreatDoor
