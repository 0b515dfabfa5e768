import Derived.Test.YtfkgaldbcngliaaGreatDoorN3
open Go PG Go.Proofs
set_option maxRecDepth 100000
set_option linter.unusedSimpArgs false
set_option linter.unusedVariables false
namespace Go.Proofs.YtfkgaldbcngliaaGreatDoor
open XX
theorem mk_val (s : Bool) (x : Nat) {e : Int} (h : -2147483648 ≤ e ∧ e ≤ 2147483648) : (mkD s x e).val = (if s = true then -(x : Rat) else (x : Rat)) * (2 : Rat) ^ e := by
  by_cases hx : x = 0
  · subst hx
    have : (mkD s 0 e).m = 0 := rfl
    rw [val_zero this]
    cases s <;> simp <;> grind
  cases s with
  | false =>
    have e1 : mkD false x e = norm (x : Int) e := by unfold norm; rw [decide_eq_false (by omega)]; rfl
    rw [e1, val_norm _ h.1 h.2]; rfl
  | true =>
    have e1 : mkD true x e = norm (-(x : Int)) e := by unfold norm; rw [decide_eq_true (by omega), Int.natAbs_neg]; rfl
    rw [e1, val_norm _ h.1 h.2, if_pos rfl, Rat.intCast_neg]; rfl
theorem z2_sub (x : Rat) (s : Nat) : x * (2 : Rat) ^ (-(s : Int)) = x / ((2 ^ s : Nat) : Rat) := by
  rw [Rat.zpow_neg, z2_nat, Rat.div_def]
def Br (w : Rat) (i : Iv) : Prop := XU i.lo.val w ∧ XL w i.hi.val
theorem Br.pick {w : Rat} (hw : 0 < w) {a b : Dy} (h1 : XU a.val w) (h2 : XL w b.val) : Br w (if 0 < cmpD a b then ⟨b, a⟩ else ⟨a, b⟩) := by
  split
  · rename_i h
    have h := cmp_val_gt.1 h
    exact ⟨h1.mono (Rat.le_of_lt h) Rat.le_refl (Rat.le_of_lt hw), h2.mono (Rat.le_of_lt h) Rat.le_refl (Rat.le_of_lt hw)⟩
  · exact ⟨h1, h2⟩
theorem Br.pick' {w : Rat} (hw : 0 < w) {a b : Dy} (h1 : XU b.val w) (h2 : XL w a.val) : Br w (if 0 < cmpD a b then ⟨b, a⟩ else ⟨a, b⟩) := by
  split
  · exact ⟨h1, h2⟩
  · rename_i h
    have h : a.val ≤ b.val := cmp_val_le.1 (by omega)
    exact ⟨h1.mono h Rat.le_refl (Rat.le_of_lt hw), h2.mono h Rat.le_refl (Rat.le_of_lt hw)⟩
theorem rone_div {w : Rat} (h : 0 < w) : 0 < 1 / w := by
  rw [Rat.div_def, Rat.one_mul]; exact Rat.inv_pos.2 h
theorem Br.within {w : Rat} (hw : 0 < w) {lo hi s : Nat} (hs : s ≤ 100000) (h1 : XU ((lo : Rat) / ((2 ^ s : Nat) : Rat)) w) (h2 : XL w ((hi : Rat) / ((2 ^ s : Nat) : Rat))) (neg : Bool) :
    Br (if neg = true then 1 / w else w) (withinS lo hi s neg) := by
  have r : -2147483648 ≤ -(s : Int) ∧ -(s : Int) ≤ 2147483648 := ⟨by omega, by omega⟩
  unfold withinS
  cases neg with
  | false =>
    refine Br.pick hw ?_ ?_
    · rw [mk_val false lo r, if_neg (by decide), z2_sub]; exact h1
    · rw [mk_val false hi r, if_neg (by decide), z2_sub]; exact h2
  | true =>
    have n1 : ∀ x : Rat, -x / ((2 ^ s : Nat) : Rat) = -(x / ((2 ^ s : Nat) : Rat)) := fun x => by rw [Rat.div_def, Rat.div_def, Rat.neg_mul]
    refine Br.pick' (rone_div hw) ?_ ?_
    · rw [mk_val true hi r, if_pos rfl, z2_sub, n1]; exact h2.inv hw
    · rw [mk_val true lo r, if_pos rfl, z2_sub, n1]; exact h1.inv hw
theorem Br.add {w v : Rat} (hw : 0 < w) (hv : 0 < v) {i k : Iv} {K : Nat} (li : i.lim K) (lk : k.lim K) (hK : K ≤ 1000000) (h1 : Br w i) (h2 : Br v k) : Br (w * v) (addI i k) := by
  constructor
  · show XU (addS i.lo k.lo).val _
    rw [li.1.val_add lk.1 hK]
    exact h1.1.mul h2.1 (Rat.le_of_lt hw) (Rat.le_of_lt hv)
  · show XL _ (addS i.hi k.hi).val
    rw [li.2.val_add lk.2 hK]
    exact h1.2.mul h2.2 (Rat.le_of_lt hw) (Rat.le_of_lt hv)
theorem nc_pos {n : Nat} (h : 0 < n) : (0 : Rat) < (n : Rat) := by
  have := ncast_le (show 1 ≤ n from h)
  have e : ((1 : Nat) : Rat) = 1 := rfl
  grind
theorem z2_inv (n : Nat) : 1 / ((2 : Rat) ^ n) = (2 : Rat) ^ (-(n : Int)) := by
  rw [Rat.zpow_neg, Rat.zpow_natCast, Rat.div_def, Rat.one_mul]
theorem near_val {d : Dy} (hl : LgOk d) : d.val = (if nNeg d.m = true then 1 / gR ((nNum d.m : Rat) / (nDen d.m : Rat)) else gR ((nNum d.m : Rat) / (nDen d.m : Rat))) * (2 : Rat) ^ nE d := by
  obtain ⟨f1, f2⟩ := near_facts hl.m0
  have hv : d.val = (d.m : Rat) * (2 : Rat) ^ d.e := by unfold Dy.val; rw [hl.pos, if_neg (by decide), Int.one_mul]; rfl
  obtain ⟨J, hJ1, hJ2⟩ : ∃ J : Nat, nOne d.m = 2 ^ J ∧ nE d = J + d.e := by
    have ht : d.top = bitLen d.m - 1 + d.e := if_neg hl.m0
    have hb := bitLen_pos hl.m0
    unfold nOne nE
    by_cases hu : nUp d.m = true
    · rw [if_pos hu, if_pos hu]
      exact ⟨bitLen d.m - 1 + 1, by rw [Nat.pow_succ]; omega, by omega⟩
    · rw [if_neg hu, if_neg hu]
      exact ⟨bitLen d.m - 1, rfl, by omega⟩
  rw [hv, hJ2, z2_add, z2_nat, ← hJ1]
  have hm := nc_pos (Nat.pos_of_ne_zero hl.m0)
  have ho : 0 < nOne d.m := by rw [hJ1]; exact Nat.two_pow_pos J
  have hoR := nc_pos ho
  have hd := nc_pos f1
  have key : (d.m : Rat) = (if nNeg d.m = true then 1 / gR ((nNum d.m : Rat) / (nDen d.m : Rat)) else gR ((nNum d.m : Rat) / (nDen d.m : Rat))) * (nOne d.m : Rat) := by
    have hD : (nDen d.m : Rat) = (d.m : Rat) + (nOne d.m : Rat) := by unfold nDen; exact ncast_add _ _
    have hy : ∀ y : Rat, y / (nDen d.m : Rat) * (nDen d.m : Rat) = y := fun y => Rat.div_mul_cancel (by grind)
    unfold gR nNeg
    by_cases hlt : d.m < nOne d.m
    · rw [decide_eq_true hlt, if_pos rfl]
      have hN : (nNum d.m : Rat) + (d.m : Rat) = (nOne d.m : Rat) := by
        unfold nNum; rw [if_pos hlt, ← ncast_add]; congr 1; omega
      have h3 := hy (nNum d.m : Rat)
      generalize (nNum d.m : Rat) / (nDen d.m : Rat) = y at *
      generalize (nNum d.m : Rat) = N at *
      generalize (nDen d.m : Rat) = D at *
      generalize (nOne d.m : Rat) = O at *
      generalize (d.m : Rat) = M at *
      have e1 : (1 + y) * D = O + O := by grind
      have e2 : (1 - y) * D = M + M := by grind
      have p1 : 0 < 1 + y := by
        have : 0 < (1 + y) * D := by grind
        refine Rat.lt_of_mul_lt_mul_right (c := D) ?_ (Rat.le_of_lt hd)
        rwa [Rat.zero_mul]
      have p2 : 0 < 1 - y := by
        have : 0 < (1 - y) * D := by grind
        refine Rat.lt_of_mul_lt_mul_right (c := D) ?_ (Rat.le_of_lt hd)
        rwa [Rat.zero_mul]
      have e3 : 1 / ((1 + y) / (1 - y)) = (1 - y) / (1 + y) := by
        have q1 : 1 + y ≠ 0 := by grind
        have q2 : 1 - y ≠ 0 := by grind
        grind
      rw [e3]
      have e4 : (1 - y) / (1 + y) * (1 + y) = 1 - y := Rat.div_mul_cancel (by grind)
      generalize (1 - y) / (1 + y) = q at *
      have e5 : q * (O + O) = M + M := by rw [← e1, ← e2, ← Rat.mul_assoc, e4]
      grind
    · rw [decide_eq_false hlt, if_neg (by decide)]
      have hN : (nNum d.m : Rat) + (nOne d.m : Rat) = (d.m : Rat) := by
        unfold nNum; rw [if_neg hlt, ← ncast_add]; congr 1; omega
      have h3 := hy (nNum d.m : Rat)
      generalize (nNum d.m : Rat) / (nDen d.m : Rat) = y at *
      generalize (nNum d.m : Rat) = N at *
      generalize (nDen d.m : Rat) = D at *
      generalize (nOne d.m : Rat) = O at *
      generalize (d.m : Rat) = M at *
      have e1 : (1 + y) * D = M + M := by grind
      have e2 : (1 - y) * D = O + O := by grind
      have p2 : 0 < 1 - y := by
        have : 0 < (1 - y) * D := by grind
        refine Rat.lt_of_mul_lt_mul_right (c := D) ?_ (Rat.le_of_lt hd)
        rwa [Rat.zero_mul]
      have e4 : (1 + y) / (1 - y) * (1 - y) = 1 + y := Rat.div_mul_cancel (by grind)
      generalize (1 + y) / (1 - y) = q at *
      have e5 : q * (O + O) = M + M := by rw [← e1, ← e2, ← Rat.mul_assoc, e4]
      grind
  rw [← Rat.mul_assoc, ← key]
theorem gR_pos' {y : Rat} (h0 : 0 ≤ y) (h : y ≤ 1 / 3) : 0 < gR y := by have := gR_pos h0 h; grind
theorem mul_div_r (n a : Nat) (S : Rat) : ((a * n : Nat) : Rat) / S = (n : Rat) * ((a : Rat) / S) := by
  rw [ncast_mul, Rat.div_def, Rat.div_def]; grind
theorem log_br {d : Dy} (hl : LgOk d) {s : Nat} (hs : s ≤ 9000) : 0 < d.val ∧ Br d.val (logS d s) := by
  obtain ⟨f1, f2⟩ := near_facts hl.m0
  obtain ⟨y1, y2⟩ := y_facts f1 f2
  have l1 := log_lo (s := s) f1 f2
  have l2 := log_hi (s := s) f1 f2
  have hg := gR_pos' y1 y2
  have c2 : ((2 : Nat) : Rat) = 2 := rfl
  have hx := Br.within (lo := (atanhS (nNum d.m) (nDen d.m) s).lo * 2) (hi := (atanhS (nNum d.m) (nDen d.m) s).hi * 2) hg (s := s) (by omega)
    (by rw [ncast_mul, c2, Rat.mul_comm]; exact l1) (by rw [ncast_mul, c2, Rat.mul_comm]; exact l2) (nNeg d.m)
  have p2 : (0 : Rat) < 2 := by decide
  have hn2 : (0 : Rat) < 2 ^ (nE d).natAbs := Rat.pow_pos p2
  have k1 := (ln2_lo s).pow (Rat.le_of_lt p2) (nE d).natAbs
  have k2 := (ln2_hi s).pow (Rat.le_of_lt p2) (nE d).natAbs
  have hy := Br.within (lo := (ln2S s).lo * (nE d).natAbs) (hi := (ln2S s).hi * (nE d).natAbs) hn2 (s := s) (by omega)
    (by rw [mul_div_r]; exact k1) (by rw [mul_div_r]; exact k2) (decide (nE d < 0))
  have e2 : (if decide (nE d < 0) = true then 1 / (2 : Rat) ^ (nE d).natAbs else (2 : Rat) ^ (nE d).natAbs) = (2 : Rat) ^ nE d := by
    by_cases h : nE d < 0
    · rw [decide_eq_true h, if_pos rfl, z2_inv]; congr 1; omega
    · rw [decide_eq_false h, if_neg (by decide), ← Rat.zpow_natCast]; congr 1; omega
  rw [e2] at hy
  have hv := near_val hl
  have hw : 0 < (if nNeg d.m = true then 1 / gR ((nNum d.m : Rat) / (nDen d.m : Rat)) else gR ((nNum d.m : Rat) / (nDen d.m : Rat))) := by
    split
    · exact rone_div hg
    · exact hg
  have hz := z2_pos (nE d)
  rw [hv]
  exact ⟨Rat.mul_pos hw hz, Br.add hw hz (logX_lim hl hs) (logY_lim hl hs) (by decide) hx hy⟩
end Go.Proofs.YtfkgaldbcngliaaGreatDoor
