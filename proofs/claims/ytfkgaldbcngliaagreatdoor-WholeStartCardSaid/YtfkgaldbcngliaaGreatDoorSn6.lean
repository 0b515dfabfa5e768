import Derived.Test.YtfkgaldbcngliaaGreatDoorSn5
open Go PG Go.Proofs
set_option maxRecDepth 100000
set_option linter.unusedSimpArgs false
set_option linter.unusedVariables false
namespace Go.Proofs.YtfkgaldbcngliaaGreatDoor
open XX
theorem small_two (Q : Nat) {y : Rat} (hy : 0 < y) (k : Nat) : ∃ n : Nat, k ≤ n ∧ (Q : Rat) * (2 : Rat) ^ (-(n : Int)) ≤ y := by
  obtain ⟨n, hn, hx⟩ := big_two ((Q : Rat) / y) k
  refine ⟨n, hn, ?_⟩
  have hp := z2_pos (n : Int)
  have e0 : (2 : Rat) ^ (-(n : Int)) * (2 : Rat) ^ (n : Int) = 1 := by rw [← z2_add, Int.add_left_neg, z2_zero]
  have h1 := Rat.mul_le_mul_of_nonneg_right hx (Rat.le_of_lt hy)
  rw [Rat.div_mul_cancel (by grind)] at h1
  refine scale_le hp ?_
  generalize (2 : Rat) ^ (-(n : Int)) = X at *
  generalize (2 : Rat) ^ (n : Int) = Y at *
  generalize (Q : Rat) = q at *
  have : q * X * Y = q := by grind
  rw [this]
  grind
theorem z2_low {n k : Nat} (h : k ≤ n) : (2 : Rat) ^ (-(n : Int)) ≤ (2 : Rat) ^ (-(k : Int)) := by
  rw [show (-(k : Int)) = -(n : Int) + ((n - k : Nat) : Int) by omega, z2_add]
  have := ncast_le (Nat.two_pow_pos (n - k))
  have h3 := Rat.mul_le_mul_of_nonneg_left this (Rat.le_of_lt (z2_pos (-(n : Int))))
  rw [← z2_nat] at h3
  rw [show ((0 + 1 : Nat) : Rat) = 1 from rfl, Rat.mul_one] at h3
  exact h3
theorem nat_val (m : Nat) (e : Int) : (⟨false, m, e⟩ : Dy).val = (m : Rat) * (2 : Rat) ^ e := by
  unfold Dy.val
  rw [if_neg Bool.false_ne_true, Int.one_mul]
  rfl
theorem en_class3 {a : Ask} (ha : AskOk a) (h1 : 1 < askW a) (h2 : askW a ≤ (1 + 1 / 576460752303423488) ^ askQ a) (neg : Bool) (dir : Int) : ∃ A B, En a neg dir (classS 3 neg dir) A B := by
  have hw := askW_pos ha
  have hi := rinv_gt h1
  have hi0 := Rat.inv_pos.2 hw
  obtain ⟨n, hn, hx⟩ := small_two (askQ a) (y := 1 - (askW a)⁻¹) (by grind) 59
  have ht0 := z2_pos (-(n : Int))
  have ht := z2_low hn
  rw [show (2 : Rat) ^ (-((59 : Nat) : Int)) = 1 / 576460752303423488 by decide +kernel] at ht
  have e0 : (2 : Rat) ^ (n : Int) * (2 : Rat) ^ (-(n : Int)) = 1 := by rw [← z2_add, Int.add_right_neg, z2_zero]
  have vA : (⟨false, 2 ^ n + 1, -(n : Int)⟩ : Dy).val = 1 + (2 : Rat) ^ (-(n : Int)) := by
    rw [nat_val, ncast_add, ← z2_nat]
    show ((2 : Rat) ^ (n : Int) + 1) * _ = _
    grind
  have vB : (⟨false, 576460752303423489, -59⟩ : Dy).val = 1 + 1 / 576460752303423488 := by decide +kernel
  have cA := fun d => class3 (d := ⟨false, 2 ^ n + 1, -(n : Int)⟩) rfl (Nat.succ_ne_zero _) (by rw [vA]; grind) (by rw [vA]; grind) neg d
  have cB := fun d => class3 (d := ⟨false, 576460752303423489, -59⟩) rfl (by decide) (by rw [vB]; decide +kernel) (by rw [vB]; exact Rat.le_refl) neg d
  refine ⟨⟨false, 2 ^ n + 1, -(n : Int)⟩, ⟨false, 576460752303423489, -59⟩, ⟨rfl, rfl, Nat.succ_ne_zero _, by decide, fun d => ?_, fun d => ?_, ?_, ?_, cA dir, cB dir⟩⟩
  · rw [cA d]; exact class_flag (by decide) neg d
  · rw [cB d]; exact class_flag (by decide) neg d
  · rw [vA]
    have hb := bern_up (Rat.le_of_lt ht0) (n := askQ a) (by grind)
    have hpp : 0 < (1 + (2 : Rat) ^ (-(n : Int))) ^ askQ a := Rat.pow_pos (by grind)
    have e2 : (askW a)⁻¹ * askW a = 1 := Rat.inv_mul_cancel _ (by grind)
    generalize (1 + (2 : Rat) ^ (-(n : Int))) ^ askQ a = X at *
    generalize (askQ a : Rat) * (2 : Rat) ^ (-(n : Int)) = q at *
    have h3 : X * (askW a)⁻¹ ≤ X * (1 - q) := Rat.mul_le_mul_of_nonneg_left (by grind) (Rat.le_of_lt hpp)
    have h4 : X * (askW a)⁻¹ ≤ 1 := Rat.le_trans h3 hb
    have h5 := Rat.mul_le_mul_of_nonneg_right h4 (Rat.le_of_lt hw)
    generalize (askW a)⁻¹ = I at *
    generalize askW a = w at *
    have : X * I * w = X := by grind
    rw [this] at h5
    grind
  · rw [vB]; exact h2
theorem en_class4 {a : Ask} (ha : AskOk a) (h1 : (1 - 1 / 1152921504606846976) ^ askQ a ≤ askW a) (h2 : askW a < 1) (neg : Bool) (dir : Int) : ∃ A B, En a neg dir (classS 4 neg dir) A B := by
  obtain ⟨n, hn, hx⟩ := small_two (askQ a) (y := 1 - askW a) (by grind) 60
  have ht0 := z2_pos (-(n : Int))
  have ht := z2_low hn
  rw [show (2 : Rat) ^ (-((60 : Nat) : Int)) = 1 / 1152921504606846976 by decide +kernel] at ht
  have e0 : (2 : Rat) ^ (n : Int) * (2 : Rat) ^ (-(n : Int)) = 1 := by rw [← z2_add, Int.add_right_neg, z2_zero]
  have hn2 : 2 ≤ 2 ^ n := Nat.le_trans (by omega) (two_ge n)
  have vB : (⟨false, 2 ^ n - 1, -(n : Int)⟩ : Dy).val = 1 - (2 : Rat) ^ (-(n : Int)) := by
    have : ((2 ^ n - 1 : Nat) : Rat) + 1 = ((2 ^ n : Nat) : Rat) := by rw [← natc]; congr 1; omega
    rw [nat_val]
    rw [← z2_nat] at this
    generalize ((2 ^ n - 1 : Nat) : Rat) = M at *
    have e1 : M = (2 : Rat) ^ (n : Int) - 1 := by grind
    rw [e1]
    grind
  have vA : (⟨false, 1152921504606846975, -60⟩ : Dy).val = 1 - 1 / 1152921504606846976 := by decide +kernel
  have cB := fun d => class4 (d := ⟨false, 2 ^ n - 1, -(n : Int)⟩) rfl (show 2 ^ n - 1 ≠ 0 by omega) (by rw [vB]; grind) (by rw [vB]; grind) neg d
  have cA := fun d => class4 (d := ⟨false, 1152921504606846975, -60⟩) rfl (by decide) (by rw [vA]; exact Rat.le_refl) (by rw [vA]; decide +kernel) neg d
  refine ⟨⟨false, 1152921504606846975, -60⟩, ⟨false, 2 ^ n - 1, -(n : Int)⟩, ⟨rfl, rfl, by decide, show 2 ^ n - 1 ≠ 0 by omega, fun d => ?_, fun d => ?_, ?_, ?_, cA dir, cB dir⟩⟩
  · rw [cA d]; exact class_flag (by decide) neg d
  · rw [cB d]; exact class_flag (by decide) neg d
  · rw [vA]; exact h1
  · rw [vB]
    have hb := bern (x := -(2 : Rat) ^ (-(n : Int))) (by have : (1 : Rat) / 1152921504606846976 ≤ 1 := by decide +kernel
                                                         grind) (askQ a)
    have e1 : 1 + -(2 : Rat) ^ (-(n : Int)) = 1 - (2 : Rat) ^ (-(n : Int)) := by grind
    rw [e1] at hb
    grind
theorem sgn_brk {d : Dy} (h0 : d.m ≠ 0) (neg : Bool) (h : brkP (sgnD d neg)) : brkP d := by
  unfold sgnD Dy.neg at h
  cases neg with
  | true => rw [if_pos rfl, if_neg h0] at h; exact h
  | false => rw [if_neg Bool.false_ne_true] at h; exact h
theorem pos_s {d : Dy} (h : 0 < d.sg) : d.s = false := by
  unfold Dy.sg at h
  split at h
  · omega
  · cases hs : d.s with
    | false => rfl
    | true => rw [hs] at h; exact absurd h (by decide)
theorem en_round {a : Ask} (ha : AskOk a) {b : Nat} (hb : 32 ≤ b) (hs : splitOk (zS a b) (scS a.y b)) {neg : Bool} {dir : Int} {r : Nat × Nat} (h : roundS (expI (zS a b) (scS a.y b)) neg dir = some r) : ∃ A B, En a neg dir r A B := by
  obtain ⟨s1, s2⟩ := scS_range (y := a.y) hb
  have hl := expI_lim (by omega) s2 hs
  unfold roundS at h
  split at h
  · rename_i hc
    cases h
    obtain ⟨⟨hd, n1, n2⟩, he⟩ := hc
    obtain ⟨t1, t2, t3, t4⟩ := try_br ha hb hs hd
    have z1 := sg_m0 hd.2
    have z2 := sg_m0 (decR_hi hd)
    have b1 : ¬ brkP (expI (zS a b) (scS a.y b)).lo := fun hb => n1 ⟨hl.1.fits (by omega), hb⟩
    have b2 : ¬ brkP (expI (zS a b) (scS a.y b)).hi := fun hb => n2 ⟨hl.2.fits (by omega), hb⟩
    refine ⟨_, _, ⟨pos_s hd.2, pos_s (decR_hi hd), z1, z2, fun d => ?_, fun d => ?_, t3, t4, rfl, he.symm⟩⟩
    · exact toS_nobrk (sgnD_lim hl.1 neg).ok (by rw [sgnD_m]; exact z1) (fun hb => b1 (sgn_brk z1 neg hb)) _ _
    · exact toS_nobrk (sgnD_lim hl.2 neg).ok (by rw [sgnD_m]; exact z2) (fun hb => b2 (sgn_brk z2 neg hb)) _ _
  · cases h
theorem try_en {a : Ask} (ha : AskOk a) {b : Nat} (hb : 32 ≤ b) (h : (tryS a (sgS a) b).2 = true) : ∃ A B, En a a.neg a.dir (tryS a (sgS a) b).1.1 A B := by
  obtain ⟨c1, c2, c3, c4⟩ := bound_w ha hb
  have hr := boundS_range (zS a b) (sgS a)
  unfold tryS at h ⊢
  generalize hc : boundS (zS a b) (sgS a) = c at *
  by_cases h0 : c ≠ 0
  · rw [if_pos h0] at h ⊢
    have : c = 1 ∨ c = 2 ∨ c = 3 ∨ c = 4 := by omega
    rcases this with rfl | rfl | rfl | rfl
    · exact en_class1 ha (c1 rfl) _ _
    · exact en_class2 ha (c2 rfl) _ _
    · exact en_class3 ha (c3 rfl).1 (c3 rfl).2 _ _
    · exact en_class4 ha (c4 rfl).1 (c4 rfl).2 _ _
  · rw [if_neg h0] at h ⊢
    by_cases hs : splitOk (zS a b) (scS a.y b)
    · rw [if_pos hs] at h ⊢
      cases hR : roundS (expI (zS a b) (scS a.y b)) a.neg a.dir with
      | none => rw [hR] at h; exact absurd h Bool.false_ne_true
      | some r => exact en_round ha hb hs hR
    · rw [if_neg hs] at h
      exact absurd h (by decide)
structure Mt (a : Ask) (neg : Bool) (d : Dy) : Prop where
  s : d.s = false
  m : d.m ≠ 0
  i : ∀ dd, (toS (sgnD d neg) false dd).2 ≠ 0
  lo : d.val ^ askQ a ≤ askW a
theorem meet0 {a : Ask} {neg : Bool} : ∀ L : List (Int × (Nat × Nat)), L ≠ [] → (∀ x ∈ L, ∃ A B, En a neg x.1 x.2 A B) → ∃ d, Mt a neg d ∧ ∀ x ∈ L, ∃ A B, En a neg x.1 x.2 A B ∧ A.val ≤ d.val
  | [], hn, _ => absurd rfl hn
  | [x], _, h => by
    obtain ⟨A, B, e⟩ := h x (List.mem_cons_self ..)
    refine ⟨A, ⟨e.sA, e.mA, e.iA, e.lo⟩, fun y hy => ?_⟩
    rw [List.mem_singleton] at hy
    subst hy
    exact ⟨A, B, e, Rat.le_refl⟩
  | x :: y :: L, _, h => by
    obtain ⟨A, B, e⟩ := h x (List.mem_cons_self ..)
    obtain ⟨d, hd, hL⟩ := meet0 (y :: L) (List.cons_ne_nil _ _) (fun z hz => h z (List.mem_cons_of_mem _ hz))
    by_cases hc : d.val ≤ A.val
    · refine ⟨A, ⟨e.sA, e.mA, e.iA, e.lo⟩, fun z hz => ?_⟩
      rcases List.mem_cons.1 hz with rfl | hz
      · exact ⟨A, B, e, Rat.le_refl⟩
      · obtain ⟨A', B', e', h'⟩ := hL z hz
        exact ⟨A', B', e', Rat.le_trans h' hc⟩
    · refine ⟨d, hd, fun z hz => ?_⟩
      rcases List.mem_cons.1 hz with rfl | hz
      · exact ⟨A, B, e, by grind⟩
      · exact hL z hz
theorem meet {a : Ask} (ha : AskOk a) {neg : Bool} (L : List (Int × (Nat × Nat))) (hn : L ≠ []) (h : ∀ x ∈ L, ∃ A B, En a neg x.1 x.2 A B) : ∃ d, Mt a neg d ∧ ∀ x ∈ L, toS (sgnD d neg) false x.1 = x.2 := by
  obtain ⟨d, hd, hL⟩ := meet0 L hn h
  refine ⟨d, hd, fun x hx => ?_⟩
  obtain ⟨A, B, e, h1⟩ := hL x hx
  have h2 : d.val ≤ B.val := rpow_le_iff (Rat.le_of_lt (pos_val e.sB e.mB)) (askQ_pos ha) (Rat.le_trans hd.lo e.hi)
  rw [toS_mid e.sA hd.s e.sB e.mA hd.m e.mB h1 h2 (e.rA.trans e.rB.symm) (e.iA _) (hd.i _), e.rA]
theorem try_agree {a : Ask} (ha : AskOk a) {b b' : Nat} (hb : 32 ≤ b) (hb' : 32 ≤ b') (h : (tryS a (sgS a) b).2 = true) (h' : (tryS a (sgS a) b').2 = true) : (tryS a (sgS a) b).1.1 = (tryS a (sgS a) b').1.1 := by
  obtain ⟨d, -, hL⟩ := meet ha (neg := a.neg) [(a.dir, (tryS a (sgS a) b).1.1), (a.dir, (tryS a (sgS a) b').1.1)] (List.cons_ne_nil _ _) (fun x hx => by
    rcases List.mem_cons.1 hx with rfl | hx
    · exact try_en ha hb h
    · rw [List.mem_singleton] at hx
      subst hx
      exact try_en ha hb' h')
  have h1 := hL _ (List.mem_cons_self ..)
  have h2 := hL _ (List.mem_cons_of_mem _ (List.mem_cons_self ..))
  exact h1.symm.trans h2
end Go.Proofs.YtfkgaldbcngliaaGreatDoor
