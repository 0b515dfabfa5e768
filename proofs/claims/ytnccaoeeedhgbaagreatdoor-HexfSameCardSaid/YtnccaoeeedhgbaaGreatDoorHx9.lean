/- hexf: what is printed is read as it was: plain laws. No program stands here. -/
import Derived.Test.YtnccaoeeedhgbaaGreatDoorHx4
import Derived.Test.YtnccaoeeedhgbaaGreatDoorHx7
import Derived.Test.YtnccaoeeedhgbaaGreatDoorHx3
import Derived.Test.YtnccaoeeedhgbaaGreatDoorRoL
open Go PG Go.Proofs
set_option maxRecDepth 100000
set_option linter.unusedSimpArgs false
set_option linter.unusedVariables false
namespace Go.Proofs.YtnccaoeeedhgbaaGreatDoor

theorem toS_selfH {b : Nat} (hb : b < W) (hf : fe b < 2047) (h0 : (fd b).m ≠ 0) (dir : Int) : toS (fd b) false dir = (b, 0) := by
  rw [toS_fd hf, withS_self hb, if_neg (fun h => h0 ((fd_m0 hf).2 h))]
theorem ge_mono {d : Dy} {j k : Int} (h : d.ge j) (hk : k ≤ j) : d.ge k := by
  rcases h with h | h
  · exact .inl h
  · exact .inr (by omega)
/-- Digits may be moved. -/
theorem mkD_move (s : Bool) (x j : Nat) {t : Int} (h1 : -2000000 ≤ t) (h2 : t + j ≤ 2000000) : mkD s (x * 2 ^ j) t = mkD s x (t + j) := by
  refine eq_of_at (k := t) (mkD_ok _ _ _) (mkD_ok _ _ _) (mkD_ge s _ (by omega) (by omega)) (ge_mono (mkD_ge s _ (by omega) (by omega)) (by omega)) ?_
  rw [mkD_at s (x * 2 ^ j) (by omega) (by omega) (Int.le_refl _), mkD_at s x (by omega) (by omega) (by omega), show (t - t).toNat = 0 by omega, show (t + j - t).toNat = j by omega, Nat.pow_zero, Nat.mul_one]
/-! Hex digits. -/
theorem hv_hxd {n : Nat} (h : n < 16) : hv (hxd n) = n := by
  have e : ∀ k : Fin 16, hv (hxd k.val) = k.val := by decide +kernel
  exact e ⟨n, h⟩
theorem hx_hxd {n : Nat} (h : n < 16) : hx (hxd n) = true := by
  unfold hx
  rw [hv_hxd h]
  exact decide_eq_true h
theorem hexL_hn (x : Nat) : hn (hexL x) = x ∧ (hexL x).all hx = true := by
  induction x using Nat.strongRecOn with
  | _ x ih =>
    by_cases h : x < 16
    · rw [hexL_lt h]
      refine ⟨?_, by rw [List.all_cons, hx_hxd h]; rfl⟩
      show (0 * 16 + hv (hxd x)) = x
      rw [hv_hxd h]; omega
    · obtain ⟨h1, h2⟩ := ih (x / 16) (by omega)
      have h3 : x % 16 < 16 := Nat.mod_lt _ (by decide)
      rw [hexL_ge h, hn_snoc, h1, hv_hxd h3, List.all_append, h2, List.all_cons, hx_hxd h3]
      exact ⟨by omega, rfl⟩
theorem hexL_head : ∀ (k x : Nat), 16 ^ k ≤ x → x < 16 ^ (k + 1) → ∃ t, hexL x = hxd (x / 16 ^ k) :: t ∧ t.length = k
  | 0, x, h1, h2 => ⟨[], by rw [hexL_lt (by omega), Nat.pow_zero, Nat.div_one], rfl⟩
  | k + 1, x, h1, h2 => by
    have h16 : 16 ≤ 16 ^ (k + 1) := by
      have := Nat.pow_le_pow_right (n := 16) (i := 1) (j := k + 1) (by decide) (by omega)
      rwa [Nat.pow_one] at this
    obtain ⟨t, h3, h4⟩ := hexL_head k (x / 16) (by rw [Nat.le_div_iff_mul_le (by decide), ← Nat.pow_succ]; exact h1) (by rw [Nat.div_lt_iff_lt_mul (by decide), ← Nat.pow_succ]; exact h2)
    refine ⟨t ++ [hxd (x % 16)], ?_, by simp [h4]⟩
    rw [hexL_ge (by omega), h3, Nat.div_div_eq_div_mul, Nat.mul_comm 16, ← Nat.pow_succ]
    rfl
theorem trimR_rep (c : UInt8) (l : List UInt8) : ∃ z, l = trimR (· == c) l ++ List.replicate z c := by
  suffices h : ∀ r : List UInt8, ∃ z, r = List.replicate z c ++ r.dropWhile (· == c) by
    obtain ⟨z, hz⟩ := h l.reverse
    refine ⟨z, ?_⟩
    have := congrArg List.reverse hz
    rw [List.reverse_reverse, List.reverse_append, List.reverse_replicate] at this
    exact this
  intro r
  induction r with
  | nil => exact ⟨0, rfl⟩
  | cons d r ih =>
    rw [List.dropWhile_cons]
    split
    · rename_i h
      obtain ⟨z, hz⟩ := ih
      have e : d = c := by simpa using h
      exact ⟨z + 1, by rw [List.replicate_succ, List.cons_append, ← hz, e]⟩
    · exact ⟨0, rfl⟩
theorem trimR_last (c : UInt8) (l t : List UInt8) (d : UInt8) (h : trimR (· == c) l = t ++ [d]) : d ≠ c := by
  unfold trimR at h
  have h1 := congrArg List.reverse h
  rw [List.reverse_reverse, List.reverse_append] at h1
  have h2 : ∀ r : List UInt8, r.dropWhile (· == c) = d :: t.reverse → d ≠ c := by
    intro r
    induction r with
    | nil => intro h; cases h
    | cons x r ih =>
      rw [List.dropWhile_cons]
      split
      · exact ih
      · rename_i h3
        intro h4
        cases h4
        simpa using h3
  exact h2 _ h1
theorem hn_zeros (x : List UInt8) : ∀ z, hn (x ++ List.replicate z 48) = hn x * 16 ^ z
  | 0 => by rw [List.replicate_zero, List.append_nil, Nat.pow_zero, Nat.mul_one]
  | z + 1 => by
    rw [List.replicate_succ', ← List.append_assoc, hn_snoc, hn_zeros x z, show hv 48 = 0 from rfl, Nat.pow_succ, Nat.mul_assoc, Nat.add_zero]
/-! Decimal digits. -/
theorem dgt_dig {n : Nat} (h : n < 10) : dgt (UInt8.ofNat (48 + n)) = true ∧ (UInt8.ofNat (48 + n)).toNat = 48 + n ∧ UInt8.ofNat (48 + n) ≠ 45 ∧ UInt8.ofNat (48 + n) ≠ 112 := by
  have e : ∀ k : Fin 10, dgt (UInt8.ofNat (48 + k.val)) = true ∧ (UInt8.ofNat (48 + k.val)).toNat = 48 + k.val ∧ UInt8.ofNat (48 + k.val) ≠ 45 ∧ UInt8.ofNat (48 + k.val) ≠ 112 := by decide +kernel
  exact e ⟨n, h⟩
theorem dec_dn (u : Nat) : dn (Lib.decDigits u) = u ∧ (Lib.decDigits u).all dgt = true ∧ Lib.decDigits u ≠ [] ∧ 112 ∉ Lib.decDigits u ∧ 45 ∉ Lib.decDigits u := by
  induction u using Nat.strongRecOn with
  | _ u ih =>
    rw [Lib.decDigits]
    by_cases h : u < 10
    · obtain ⟨h1, h2, h3, h4⟩ := dgt_dig h
      rw [dif_pos h]
      refine ⟨?_, by rw [List.all_cons, h1]; rfl, by simp, by simpa using h4.symm, by simpa using h3.symm⟩
      show 0 * 10 + ((UInt8.ofNat (48 + u)).toNat - 48) = u
      rw [h2]; omega
    · obtain ⟨g1, g2, g3, g4, g5⟩ := ih (u / 10) (by omega)
      obtain ⟨h1, h2, h3, h4⟩ := dgt_dig (n := u % 10) (by omega)
      rw [dif_neg h, dn_snoc, g1, h2, List.all_append, g2, List.all_cons, h1]
      refine ⟨by omega, rfl, by simp, ?_, ?_⟩
      · rw [List.mem_append, not_or]
        exact ⟨g4, by simpa using h4.symm⟩
      · rw [List.mem_append, not_or]
        exact ⟨g5, by simpa using h3.symm⟩
theorem itoa_exp {n : Int} (h0 : -10000 < n) (h1 : n < 10000) : expOk (Lib.itoa n) = true ∧ expV (Lib.itoa n) = n ∧ 112 ∉ Lib.itoa n := by
  unfold expOk expV Lib.itoa
  by_cases hn : n < 0
  · obtain ⟨g1, g2, g3, g4, g5⟩ := dec_dn n.natAbs
    have gl := dec_len 3 n.natAbs (by omega)
    rw [if_pos hn]
    have e1 : hasP (45 :: Lib.decDigits n.natAbs) [45] = true := by unfold hasP; simp
    have e2 : expS (45 :: Lib.decDigits n.natAbs) = Lib.decDigits n.natAbs := by unfold expS; rw [if_pos e1]; rfl
    rw [e1, e2, g1, g2, decide_eq_true ⟨g3, by omega⟩, if_pos rfl]
    refine ⟨rfl, by omega, ?_⟩
    rw [List.mem_cons, not_or]
    exact ⟨by decide, g4⟩
  · obtain ⟨g1, g2, g3, g4, g5⟩ := dec_dn n.toNat
    have gl := dec_len 3 n.toNat (by omega)
    rw [if_neg hn]
    have e1 : ¬ hasP (Lib.decDigits n.toNat) [45] = true := fun h => by
      have h2 := (hasP1 _ _).1 h
      have h3 := getD_mem h2.1
      rw [h2.2] at h3
      exact g5 h3
    have e2 : expS (Lib.decDigits n.toNat) = Lib.decDigits n.toNat := by unfold expS; rw [if_neg e1]
    rw [if_neg e1, e2, g1, g2, decide_eq_true ⟨g3, by omega⟩]
    exact ⟨rfl, by omega, g4⟩
theorem hasC_mem {c : UInt8} {l : List UInt8} : hasC c l = true ↔ c ∈ l := by
  induction l with
  | nil => simp [hasC_nil]
  | cons d l ih =>
    rw [hasC_cons, List.mem_cons]
    by_cases h : d = c
    · simp [h]
    · rw [if_neg h, ih]
      simp [Ne.symm h]
theorem hasC_not {c : UInt8} {l : List UInt8} (h : c ∉ l) : hasC c l = false := by
  cases hh : hasC c l with
  | false => rfl
  | true => exact absurd (hasC_mem.1 hh) h
theorem hx_not {l : List UInt8} (h : l.all hx = true) : 112 ∉ l ∧ 46 ∉ l := by
  refine ⟨fun hm => ?_, fun hm => ?_⟩
  · have := List.all_eq_true.1 h _ hm
    exact absurd this (by decide)
  · have := List.all_eq_true.1 h _ hm
    exact absurd this (by decide)
/-- A text of hex digits is read part by part. -/
theorem hex_read {sg : Bool} {A D ia : List UInt8} (pt : Bool) (hA : A.all hx = true) (hD : D.all hx = true) (hA0 : A ≠ []) (hpt : pt = true → D ≠ []) (hpf : pt = false → D = []) (hi : expOk ia = true) (hlen : A.length + D.length + ia.length ≤ 390) (l : List UInt8)
    (hl : l = (if sg = true then [45] else []) ++ ([48, 120] ++ ((A ++ (if pt = true then 46 :: D else [])) ++ 112 :: ia))) :
    hexOk l = true ∧ hexN l = sg ∧ hexM l = hn (A ++ D) ∧ hexV l = expV ia - 4 * (D.length : Nat) := by
  obtain ⟨A1, A2⟩ := hx_not hA
  obtain ⟨D1, D2⟩ := hx_not hD
  have hN : hexN l = sg := by
    unfold hexN
    rw [hl]
    cases sg <;> rfl
  have hR1 : hexR1 l = [48, 120] ++ ((A ++ (if pt = true then 46 :: D else [])) ++ 112 :: ia) := by
    unfold hexR1
    rw [show hasP l [45] = sg from hN, hl]
    cases sg <;> rfl
  have hX : hexX l = true := by
    unfold hexX; rw [hR1]; unfold hasP; simp
  have hR2 : hexR2 l = (A ++ (if pt = true then 46 :: D else [])) ++ 112 :: ia := by
    unfold hexR2
    rw [if_pos (show hasP (hexR1 l) [48, 120] = true from hX), hR1]
    rfl
  have hno : hasC 112 (A ++ (if pt = true then 46 :: D else [])) = false := hasC_not (by
    rw [List.mem_append, not_or]
    refine ⟨A1, ?_⟩
    split
    · rw [List.mem_cons, not_or]; exact ⟨by decide, D1⟩
    · simp)
  obtain ⟨c1, c2, c3⟩ := cut_out (112 :: ia) hno
  rw [cutA_cons, if_pos rfl, List.append_nil] at c1
  rw [cutB_cons, if_pos rfl] at c2
  rw [hasC_cons, if_pos rfl] at c3
  have hAll : hexAll l = A ++ (if pt = true then 46 :: D else []) := by unfold hexAll; rw [hR2, c1]
  have hE : hexE l = ia := by unfold hexE; rw [hR2, c2]
  have hH : hexH l = true := by unfold hexH; rw [hR2, c3]
  have hWF : hexW l = A ∧ hexF l = D ∧ hexPt l = pt := by
    unfold hexW hexF hexPt
    rw [hAll]
    obtain ⟨d1, d2, d3⟩ := cut_out (if pt = true then 46 :: D else []) (hasC_not A2)
    rw [d1, d2, d3]
    cases pt
    · rw [hpf rfl]; exact ⟨List.append_nil _, rfl, rfl⟩
    · rw [if_pos rfl, cutA_cons, if_pos rfl, cutB_cons, if_pos rfl, hasC_cons, if_pos rfl]
      exact ⟨List.append_nil _, rfl, rfl⟩
  obtain ⟨w1, w2, w3⟩ := hWF
  have hll : l.length ≤ 400 := by
    rw [hl]
    simp only [List.length_append, List.length_cons, List.length_nil]
    have : (if sg = true then [(45 : UInt8)] else []).length ≤ 1 := by split <;> simp
    have : (if pt = true then (46 : UInt8) :: D else []).length ≤ 1 + D.length := by split <;> simp; omega
    omega
  refine ⟨hexOk_yes hll hX hH ?_ (by rw [hE]; exact hi) (by rw [w1]; exact hA0) (by rw [w2, w3]; exact hpt), hN, ?_, ?_⟩
  · show (hexW l ++ hexF l).all hx = true
    rw [w1, w2, List.all_append, hA, hD]; rfl
  · unfold hexM; rw [w1, w2]
  · unfold hexV; rw [hE, w2]
theorem isW_len {l : List UInt8} (h : 5 ≤ l.length) : isW l = false := by
  unfold isW
  rw [decide_eq_false (fun e => by rw [e] at h; exact absurd h (by decide)), decide_eq_false (fun e => by rw [e] at h; exact absurd h (by decide)), decide_eq_false (fun e => by rw [e] at h; exact absurd h (by decide))]
  rfl
end Go.Proofs.YtnccaoeeedhgbaaGreatDoor
