/- hexf: bits, printed and read: plain laws. No program stands here. -/
import Derived.Test.YtnccaoeeedhgbaaGreatDoorHx9
open Go PG Go.Proofs
set_option maxRecDepth 100000
set_option linter.unusedSimpArgs false
set_option linter.unusedVariables false
namespace Go.Proofs.YtnccaoeeedhgbaaGreatDoor

/-- The sign bit, set where it was not. -/
theorem or_topH {b : Nat} (hb : b < W) : b ||| 9223372036854775808 = if b < 9223372036854775808 then b + 9223372036854775808 else b := by
  have hW : W = 18446744073709551616 := rfl
  rw [Nat.or_comm]
  split
  · rename_i h
    have := Nat.two_pow_add_eq_or_of_lt (i := 63) (b := b) (by omega) 1
    rw [Nat.mul_one] at this
    rw [show (9223372036854775808 : Nat) = 2 ^ 63 from rfl, ← this]
    omega
  · obtain ⟨r, rfl⟩ : ∃ r, b = 9223372036854775808 + r := ⟨b - 9223372036854775808, by omega⟩
    have := Nat.two_pow_add_eq_or_of_lt (i := 63) (b := r) (by omega) 1
    rw [Nat.mul_one, show (2 : Nat) ^ 63 = 9223372036854775808 from rfl] at this
    rw [this, ← Nat.or_assoc, Nat.or_self]
theorem hexP_fin {l : List UInt8} (dir : Int) {b : Nat} (hb : b < W) (hf : fe b < 2047) (h0 : (fd b).m ≠ 0) (hw : isW l = false) (ho : hexOk l = true) (hn : hexN l = fs b) (hd : hexD l = fd b) : hexP l dir = ((b, 0), 0) := by
  unfold hexP
  rw [hw, if_neg (by decide), if_pos ho, hn, hd, toS_selfH hb hf h0]
  dsimp only
  split
  · rename_i hs
    rw [or_topH hb, if_neg]
    have : 9223372036854775808 ≤ b := of_decide_eq_true hs
    omega
  · rfl
theorem digB_facts {b : Nat} (h0 : (fd b).m ≠ 0) : (digB b).all hx = true ∧ ∃ z, (digB b).length + z = 13 ∧ hn ([49] ++ digB b) * 16 ^ z = fulB b := by
  obtain ⟨r1, r2, r3⟩ := fulB_rng h0
  obtain ⟨t, h1, h2⟩ := hexL_head 13 (fulB b) (Nat.le_trans (by decide) r2) (Nat.lt_trans r3 (by decide))
  have e1 : fulB b / 16 ^ 13 = 1 := by
    rw [show (16 : Nat) ^ 13 = 4503599627370496 from rfl]; omega
  rw [e1, show hxd 1 = 49 from rfl] at h1
  obtain ⟨g1, g2⟩ := hexL_hn (fulB b)
  rw [h1] at g1 g2
  have e2 : digB b = trimR (· == 48) t := by unfold digB; rw [h1]; rfl
  obtain ⟨z, hz⟩ := trimR_rep 48 t
  rw [← e2] at hz
  rw [List.all_cons, Bool.and_eq_true] at g2
  have g3 := g2.2
  rw [hz, List.all_append, Bool.and_eq_true] at g3
  refine ⟨g3.1, z, ?_, ?_⟩
  · have := congrArg List.length hz
    rw [h2, List.length_append, List.length_replicate] at this
    omega
  · rw [← hn_zeros, List.append_assoc, ← hz]
    exact g1
theorem prB_fin {b : Nat} (hk : kind b = 1 ∨ kind b = 2) : prB b = (if fs b = true then [45] else []) ++ ([48, 120] ++ (([49] ++ (if decide (digB b ≠ []) = true then 46 :: digB b else [])) ++ 112 :: Lib.itoa ((fd b).e + topB b))) := by
  unfold prB sgnB
  rw [if_neg (by omega), if_neg (by omega), if_neg (by omega)]
  generalize (if fs b = true then [(45 : UInt8)] else []) = S
  by_cases h : digB b = []
  · rw [if_pos h, if_neg (by simp [h])]
    simp
  · rw [if_neg h, if_pos (by simp [h])]
    simp
theorem topB_rng {b : Nat} (h0 : (fd b).m ≠ 0) : topB b ≤ 52 ∧ -10000 < (fd b).e + topB b ∧ (fd b).e + topB b < 10000 := by
  obtain ⟨r1, -, -⟩ := fulB_rng h0
  have := fd_e b
  omega
theorem digB_len {b : Nat} (h0 : (fd b).m ≠ 0) : (digB b).length ≤ 13 := by
  obtain ⟨-, z, h, -⟩ := digB_facts h0
  omega
theorem back_fin {b : Nat} (hb : b < W) (hk : kind b = 1 ∨ kind b = 2) (dir : Int) : hexP (prB b) dir = ((b, 0), 0) := by
  obtain ⟨hf, h0⟩ := kind03 hk
  obtain ⟨g1, z, g2, g3⟩ := digB_facts h0
  obtain ⟨t1, t2, t3⟩ := topB_rng h0
  obtain ⟨i1, i2, i3⟩ := itoa_exp t2 t3
  have il := itoa_len t2 t3
  have hp := prB_fin hk
  obtain ⟨p1, p2, p3, p4⟩ := hex_read (sg := fs b) (A := [49]) (D := digB b) (ia := Lib.itoa ((fd b).e + topB b)) (decide (digB b ≠ [])) rfl g1 (by simp) (fun h => of_decide_eq_true h) (fun h => by simpa using h) i1 (by simp; omega) (prB b) hp
  refine hexP_fin dir hb hf h0 (isW_len ?_) p1 p2 ?_
  · have h1 : 1 ≤ (Lib.itoa ((fd b).e + topB b)).length := by
      have := expS_le (Lib.itoa ((fd b).e + topB b))
      unfold expOk at i1
      rw [Bool.and_eq_true, decide_eq_true_eq] at i1
      have := List.length_pos_iff.2 i1.1.1
      omega
    rw [hp]
    simp only [List.length_append, List.length_cons, List.length_nil]
    omega
  · unfold hexD
    rw [p2, p3, p4, i2]
    have hs := fd_s h0
    have he := fd_e b
    have e1 := mkD_move (fs b) (hn ([49] ++ digB b)) (4 * z) (t := (fd b).e + topB b - 52) (by omega) (by omega)
    have e2 := mkD_move (fs b) (fd b).m (52 - topB b) (t := (fd b).e + topB b - 52) (by omega) (by omega)
    rw [show 2 ^ (4 * z) = 16 ^ z by rw [Nat.pow_mul], g3] at e1
    rw [show (fd b).m * 2 ^ (52 - topB b) = fulB b from rfl] at e2
    rw [show (fd b).e + (topB b : Int) - 52 + ((4 * z : Nat) : Int) = (fd b).e + topB b - 4 * ((digB b).length : Nat) by omega] at e1
    rw [← e1, e2, show (fd b).e + (topB b : Int) - 52 + ((52 - topB b : Nat) : Int) = (fd b).e by omega, ← hs]
    rcases fd_ok b with h | h
    · exact absurd h h0
    · exact mkD_self h (by omega) (by omega)
theorem fs_split {b : Nat} (hb : b < W) {v : Nat} (h : fsz b = v) : b = if fs b = true then 9223372036854775808 + v else v := by
  have hW : W = 18446744073709551616 := rfl
  unfold fsz at h
  unfold fs
  split
  · rename_i h1
    have := of_decide_eq_true h1
    omega
  · rename_i h1
    have : ¬ 9223372036854775808 ≤ b := fun h2 => h1 (decide_eq_true h2)
    omega
theorem back_parse {b : Nat} (hb : b < W) (hk : kind b ≤ 3) {dir : Int} (hd : 0 ≤ dir ∧ dir ≤ 3) : hexP (prB b) dir = ((b, 0), 0) := by
  by_cases h12 : kind b = 1 ∨ kind b = 2
  · exact back_fin hb h12 dir
  have hfz := fs_split hb rfl
  by_cases h3 : kind b = 3
  · have hz : fsz b = 9218868437227405312 := by
      have hf : fe b = 2047 ∧ ff b = 0 := by
        have hfe : fe b < 2048 := Nat.mod_lt _ (by decide)
        revert h3
        unfold kind
        split <;> (try split) <;> (try split) <;> (try split) <;> (try split) <;> omega
      unfold fe ff at hf
      unfold fsz
      omega
    rw [hz] at hfz
    have hp : prB b = sgnB b ++ wInf := by unfold prB; rw [if_neg (by omega), if_pos h3]
    rw [hp]
    unfold sgnB
    cases hs : fs b
    · rw [hs, if_neg (by decide)] at hfz
      rw [if_neg (by decide), hfz]
      rfl
    · rw [hs, if_pos rfl] at hfz
      rw [if_pos rfl, hfz]
      rfl
  · have h0 : kind b = 0 := by omega
    have hz : fsz b = 0 := by
      have hf : fe b = 0 ∧ ff b = 0 := by
        revert h0
        unfold kind
        split <;> (try split) <;> (try split) <;> (try split) <;> (try split) <;> omega
      unfold fe ff at hf
      unfold fsz
      omega
    rw [hz] at hfz
    have hp : prB b = sgnB b ++ [48, 120, 48, 112, 48] := by unfold prB; rw [if_neg (by omega), if_neg h3, if_pos h0]
    rw [hp]
    unfold sgnB
    have hd4 : dir = 0 ∨ dir = 1 ∨ dir = 2 ∨ dir = 3 := by omega
    cases hs : fs b
    · rw [hs, if_neg (by decide)] at hfz
      rw [if_neg (by decide), hfz]
      rcases hd4 with rfl | rfl | rfl | rfl <;> decide +kernel
    · rw [hs, if_pos rfl] at hfz
      rw [if_pos rfl, hfz]
      rcases hd4 with rfl | rfl | rfl | rfl <;> decide +kernel
theorem back_nan {b : Nat} (hk : 3 < kind b) (dir : Int) : prB b = wNaN ∧ hexP (prB b) dir = ((9221120237041090560, 0), 0) := by
  have h : prB b = wNaN := if_pos hk
  rw [h]
  exact ⟨rfl, rfl⟩
/-- Ahead of a p stands no nought. -/
def okP (l : List UInt8) : Prop := ∀ i, 0 < i → i < l.length → l.getD i 0 = 112 → l.getD (i - 1) 0 ≠ 48
theorem okP_no {l : List UInt8} (h : 112 ∉ l) : okP l := fun i _ hi hc => by
  have := getD_mem hi
  rw [hc] at this
  exact absurd this h
theorem okP_one {x y : List UInt8} {d : UInt8} (hx : 112 ∉ x) (hd : d ≠ 48 ∧ d ≠ 112) (hy : 112 ∉ y) : okP ((x ++ [d]) ++ 112 :: y) := fun i h0 hi hc => by
  have hx' : 112 ∉ x ++ [d] := by
    rw [List.mem_append, not_or]
    exact ⟨hx, by simpa using hd.2.symm⟩
  by_cases h1 : i < (x ++ [d]).length
  · have : (x ++ [d] ++ 112 :: y).getD i 0 = (x ++ [d]).getD i 0 := by
      rw [List.getD_eq_getElem?_getD, List.getElem?_append_left h1, ← List.getD_eq_getElem?_getD]
    rw [this] at hc
    have := getD_mem h1
    rw [hc] at this
    exact absurd this hx'
  · by_cases h2 : i = (x ++ [d]).length
    · have h3 : i - 1 = x.length := by rw [h2]; simp
      have h4 : i - 1 < (x ++ [d]).length := by simp; omega
      rw [List.getD_eq_getElem?_getD, List.getElem?_append_left h4, ← List.getD_eq_getElem?_getD, h3, getD_snoc]
      exact hd.1
    · have h5 : (x ++ [d] ++ 112 :: y).getD i 0 = y.getD (i - (x ++ [d]).length - 1) 0 := by
        rw [List.getD_eq_getElem?_getD, List.getElem?_append_right (by omega)]
        obtain ⟨j, hj⟩ : ∃ j, i - (x ++ [d]).length = j + 1 := ⟨i - (x ++ [d]).length - 1, by omega⟩
        rw [hj, List.getElem?_cons_succ, Nat.add_sub_cancel, ← List.getD_eq_getElem?_getD]
      rw [h5] at hc
      have h6 : i - (x ++ [d]).length - 1 < y.length := by
        simp only [List.length_append, List.length_cons, List.length_nil] at hi h1 h2 ⊢
        omega
      have := getD_mem h6
      rw [hc] at this
      exact absurd this hy
theorem back_p {b : Nat} (hk : kind b ≤ 3) (h00 : kind b ≠ 0) : okP (prB b) := by
  by_cases h3 : kind b = 3
  · have hp : prB b = sgnB b ++ wInf := by unfold prB; rw [if_neg (by omega), if_pos h3]
    rw [hp]
    refine okP_no ?_
    unfold sgnB
    split <;> decide
  have hk12 : kind b = 1 ∨ kind b = 2 := by omega
  obtain ⟨hf, h0⟩ := kind03 hk12
  obtain ⟨g1, z, g2, g3⟩ := digB_facts h0
  obtain ⟨t1, t2, t3⟩ := topB_rng h0
  obtain ⟨i1, i2, i3⟩ := itoa_exp t2 t3
  obtain ⟨n1, n2⟩ := hx_not g1
  have hsg : (112 : UInt8) ∉ (if fs b = true then [(45 : UInt8)] else []) := by split <;> decide
  rw [prB_fin hk12]
  generalize (if fs b = true then [(45 : UInt8)] else []) = S at *
  rcases snoc_cases (digB b) with h | ⟨t, d, h⟩
  · rw [h, if_neg (by simp), List.append_nil]
    have := okP_one (x := S ++ [48, 120]) (y := Lib.itoa ((fd b).e + topB b)) (d := 49) (by rw [List.mem_append, not_or]; exact ⟨hsg, by decide⟩) (by decide) i3
    simpa using this
  · have hd : d ≠ 48 := by
      have : trimR (· == 48) ((hexL (fulB b)).drop 1) = t ++ [d] := h
      exact trimR_last _ _ _ _ this
    rw [h] at n1
    rw [List.mem_append, not_or] at n1
    rw [h, if_pos (by simp)]
    have := okP_one (x := S ++ [48, 120] ++ [49] ++ 46 :: t) (y := Lib.itoa ((fd b).e + topB b)) (d := d)
      (by simp only [List.mem_append, List.mem_cons, not_or]; exact ⟨⟨⟨hsg, by decide⟩, by decide⟩, by decide, n1.1⟩) ⟨hd, fun e => n1.2 (by rw [e]; exact List.mem_singleton_self _)⟩ i3
    simpa using this
theorem back_len (b : Nat) : (prB b).length ≤ 24 := by
  by_cases hk : kind b = 1 ∨ kind b = 2
  · obtain ⟨hf, h0⟩ := kind03 hk
    obtain ⟨t1, t2, t3⟩ := topB_rng h0
    have il := itoa_len t2 t3
    have dl := digB_len h0
    rw [prB_fin hk]
    simp only [List.length_append, List.length_cons, List.length_nil]
    have : (if fs b = true then [(45 : UInt8)] else []).length ≤ 1 := by split <;> simp
    have : (if decide (digB b ≠ []) = true then (46 : UInt8) :: digB b else []).length ≤ 1 + (digB b).length := by
      split
      · rw [List.length_cons]; omega
      · simp
    omega
  · unfold prB sgnB wNaN wInf
    split
    · decide
    · split
      · split <;> decide
      · split
        · split <;> decide
        · rename_i h1 h2 h3
          exact absurd (show kind b = 1 ∨ kind b = 2 by omega) hk
end Go.Proofs.YtnccaoeeedhgbaaGreatDoor
