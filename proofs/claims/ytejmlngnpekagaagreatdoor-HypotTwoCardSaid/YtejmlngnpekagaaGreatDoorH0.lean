/- Several parts in one text. -/
import Derived.Test.YtejmlngnpekagaaGreatDoorG8
import Derived.Test.YtejmlngnpekagaaGreatDoorCut
import Derived.Test.YtejmlngnpekagaaGreatDoorMul4
import Derived.Test.YtejmlngnpekagaaGreatDoorFin
/- Division of two words by one, by halves of words: plain laws. No program stands here. -/
section
open Go PG Go.Proofs
set_option maxRecDepth 100000
set_option linter.unusedSimpArgs false
set_option linter.unusedVariables false
namespace Go.Proofs.YtejmlngnpekagaaGreatDoor

theorem dq_lt {B a u y q : Nat} (h : a * B + u < q * y) (hy : 0 < y) : (a * B + u) / y < q := (Nat.div_lt_iff_lt_mul hy).2 h
/-- A guess that is too great: one less, and still not below. -/
theorem dq_keep {B n1 n0 q r a v : Nat} (h0 : n0 < B) (hv : v < B) (e : q * n1 + r = a) (hq : (a * B + v) / (n1 * B + n0) ≤ q) (hlt : a < n1 * B + n0) (hc : B ≤ q ∨ B * r + v < q * n0) :
    (a * B + v) / (n1 * B + n0) ≤ q - 1 ∧ 0 < q ∧ (q - 1) * n1 + (r + n1) = a := by
  have hy : 0 < n1 * B + n0 := by omega
  have key : (a * B + v) / (n1 * B + n0) < q := by
    rcases hc with hc | hc
    · refine Nat.lt_of_lt_of_le (dq_lt (q := B) ?_ hy) hc
      have : (a + 1) * B ≤ (n1 * B + n0) * B := Nat.mul_le_mul_right B hlt
      rw [Nat.mul_comm B]
      rw [Nat.add_mul, Nat.one_mul] at this
      omega
    · refine dq_lt ?_ hy
      have e1 : q * (n1 * B + n0) = q * n1 * B + q * n0 := by rw [Nat.mul_add, Nat.mul_assoc]
      have e2 : a * B = q * n1 * B + B * r := by rw [← e, Nat.add_mul, Nat.mul_comm r]
      omega
  have hq0 : 0 < q := Nat.lt_of_le_of_lt (Nat.zero_le _) key
  refine ⟨by omega, hq0, ?_⟩
  obtain ⟨p, rfl⟩ : ∃ p, q = p + 1 := ⟨q - 1, by omega⟩
  rw [Nat.add_sub_cancel]
  rw [Nat.add_mul, Nat.one_mul] at e
  omega
/-- A guess that is not too great is right. -/
theorem dq_done {B n1 n0 q r a v : Nat} (e : q * n1 + r = a) (hq : (a * B + v) / (n1 * B + n0) ≤ q) (hy : 0 < n1 * B + n0) (hc : q * n0 ≤ B * r + v) : (a * B + v) / (n1 * B + n0) = q := by
  refine Nat.le_antisymm hq ((Nat.le_div_iff_mul_le hy).2 ?_)
  have e1 : q * (n1 * B + n0) = q * n1 * B + q * n0 := by rw [Nat.mul_add, Nat.mul_assoc]
  have e2 : a * B = q * n1 * B + B * r := by rw [← e, Nat.add_mul, Nat.mul_comm r]
  omega
/-- The first guess is not below, and not far above. -/
theorem dq_first {B n1 n0 a v : Nat} (h1 : 0 < n1) (hv : v < B) : (a * B + v) / (n1 * B + n0) ≤ a / n1 := by
  have hB : 0 < B := by omega
  have hy : 0 < n1 * B := Nat.mul_pos h1 hB
  refine Nat.le_trans (Nat.div_le_div_left (Nat.le_add_right _ n0) hy) ?_
  rw [Nat.mul_comm n1, ← Nat.div_div_eq_div_mul]
  refine Nat.div_le_div_right ?_
  rw [Nat.mul_comm a, Nat.mul_add_div hB, Nat.div_eq_of_lt hv, Nat.add_zero]
  exact Nat.le_refl _
theorem dq_up {B n1 n0 a : Nat} (h1 : B ≤ 2 * n1) (h0 : n0 < B) (hlt : a < n1 * B + n0) : a / n1 ≤ B + 1 := by
  have hn : 0 < n1 := by omega
  refine Nat.le_of_lt_succ ((Nat.div_lt_iff_lt_mul hn).2 ?_)
  have : (B + 1 + 1) * n1 = n1 * B + 2 * n1 := by rw [Nat.add_mul, Nat.add_mul, Nat.mul_comm B]; omega
  show a < (B + 1 + 1) * n1
  omega
/-- Two halves make the whole. -/
theorem dq_two {B a v w y : Nat} (hy : 0 < y) (hw : w < B) (ha : a < y) (hv : v < B) :
    ((a * B + v) * B + w) / y = (a * B + v) / y * B + ((a * B + v) % y * B + w) / y ∧ ((a * B + v) * B + w) % y = ((a * B + v) % y * B + w) % y := by
  have hd := Nat.div_add_mod (a * B + v) y
  generalize (a * B + v) / y = q at *
  generalize (a * B + v) % y = r at *
  have e : (a * B + v) * B + w = y * (q * B) + (r * B + w) := by
    rw [← hd, Nat.add_mul, Nat.mul_assoc, Nat.add_assoc]
  rw [e]
  exact ⟨by rw [Nat.mul_add_div hy], by rw [Nat.mul_add_mod]⟩
theorem dq_shift {n y s : Nat} : n * 2 ^ s / (y * 2 ^ s) = n / y ∧ n * 2 ^ s % (y * 2 ^ s) / 2 ^ s = n % y := by
  have hp := Nat.two_pow_pos s
  exact ⟨Nat.mul_div_mul_right _ _ hp, by rw [Nat.mul_mod_mul_right, Nat.mul_div_cancel _ hp]⟩
end Go.Proofs.YtejmlngnpekagaaGreatDoor
end

/- Division of two words by one: math/bits.Div64. -/
section
open Go PG Go.Proofs
set_option maxRecDepth 100000
set_option linter.unusedSimpArgs false
set_option linter.unusedVariables false
namespace Go.Proofs.YtejmlngnpekagaaGreatDoor
attribute [local go_sem] Lay2 Lay3 Lay4 Lay5 Lay6 Lay7 Lay8 Lay9 Lay10 Lay11 Lay12 Lay13 Lay14 Lay15 Lay16 Lay17 Lay18 Lay19 Lay21 Lay22 Lay23 Lay25 Lay26 Lay27 Lay30 Lay31 Lay32 Lay33 Lay36 Lay37 Lay41 Lay42 Lay43 Lay47 Lay56 Lay57 Lay59 Lay60 Lay65 Lay66 Lay74 Lay75 Lay105 Lay114 Lay145 Lay146 Lay149 Lay150 Lay151 Lay173 Lay185 Lay189 Lay204 Lay205 Lay208 Lay214 Lay215 Lay216 Lay217 Lay218 Lay220 Lay221 Lay223 Lay224 Lay225 Lay228 qexec_seq qexec_skip qexec_exit qexec_ret qexec_block qexec_loop qexec_range qexec_cond qexec_region qexec_drawn qops_nil qops_none qops_some put_some put_none pblk_exit pblk_other newDsts_nil inlDsts_nil isInl sget_cons sget_nil qval_some qbool_some qgs_bool qgs_und qfree_some qgrd_true qgrd_false qif_true qif_false qval_ite qval_itn qand_true map_ite map_some' map_none' qdo_move qdo_assign qdo_binOp qdo_pick qdo_unOp qdo_convert qdo_extract qdo_field qdo_fieldAddr qdo_alloc qdo_box qdo_build qdo_buildSlice qdo_load qdo_store qdo_nilCheck qdo_makeFunc qdo_makeSlice qdo_slice qdo_indexAddr qdo_call qcont_val qcont_new qcont_st qcont_app0 qcont_app qcont_inl qcont_call njSV_val njSV_nil njSV_row njSV_ptr njSV_sub binV_val binV_nil binV_nn binV_ptr bin_np bin_nnp nilCmp bin_add bin_sub bin_mul bin_quo bin_rem bin_and bin_or bin_xor bin_andNot bin_eql bin_neq bin_lss bin_leq bin_gtr bin_geq bin_shl bin_shr bin_seql bin_sneq bin_sadd bin_beql bin_aeql bin_aneq eqAnd_some eqCells_nil eqCells_cons fieldTypes isStruct eqCell bin_bneq un_not un_neg nj_ite Nat.beq stepA stepR isNew opSV constSV RV.sv allSome E_mu E_own qkeyIn_none qkeyIn_some qkeyAt_none qkeyAt_some Bool.or_false Bool.false_or Bool.or_true Bool.true_or cst setB res resSV pstart startL killL kill1 eraL frzL svPV rvPV rvInt rvSlice frzOf close closeL pconv pbuiltin pmax2 partPV setCells fillPV zrow bound newSV PV.cells Bk.cells Bk.with SV.key pres presL_nil presL_tmp presL_cell presC2_some cellPV_ptr presC List.toList_toArray List.size_toArray List.getElem?_drop Nat.mul_one Int.toNat_natCast Nat.not_lt_zero Nat.lt_irrefl decide_true decide_false Nat.not_lt Option.some.injEq PV.lst.injEq PV.int.injEq PV.bool.injEq PV.tuple.injEq List.cons.injEq Option.map_some Option.map_none Option.bind_some Option.toList List.map_cons List.map_nil List.nil_append List.cons_append List.append_nil List.zip_cons_cons List.zip_nil_left List.zip_nil_right List.getElem?_cons_zero List.getElem?_cons_succ List.drop_zero List.drop_succ_cons List.take_succ_cons List.take_zero List.set_cons_zero List.set_cons_succ List.length_cons List.length_nil List.length_set List.replicate_one List.replicate_zero bne_self_eq_false beq_self_eq_true Nat.zero_add Nat.add_zero Nat.zero_mul Bool.false_eq_true Bool.true_eq_false Bool.not_true Bool.not_false and_true true_and false_and and_false or_false false_or or_true true_or not_true_eq_false not_false_eq_true ne_eq gt_iff_lt List.mem_cons List.not_mem_nil
attribute [local go_sem ↓] pseq_normal pseq_ret pseq_exit pblk_normal pblk_ret newDsts_cons inlDsts_cons gdst_zero gdst_succ retQ_normal retQ_ret qneed_nil qneed_cons retM_normal retM_ret endR_normal endR_ret endR_exit
attribute [local go_sem] Int.reduceToNat Int.reduceEq Int.reduceNe Int.reduceLT Int.reduceLE Int.reduceNeg Int.reduceAdd Nat.reduceEqDiff Nat.reduceAdd Nat.reduceSub Nat.reduceMul Nat.reduceLeDiff Nat.reduceLT
attribute [local go_sem ↓] reduceIte reduceCtorEq

theorem c_Lead (x : Nat) (hx : x < W) : PC E 181 [u x] (.int .i64 (64 - (bitLen x : Int))) := by
  have k1 := c_Len64 x hx
  have hb := (bitLen_le x 64).2 hx
  have w1 : IntKind.wrap .i64 (64 - (bitLen x : Int)) = 64 - (bitLen x : Int) := wrap64 (by omega) (by omega)
  simp only [u] at k1 ⊢
  refine PC.of_body follows Tryz.func181 (by decide +kernel) rfl (by kernel_rfl) (Nat.le_of_ble_eq_true rfl) (walk ?_)
  simp only [Tryz.f181, go_sem]
  refine qcall_i (k1) ?_; simp only [Tryz.f181, w1, go_sem]
  try rfl
theorem or_low {a b s : Nat} (h : b < 2 ^ s) : a * 2 ^ s ||| b = a * 2 ^ s + b := by
  rw [Nat.mul_comm, Nat.two_pow_add_eq_or_of_lt h]
/-- Shifted so far that the top bit is set. -/
theorem norm_top {y : Nat} (h0 : y ≠ 0) (hy : y < W) : bitLen y ≤ 64 ∧ 9223372036854775808 ≤ y * 2 ^ (64 - bitLen y) ∧ y * 2 ^ (64 - bitLen y) < W := by
  have hb := (bitLen_le y 64).2 hy
  have hp := bitLen_pos h0
  have h1 := (bitLen_le y (bitLen y)).1 (Nat.le_refl _)
  have h2 : 2 ^ (bitLen y - 1) ≤ y := Nat.not_lt.1 fun h => by have := (bitLen_le y (bitLen y - 1)).2 h; omega
  refine ⟨hb, ?_, ?_⟩
  · have : 2 ^ (bitLen y - 1) * 2 ^ (64 - bitLen y) = 9223372036854775808 := by
      rw [← Nat.pow_add, show bitLen y - 1 + (64 - bitLen y) = 63 by omega]
    rw [← this]
    exact Nat.mul_le_mul_right _ h2
  · have : 2 ^ bitLen y * 2 ^ (64 - bitLen y) = W := by
      rw [← Nat.pow_add, show bitLen y + (64 - bitLen y) = 64 by omega]
    rw [← this]
    exact Nat.mul_lt_mul_of_pos_right h1 (Nat.two_pow_pos _)
set_option maxHeartbeats 4000000 in
theorem c_Div64 {hi lo y : Nat} (hy : y < W) (hl : lo < W) (hh : hi < y) : PC E 180 [u hi, u lo, u y] (.tuple [u ((hi * W + lo) / y), u ((hi * W + lo) % y)]) := by
  have hy' : y < 18446744073709551616 := hy
  have hl' : lo < 18446744073709551616 := hl
  have hy0 : ¬ (y : Int) = 0 := by omega
  by_cases h0 : hi = 0
  · subst h0
    rw [Nat.zero_mul, Nat.zero_add]
    have d1 : IntKind.wrap .u64 ((lo : Int).tdiv (y : Int)) = ((lo / y : Nat) : Int) := by
      rw [n_tdiv]; exact wrap_nat64 (Nat.lt_of_le_of_lt (Nat.div_le_self _ _) hl)
    have d2 : (lo : Int).tmod (y : Int) = ((lo % y : Nat) : Int) := n_tmod lo y
    simp only [u]
    refine PC.of_body follows Tryz.func180 (by decide +kernel) rfl (by kernel_rfl) (Nat.le_of_ble_eq_true rfl) (walk ?_)
    simp only [Tryz.f180, Int.cast_ofNat_Int, go_sem]
    refine qif_df hy0 ?_
    simp only [Tryz.f180, Int.cast_ofNat_Int, go_sem]
    refine qif_df (by omega) ?_
    simp only [Tryz.f180, Int.cast_ofNat_Int, d1, d2, go_sem]
    refine qand_i hy0 ?_
    simp only [Tryz.f180, Int.cast_ofNat_Int, d1, d2, go_sem]
    refine qand_i hy0 ?_
    simp only [Tryz.f180, Int.cast_ofNat_Int, d1, d2, go_sem]
    try exact ⟨rfl, rfl⟩
    try rfl
  obtain ⟨b1, b2, b3⟩ := norm_top (y := y) (by omega) hy
  have kl := c_Lead y hy
  have hbp := bitLen_pos (x := y) (by omega)
  obtain ⟨s, hs⟩ : ∃ s, s = 64 - bitLen y := ⟨_, rfl⟩
  rw [show (64 : Int) - (bitLen y : Int) = (s : Int) by omega] at kl
  rw [← hs] at b2 b3
  have hs63 : s ≤ 63 := by omega
  have hp := Nat.two_pow_pos s
  -- the shifted numbers
  have hN : (hi * W + lo) * 2 ^ s = (hi * 2 ^ s + lo / 2 ^ (64 - s)) * W + lo * 2 ^ s % W := by
    have hW : W = 2 ^ (64 - s) * 2 ^ s := by rw [← Nat.pow_add, show 64 - s + s = 64 by omega]
    have e1 : lo * 2 ^ s % W = lo % 2 ^ (64 - s) * 2 ^ s := by rw [hW, Nat.mul_mod_mul_right]
    have e2 := Nat.div_add_mod lo (2 ^ (64 - s))
    rw [e1, Nat.add_mul, Nat.add_mul, Nat.mul_right_comm, Nat.add_assoc]
    congr 1
    conv => lhs; rw [← e2]
    rw [Nat.add_mul]
    congr 1
    rw [hW, Nat.mul_comm (2 ^ (64 - s)) (lo / _), Nat.mul_assoc]
  have hlow : lo / 2 ^ (64 - s) < 2 ^ s := by
    rw [Nat.div_lt_iff_lt_mul (Nat.two_pow_pos _), ← Nat.pow_add, show s + (64 - s) = 64 by omega]
    exact hl
  have hA : hi * 2 ^ s + lo / 2 ^ (64 - s) < y * 2 ^ s := by
    have : (hi + 1) * 2 ^ s ≤ y * 2 ^ s := Nat.mul_le_mul_right _ hh
    rw [Nat.add_mul, Nat.one_mul] at this
    omega
  have hdv := dq_shift (n := hi * W + lo) (y := y) (s := s)
  rw [hN] at hdv
  rw [← hdv.1, ← hdv.2]
  have hhi : hi * 2 ^ s < W := Nat.lt_of_le_of_lt (Nat.le_add_right _ _) (Nat.lt_trans hA b3)
  have s1 : IntKind.wrap .u64 ((y : Int) * 2 ^ (min s 64)) = ((y * 2 ^ s : Nat) : Int) := by rw [b_shl, Nat.mod_eq_of_lt b3]
  have s2 : IntKind.wrap .u64 ((hi : Int) * 2 ^ (min s 64)) = ((hi * 2 ^ s : Nat) : Int) := by rw [b_shl, Nat.mod_eq_of_lt hhi]
  have s3 : IntKind.wrap .u64 (64 - (s : Int)) = ((64 - s : Nat) : Int) := by rw [IntKind.wrap_u64]; omega
  have s4 : (lo : Int).fdiv (2 ^ (min (64 - s) 64)) = ((lo / 2 ^ (64 - s) : Nat) : Int) := b_shr hl (64 - s)
  have s5 : bits .or .u64 ((hi * 2 ^ s : Nat) : Int) ((lo / 2 ^ (64 - s) : Nat) : Int) = ((hi * 2 ^ s + lo / 2 ^ (64 - s) : Nat) : Int) := by
    rw [b_or hhi (Nat.lt_of_lt_of_le hlow (by have := Nat.pow_le_pow_right (show 0 < 2 by decide) (show s ≤ 64 by omega); exact this)), or_low hlow]
  have s6 : IntKind.wrap .u64 ((lo : Int) * 2 ^ (min s 64)) = ((lo * 2 ^ s % W : Nat) : Int) := b_shl lo s
  have hYm : lo * 2 ^ s % W < W := Nat.mod_lt _ W0
  have w8 : IntKind.wrap .u64 (s : Int) = (s : Int) := wrap_nat64 (show s < 18446744073709551616 by omega)
  generalize hi * 2 ^ s + lo / 2 ^ (64 - s) = A at *
  generalize lo * 2 ^ s % W = v at *
  generalize y * 2 ^ s = Y at *
  generalize hi * 2 ^ s = hs2 at *
  generalize lo / 2 ^ (64 - s) = ls2 at *
  have b3' : Y < 18446744073709551616 := b3
  have hYm' : v < 18446744073709551616 := hYm
  -- halves of words
  have a1 := b_shr b3 32
  have a2 : bits .and .u64 (Y : Int) 4294967295 = ((Y % 2 ^ 32 : Nat) : Int) := m_and Y 32 4294967295 b3 (by decide) (by decide)
  have a3 := b_shr hYm 32
  have a4 : bits .and .u64 (v : Int) 4294967295 = ((v % 2 ^ 32 : Nat) : Int) := m_and v 32 4294967295 hYm (by decide) (by decide)
  rw [show (2 : Nat) ^ 32 = 4294967296 by decide] at a1 a2 a3 a4
  have hYe := Nat.div_add_mod Y 4294967296
  have hve := Nat.div_add_mod v 4294967296
  have hn0 := Nat.mod_lt Y (show 4294967296 > 0 by decide)
  have hv0 := Nat.mod_lt v (show 4294967296 > 0 by decide)
  have hv1 : v / 4294967296 < 4294967296 := by omega
  have hn1 : 4294967296 ≤ 2 * (Y / 4294967296) := by omega
  have htwo := dq_two (B := 4294967296) (a := A) (v := v / 4294967296) (w := v % 4294967296) (y := Y) (by omega) hv0 hA hv1
  have hW2 : A * W + v = (A * 4294967296 + v / 4294967296) * 4294967296 + v % 4294967296 := by
    have hW0 : W = 18446744073709551616 := rfl
    have hW : W = 4294967296 * 4294967296 := by omega
    rw [hW, Nat.add_mul, Nat.mul_assoc]
    omega
  rw [hW2, htwo.1, htwo.2]
  have hYd : Y / 4294967296 * 4294967296 + Y % 4294967296 = Y := Nat.div_add_mod' Y 4294967296
  generalize hN1 : Y / 4294967296 = n1 at *
  generalize hN0 : Y % 4294967296 = n0 at *
  generalize v / 4294967296 = v1 at *
  generalize v % 4294967296 = v0 at *
  clear hN hlow hdv hW2 htwo hYe hve hs hN1 hN0
  obtain ⟨Q1, hQ1⟩ : ∃ Q, Q = (A * 4294967296 + v1) / Y := ⟨_, rfl⟩
  obtain ⟨R1, hR1⟩ : ∃ R, R = (A * 4294967296 + v1) % Y := ⟨_, rfl⟩
  obtain ⟨Q0, hQ0⟩ : ∃ Q, Q = (R1 * 4294967296 + v0) / Y := ⟨_, rfl⟩
  rw [← hQ1, ← hR1, ← hQ0]
  have hR1Y : R1 < Y := by rw [hR1]; exact Nat.mod_lt _ (by omega)
  have hd1 := Nat.div_add_mod (A * 4294967296 + v1) Y
  have hd0 := Nat.div_add_mod (R1 * 4294967296 + v0) Y
  rw [← hQ1, ← hR1] at hd1
  rw [← hQ0] at hd0
  have hR0Y : (R1 * 4294967296 + v0) % Y < Y := Nat.mod_lt _ (by omega)
  obtain ⟨R0, hR0⟩ : ∃ R, R = (R1 * 4294967296 + v0) % Y := ⟨_, rfl⟩
  rw [← hR0] at hd0 hR0Y ⊢
  obtain ⟨QQ, hQQ⟩ : ∃ Q, Q = Q1 * 4294967296 + Q0 := ⟨_, rfl⟩
  rw [← hQQ]
  obtain ⟨RR, hRR⟩ : ∃ R, R = R0 / 2 ^ s := ⟨_, rfl⟩
  rw [← hRR]
  refine PC.of_sem Tryz.func180 (by decide +kernel) rfl (Nat.le_of_ble_eq_true rfl) ?_
  refine PSem.cut follows (by kernel_rfl) 15 (fun _ : Unit => ⟨[(2, .val (.int .u64 Y)), (8, .val (.int .u64 s)), (9, .val (.int .u64 n1)), (10, .val (.int .u64 n0)), (11, .val (.int .u64 A)), (13, .val (.int .u64 v1)), (14, .val (.int .u64 v0)), (15, .val (.int .u64 Q1))], []⟩)
    (fun _ => True) ?_ (fun _ _ => ?_)
  · simp only [u] at kl ⊢
    have d1 : IntKind.wrap .u64 ((A : Int).tdiv (n1 : Int)) = ((A / n1 : Nat) : Int) := by
      rw [n_tdiv]; exact wrap_nat64 (Nat.lt_of_le_of_lt (Nat.div_le_self _ _) (show A < 18446744073709551616 by omega))
    have d2 : IntKind.wrap .u64 ((A : Int) - IntKind.wrap .u64 (((A / n1 : Nat) : Int) * (n1 : Int))) = ((A % n1 : Nat) : Int) := by
      have e := Nat.div_add_mod A n1
      have e2 : ((A / n1 : Nat) : Int) * (n1 : Int) = ((n1 * (A / n1) : Nat) : Int) := by rw [Nat.mul_comm]; simp
      rw [e2, wrap_nat64 (show _ < 18446744073709551616 by omega), IntKind.wrap_u64]
      omega
    simp only [Tryz.f180, qfirst_succ, qfirst_zero, after_succ, after_zero, Int.cast_ofNat_Int, go_sem]
    refine qif_df hy0 ?_
    simp only [Tryz.f180, qfirst_succ, qfirst_zero, after_succ, after_zero, Int.cast_ofNat_Int, go_sem]
    refine qif_df (by omega) ?_
    simp only [Tryz.f180, qfirst_succ, qfirst_zero, after_succ, after_zero, Int.cast_ofNat_Int, go_sem]
    refine qif_df (by omega) ?_
    simp only [Tryz.f180, qfirst_succ, qfirst_zero, after_succ, after_zero, Int.cast_ofNat_Int, go_sem]
    refine qcall_i (kl) ?_; simp only [Tryz.f180, qfirst_succ, qfirst_zero, after_succ, after_zero, Int.cast_ofNat_Int, w8, s1, s2, s3, s4, s5, s6, a1, a2, a3, a4, d1, d2, go_sem]
    repeat' ((with_reducible refine qand_i (by omega) ?_); simp only [Tryz.f180, qfirst_succ, qfirst_zero, after_succ, after_zero, Int.cast_ofNat_Int, w8, s1, s2, s3, s4, s5, s6, a1, a2, a3, a4, d1, d2, go_sem])
    refine PLoop.intro (fun i : Nat × Nat => ⟨[(2, .val (.int .u64 Y)), (8, .val (.int .u64 s)), (9, .val (.int .u64 n1)), (10, .val (.int .u64 n0)), (11, .val (.int .u64 A)), (13, .val (.int .u64 v1)), (14, .val (.int .u64 v0)), (15, .val (.int .u64 i.1)), (16, .val (.int .u64 i.2))], []⟩)
      (fun i => i.1 * n1 + i.2 = A ∧ Q1 ≤ i.1 ∧ i.1 ≤ 4294967297 ∧ i.2 < 4294967296) (fun i => i.1) (A / n1, A % n1) ⟨Nat.div_add_mod' A n1, by rw [hQ1, ← hYd]; exact dq_first (by omega) hv1, dq_up hn1 hn0 (by omega), by have := Nat.mod_lt A (show n1 > 0 by omega); dsimp only; omega⟩ ?_ fun i hi => walk ?_
    · simp [Wk, sget, killL, kill1, SV.key]
    obtain ⟨q, r⟩ := i
    obtain ⟨j1, j2, j3, j4⟩ := hi
    dsimp only at j1 j2 j3 j4 ⊢
    have hQ1' : Q1 = (A * 4294967296 + v1) / (n1 * 4294967296 + n0) := by rw [hYd]; exact hQ1
    have hAy : A < n1 * 4294967296 + n0 := by omega
    have wq : q < 4294967296 → IntKind.wrap .u64 ((q : Int) * (n0 : Int)) = ((q * n0 : Nat) : Int) := fun h => by
      rw [← Int.natCast_mul]
      refine wrap_nat64 ?_
      have : q * n0 ≤ 4294967295 * 4294967295 := Nat.mul_le_mul (by omega) (by omega)
      show q * n0 < 18446744073709551616
      omega
    have wr : IntKind.wrap .u64 (4294967296 * (r : Int)) = ((4294967296 * r : Nat) : Int) := by rw [IntKind.wrap_u64]; omega
    have wa : IntKind.wrap .u64 (((4294967296 * r : Nat) : Int) + (v1 : Int)) = ((4294967296 * r + v1 : Nat) : Int) := by rw [IntKind.wrap_u64]; omega
    have wd : 0 < q → IntKind.wrap .u64 ((q : Int) - 1) = ((q - 1 : Nat) : Int) := fun h => by rw [IntKind.wrap_u64]; omega
    have we : IntKind.wrap .u64 ((r : Int) + (n1 : Int)) = ((r + n1 : Nat) : Int) := by rw [IntKind.wrap_u64]; omega
    have hdone : q * n0 ≤ 4294967296 * r + v1 → Q1 = q := fun h => by rw [hQ1']; exact dq_done j1 (by rw [← hQ1']; exact j2) (by omega) h
    have hkeep : 4294967296 ≤ q ∨ 4294967296 * r + v1 < q * n0 → Q1 ≤ q - 1 ∧ 0 < q ∧ (q - 1) * n1 + (r + n1) = A := fun h => by
      have := dq_keep hn0 hv1 j1 (by rw [← hQ1']; exact j2) hAy h
      rwa [← hQ1'] at this
    have hlast : (4294967296 ≤ q ∨ 4294967296 * r + v1 < q * n0) → 4294967296 ≤ r + n1 → Q1 = q - 1 := fun h h2 => by
      obtain ⟨g1, g2, g3⟩ := hkeep h
      rw [hQ1']
      refine dq_done g3 (by rw [← hQ1']; exact g1) (by omega) ?_
      have m1 : (q - 1) * n0 ≤ 4294967296 * n0 := Nat.mul_le_mul_right _ (by omega)
      have m2 : 4294967296 * n0 ≤ 4294967296 * (r + n1) := Nat.mul_le_mul_left _ (by omega)
      omega
    have hgo : (4294967296 ≤ q ∨ 4294967296 * r + v1 < q * n0) → ∃ i : Nat × Nat, (i.1 * n1 + i.2 = A ∧ Q1 ≤ i.1 ∧ i.1 ≤ 4294967297) ∧ i = (q - 1, r + n1) ∧ i.1 < q := fun h => by
      obtain ⟨g1, g2, g3⟩ := hkeep h
      exact ⟨_, ⟨g3, g1, by dsimp only; omega⟩, rfl, by dsimp only; omega⟩
    by_cases h1 : 4294967296 ≤ q
    · obtain ⟨-, g2, -⟩ := hkeep (.inl h1)
      have wd := wd g2
      simp only [Tryz.f180, go_sem]
      refine qif_dt (by omega) ?_
      simp only [Tryz.f180, wd, we, go_sem]
      refine qif_d (fun h3 => ?_) (fun h3 => ?_)
      · have := hlast (.inl h1) (by omega)
        simp only [Tryz.f180, go_sem]
        refine ⟨(), ?_⟩
        simp [Wk, sget, killL, kill1, SV.key, this]
      · obtain ⟨_, ⟨f1, f2, f3⟩, rfl, f4⟩ := hgo (.inl h1)
        simp only [Tryz.f180, go_sem]
        refine ⟨(q - 1, r + n1), ⟨f1, f2, f3, by dsimp only; omega⟩, f4, ?_⟩
        simp [Wk, sget, killL, kill1, SV.key]
    have wq := wq (by omega)
    simp only [Tryz.f180, go_sem]
    refine qif_df (by omega) ?_
    simp only [Tryz.f180, wq, wr, wa, go_sem]
    refine qif_d (fun h2 => ?_) (fun h2 => ?_)
    · have h2' : 4294967296 * r + v1 < q * n0 := by omega
      obtain ⟨-, g2, -⟩ := hkeep (.inr h2')
      have wd := wd g2
      simp only [Tryz.f180, wd, we, go_sem]
      refine qif_d (fun h3 => ?_) (fun h3 => ?_)
      · have := hlast (.inr h2') (by omega)
        simp only [Tryz.f180, go_sem]
        refine ⟨(), ?_⟩
        simp [Wk, sget, killL, kill1, SV.key, this]
      · obtain ⟨_, ⟨f1, f2, f3⟩, rfl, f4⟩ := hgo (.inr h2')
        simp only [Tryz.f180, go_sem]
        refine ⟨(q - 1, r + n1), ⟨f1, f2, f3, by dsimp only; omega⟩, f4, ?_⟩
        simp [Wk, sget, killL, kill1, SV.key]
    · have := hdone (by omega)
      simp only [Tryz.f180, go_sem]
      refine ⟨(), ?_⟩
      simp [Wk, sget, killL, kill1, SV.key, this]
  have hAv : (A : Int) * 4294967296 + v1 - (Q1 : Int) * Y = R1 := by
    have : ((Y * Q1 + R1 : Nat) : Int) = ((A * 4294967296 + v1 : Nat) : Int) := by rw [hd1]
    simp only [Int.natCast_add, Int.natCast_mul] at this
    rw [Int.mul_comm (Y : Int)] at this
    have e : ((4294967296 : Nat) : Int) = 4294967296 := rfl
    rw [e] at this
    omega
  have w17 : IntKind.wrap .u64 (IntKind.wrap .u64 (IntKind.wrap .u64 ((A : Int) * 4294967296) + (v1 : Int)) - IntKind.wrap .u64 ((Q1 : Int) * (Y : Int))) = (R1 : Int) := by
    rw [IntKind.wrap_u64, IntKind.wrap_u64, IntKind.wrap_u64, IntKind.wrap_u64]
    generalize (Q1 : Int) * (Y : Int) = QY at *
    omega
  refine PSem.cut follows (by kernel_rfl) 4 (fun _ : Unit => ⟨[(2, .val (.int .u64 Y)), (8, .val (.int .u64 s)), (14, .val (.int .u64 v0)), (15, .val (.int .u64 Q1)), (17, .val (.int .u64 R1)), (18, .val (.int .u64 Q0))], []⟩)
    (fun _ => True) ?_ (fun _ _ => ?_)
  · have d1 : IntKind.wrap .u64 ((R1 : Int).tdiv (n1 : Int)) = ((R1 / n1 : Nat) : Int) := by
      rw [n_tdiv]; exact wrap_nat64 (Nat.lt_of_le_of_lt (Nat.div_le_self _ _) (show R1 < 18446744073709551616 by omega))
    have d2 : IntKind.wrap .u64 ((R1 : Int) - IntKind.wrap .u64 (((R1 / n1 : Nat) : Int) * (n1 : Int))) = ((R1 % n1 : Nat) : Int) := by
      have e := Nat.div_add_mod R1 n1
      have e2 : ((R1 / n1 : Nat) : Int) * (n1 : Int) = ((n1 * (R1 / n1) : Nat) : Int) := by rw [Nat.mul_comm]; simp
      rw [e2, wrap_nat64 (show _ < 18446744073709551616 by omega), IntKind.wrap_u64]
      omega
    simp only [Tryz.f180, after_succ, after_zero, qfirst_succ, qfirst_zero, after_succ, after_zero, Int.cast_ofNat_Int, w17, d1, d2, go_sem]
    repeat' ((with_reducible refine qand_i (by omega) ?_); simp only [Tryz.f180, qfirst_succ, qfirst_zero, after_succ, after_zero, Int.cast_ofNat_Int, w17, d1, d2, go_sem])
    refine PLoop.intro (fun i : Nat × Nat => ⟨[(2, .val (.int .u64 Y)), (8, .val (.int .u64 s)), (9, .val (.int .u64 n1)), (10, .val (.int .u64 n0)), (14, .val (.int .u64 v0)), (15, .val (.int .u64 Q1)), (16, .val (.int .u64 i.2)), (17, .val (.int .u64 R1)), (18, .val (.int .u64 i.1))], []⟩)
      (fun i => i.1 * n1 + i.2 = R1 ∧ Q0 ≤ i.1 ∧ i.1 ≤ 4294967297 ∧ i.2 < 4294967296) (fun i => i.1) (R1 / n1, R1 % n1) ⟨Nat.div_add_mod' R1 n1, by rw [hQ0, ← hYd]; exact dq_first (by omega) hv0, dq_up hn1 hn0 (by omega), by have := Nat.mod_lt R1 (show n1 > 0 by omega); dsimp only; omega⟩ ?_ fun i hi => walk ?_
    · simp [Wk, sget, killL, kill1, SV.key]
    obtain ⟨q, r⟩ := i
    obtain ⟨j1, j2, j3, j4⟩ := hi
    dsimp only at j1 j2 j3 j4 ⊢
    have hQ0' : Q0 = (R1 * 4294967296 + v0) / (n1 * 4294967296 + n0) := by rw [hYd]; exact hQ0
    have hRy : R1 < n1 * 4294967296 + n0 := by omega
    have wq : q < 4294967296 → IntKind.wrap .u64 ((q : Int) * (n0 : Int)) = ((q * n0 : Nat) : Int) := fun h => by
      rw [← Int.natCast_mul]
      refine wrap_nat64 ?_
      have : q * n0 ≤ 4294967295 * 4294967295 := Nat.mul_le_mul (by omega) (by omega)
      show q * n0 < 18446744073709551616
      omega
    have wr : IntKind.wrap .u64 (4294967296 * (r : Int)) = ((4294967296 * r : Nat) : Int) := by rw [IntKind.wrap_u64]; omega
    have wa : IntKind.wrap .u64 (((4294967296 * r : Nat) : Int) + (v0 : Int)) = ((4294967296 * r + v0 : Nat) : Int) := by rw [IntKind.wrap_u64]; omega
    have wd : 0 < q → IntKind.wrap .u64 ((q : Int) - 1) = ((q - 1 : Nat) : Int) := fun h => by rw [IntKind.wrap_u64]; omega
    have we : IntKind.wrap .u64 ((r : Int) + (n1 : Int)) = ((r + n1 : Nat) : Int) := by rw [IntKind.wrap_u64]; omega
    have hdone : q * n0 ≤ 4294967296 * r + v0 → Q0 = q := fun h => by rw [hQ0']; exact dq_done j1 (by rw [← hQ0']; exact j2) (by omega) h
    have hkeep : 4294967296 ≤ q ∨ 4294967296 * r + v0 < q * n0 → Q0 ≤ q - 1 ∧ 0 < q ∧ (q - 1) * n1 + (r + n1) = R1 := fun h => by
      have := dq_keep hn0 hv0 j1 (by rw [← hQ0']; exact j2) hRy h
      rwa [← hQ0'] at this
    have hlast : (4294967296 ≤ q ∨ 4294967296 * r + v0 < q * n0) → 4294967296 ≤ r + n1 → Q0 = q - 1 := fun h h2 => by
      obtain ⟨g1, g2, g3⟩ := hkeep h
      rw [hQ0']
      refine dq_done g3 (by rw [← hQ0']; exact g1) (by omega) ?_
      have m1 : (q - 1) * n0 ≤ 4294967296 * n0 := Nat.mul_le_mul_right _ (by omega)
      have m2 : 4294967296 * n0 ≤ 4294967296 * (r + n1) := Nat.mul_le_mul_left _ (by omega)
      omega
    have hgo : (4294967296 ≤ q ∨ 4294967296 * r + v0 < q * n0) → ∃ i : Nat × Nat, (i.1 * n1 + i.2 = R1 ∧ Q0 ≤ i.1 ∧ i.1 ≤ 4294967297) ∧ i = (q - 1, r + n1) ∧ i.1 < q := fun h => by
      obtain ⟨g1, g2, g3⟩ := hkeep h
      exact ⟨_, ⟨g3, g1, by dsimp only; omega⟩, rfl, by dsimp only; omega⟩
    by_cases h1 : 4294967296 ≤ q
    · obtain ⟨-, g2, -⟩ := hkeep (.inl h1)
      have wd := wd g2
      simp only [Tryz.f180, go_sem]
      refine qif_dt (by omega) ?_
      simp only [Tryz.f180, wd, we, go_sem]
      refine qif_d (fun h3 => ?_) (fun h3 => ?_)
      · have := hlast (.inl h1) (by omega)
        simp only [Tryz.f180, go_sem]
        refine ⟨(), ?_⟩
        simp [Wk, sget, killL, kill1, SV.key, this]
      · obtain ⟨_, ⟨f1, f2, f3⟩, rfl, f4⟩ := hgo (.inl h1)
        simp only [Tryz.f180, go_sem]
        refine ⟨(q - 1, r + n1), ⟨f1, f2, f3, by dsimp only; omega⟩, f4, ?_⟩
        simp [Wk, sget, killL, kill1, SV.key]
    have wq := wq (by omega)
    simp only [Tryz.f180, go_sem]
    refine qif_df (by omega) ?_
    simp only [Tryz.f180, wq, wr, wa, go_sem]
    refine qif_d (fun h2 => ?_) (fun h2 => ?_)
    · have h2' : 4294967296 * r + v0 < q * n0 := by omega
      obtain ⟨-, g2, -⟩ := hkeep (.inr h2')
      have wd := wd g2
      simp only [Tryz.f180, wd, we, go_sem]
      refine qif_d (fun h3 => ?_) (fun h3 => ?_)
      · have := hlast (.inr h2') (by omega)
        simp only [Tryz.f180, go_sem]
        refine ⟨(), ?_⟩
        simp [Wk, sget, killL, kill1, SV.key, this]
      · obtain ⟨_, ⟨f1, f2, f3⟩, rfl, f4⟩ := hgo (.inr h2')
        simp only [Tryz.f180, go_sem]
        refine ⟨(q - 1, r + n1), ⟨f1, f2, f3, by dsimp only; omega⟩, f4, ?_⟩
        simp [Wk, sget, killL, kill1, SV.key]
    · have := hdone (by omega)
      simp only [Tryz.f180, go_sem]
      refine ⟨(), ?_⟩
      simp [Wk, sget, killL, kill1, SV.key, this]
  have hRv : (R1 : Int) * 4294967296 + v0 - (Q0 : Int) * Y = R0 := by
    have : ((Y * Q0 + R0 : Nat) : Int) = ((R1 * 4294967296 + v0 : Nat) : Int) := by rw [hd0]
    simp only [Int.natCast_add, Int.natCast_mul] at this
    rw [Int.mul_comm (Y : Int)] at this
    have e : ((4294967296 : Nat) : Int) = 4294967296 := rfl
    rw [e] at this
    omega
  have x1 : IntKind.wrap .u64 (IntKind.wrap .u64 (IntKind.wrap .u64 ((R1 : Int) * 4294967296) + (v0 : Int)) - IntKind.wrap .u64 ((Q0 : Int) * (Y : Int))) = (R0 : Int) := by
    rw [IntKind.wrap_u64, IntKind.wrap_u64, IntKind.wrap_u64, IntKind.wrap_u64]
    generalize (Q0 : Int) * (Y : Int) = QY at *
    omega
  have q1B : Q1 < 4294967296 := by
    rw [hQ1, Nat.div_lt_iff_lt_mul (by omega)]
    have : (A + 1) * 4294967296 ≤ Y * 4294967296 := Nat.mul_le_mul_right _ hA
    rw [Nat.mul_comm 4294967296 Y]
    omega
  have q0B : Q0 < 4294967296 := by
    rw [hQ0, Nat.div_lt_iff_lt_mul (by omega)]
    have : (R1 + 1) * 4294967296 ≤ Y * 4294967296 := Nat.mul_le_mul_right _ hR1Y
    rw [Nat.mul_comm 4294967296 Y]
    omega
  have x2 : IntKind.wrap .u64 (IntKind.wrap .u64 ((Q1 : Int) * 4294967296) + (Q0 : Int)) = (QQ : Int) := by
    rw [IntKind.wrap_u64, IntKind.wrap_u64]; omega
  have x3 : (R0 : Int).fdiv (2 ^ (min s 64)) = (RR : Int) := by rw [hRR]; exact b_shr (show R0 < 18446744073709551616 by omega) s
  refine PSem.last follows (by kernel_rfl) ?_
  simp only [Tryz.f180, after_succ, after_zero, x1, x2, x3, go_sem]
  repeat' ((with_reducible refine qand_i (by omega) ?_); simp only [Tryz.f180, x1, x2, x3, go_sem])
  try exact ⟨rfl, rfl⟩
  try rfl
end Go.Proofs.YtejmlngnpekagaaGreatDoor
end

/- Division: numbers in rows of words; digits of quotients. Plain laws; division by a small number. -/
section
open Go PG Go.Proofs
set_option maxRecDepth 100000
set_option linter.unusedSimpArgs false
set_option linter.unusedVariables false
namespace Go.Proofs.YtejmlngnpekagaaGreatDoor
attribute [local go_sem] Lay2 Lay3 Lay4 Lay5 Lay6 Lay7 Lay8 Lay9 Lay10 Lay11 Lay12 Lay13 Lay14 Lay15 Lay16 Lay17 Lay18 Lay19 Lay21 Lay22 Lay23 Lay25 Lay26 Lay27 Lay30 Lay31 Lay32 Lay33 Lay36 Lay37 Lay41 Lay42 Lay43 Lay47 Lay56 Lay57 Lay59 Lay60 Lay65 Lay66 Lay74 Lay75 Lay105 Lay114 Lay145 Lay146 Lay149 Lay150 Lay151 Lay173 Lay185 Lay189 Lay204 Lay205 Lay208 Lay214 Lay215 Lay216 Lay217 Lay218 Lay220 Lay221 Lay223 Lay224 Lay225 Lay228 qexec_seq qexec_skip qexec_exit qexec_ret qexec_block qexec_loop qexec_range qexec_cond qexec_region qexec_drawn qops_nil qops_none qops_some put_some put_none pblk_exit pblk_other newDsts_nil inlDsts_nil isInl sget_cons sget_nil qval_some qbool_some qgs_bool qgs_und qfree_some qgrd_true qgrd_false qif_true qif_false qval_ite qval_itn qand_true map_ite map_some' map_none' qdo_move qdo_assign qdo_binOp qdo_pick qdo_unOp qdo_convert qdo_extract qdo_field qdo_fieldAddr qdo_alloc qdo_box qdo_build qdo_buildSlice qdo_load qdo_store qdo_nilCheck qdo_makeFunc qdo_makeSlice qdo_slice qdo_indexAddr qdo_call qcont_val qcont_new qcont_st qcont_app0 qcont_app qcont_inl qcont_call njSV_val njSV_nil njSV_row njSV_ptr njSV_sub binV_val binV_nil binV_nn binV_ptr bin_np bin_nnp nilCmp bin_add bin_sub bin_mul bin_quo bin_rem bin_and bin_or bin_xor bin_andNot bin_eql bin_neq bin_lss bin_leq bin_gtr bin_geq bin_shl bin_shr bin_seql bin_sneq bin_sadd bin_beql bin_aeql bin_aneq eqAnd_some eqCells_nil eqCells_cons fieldTypes isStruct eqCell bin_bneq un_not un_neg nj_ite Nat.beq stepA stepR isNew opSV constSV RV.sv allSome E_mu E_own qkeyIn_none qkeyIn_some qkeyAt_none qkeyAt_some Bool.or_false Bool.false_or Bool.or_true Bool.true_or cst setB res resSV pstart startL killL kill1 eraL frzL svPV rvPV rvInt rvSlice frzOf close closeL pconv pbuiltin pmax2 partPV setCells fillPV zrow bound newSV PV.cells Bk.cells Bk.with SV.key pres presL_nil presL_tmp presL_cell presC2_some cellPV_ptr presC List.toList_toArray List.size_toArray List.getElem?_drop Nat.mul_one Int.toNat_natCast Nat.not_lt_zero Nat.lt_irrefl decide_true decide_false Nat.not_lt Option.some.injEq PV.lst.injEq PV.int.injEq PV.bool.injEq PV.tuple.injEq List.cons.injEq Option.map_some Option.map_none Option.bind_some Option.toList List.map_cons List.map_nil List.nil_append List.cons_append List.append_nil List.zip_cons_cons List.zip_nil_left List.zip_nil_right List.getElem?_cons_zero List.getElem?_cons_succ List.drop_zero List.drop_succ_cons List.take_succ_cons List.take_zero List.set_cons_zero List.set_cons_succ List.length_cons List.length_nil List.length_set List.replicate_one List.replicate_zero bne_self_eq_false beq_self_eq_true Nat.zero_add Nat.add_zero Nat.zero_mul Bool.false_eq_true Bool.true_eq_false Bool.not_true Bool.not_false and_true true_and false_and and_false or_false false_or or_true true_or not_true_eq_false not_false_eq_true ne_eq gt_iff_lt List.mem_cons List.not_mem_nil
attribute [local go_sem ↓] pseq_normal pseq_ret pseq_exit pblk_normal pblk_ret newDsts_cons inlDsts_cons gdst_zero gdst_succ retQ_normal retQ_ret qneed_nil qneed_cons retM_normal retM_ret endR_normal endR_ret endR_exit
attribute [local go_sem] Int.reduceToNat Int.reduceEq Int.reduceNe Int.reduceLT Int.reduceLE Int.reduceNeg Int.reduceAdd Nat.reduceEqDiff Nat.reduceAdd Nat.reduceSub Nat.reduceMul Nat.reduceLeDiff Nat.reduceLT
attribute [local go_sem ↓] reduceIte reduceCtorEq

/-- The upper digits of a number, zeros below. -/
def outL (X n i : Nat) : List Nat := (List.range n).map fun j => if j < i then 0 else X / W ^ j % W
theorem outL_len (X n i : Nat) : (outL X n i).length = n := by simp [outL]
theorem outL_all (X n : Nat) : outL X n n = List.replicate n 0 := by
  unfold outL
  apply List.ext_getElem
  · simp
  · intro j h1 h2
    simp at h1
    simp [h1]
theorem outL_zero (X n : Nat) : outL X n 0 = tab W X n := by
  unfold outL tab
  simp
theorem outL_set {X n i : Nat} (hi : i < n) : (U (outL X n (i + 1))).set i (.int .u64 ((X / W ^ i % W : Nat) : Int)) = U (outL X n i) := by
  unfold U
  show (List.map u _).set i (u (X / W ^ i % W)) = _
  rw [← List.map_set]
  congr 1
  unfold outL
  apply List.ext_getElem
  · simp
  · intro j h1 h2
    simp at h1 h2
    rw [List.getElem_set]
    by_cases hj : i = j
    · subst hj; simp
    · simp only [hj, if_false, List.getElem_map, List.getElem_range]
      by_cases h3 : j < i
      · rw [if_pos (by omega), if_pos h3]
      · rw [if_neg (by omega), if_neg h3]
/-- One step of a long division by a small number. -/
theorem small_step {X n i : Nat} (hn : 0 < n) : (X / W ^ (i + 1) % n * W + X / W ^ i % W) / n = X / n / W ^ i % W ∧ (X / W ^ (i + 1) % n * W + X / W ^ i % W) % n = X / W ^ i % n := by
  have e1 : X / W ^ (i + 1) = X / W ^ i / W := by rw [Nat.pow_succ, Nat.div_div_eq_div_mul]
  have e2 : X / n / W ^ i = X / W ^ i / n := by rw [Nat.div_div_eq_div_mul, Nat.div_div_eq_div_mul, Nat.mul_comm]
  rw [e1, e2]
  generalize X / W ^ i = Y
  have h1 := Nat.div_add_mod Y W
  have h2 := Nat.div_add_mod (Y / W) n
  have h3 : Y / W % n * W + Y % W < n * W := by
    have a := Nat.mod_lt (Y / W) hn
    have b := Nat.mod_lt Y W0
    have : (Y / W % n + 1) * W ≤ n * W := Nat.mul_le_mul_right _ a
    rw [Nat.add_mul, Nat.one_mul] at this
    omega
  have e3 : Y = n * (Y / W / n * W) + (Y / W % n * W + Y % W) := by
    conv => lhs; rw [← h1, ← h2]
    rw [Nat.mul_comm W, Nat.add_mul, Nat.mul_assoc, Nat.add_assoc]
  have hq : (Y / W % n * W + Y % W) / n < W := (Nat.div_lt_iff_lt_mul hn).2 (by rw [Nat.mul_comm W]; exact h3)
  constructor
  · conv => rhs; rw [e3]
    rw [Nat.mul_add_div hn, Nat.mul_comm (Y / W / n), Nat.mul_add_mod, Nat.mod_eq_of_lt hq]
  · conv => rhs; rw [e3]
    rw [Nat.mul_add_mod]
theorem digit_at {l : List Nat} (ol : Ok W l) {i : Nat} (hi : i < l.length) : (U l)[i]? = some (.int .u64 ((vl l / W ^ i % W : Nat) : Int)) := by
  have hv : vl l = dv W l := rfl
  rw [U_get, hv, ← dv_get W0 l ol i, List.getD_eq_getElem?_getD, List.getElem?_eq_getElem hi]; rfl
theorem d_Small {l : List Nat} (ol : Ok W l) (hl : l.length ≤ 100000) {n : Nat} (hn : n < W) (h0 : n ≠ 0) : PC E 155 [NL l, u n] (.tuple [NN (vl l / n), u (vl l % n), .int .i64 0]) := by
  have hX : vl l < W ^ l.length := dv_lt l ol
  have hst : ∀ i, i < l.length → PC E 180 [.int .u64 ((vl l / W ^ (i + 1) % n : Nat) : Int), .int .u64 ((vl l / W ^ i % W : Nat) : Int), .int .u64 (n : Int)] (.tuple [.int .u64 ((vl l / n / W ^ i % W : Nat) : Int), .int .u64 ((vl l / W ^ i % n : Nat) : Int)]) := fun i hi => by
    have h1 := c_Div64 (hi := vl l / W ^ (i + 1) % n) (lo := vl l / W ^ i % W) hn (Nat.mod_lt _ W0) (Nat.mod_lt _ (by omega))
    obtain ⟨e1, e2⟩ := small_step (X := vl l) (i := i) (n := n) (by omega)
    rw [e1, e2] at h1
    exact h1
  have hg := fun i hi => digit_at ol (i := i) hi
  have hz : vl l / W ^ l.length % n = 0 := by rw [Nat.div_eq_of_lt hX, Nat.zero_mod]
  have hbare : PC E 144 [.lst l.length (U (outL (vl l / n) l.length 0))] (NN (vl l / n)) := by
    rw [outL_zero]
    exact PC.at_list (n_Bare (tab W (vl l / n) l.length) (by rw [tab_length]; omega) (ok_tab W0 _ _)) (tab_length _ _ _) ((dv_tab _ _).trans (Nat.mod_eq_of_lt (Nat.lt_of_le_of_lt (Nat.div_le_self _ _) hX)))
  have hout0 : U (outL (vl l / n) l.length l.length) = List.replicate l.length (.int .u64 0) := by rw [outL_all, U_replicate]
  have hset := fun i (hi : i < l.length) => outL_set (X := vl l / n) hi
  have hlenU : ∀ i, (U (outL (vl l / n) l.length i)).length = l.length := fun i => by unfold U; rw [List.length_map, outL_len]
  have hfin : vl l / W ^ 0 % n = vl l % n := by rw [Nat.pow_zero, Nat.div_one]
  generalize vl l / n = Q at *
  obtain ⟨O, hO⟩ : ∃ O : Nat → List PV, ∀ i, U (outL Q l.length i) = O i := ⟨_, fun _ => rfl⟩
  obtain ⟨R, hR⟩ : ∃ R : Nat → Nat, ∀ i, vl l / W ^ i % n = R i := ⟨_, fun _ => rfl⟩
  obtain ⟨D, hD⟩ : ∃ D : Nat → Nat, ∀ i, vl l / W ^ i % W = D i := ⟨_, fun _ => rfl⟩
  obtain ⟨G, hG⟩ : ∃ G : Nat → Nat, ∀ i, Q / W ^ i % W = G i := ⟨_, fun _ => rfl⟩
  simp only [hO, hR, hD, hG] at hst hg hz hbare hout0 hset hlenU hfin
  rw [← hfin]
  clear hO hR hD hG hfin hX ol
  simp only [NL, u] at hbare ⊢
  generalize U l = U1 at *
  have wl : IntKind.wrap .i64 ((l.length : Int) - 1) = (l.length : Int) - 1 := wrap64 (by omega) (by omega)
  refine PC.of_body follows Tryz.func155 (by decide +kernel) rfl (by kernel_rfl) (Nat.le_of_ble_eq_true rfl) (walk ?_)
  simp only [Tryz.f155, wl, go_sem]
  refine qif_df (by omega) ?_
  simp only [Tryz.f155, wl, go_sem]
  refine qand_i (by omega) ?_
  simp only [Tryz.f155, wl, go_sem]
  refine PLoop.intro (fun i : Nat => ⟨[(0, .val (.lst l.length U1)), (1, .val (.int .u64 n)), (7, .row 14), (8, .val (.int .u64 (R i))), (9, .val (.int .i64 ((i : Int) - 1)))], [(14, (.row 23 1 l.length (O i), false))]⟩) (fun i => i ≤ l.length) (fun i => i) l.length (Nat.le_refl _) ?_ fun i hi => walk ?_
  · rw [hout0]
    simp [Wk, sget, killL, kill1, SV.key, hz]
  rcases i with _ | i
  · simp only [Tryz.f155, go_sem]
    refine qif_df (by omega) ?_
    simp only [Tryz.f155, go_sem]
    refine qcall_i (hbare) ?_; simp only [Tryz.f155, go_sem]
    try rfl
  have we : ((i + 1 : Nat) : Int) - 1 = (i : Int) := by omega
  have wi : IntKind.wrap .i64 ((i : Int) - 1) = (i : Int) - 1 := wrap64 (by omega) (by omega)
  have x1 := hg i (by omega)
  have k1 := hst i (by omega)
  have x2 := hset i (by omega)
  have x3 := hlenU (i + 1)
  simp only [Tryz.f155, we, go_sem]
  refine qif_dt (by omega) ?_
  simp only [Tryz.f155, we, go_sem]
  refine qand_i (by omega) ?_
  simp only [Tryz.f155, we, go_sem]
  refine qval_i (congrArg (Option.map _) x1) ?_
  simp only [Tryz.f155, we, go_sem]
  refine qcall_i (k1) ?_; simp only [Tryz.f155, we, wi, go_sem]
  refine qand_i (by omega) ?_
  simp only [Tryz.f155, we, wi, go_sem]
  refine qand_i (by rw [x3]; omega) ?_
  simp only [Tryz.f155, we, wi, go_sem]
  refine ⟨i, by omega, by omega, ?_⟩
  simp [Wk, sget, killL, kill1, SV.key, setCells, x2]
end Go.Proofs.YtejmlngnpekagaaGreatDoor
end

/- Division: a number shifted into a new row; a multiple taken off a part of a row, a number put back. -/
section
open Go PG Go.Proofs
set_option maxRecDepth 100000
set_option linter.unusedSimpArgs false
set_option linter.unusedVariables false
namespace Go.Proofs.YtejmlngnpekagaaGreatDoor
attribute [local go_sem] Lay2 Lay3 Lay4 Lay5 Lay6 Lay7 Lay8 Lay9 Lay10 Lay11 Lay12 Lay13 Lay14 Lay15 Lay16 Lay17 Lay18 Lay19 Lay21 Lay22 Lay23 Lay25 Lay26 Lay27 Lay30 Lay31 Lay32 Lay33 Lay36 Lay37 Lay41 Lay42 Lay43 Lay47 Lay56 Lay57 Lay59 Lay60 Lay65 Lay66 Lay74 Lay75 Lay105 Lay114 Lay145 Lay146 Lay149 Lay150 Lay151 Lay173 Lay185 Lay189 Lay204 Lay205 Lay208 Lay214 Lay215 Lay216 Lay217 Lay218 Lay220 Lay221 Lay223 Lay224 Lay225 Lay228 qexec_seq qexec_skip qexec_exit qexec_ret qexec_block qexec_loop qexec_range qexec_cond qexec_region qexec_drawn qops_nil qops_none qops_some put_some put_none pblk_exit pblk_other newDsts_nil inlDsts_nil isInl sget_cons sget_nil qval_some qbool_some qgs_bool qgs_und qfree_some qgrd_true qgrd_false qif_true qif_false qval_ite qval_itn qand_true map_ite map_some' map_none' qdo_move qdo_assign qdo_binOp qdo_pick qdo_unOp qdo_convert qdo_extract qdo_field qdo_fieldAddr qdo_alloc qdo_box qdo_build qdo_buildSlice qdo_load qdo_store qdo_nilCheck qdo_makeFunc qdo_makeSlice qdo_slice qdo_indexAddr qdo_call qcont_val qcont_new qcont_st qcont_app0 qcont_app qcont_inl qcont_call njSV_val njSV_nil njSV_row njSV_ptr njSV_sub binV_val binV_nil binV_nn binV_ptr bin_np bin_nnp nilCmp bin_add bin_sub bin_mul bin_quo bin_rem bin_and bin_or bin_xor bin_andNot bin_eql bin_neq bin_lss bin_leq bin_gtr bin_geq bin_shl bin_shr bin_seql bin_sneq bin_sadd bin_beql bin_aeql bin_aneq eqAnd_some eqCells_nil eqCells_cons fieldTypes isStruct eqCell bin_bneq un_not un_neg nj_ite Nat.beq stepA stepR isNew opSV constSV RV.sv allSome E_mu E_own qkeyIn_none qkeyIn_some qkeyAt_none qkeyAt_some Bool.or_false Bool.false_or Bool.or_true Bool.true_or cst setB res resSV pstart startL killL kill1 eraL frzL svPV rvPV rvInt rvSlice frzOf close closeL pconv pbuiltin pmax2 partPV setCells fillPV zrow bound newSV PV.cells Bk.cells Bk.with SV.key pres presL_nil presL_tmp presL_cell presC2_some cellPV_ptr presC List.toList_toArray List.size_toArray List.getElem?_drop Nat.mul_one Int.toNat_natCast Nat.not_lt_zero Nat.lt_irrefl decide_true decide_false Nat.not_lt Option.some.injEq PV.lst.injEq PV.int.injEq PV.bool.injEq PV.tuple.injEq List.cons.injEq Option.map_some Option.map_none Option.bind_some Option.toList List.map_cons List.map_nil List.nil_append List.cons_append List.append_nil List.zip_cons_cons List.zip_nil_left List.zip_nil_right List.getElem?_cons_zero List.getElem?_cons_succ List.drop_zero List.drop_succ_cons List.take_succ_cons List.take_zero List.set_cons_zero List.set_cons_succ List.length_cons List.length_nil List.length_set List.replicate_one List.replicate_zero bne_self_eq_false beq_self_eq_true Nat.zero_add Nat.add_zero Nat.zero_mul Bool.false_eq_true Bool.true_eq_false Bool.not_true Bool.not_false and_true true_and false_and and_false or_false false_or or_true true_or not_true_eq_false not_false_eq_true ne_eq gt_iff_lt List.mem_cons List.not_mem_nil
attribute [local go_sem ↓] pseq_normal pseq_ret pseq_exit pblk_normal pblk_ret newDsts_cons inlDsts_cons gdst_zero gdst_succ retQ_normal retQ_ret qneed_nil qneed_cons retM_normal retM_ret endR_normal endR_ret endR_exit
attribute [local go_sem] Int.reduceToNat Int.reduceEq Int.reduceNe Int.reduceLT Int.reduceLE Int.reduceNeg Int.reduceAdd Nat.reduceEqDiff Nat.reduceAdd Nat.reduceSub Nat.reduceMul Nat.reduceLeDiff Nat.reduceLT
attribute [local go_sem ↓] reduceIte reduceCtorEq

theorem tab_getU {P m j : Nat} (h : j < m) : (U (tab W P m))[j]? = some (.int .u64 ((P / W ^ j % W : Nat) : Int)) := by
  rw [U_get]
  unfold tab
  simp [h, u]
/-- Two digits at once. -/
theorem tab_set2 {P c i m : Nat} (hi : i + 1 < m) (hP : P / W ^ (i + 1) = 0) (hc : P / W ^ i + c < W * W) :
    ((U (tab W P m)).set i (.int .u64 (((P / W ^ i + c) % W : Nat) : Int))).set (i + 1) (.int .u64 (((P / W ^ i + c) / W : Nat) : Int)) = U (tab W (P + W ^ i * c) m) := by
  unfold U
  show ((List.map u _).set i (u ((P / W ^ i + c) % W))).set (i + 1) (u ((P / W ^ i + c) / W)) = _
  rw [← List.map_set, ← List.map_set]
  congr 1
  apply List.ext_getElem
  · simp [tab]
  · intro j h1 h2
    simp only [List.length_set, tab_length] at h1
    have hWi := Nat.pow_pos (n := i) W0
    have ht : ∀ X, (tab W X m)[j]'(by rw [tab_length]; exact h1) = X / W ^ j % W := fun X => by simp [tab]
    rw [ht, List.getElem_set, List.getElem_set]
    have hd : (P + W ^ i * c) / W ^ i = P / W ^ i + c := Nat.add_mul_div_left _ _ hWi
    by_cases e1 : i + 1 = j
    · subst e1
      rw [if_pos rfl, Nat.pow_succ, ← Nat.div_div_eq_div_mul, hd, Nat.mod_eq_of_lt]
      exact (Nat.div_lt_iff_lt_mul W0).2 hc
    · rw [if_neg e1]
      by_cases e2 : i = j
      · subst e2
        rw [if_pos rfl, hd]
      · rw [if_neg e2, ht]
        rcases Nat.lt_or_gt_of_ne e2 with h3 | h3
        · obtain ⟨k, rfl⟩ : ∃ k, j = i + 2 + k := ⟨j - i - 2, by omega⟩
          have p1 : P / W ^ (i + 2 + k) = 0 := by
            rw [show i + 2 + k = i + 1 + (1 + k) by omega, Nat.pow_add, ← Nat.div_div_eq_div_mul, hP, Nat.zero_div]
          have p2 : (P + W ^ i * c) / W ^ (i + 2 + k) = 0 := by
            rw [show i + 2 + k = i + (2 + k) by omega, Nat.pow_add, ← Nat.div_div_eq_div_mul, hd]
            refine Nat.div_eq_of_lt (Nat.lt_of_lt_of_le hc ?_)
            rw [Nat.pow_add, show W ^ 2 = W * W from Nat.pow_two W]
            exact Nat.le_mul_of_pos_right _ (Nat.pow_pos W0)
          rw [p1, p2]
        · obtain ⟨k, rfl⟩ : ∃ k, i = j + (k + 1) := ⟨i - j - 1, by omega⟩
          have e3 : W ^ (j + (k + 1)) * c = W ^ j * (W * (W ^ k * c)) := by
            rw [Nat.pow_add, Nat.pow_succ, Nat.mul_assoc, Nat.mul_comm (W ^ k) W, Nat.mul_assoc]
          rw [e3, Nat.add_mul_div_left _ _ (Nat.pow_pos W0), Nat.add_mul_mod_self_left]
/-- A shift, word by word. -/
theorem left_step {A i s : Nat} (hs : s ≤ 63) :
    A % W ^ i * 2 ^ s / W ^ i < 2 ^ s ∧ A % W ^ i * 2 ^ s / W ^ (i + 1) = 0 ∧ A % W ^ (i + 1) * 2 ^ s = A % W ^ i * 2 ^ s + W ^ i * (A / W ^ i % W * 2 ^ s) := by
  have hWi := Nat.pow_pos (n := i) W0
  have h1 : A % W ^ i * 2 ^ s < W ^ i * 2 ^ s := Nat.mul_lt_mul_of_pos_right (Nat.mod_lt _ hWi) (Nat.two_pow_pos _)
  have h2 : (2 : Nat) ^ s < W := by
    have : (2 : Nat) ^ s ≤ 2 ^ 63 := Nat.pow_le_pow_right (by decide) hs
    have h63 : (2 : Nat) ^ 63 = 9223372036854775808 := by decide
    show (2 : Nat) ^ s < 18446744073709551616
    omega
  refine ⟨(Nat.div_lt_iff_lt_mul hWi).2 (by rw [Nat.mul_comm (2 ^ s)]; exact h1), Nat.div_eq_of_lt (Nat.lt_trans h1 ?_), ?_⟩
  · rw [Nat.pow_succ]; exact Nat.mul_lt_mul_of_pos_left h2 hWi
  · rw [Nat.pow_succ, Nat.mod_mul, Nat.add_mul, Nat.mul_assoc]
theorem left_or {d x s : Nat} (hs : s ≤ 63) (hd : d < 2 ^ s) (hx : x < W) : bits .or .u64 (d : Int) ((x * 2 ^ s % W : Nat) : Int) = (((d + x * 2 ^ s) % W : Nat) : Int) ∧ (d + x * 2 ^ s) / W = x / 2 ^ (64 - s) ∧ d + x * 2 ^ s < W * W := by
  have hW : W = 2 ^ (64 - s) * 2 ^ s := by rw [← Nat.pow_add, show 64 - s + s = 64 by omega]
  have hp := Nat.two_pow_pos (64 - s)
  have hps := Nat.two_pow_pos s
  have hm := Nat.mod_lt x hp
  have e1 : x * 2 ^ s % W = x % 2 ^ (64 - s) * 2 ^ s := by rw [hW, Nat.mul_mod_mul_right]
  have hlt : x % 2 ^ (64 - s) * 2 ^ s + d < W := by
    have : (x % 2 ^ (64 - s) + 1) * 2 ^ s ≤ 2 ^ (64 - s) * 2 ^ s := Nat.mul_le_mul_right _ hm
    rw [Nat.add_mul, Nat.one_mul, ← hW] at this
    omega
  have e2 : d + x * 2 ^ s = W * (x / 2 ^ (64 - s)) + (x % 2 ^ (64 - s) * 2 ^ s + d) := by
    have := Nat.div_add_mod x (2 ^ (64 - s))
    conv => lhs; rw [← this]
    rw [Nat.add_mul, hW, Nat.mul_right_comm]
    omega
  have hdW : d < W := by omega
  refine ⟨?_, ?_, ?_⟩
  · rw [b_or hdW (Nat.mod_lt _ W0), e1, Nat.or_comm, or_low hd, e2, Nat.mul_add_mod, Nat.mod_eq_of_lt hlt]
  · rw [e2, Nat.mul_add_div W0, Nat.div_eq_of_lt hlt, Nat.add_zero]
  · have h1 : x * 2 ^ s ≤ (W - 1) * 2 ^ s := Nat.mul_le_mul_right _ (by omega)
    have h2 : (W - 1) * 2 ^ s + 2 ^ s = W * 2 ^ s := by
      rw [← Nat.succ_mul]; congr 1
    have h3 : W * 2 ^ s ≤ W * W := Nat.mul_le_mul_left _ (by rw [hW]; exact Nat.le_mul_of_pos_left _ hp)
    omega
theorem d_left {a : List Nat} (oa : Ok W a) (hl : a.length ≤ 100000) {s : Nat} (hs : s ≤ 63) :
    PCM E 182 [.val (NL a), .val (.int .i64 s)] [] (.row 0) [.row 23 1 (a.length + 1) (U (tab W (vl a * 2 ^ s) (a.length + 1)))] := by
  have hA : vl a < W ^ a.length := dv_lt a oa
  have hg := fun i hi => digit_at oa (i := i) hi
  have w1 : IntKind.wrap .i64 ((a.length : Int) + 1) = ((a.length + 1 : Nat) : Int) := by rw [wrap64 (by omega) (by omega)]; omega
  have hst : ∀ i, i < a.length → (U (tab W (vl a % W ^ i * 2 ^ s) (a.length + 1)))[i]? = some (.int .u64 ((vl a % W ^ i * 2 ^ s / W ^ i : Nat) : Int)) ∧
      IntKind.wrap .u64 (((vl a / W ^ i % W : Nat) : Int) * 2 ^ (min s 64)) = ((vl a / W ^ i % W * 2 ^ s % W : Nat) : Int) ∧
      bits .or .u64 ((vl a % W ^ i * 2 ^ s / W ^ i : Nat) : Int) ((vl a / W ^ i % W * 2 ^ s % W : Nat) : Int) = (((vl a % W ^ i * 2 ^ s / W ^ i + vl a / W ^ i % W * 2 ^ s) % W : Nat) : Int) ∧
      ((vl a / W ^ i % W : Nat) : Int).fdiv (2 ^ (min (64 - s) 64)) = (((vl a % W ^ i * 2 ^ s / W ^ i + vl a / W ^ i % W * 2 ^ s) / W : Nat) : Int) ∧
      ((U (tab W (vl a % W ^ i * 2 ^ s) (a.length + 1))).set i (.int .u64 (((vl a % W ^ i * 2 ^ s / W ^ i + vl a / W ^ i % W * 2 ^ s) % W : Nat) : Int))).set (i + 1) (.int .u64 (((vl a % W ^ i * 2 ^ s / W ^ i + vl a / W ^ i % W * 2 ^ s) / W : Nat) : Int)) = U (tab W (vl a % W ^ (i + 1) * 2 ^ s) (a.length + 1)) := fun i hi => by
    obtain ⟨h1, h2, h3⟩ := left_step (A := vl a) (i := i) hs
    have hxW : vl a / W ^ i % W < W := Nat.mod_lt _ W0
    obtain ⟨g1, g2, g3⟩ := left_or hs h1 hxW
    have h4 : vl a % W ^ i * 2 ^ s / W ^ i < W := Nat.lt_trans h1 (by
      have : (2 : Nat) ^ s ≤ 2 ^ 63 := Nat.pow_le_pow_right (by decide) hs
      have h63 : (2 : Nat) ^ 63 = 9223372036854775808 := by decide
      show (2 : Nat) ^ s < 18446744073709551616
      omega)
    refine ⟨?_, b_shl _ s, g1, ?_, ?_⟩
    · rw [tab_getU (by omega), Nat.mod_eq_of_lt h4]
    · rw [g2]; exact b_shr hxW (64 - s)
    · rw [h3]; exact tab_set2 (by omega) h2 g3
  have h0 : U (tab W (vl a % W ^ 0 * 2 ^ s) (a.length + 1)) = List.replicate (a.length + 1) (.int .u64 0) := by
    rw [Nat.pow_zero, Nat.mod_one, Nat.zero_mul]
    have e0 : tab W 0 (a.length + 1) = List.replicate (a.length + 1) 0 := by unfold tab; simp [List.map_const']
    rw [e0, U_replicate]
  have hend : vl a % W ^ a.length * 2 ^ s = vl a * 2 ^ s := by rw [Nat.mod_eq_of_lt hA]
  have hlen : ∀ i, (U (tab W (vl a % W ^ i * 2 ^ s) (a.length + 1))).length = a.length + 1 := fun i => by unfold U; rw [List.length_map, tab_length]
  rw [← hend]
  clear hend hA oa
  obtain ⟨R, hR⟩ : ∃ R : Nat → List PV, ∀ i, U (tab W (vl a % W ^ i * 2 ^ s) (a.length + 1)) = R i := ⟨_, fun _ => rfl⟩
  obtain ⟨D, hD⟩ : ∃ D : Nat → Nat, ∀ i, vl a / W ^ i % W = D i := ⟨_, fun _ => rfl⟩
  obtain ⟨F, hF⟩ : ∃ F : Nat → Nat, ∀ i, vl a % W ^ i * 2 ^ s / W ^ i = F i := ⟨_, fun _ => rfl⟩
  simp only [hR, hD, hF] at hg hst h0 hlen ⊢
  clear hR hD hF
  have ws : IntKind.wrap .i64 (64 - (s : Int)) = ((64 - s : Nat) : Int) := by rw [wrap64 (by omega) (by omega)]; omega
  simp only [NL]
  generalize U a = U1 at *
  refine PCM.of_body follows Tryz.func182 (by decide +kernel) rfl (by kernel_rfl) (Nat.le_of_ble_eq_true rfl) (by simp) (by simp) (fun k h => by cases h; exact ⟨rfl, rfl⟩) (fun h => by cases h) (walk ?_)
  simp only [mstart, startS, blkL, shiftSV]
  simp only [Tryz.f182, w1, go_sem]
  refine qand_i (by omega) ?_
  simp only [Tryz.f182, w1, go_sem]
  refine PLoop.intro (fun i : Nat => ⟨[(1, .val (.int .i64 s)), (5, .row 11), (12, .val (.lst a.length U1)), (13, .val (.int .i64 a.length)), (14, .val (.int .i64 i))], [(11, (.row 23 1 (a.length + 1) (R i), false))]⟩) (fun i => i ≤ a.length) (fun i => a.length - i) 0 (Nat.zero_le _) ?_ fun i hi => walk ?_
  · rw [h0]
    simp [Wk, sget, killL, kill1, SV.key]
  have wi : IntKind.wrap .i64 ((i : Int) + 1) = ((i + 1 : Nat) : Int) := by rw [wrap64 (by omega) (by omega)]; omega
  simp only [Tryz.f182, go_sem]
  refine qif_d (fun h => ?_) (fun h => ?_)
  · have hin : i < a.length := by omega
    have x1 := hg i hin
    obtain ⟨x2, x3, x4, x5, x6⟩ := hst i hin
    have x7 := hlen i
    simp only [Tryz.f182, go_sem]
    refine qand_i (by omega) ?_
    simp only [Tryz.f182, go_sem]
    refine qval_i (congrArg (Option.map _) x1) ?_
    simp only [Tryz.f182, go_sem]
    refine qand_i (by omega) ?_
    simp only [Tryz.f182, go_sem]
    refine qval_i (congrArg (Option.map _) x2) ?_
    simp only [Tryz.f182, x3, x4, go_sem]
    repeat' ((with_reducible refine qand_i (by first | omega | (rw [x7]; omega) | (simp [x7]; omega)) ?_); simp only [Tryz.f182, x3, x4, x5, ws, wi, go_sem])
    refine ⟨i + 1, by omega, by omega, ?_⟩
    rw [x6]
    simp [Wk, sget, killL, kill1, SV.key]
  · have hin : i = a.length := by omega
    subst hin
    simp only [Tryz.f182, go_sem]
    refine ⟨11, by decide, fun j b hb => ?_, .inr ⟨4, rfl, rfl, .inr ⟨rfl, rfl⟩⟩⟩
    match j, hb with
    | 0, hb =>
      simp only [List.getElem?_cons_zero, Option.some.injEq] at hb
      subst hb
      rfl
    | j + 1, hb => simp at hb

/-- The digits of a part of a row. -/
theorem part_dig {out : List Nat} (ho : Ok W out) {o k i : Nat} (hi : i < k) : out.getD (o + i) 0 = dv W ((out.drop o).take k) / W ^ i % W := by
  have hok : Ok W ((out.drop o).take k) := fun d hd => ho d (List.mem_of_mem_drop (List.mem_of_mem_take hd))
  rw [← dv_get W0 _ hok i, List.getD_eq_getElem?_getD, List.getD_eq_getElem?_getD, List.getElem?_take, if_pos hi, List.getElem?_drop]
theorem take_dig {vv : List Nat} (ho : Ok W vv) {k i : Nat} (hi : i < k) (hk : k ≤ vv.length) : (U vv)[i]? = some (.int .u64 ((dv W (vv.take k) / W ^ i % W : Nat) : Int)) := by
  have hok : Ok W (vv.take k) := fun d hd => ho d (List.mem_of_mem_take hd)
  rw [U_get, ← dv_get W0 _ hok i, List.getD_eq_getElem?_getD, List.getElem?_take, if_pos hi, List.getElem?_eq_getElem (by omega)]; rfl
theorem big_dig {Z n i : Nat} (hi : i ≤ n) : (Z + W ^ (n + 1)) / W ^ i % W = Z / W ^ i % W := by
  obtain ⟨k, rfl⟩ : ∃ k, n = i + k := ⟨n - i, by omega⟩
  rw [show i + k + 1 = i + (k + 1) by omega, Nat.pow_add, Nat.add_mul_div_left _ _ (Nat.pow_pos W0), Nat.pow_succ, Nat.mul_comm (W ^ k), Nat.add_mul_mod_self_left]
theorem big_mod {Z n : Nat} : (Z + W ^ (n + 1)) % W ^ (n + 1) = Z % W ^ (n + 1) := Nat.add_mod_right _ _
/-- One word of a product: what math/bits gives. -/
theorem prod_step {V q i : Nat} (hq : q < W) :
    V % W ^ i * q / W ^ i < W ∧ (V / W ^ i % W * q % W + V % W ^ i * q / W ^ i + 0) % W = V * q / W ^ i % W ∧ V / W ^ i % W * q / W + (V / W ^ i % W * q % W + V % W ^ i * q / W ^ i + 0) / W = V % W ^ (i + 1) * q / W ^ (i + 1) ∧ V % W ^ (i + 1) * q / W ^ (i + 1) < W := by
  obtain ⟨t1, t2, t3⟩ := row_step (Y := 0) (A := V) (n := q) (i := i) hq
  obtain ⟨t4, -, -⟩ := row_step (Y := 0) (A := V) (n := q) (i := i + 1) hq
  simp only [Nat.zero_mod, Nat.zero_div, Nat.zero_add, Nat.add_zero] at t1 t2 t3 t4
  have hx : V / W ^ i % W < W := Nat.mod_lt _ W0
  obtain ⟨r1, r2, r3, r4⟩ := row_arith (M := V / W ^ i % W * q) (c := V % W ^ i * q / W ^ i) (y := 0) rfl hx hq t1 W0
  simp only [Nat.zero_add, Nat.add_zero] at r1 r2 r3 ⊢
  rw [Nat.mod_mod] at r1
  have hz : (V / W ^ i % W * q % W + V % W ^ i * q / W ^ i) % W / W = 0 := Nat.div_eq_of_lt (Nat.mod_lt _ W0)
  rw [hz, Nat.add_zero] at r3
  exact ⟨t1, r1.trans t2, r3.trans t3, t4⟩
set_option maxHeartbeats 4000000 in
theorem d_takeOff {out vv : List Nat} {o n q : Nat} (ho : Ok W out) (hv : Ok W vv) (hq : q < W) (hL : o + n + 1 ≤ out.length) (hl : out.length ≤ 200000) (hn : n ≤ vv.length) (hl2 : vv.length ≤ 200000) {Z V : Nat} (hZ : dv W ((out.drop o).take (n + 1)) = Z) (hV : dv W (vv.take n) = V) :
    PCM E 184 [.sub 0 o (n + 1), .sub 1 0 n, .val (.int .u64 q)] [.row 23 1 out.length (U out), .row 23 1 vv.length (U vv)] (.val (.bool (decide (Z < V * q))))
      [.row 23 1 out.length (U (rowL out o (Z + W ^ (n + 1) - V * q) (n + 1))), .row 23 1 vv.length (U vv)] := by
  have hZl : Z < W ^ (n + 1) := by
    rw [← hZ]
    refine Nat.lt_of_lt_of_le (dv_lt _ (fun d hd => ho d (List.mem_of_mem_drop (List.mem_of_mem_take hd)))) (Nat.pow_le_pow_right W0 ?_)
    rw [List.length_take]; omega
  have hVl : V < W ^ n := by
    rw [← hV]
    refine Nat.lt_of_lt_of_le (dv_lt _ (fun d hd => hv d (List.mem_of_mem_take hd))) (Nat.pow_le_pow_right W0 ?_)
    rw [List.length_take]; omega
  have hMl : V * q < W ^ (n + 1) := by rw [Nat.pow_succ]; exact Nat.mul_lt_mul'' hVl hq
  have hle : V * q ≤ Z + W ^ (n + 1) := by omega
  have hst : ∀ i, i ≤ n → (U (rowL out o (Z + W ^ (n + 1) - V * q) i))[o + i]? = some (.int .u64 ((Z / W ^ i % W : Nat) : Int)) ∧
      (U (rowL out o (Z + W ^ (n + 1) - V * q) i)).length = out.length ∧
      (U (rowL out o (Z + W ^ (n + 1) - V * q) i)).set (o + i) (.int .u64 (((Z / W ^ i % W + W - V * q / W ^ i % W - borrow (Z + W ^ (n + 1)) (V * q) (W ^ i)) % W : Nat) : Int)) = U (rowL out o (Z + W ^ (n + 1) - V * q) (i + 1)) ∧
      (if Z / W ^ i % W < V * q / W ^ i % W + borrow (Z + W ^ (n + 1)) (V * q) (W ^ i) then 1 else 0) = borrow (Z + W ^ (n + 1)) (V * q) (W ^ (i + 1)) := fun i hi => by
    have g1 := rowL_get (out := out) (o := o) (T := Z + W ^ (n + 1) - V * q) (i := i) (by omega)
    have g2 := rowL_set (out := out) (o := o) (T := Z + W ^ (n + 1) - V * q) (i := i) (by omega)
    rw [part_dig ho (show i < n + 1 by omega), hZ] at g1
    have hWi := Nat.pow_pos (n := i) W0
    have e1 := borrow_digit (W := W) hWi hle W0
    have e3 := borrow_next (A := Z + W ^ (n + 1)) (B := V * q) (W := W) hWi
    rw [big_dig hi] at e1 e3
    have hb := borrow_le (Z + W ^ (n + 1)) (V * q) (W ^ i)
    have hx : V * q / W ^ i % W < W := Nat.mod_lt _ W0
    refine ⟨g1, by unfold U; rw [List.length_map, rowL_len (by omega)], ?_, by rw [← e3, ← Nat.pow_succ]⟩
    have e2 : (Z / W ^ i % W + W - V * q / W ^ i % W - borrow (Z + W ^ (n + 1)) (V * q) (W ^ i)) % W = (Z + W ^ (n + 1) - V * q) / W ^ i % W := by
      rw [← e1]
      generalize borrow (Z + W ^ (n + 1)) (V * q) (W ^ i) = br at *
      generalize V * q / W ^ i % W = y at *
      generalize Z / W ^ i % W = x
      have : x + W + W - y - br = (x + W - y - br) + W := by omega
      rw [this, Nat.add_mod_right]
    rw [e2]
    exact g2
  have hb0 : borrow (Z + W ^ (n + 1)) (V * q) (W ^ 0) = 0 := by rw [Nat.pow_zero]; exact borrow_one _ _
  have hbE : borrow (Z + W ^ (n + 1)) (V * q) (W ^ (n + 1)) = if Z < V * q then 1 else 0 := by
    unfold borrow
    rw [big_mod, Nat.mod_eq_of_lt hZl, Nat.mod_eq_of_lt hMl]
  have hbl := borrow_le (Z + W ^ (n + 1)) (V * q)
  have hvd := fun i (hi : i < n) => take_dig hv hi hn
  rw [hV] at hvd
  have hps := fun i => prod_step (V := V) (q := q) (i := i) hq
  have hc0 : V % W ^ 0 * q / W ^ 0 = 0 := by rw [Nat.pow_zero, Nat.mod_one, Nat.zero_mul, Nat.zero_div]
  have hcn : V % W ^ n * q / W ^ n = V * q / W ^ n % W := by
    rw [Nat.mod_eq_of_lt hVl, Nat.mod_eq_of_lt]
    rw [Nat.div_lt_iff_lt_mul (Nat.pow_pos W0), Nat.mul_comm W, ← Nat.pow_succ]
    exact hMl
  have hrl0 : rowL out o (Z + W ^ (n + 1) - V * q) 0 = out := by unfold rowL; simp [tab]
  have hr0 : U out = U (rowL out o (Z + W ^ (n + 1) - V * q) 0) := by rw [hrl0]
  generalize Z + W ^ (n + 1) - V * q = T at *
  obtain ⟨R, hR⟩ : ∃ R : Nat → List PV, ∀ i, U (rowL out o T i) = R i := ⟨_, fun _ => rfl⟩
  obtain ⟨Bo, hBo⟩ : ∃ Bo : Nat → Nat, ∀ i, borrow (Z + W ^ (n + 1)) (V * q) (W ^ i) = Bo i := ⟨_, fun _ => rfl⟩
  have hbl2 : ∀ i, Bo i ≤ 1 := fun i => by rw [← hBo]; exact hbl _
  obtain ⟨X, hX⟩ : ∃ X : Nat → Nat, ∀ i, Z / W ^ i % W = X i := ⟨_, fun _ => rfl⟩
  obtain ⟨M, hM⟩ : ∃ M : Nat → Nat, ∀ i, V * q / W ^ i % W = M i := ⟨_, fun _ => rfl⟩
  obtain ⟨C, hC⟩ : ∃ C : Nat → Nat, ∀ i, V % W ^ i * q / W ^ i = C i := ⟨_, fun _ => rfl⟩
  obtain ⟨D, hD⟩ : ∃ D : Nat → Nat, ∀ i, V / W ^ i % W = D i := ⟨_, fun _ => rfl⟩
  have hDW : ∀ i, D i < W := fun i => by rw [← hD]; exact Nat.mod_lt _ W0
  simp only [hR, hBo, hX, hM, hC, hD] at hst hb0 hbE hvd hps hc0 hcn hr0 ⊢
  rw [hr0]
  clear hR hBo hX hM hC hD hZ hV ho hv hbl hZl hVl hMl hle hr0 hrl0
  have hbd : decide (Z < V * q) = decide ((Bo (n + 1) : Int) > 0) := by
    rw [hbE]
    by_cases h : Z < V * q
    · rw [if_pos h, decide_eq_true h]; rfl
    · rw [if_neg h, decide_eq_false h]; rfl
  rw [hbd]
  clear hbd hbE
  generalize U vv = VV at *
  refine PCM.of_body follows Tryz.func184 (by decide +kernel) rfl (by kernel_rfl) (Nat.le_of_ble_eq_true rfl) (Nat.le_refl _) (by simp) (fun k h => by cases h) (fun h => by cases h) (walk ?_)
  simp only [mstart, startS, blkL, shiftSV]
  simp only [Tryz.f184, Int.cast_ofNat_Int, go_sem]
  refine PLoop.intro (fun i : Nat => ⟨[(0, .sub 68 o (n + 1)), (1, .sub 69 0 n), (2, .val (.int .u64 q)), (7, .val (.int .u64 (C i))), (8, .val (.int .u64 (Bo i))), (15, .sub 69 0 n), (16, .val (.int .i64 n)), (17, .val (.int .i64 i))],
    [(68, (.row 23 1 out.length (R i), false)), (69, (.row 23 1 vv.length VV, false))]⟩) (fun i => i ≤ n) (fun i => n - i) 0 (Nat.zero_le _) ?_ fun i hi => walk ?_
  · simp [Wk, sget, killL, kill1, SV.key, hc0, hb0]
  have wi : IntKind.wrap .i64 ((i : Int) + 1) = ((i + 1 : Nat) : Int) := by rw [wrap64 (by omega) (by omega)]; omega
  simp only [Tryz.f184, go_sem]
  refine qif_d (fun h => ?_) (fun h => ?_)
  · have hin : i < n := by omega
    have x1 := hvd i hin
    obtain ⟨x2, x3, x4, x5⟩ := hst i hi
    obtain ⟨p1, p2, p3, p4⟩ := hps i
    have k1 := c_Mul64 (D i) q (hDW i) hq
    have k2 := c_Add64 (D i * q % W) (C i) 0 (by decide)
    have k3 := c_Sub64 (X i) (M i) (Bo i) (hbl2 i)
    rw [p2] at k2
    rw [x5] at k3
    have w1 : IntKind.wrap .u64 (((D i * q / W : Nat) : Int) + (((D i * q % W + C i + 0) / W : Nat) : Int)) = ((C (i + 1) : Nat) : Int) := by
      rw [← Int.natCast_add, p3]; exact wrap_nat64 p4
    rw [show u 0 = .int .u64 0 from rfl] at k2
    simp only [u, Nat.add_zero] at k1 k2 k3 w1
    clear p2 p3
    generalize D i * q / W = m1 at *
    generalize D i * q % W = m2 at *
    generalize (m2 + C i) / W = m3 at *
    simp only [Tryz.f184, go_sem]
    refine qand_i (by omega) ?_
    simp only [Tryz.f184, go_sem]
    refine qval_i (congrArg (Option.map _) x1) ?_
    simp only [Tryz.f184, go_sem]
    refine qcall_i (k1) ?_; simp only [Tryz.f184, go_sem]
    refine qcall_i (k2) ?_; simp only [Tryz.f184, w1, go_sem]
    refine qand_i (by omega) ?_
    simp only [Tryz.f184, w1, go_sem]
    refine qval_i (congrArg (Option.map _) x2) ?_
    simp only [Tryz.f184, w1, go_sem]
    refine qcall_i (k3) ?_; simp only [Tryz.f184, wi, go_sem]
    repeat' ((with_reducible refine qand_i (by first | omega | (rw [x3]; omega) | (simp [x3]; omega)) ?_); simp only [Tryz.f184, wi, go_sem])
    refine ⟨i + 1, by omega, by omega, ?_⟩
    rw [x4]
    simp [Wk, sget, killL, kill1, SV.key]
  · have hin : i = n := by omega
    subst hin
    obtain ⟨x2, x3, x4, x5⟩ := hst i hi
    have k3 := c_Sub64 (X i) (M i) (Bo i) (hbl2 i)
    rw [x5, ← hcn] at k3
    simp only [u] at k3
    simp only [Tryz.f184, go_sem]
    refine qand_i (by omega) ?_
    simp only [Tryz.f184, go_sem]
    refine qval_i (congrArg (Option.map _) x2) ?_
    simp only [Tryz.f184, go_sem]
    refine qcall_i (k3) ?_; simp only [Tryz.f184, go_sem]
    rw [← hcn] at x4
    repeat' ((with_reducible refine qand_i (by first | omega | (rw [x3]; omega) | (simp [x3]; omega)) ?_); simp only [Tryz.f184, x4, go_sem])
    exact fin2 (by decide) (by simp [sget, x4]) (by simp [sget]) rfl
set_option maxHeartbeats 4000000 in
theorem d_putBack {out vv : List Nat} {o n : Nat} (ho : Ok W out) (hv : Ok W vv) (hL : o + n + 1 ≤ out.length) (hl : out.length ≤ 200000) (hn : n ≤ vv.length) (hl2 : vv.length ≤ 200000) {Z V : Nat} (hZ : dv W ((out.drop o).take (n + 1)) = Z) (hV : dv W (vv.take n) = V) :
    PCM E 185 [.sub 0 o (n + 1), .sub 1 0 n] [.row 23 1 out.length (U out), .row 23 1 vv.length (U vv)] (.val (.bool (decide (W ^ (n + 1) ≤ Z + V))))
      [.row 23 1 out.length (U (rowL out o (Z + V) (n + 1))), .row 23 1 vv.length (U vv)] := by
  have hZl : Z < W ^ (n + 1) := by
    rw [← hZ]
    refine Nat.lt_of_lt_of_le (dv_lt _ (fun d hd => ho d (List.mem_of_mem_drop (List.mem_of_mem_take hd)))) (Nat.pow_le_pow_right W0 ?_)
    rw [List.length_take]; omega
  have hVl : V < W ^ n := by
    rw [← hV]
    refine Nat.lt_of_lt_of_le (dv_lt _ (fun d hd => hv d (List.mem_of_mem_take hd))) (Nat.pow_le_pow_right W0 ?_)
    rw [List.length_take]; omega
  have hst : ∀ i, i ≤ n → (U (rowL out o (Z + V) i))[o + i]? = some (.int .u64 ((Z / W ^ i % W : Nat) : Int)) ∧
      (U (rowL out o (Z + V) i)).length = out.length ∧
      (U (rowL out o (Z + V) i)).set (o + i) (.int .u64 (((Z / W ^ i % W + V / W ^ i % W + carry Z V (W ^ i)) % W : Nat) : Int)) = U (rowL out o (Z + V) (i + 1)) ∧
      (Z / W ^ i % W + V / W ^ i % W + carry Z V (W ^ i)) / W = carry Z V (W ^ (i + 1)) := fun i hi => by
    have g1 := rowL_get (out := out) (o := o) (T := Z + V) (i := i) (by omega)
    have g2 := rowL_set (out := out) (o := o) (T := Z + V) (i := i) (by omega)
    rw [part_dig ho (show i < n + 1 by omega), hZ] at g1
    have hWi := Nat.pow_pos (n := i) W0
    refine ⟨g1, by unfold U; rw [List.length_map, rowL_len (by omega)], ?_, by rw [Nat.pow_succ, carry_next hWi]⟩
    rw [carry_digit hWi]
    exact g2
  have hb0 : carry Z V (W ^ 0) = 0 := by rw [Nat.pow_zero]; exact carry_one _ _
  have hcl := fun i => carry_le (A := Z) (B := V) (Nat.pow_pos (n := i) W0)
  have hVn : V / W ^ n % W = 0 := by rw [Nat.div_eq_of_lt hVl, Nat.zero_mod]
  have hVl2 : V < W ^ (n + 1) := Nat.lt_of_lt_of_le hVl (Nat.pow_le_pow_right W0 (Nat.le_succ _))
  have hbE : carry Z V (W ^ (n + 1)) = if W ^ (n + 1) ≤ Z + V then 1 else 0 := by
    unfold carry
    rw [Nat.mod_eq_of_lt hZl, Nat.mod_eq_of_lt hVl2]
    by_cases h : W ^ (n + 1) ≤ Z + V
    · rw [if_pos h]
      refine Nat.div_eq_of_lt_le (by omega) ?_
      rw [Nat.succ_mul, Nat.one_mul]; omega
    · rw [if_neg h]; exact Nat.div_eq_of_lt (by omega)
  have hvd := fun i (hi : i < n) => take_dig hv hi hn
  rw [hV] at hvd
  have hrl0 : rowL out o (Z + V) 0 = out := by unfold rowL; simp [tab]
  have hr0 : U out = U (rowL out o (Z + V) 0) := by rw [hrl0]
  have hbd : decide (W ^ (n + 1) ≤ Z + V) = decide ((carry Z V (W ^ (n + 1)) : Int) > 0) := by
    rw [hbE]
    by_cases h : W ^ (n + 1) ≤ Z + V
    · rw [if_pos h, decide_eq_true h]; rfl
    · rw [if_neg h, decide_eq_false h]; rfl
  rw [hbd]
  obtain ⟨R, hR⟩ : ∃ R : Nat → List PV, ∀ i, U (rowL out o (Z + V) i) = R i := ⟨_, fun _ => rfl⟩
  obtain ⟨Bo, hBo⟩ : ∃ Bo : Nat → Nat, ∀ i, carry Z V (W ^ i) = Bo i := ⟨_, fun _ => rfl⟩
  obtain ⟨X, hX⟩ : ∃ X : Nat → Nat, ∀ i, Z / W ^ i % W = X i := ⟨_, fun _ => rfl⟩
  obtain ⟨D, hD⟩ : ∃ D : Nat → Nat, ∀ i, V / W ^ i % W = D i := ⟨_, fun _ => rfl⟩
  simp only [hR, hBo, hX, hD] at hst hb0 hcl hVn hvd hr0 ⊢
  rw [hr0]
  clear hR hBo hX hD hZ hV ho hv hZl hVl hVl2 hbd hbE hr0 hrl0
  generalize U vv = VV at *
  refine PCM.of_body follows Tryz.func185 (by decide +kernel) rfl (by kernel_rfl) (Nat.le_of_ble_eq_true rfl) (Nat.le_refl _) (by simp) (fun k h => by cases h) (fun h => by cases h) (walk ?_)
  simp only [mstart, startS, blkL, shiftSV]
  simp only [Tryz.f185, Int.cast_ofNat_Int, go_sem]
  refine PLoop.intro (fun i : Nat => ⟨[(0, .sub 46 o (n + 1)), (1, .sub 47 0 n), (5, .val (.int .u64 (Bo i))), (9, .sub 47 0 n), (10, .val (.int .i64 n)), (11, .val (.int .i64 i))],
    [(46, (.row 23 1 out.length (R i), false)), (47, (.row 23 1 vv.length VV, false))]⟩) (fun i => i ≤ n) (fun i => n - i) 0 (Nat.zero_le _) ?_ fun i hi => walk ?_
  · simp [Wk, sget, killL, kill1, SV.key, hb0]
  have wi : IntKind.wrap .i64 ((i : Int) + 1) = ((i + 1 : Nat) : Int) := by rw [wrap64 (by omega) (by omega)]; omega
  simp only [Tryz.f185, go_sem]
  refine qif_d (fun h => ?_) (fun h => ?_)
  · have hin : i < n := by omega
    have x1 := hvd i hin
    obtain ⟨x2, x3, x4, x5⟩ := hst i hi
    have k2 := c_Add64 (X i) (D i) (Bo i) (hcl i)
    rw [x5] at k2
    simp only [u] at k2
    simp only [Tryz.f185, go_sem]
    refine qand_i (by omega) ?_
    simp only [Tryz.f185, go_sem]
    refine qval_i (congrArg (Option.map _) x1) ?_
    simp only [Tryz.f185, go_sem]
    refine qand_i (by omega) ?_
    simp only [Tryz.f185, go_sem]
    refine qval_i (congrArg (Option.map _) x2) ?_
    simp only [Tryz.f185, go_sem]
    refine qcall_i (k2) ?_; simp only [Tryz.f185, wi, go_sem]
    repeat' ((with_reducible refine qand_i (by first | omega | (rw [x3]; omega) | (simp [x3]; omega)) ?_); simp only [Tryz.f185, wi, go_sem])
    refine ⟨i + 1, by omega, by omega, ?_⟩
    rw [x4]
    simp [Wk, sget, killL, kill1, SV.key]
  · have hin : i = n := by omega
    subst hin
    obtain ⟨x2, x3, x4, x5⟩ := hst i hi
    have k3 := c_Add64 (X i) 0 (Bo i) (hcl i)
    rw [hVn] at x4 x5
    rw [x5] at k3
    rw [show u 0 = .int .u64 0 from rfl] at k3
    simp only [u, Nat.add_zero] at k3 x4
    simp only [Tryz.f185, go_sem]
    refine qand_i (by omega) ?_
    simp only [Tryz.f185, go_sem]
    refine qval_i (congrArg (Option.map _) x2) ?_
    simp only [Tryz.f185, go_sem]
    refine qcall_i (k3) ?_; simp only [Tryz.f185, go_sem]
    repeat' ((with_reducible refine qand_i (by first | omega | (rw [x3]; omega) | (simp [x3]; omega)) ?_); simp only [Tryz.f185, x4, go_sem])
    exact fin2 (by decide) (by simp [sget, x4]) (by simp [sget]) rfl
end Go.Proofs.YtejmlngnpekagaaGreatDoor
end

/- Division: a digit of a quotient, guessed from above. -/
section
open Go PG Go.Proofs
set_option maxRecDepth 100000
set_option linter.unusedSimpArgs false
set_option linter.unusedVariables false
namespace Go.Proofs.YtejmlngnpekagaaGreatDoor
attribute [local go_sem] Lay2 Lay3 Lay4 Lay5 Lay6 Lay7 Lay8 Lay9 Lay10 Lay11 Lay12 Lay13 Lay14 Lay15 Lay16 Lay17 Lay18 Lay19 Lay21 Lay22 Lay23 Lay25 Lay26 Lay27 Lay30 Lay31 Lay32 Lay33 Lay36 Lay37 Lay41 Lay42 Lay43 Lay47 Lay56 Lay57 Lay59 Lay60 Lay65 Lay66 Lay74 Lay75 Lay105 Lay114 Lay145 Lay146 Lay149 Lay150 Lay151 Lay173 Lay185 Lay189 Lay204 Lay205 Lay208 Lay214 Lay215 Lay216 Lay217 Lay218 Lay220 Lay221 Lay223 Lay224 Lay225 Lay228 qexec_seq qexec_skip qexec_exit qexec_ret qexec_block qexec_loop qexec_range qexec_cond qexec_region qexec_drawn qops_nil qops_none qops_some put_some put_none pblk_exit pblk_other newDsts_nil inlDsts_nil isInl sget_cons sget_nil qval_some qbool_some qgs_bool qgs_und qfree_some qgrd_true qgrd_false qif_true qif_false qval_ite qval_itn qand_true map_ite map_some' map_none' qdo_move qdo_assign qdo_binOp qdo_pick qdo_unOp qdo_convert qdo_extract qdo_field qdo_fieldAddr qdo_alloc qdo_box qdo_build qdo_buildSlice qdo_load qdo_store qdo_nilCheck qdo_makeFunc qdo_makeSlice qdo_slice qdo_indexAddr qdo_call qcont_val qcont_new qcont_st qcont_app0 qcont_app qcont_inl qcont_call njSV_val njSV_nil njSV_row njSV_ptr njSV_sub binV_val binV_nil binV_nn binV_ptr bin_np bin_nnp nilCmp bin_add bin_sub bin_mul bin_quo bin_rem bin_and bin_or bin_xor bin_andNot bin_eql bin_neq bin_lss bin_leq bin_gtr bin_geq bin_shl bin_shr bin_seql bin_sneq bin_sadd bin_beql bin_aeql bin_aneq eqAnd_some eqCells_nil eqCells_cons fieldTypes isStruct eqCell bin_bneq un_not un_neg nj_ite Nat.beq stepA stepR isNew opSV constSV RV.sv allSome E_mu E_own qkeyIn_none qkeyIn_some qkeyAt_none qkeyAt_some Bool.or_false Bool.false_or Bool.or_true Bool.true_or cst setB res resSV pstart startL killL kill1 eraL frzL svPV rvPV rvInt rvSlice frzOf close closeL pconv pbuiltin pmax2 partPV setCells fillPV zrow bound newSV PV.cells Bk.cells Bk.with SV.key pres presL_nil presL_tmp presL_cell presC2_some cellPV_ptr presC List.toList_toArray List.size_toArray List.getElem?_drop Nat.mul_one Int.toNat_natCast Nat.not_lt_zero Nat.lt_irrefl decide_true decide_false Nat.not_lt Option.some.injEq PV.lst.injEq PV.int.injEq PV.bool.injEq PV.tuple.injEq List.cons.injEq Option.map_some Option.map_none Option.bind_some Option.toList List.map_cons List.map_nil List.nil_append List.cons_append List.append_nil List.zip_cons_cons List.zip_nil_left List.zip_nil_right List.getElem?_cons_zero List.getElem?_cons_succ List.drop_zero List.drop_succ_cons List.take_succ_cons List.take_zero List.set_cons_zero List.set_cons_succ List.length_cons List.length_nil List.length_set List.replicate_one List.replicate_zero bne_self_eq_false beq_self_eq_true Nat.zero_add Nat.add_zero Nat.zero_mul Bool.false_eq_true Bool.true_eq_false Bool.not_true Bool.not_false and_true true_and false_and and_false or_false false_or or_true true_or not_true_eq_false not_false_eq_true ne_eq gt_iff_lt List.mem_cons List.not_mem_nil
attribute [local go_sem ↓] pseq_normal pseq_ret pseq_exit pblk_normal pblk_ret newDsts_cons inlDsts_cons gdst_zero gdst_succ retQ_normal retQ_ret qneed_nil qneed_cons retM_normal retM_ret endR_normal endR_ret endR_exit
attribute [local go_sem] Int.reduceToNat Int.reduceEq Int.reduceNe Int.reduceLT Int.reduceLE Int.reduceNeg Int.reduceAdd Nat.reduceEqDiff Nat.reduceAdd Nat.reduceSub Nat.reduceMul Nat.reduceLeDiff Nat.reduceLT
attribute [local go_sem ↓] reduceIte reduceCtorEq

/-- Guesses, one less each, till one isn't too great as far as the next word tells. -/
def gsS (top next x0 : Nat) : Nat → Nat → Nat → Nat
  | 0, q, _ => q
  | k + 1, q, r => if q * next ≤ r * W + x0 then q else if r + top < W then gsS top next x0 k (q - 1) (r + top) else q - 1
theorem gsS_ge {top next x0 N t : Nat} (H : ∀ q r, q * top + r = N → r * W + x0 < q * next → t < q) : ∀ k q r, q * top + r = N → t ≤ q → t ≤ gsS top next x0 k q r ∧ gsS top next x0 k q r ≤ q := by
  intro k
  induction k with
  | zero => intro q r _ h; exact ⟨h, Nat.le_refl _⟩
  | succ k ih =>
    intro q r e h
    unfold gsS
    by_cases h1 : q * next ≤ r * W + x0
    · rw [if_pos h1]; exact ⟨h, Nat.le_refl _⟩
    rw [if_neg h1]
    have hq := H q r e (by omega)
    have e2 : (q - 1) * top + (r + top) = N := by
      obtain ⟨p, rfl⟩ : ∃ p, q = p + 1 := ⟨q - 1, by omega⟩
      rw [Nat.add_sub_cancel]
      rw [Nat.add_mul, Nat.one_mul] at e
      omega
    by_cases h2 : r + top < W
    · rw [if_pos h2]
      obtain ⟨g1, g2⟩ := ih (q - 1) (r + top) e2 (by omega)
      exact ⟨g1, by omega⟩
    · rw [if_neg h2]; exact ⟨by omega, by omega⟩
theorem hi_lo {hi lo r x0 M : Nat} (hM : hi * W + lo = M) (hlo : lo < W) (hx : x0 < W) : (hi < r ∨ hi = r ∧ lo ≤ x0) ↔ M ≤ r * W + x0 := by
  rw [← hM]
  constructor
  · rintro (h | ⟨rfl, h⟩)
    · have : (hi + 1) * W ≤ r * W := Nat.mul_le_mul_right _ h
      rw [Nat.add_mul, Nat.one_mul] at this
      omega
    · omega
  · intro h
    rcases Nat.lt_trichotomy hi r with h1 | h1 | h1
    · exact .inl h1
    · subst h1; exact .inr ⟨rfl, by omega⟩
    · have : (r + 1) * W ≤ hi * W := Nat.mul_le_mul_right _ h1
      rw [Nat.add_mul, Nat.one_mul] at this
      omega
set_option maxHeartbeats 4000000 in
theorem d_guess {out : List Nat} {o n top next : Nat} (ho : Ok W out) (hL : o + n + 1 ≤ out.length) (hl : out.length ≤ 200000) (hn : 2 ≤ n) {Z V : Nat} (hZ : dv W ((out.drop o).take (n + 1)) = Z) (hVl : V < W ^ n) (hZV : Z < V * W)
    (ht : V / W ^ (n - 1) = top) (hx : V / W ^ (n - 2) % W = next) : ∃ d, Z / V ≤ d ∧ d < W ∧
    PCM E 183 [.sub 0 o (n + 1), .val (.int .u64 top), .val (.int .u64 next)] [.row 23 1 out.length (U out)] (.val (.int .u64 d)) [.row 23 1 out.length (U out)] := by
  have hW := W0
  have hV0 : 0 < V := Nat.pos_of_ne_zero fun h => by rw [h, Nat.zero_mul] at hZV; omega
  have htW : top < W := by
    rw [← ht, Nat.div_lt_iff_lt_mul (Nat.pow_pos hW), Nat.mul_comm, ← Nat.pow_succ, show (n - 1).succ = n by omega]; exact hVl
  have hxW : next < W := by rw [← hx]; exact Nat.mod_lt _ hW
  -- three words of the part, two of the divisor
  have hd : ∀ i, i < n + 1 → (U out)[o + i]? = some (.int .u64 ((Z / W ^ i % W : Nat) : Int)) := fun i hi => by
    rw [U_get]
    have := part_dig ho (o := o) hi
    rw [hZ, List.getD_eq_getElem?_getD, List.getElem?_eq_getElem (show o + i < out.length by omega), Option.getD_some] at this
    rw [List.getElem?_eq_getElem (show o + i < out.length by omega), ← this]; rfl
  have hP := Nat.pow_pos (n := n - 2) hW
  have e1 : W ^ (n - 1) = W ^ (n - 2) * W := by rw [← Nat.pow_succ]; congr 1; omega
  have e2 : W ^ n = W ^ (n - 2) * W * W := by rw [← e1, ← Nat.pow_succ]; congr 1; omega
  have hZl : Z / W ^ n < W := by
    rw [Nat.div_lt_iff_lt_mul (Nat.pow_pos hW)]
    refine Nat.lt_of_lt_of_le hZV ?_
    rw [Nat.mul_comm]
    exact Nat.mul_le_mul_left _ (Nat.le_of_lt hVl)
  obtain ⟨x2, hx2⟩ : ∃ x, x = Z / W ^ n % W := ⟨_, rfl⟩
  obtain ⟨x1, hx1⟩ : ∃ x, x = Z / W ^ (n - 1) % W := ⟨_, rfl⟩
  obtain ⟨x0, hx0⟩ : ∃ x, x = Z / W ^ (n - 2) % W := ⟨_, rfl⟩
  have d2 := hd n (by omega)
  have d1 := hd (n - 1) (by omega)
  have d0 := hd (n - 2) (by omega)
  rw [← hx2] at d2
  rw [← hx1] at d1
  rw [← hx0] at d0
  have hx2W : x2 < W := by rw [hx2]; exact Nat.mod_lt _ hW
  have hx1W : x1 < W := by rw [hx1]; exact Nat.mod_lt _ hW
  have hx0W : x0 < W := by rw [hx0]; exact Nat.mod_lt _ hW
  have hN : Z / W ^ (n - 1) = x2 * W + x1 := by
    have h1 := Nat.div_add_mod (Z / W ^ (n - 1)) W
    rw [Nat.div_div_eq_div_mul, e1, ← e2, ← e1, ← hx1] at h1
    rw [hx2, Nat.mod_eq_of_lt hZl, Nat.mul_comm _ W]
    exact h1.symm
  have hN2 : Z / W ^ (n - 2) = (x2 * W + x1) * W + x0 := by
    have h1 := Nat.div_add_mod (Z / W ^ (n - 2)) W
    rw [Nat.div_div_eq_div_mul, ← e1, hN, ← hx0, Nat.mul_comm W] at h1
    exact h1.symm
  have hVt : (top * W + next) * W ^ (n - 2) ≤ V := by
    have h1 := Nat.div_add_mod (V / W ^ (n - 2)) W
    rw [Nat.div_div_eq_div_mul, ← e1, ht, hx, Nat.mul_comm W] at h1
    rw [h1]
    exact Nat.div_mul_le_self _ _
  have hVt1 : top * W ^ (n - 1) ≤ V := by rw [← ht]; exact Nat.div_mul_le_self _ _
  have hq0 : Z / V < W := (Nat.div_lt_iff_lt_mul hV0).2 (by rw [Nat.mul_comm]; exact hZV)
  have H : ∀ q r, q * top + r = x2 * W + x1 → r * W + x0 < q * next → Z / V < q := fun q r e h => by
    refine (Nat.div_lt_iff_lt_mul hV0).2 (Nat.not_le.1 fun h2 => ?_)
    have h3 : q * ((top * W + next) * W ^ (n - 2)) ≤ Z := Nat.le_trans (Nat.mul_le_mul_left _ hVt) h2
    rw [← Nat.mul_assoc] at h3
    have h4 := (Nat.le_div_iff_mul_le hP).2 h3
    rw [hN2, ← e, Nat.mul_add, Nat.add_mul, ← Nat.mul_assoc] at h4
    omega
  clear hd hVt hN2 hx0 hx1 hx2 hZl hx ht e1 e2 hP hVl hZ
  by_cases hc : top ≤ x2
  · refine ⟨W - 1, by omega, by omega, ?_⟩
    have w1 : IntKind.wrap .i64 (((n + 1 : Nat) : Int) - 1) = (n : Int) := by rw [wrap64 (by omega) (by omega)]; omega
    have hWm : ((W - 1 : Nat) : Int) = 18446744073709551615 := rfl
    rw [hWm]
    generalize U out = UU at *
    refine PCM.of_body follows Tryz.func183 (by decide +kernel) rfl (by kernel_rfl) (Nat.le_of_ble_eq_true rfl) (Nat.le_refl _) (by simp) (fun k h => by cases h) (fun h => by cases h) (walk ?_)
    simp only [mstart, startS, blkL, shiftSV]
    simp only [Tryz.f183, w1, go_sem]
    refine qand_i (by omega) ?_
    simp only [Tryz.f183, w1, go_sem]
    refine qval_i (congrArg (Option.map _) d2) ?_
    simp only [Tryz.f183, w1, go_sem]
    refine qif_dt (by omega) ?_
    simp only [Tryz.f183, go_sem]
    exact fin1 (by decide) (by simp [sget]) rfl
  have hc : x2 < top := Nat.not_le.1 hc
  have hqN : Z / V ≤ (x2 * W + x1) / top := by
    rw [Nat.le_div_iff_mul_le (by omega), ← hN, Nat.le_div_iff_mul_le (Nat.pow_pos hW), Nat.mul_assoc]
    exact Nat.le_trans (Nat.mul_le_mul_left _ hVt1) (Nat.div_mul_le_self _ _)
  have k1 := c_Div64 (hi := x2) (lo := x1) htW hx1W hc
  have hq0W : (x2 * W + x1) / top < W := by
    rw [Nat.div_lt_iff_lt_mul (by omega)]
    have : (x2 + 1) * W ≤ top * W := Nat.mul_le_mul_right _ hc
    rw [Nat.mul_comm W]
    rw [Nat.add_mul, Nat.one_mul] at this
    omega
  obtain ⟨g1, g2⟩ := gsS_ge H ((x2 * W + x1) / top) ((x2 * W + x1) / top) ((x2 * W + x1) % top) (Nat.div_add_mod' _ _) hqN
  refine ⟨_, g1, by omega, ?_⟩
  have hrW : (x2 * W + x1) % top < W := Nat.lt_trans (Nat.mod_lt _ (by omega)) htW
  have hqr : (x2 * W + x1) / top * top + (x2 * W + x1) % top = x2 * W + x1 := Nat.div_add_mod' _ _
  obtain ⟨D, hD⟩ : ∃ D, gsS top next x0 ((x2 * W + x1) / top) ((x2 * W + x1) / top) ((x2 * W + x1) % top) = D := ⟨_, rfl⟩
  rw [hD]
  obtain ⟨Q, hQ⟩ : ∃ Q, Q = (x2 * W + x1) / top := ⟨_, rfl⟩
  obtain ⟨R, hR⟩ : ∃ R, R = (x2 * W + x1) % top := ⟨_, rfl⟩
  rw [← hQ, ← hR] at k1 hD hqr
  rw [← hQ] at hq0W
  rw [← hR] at hrW
  clear hQ hR g1 g2 hqN hN hVt1 hZV hq0 H hV0
  have w1 : IntKind.wrap .i64 (((n + 1 : Nat) : Int) - 1) = (n : Int) := by rw [wrap64 (by omega) (by omega)]; omega
  have w2 : IntKind.wrap .i64 ((n : Int) - 1) = ((n - 1 : Nat) : Int) := by rw [wrap64 (by omega) (by omega)]; omega
  have w3 : IntKind.wrap .i64 ((n : Int) - 2) = ((n - 2 : Nat) : Int) := by rw [wrap64 (by omega) (by omega)]; omega
  generalize U out = UU at *
  simp only [u] at k1
  refine PCM.of_body follows Tryz.func183 (by decide +kernel) rfl (by kernel_rfl) (Nat.le_of_ble_eq_true rfl) (Nat.le_refl _) (by simp) (fun k h => by cases h) (fun h => by cases h) (walk ?_)
  simp only [mstart, startS, blkL, shiftSV]
  simp only [Tryz.f183, w1, go_sem]
  refine qand_i (by omega) ?_
  simp only [Tryz.f183, w1, go_sem]
  refine qval_i (congrArg (Option.map _) d2) ?_
  simp only [Tryz.f183, w1, w2, go_sem]
  refine qif_df (by omega) ?_
  simp only [Tryz.f183, w1, w2, go_sem]
  repeat' first
    | ((with_reducible refine qand_i (by omega) ?_); simp only [Tryz.f183, w1, w2, go_sem])
    | (refine qval_i (congrArg (Option.map _) d2) ?_; simp only [Tryz.f183, w1, w2, go_sem])
    | (refine qval_i (congrArg (Option.map _) d1) ?_; simp only [Tryz.f183, w1, w2, go_sem])
  refine qcall_i (k1) ?_; simp only [Tryz.f183, w1, w2, go_sem]
  refine PLoop.intro (fun i : Nat × Nat => ⟨[(0, .sub 71 o (n + 1)), (1, .val (.int .u64 top)), (2, .val (.int .u64 next)), (7, .val (.int .i64 n)), (8, .val (.int .u64 i.1)), (9, .val (.int .u64 i.2))], [(71, (.row 23 1 out.length UU, false))]⟩)
    (fun i => i.1 < W ∧ i.2 < W ∧ gsS top next x0 i.1 i.1 i.2 = D) (fun i => i.1) (Q, R) ⟨hq0W, hrW, hD⟩ ?_ fun i hi => walk ?_
  · simp [Wk, sget, killL, kill1, SV.key]
  obtain ⟨q, r⟩ := i
  obtain ⟨j1, j2, j3⟩ := hi
  dsimp only at j1 j2 j3 ⊢
  have k2 := c_Mul64 q next j1 hxW
  have hML := Nat.div_add_mod' (q * next) W
  have hlo := Nat.mod_lt (q * next) hW
  have hiff := hi_lo (r := r) hML hlo hx0W
  have k3 := c_Add64 r top 0 (by decide)
  simp only [Nat.add_zero] at k3
  rw [show u 0 = .int .u64 0 from rfl] at k3
  simp only [u] at k2 k3
  have hgo : ¬ (q * next ≤ r * W + x0) → 0 < q ∧ gsS top next x0 q q r = if r + top < W then gsS top next x0 (q - 1) (q - 1) (r + top) else q - 1 := fun h => by
    have hq : 0 < q := Nat.pos_of_ne_zero fun h0 => h (by rw [h0, Nat.zero_mul]; exact Nat.zero_le _)
    obtain ⟨p, rfl⟩ : ∃ p, q = p + 1 := ⟨q - 1, by omega⟩
    refine ⟨hq, ?_⟩
    conv => lhs; unfold gsS
    rw [if_neg h]; rfl
  have hret : q * next ≤ r * W + x0 → gsS top next x0 q q r = q := fun h => by
    rcases q with _ | q
    · rfl
    · unfold gsS; rw [if_pos h]
  obtain ⟨mh, hmh⟩ : ∃ m, m = q * next / W := ⟨_, rfl⟩
  obtain ⟨ml, hml⟩ : ∃ m, m = q * next % W := ⟨_, rfl⟩
  rw [← hmh, ← hml] at hiff k2
  have wd : 0 < q → IntKind.wrap .u64 ((q : Int) - 1) = ((q - 1 : Nat) : Int) := fun h => by rw [IntKind.wrap_u64]; have : q < 18446744073709551616 := j1; omega
  simp only [Tryz.f183, go_sem]
  refine qcall_i (k2) ?_; simp only [Tryz.f183, go_sem]
  refine qif_d (fun h1 => ?_) (fun h1 => ?_)
  · have hr := hret (hiff.1 (.inl (by omega)))
    simp only [Tryz.f183, go_sem]
    exact fin1 (by decide) (by simp [sget]) (by rw [← j3, hr]; rfl)
  simp only [Tryz.f183, go_sem]
  refine qif_d (fun h2 => ?_) (fun h2 => ?_)
  · simp only [Tryz.f183, w3, go_sem]
    refine qand_i (by omega) ?_
    simp only [Tryz.f183, w3, go_sem]
    refine qval_i (congrArg (Option.map _) d0) ?_
    simp only [Tryz.f183, w3, go_sem]
    refine qif_d (fun h3 => ?_) (fun h3 => ?_)
    · have hr := hret (hiff.1 (.inr ⟨by omega, by omega⟩))
      simp only [Tryz.f183, go_sem]
      exact fin1 (by decide) (by simp [sget]) (by rw [← j3, hr]; rfl)
    · obtain ⟨hq0, hgg⟩ := hgo (fun h => by have := hiff.2 h; omega)
      have wd := wd hq0
      simp only [Tryz.f183, wd, go_sem]
      refine qcall_i (k3) ?_; simp only [Tryz.f183, wd, go_sem]
      refine qif_d (fun h4 => ?_) (fun h4 => ?_)
      · have h5 : ¬ r + top < W := fun h => by rw [Nat.div_eq_of_lt h] at h4; omega
        rw [if_neg h5] at hgg
        simp only [Tryz.f183, go_sem]
        exact fin1 (by decide) (by simp [sget]) (by rw [← j3, hgg]; rfl)
      · have h5 : r + top < W := Nat.not_le.1 fun h => by have := Nat.div_pos h hW; omega
        rw [if_pos h5] at hgg
        rw [Nat.mod_eq_of_lt h5]
        simp only [Tryz.f183, go_sem]
        refine ⟨(q - 1, r + top), ⟨by dsimp only; omega, h5, by dsimp only; rw [← hgg]; exact j3⟩, by dsimp only; omega, ?_⟩
        simp [Wk, sget, killL, kill1, SV.key]
  · obtain ⟨hq0, hgg⟩ := hgo (fun h => by have := hiff.2 h; omega)
    have wd := wd hq0
    simp only [Tryz.f183, wd, go_sem]
    refine qcall_i (k3) ?_; simp only [Tryz.f183, wd, go_sem]
    refine qif_d (fun h4 => ?_) (fun h4 => ?_)
    · have h5 : ¬ r + top < W := fun h => by rw [Nat.div_eq_of_lt h] at h4; omega
      rw [if_neg h5] at hgg
      simp only [Tryz.f183, go_sem]
      exact fin1 (by decide) (by simp [sget]) (by rw [← j3, hgg]; rfl)
    · have h5 : r + top < W := Nat.not_le.1 fun h => by have := Nat.div_pos h hW; omega
      rw [if_pos h5] at hgg
      rw [Nat.mod_eq_of_lt h5]
      simp only [Tryz.f183, go_sem]
      refine ⟨(q - 1, r + top), ⟨by dsimp only; omega, h5, by dsimp only; rw [← hgg]; exact j3⟩, by dsimp only; omega, ?_⟩
      simp [Wk, sget, killL, kill1, SV.key]
end Go.Proofs.YtejmlngnpekagaaGreatDoor
end

/- Division: long division, and division by any number. -/
section
open Go PG Go.Proofs
set_option maxRecDepth 100000
set_option linter.unusedSimpArgs false
set_option linter.unusedVariables false
namespace Go.Proofs.YtejmlngnpekagaaGreatDoor

/-- What stands in the row when k digits are still to come. -/
def remK (A V k : Nat) : Nat := A / W ^ k % V * W ^ k + A % W ^ k
theorem remK_zero (A V : Nat) : remK A V 0 = A % V := by
  unfold remK
  rw [Nat.pow_zero, Nat.div_one, Nat.mod_one, Nat.mul_one, Nat.add_zero]
theorem remK_top {A V k : Nat} (h : A / W ^ k < V) : remK A V k = A := by
  unfold remK
  rw [Nat.mod_eq_of_lt h, Nat.mul_comm]
  exact Nat.div_add_mod A (W ^ k)
/-- One digit: the part of the row, the digit, what is left. -/
theorem remK_step {A V k n : Nat} (hV : 0 < V) (hVn : V < W ^ n) :
    remK A V (k + 1) / W ^ k < V * W ∧ remK A V (k + 1) / W ^ k / V = A / V / W ^ k % W ∧ remK A V k = remK A V (k + 1) % W ^ k + W ^ k * (remK A V (k + 1) / W ^ k % V) ∧ remK A V (k + 1) < W ^ (k + n + 1) := by
  have hk := Nat.pow_pos (n := k) W0
  have hp : W ^ (k + 1) = W ^ k * W := Nat.pow_succ ..
  have e1 : A / W ^ (k + 1) = A / W ^ k / W := by rw [hp, Nat.div_div_eq_div_mul]
  have e2 : A % W ^ (k + 1) = A % W ^ k + W ^ k * (A / W ^ k % W) := by rw [hp, Nat.mod_mul]
  have e3 : A / V / W ^ k = A / W ^ k / V := by rw [Nat.div_div_eq_div_mul, Nat.div_div_eq_div_mul, Nat.mul_comm]
  have er : remK A V (k + 1) = A % W ^ k + W ^ k * (A / W ^ k / W % V * W + A / W ^ k % W) := by
    unfold remK
    rw [e1, e2, hp, Nat.mul_add, Nat.mul_left_comm]
    omega
  have hml := Nat.mod_lt A hk
  have ed : remK A V (k + 1) / W ^ k = A / W ^ k / W % V * W + A / W ^ k % W := by
    rw [er, Nat.add_mul_div_left _ _ hk, Nat.div_eq_of_lt hml, Nat.zero_add]
  have em : remK A V (k + 1) % W ^ k = A % W ^ k := by rw [er, Nat.add_mul_mod_self_left, Nat.mod_eq_of_lt hml]
  rw [ed, em, e3]
  have hs := small_step (X := A / W ^ k) (n := V) (i := 0) hV
  simp only [Nat.pow_zero, Nat.div_one, Nat.zero_add, Nat.pow_one] at hs
  have hlt : A / W ^ k / W % V * W + A / W ^ k % W < V * W := by
    have a := Nat.mod_lt (A / W ^ k / W) hV
    have b := Nat.mod_lt (A / W ^ k) W0
    have : (A / W ^ k / W % V + 1) * W ≤ V * W := Nat.mul_le_mul_right _ a
    rw [Nat.add_mul, Nat.one_mul] at this
    omega
  refine ⟨hlt, hs.1, ?_, ?_⟩
  · rw [hs.2]
    unfold remK
    rw [Nat.add_comm, Nat.mul_comm]
  · rw [er]
    have h1 : W ^ k * (A / W ^ k / W % V * W + A / W ^ k % W) + W ^ k ≤ W ^ k * (V * W) := by
      rw [← Nat.mul_succ]; exact Nat.mul_le_mul_left _ hlt
    have h2 : W ^ k * (V * W) ≤ W ^ k * (W ^ n * W) := Nat.mul_le_mul_left _ (Nat.mul_le_mul_right _ (Nat.le_of_lt hVn))
    have h3 : W ^ k * (W ^ n * W) = W ^ (k + n + 1) := by rw [← Nat.pow_succ, ← Nat.pow_add]; congr 1
    omega
/-- A part of a row of a number, as a number; the row when the part holds another. -/
theorem part_num {X o n m : Nat} (hX : X < W ^ (o + n + 1)) : dv W (((tab W X m).drop o).take (n + 1)) = (X % W ^ m) / W ^ o % W ^ (n + 1) := by
  have okP := ok_tab W0 X m
  have okd : Ok W ((tab W X m).drop o) := fun d hd => okP d (List.mem_of_mem_drop hd)
  rw [(dv_take _ okd _).1, (dv_take _ okP _).2, dv_tab]
theorem row_num {X o n m T : Nat} (hm : o + n + 1 ≤ m) (hX : X < W ^ (o + n + 1)) : rowL (tab W X m) o T (n + 1) = tab W (X % W ^ o + W ^ o * (T % W ^ (n + 1))) m := by
  have okP := ok_tab W0 X m
  have hXm : X < W ^ m := Nat.lt_of_lt_of_le hX (Nat.pow_le_pow_right W0 hm)
  have dP : dv W (tab W X m) = X := (dv_tab X m).trans (Nat.mod_eq_of_lt hXm)
  have hd0 : X / W ^ (o + (n + 1)) = 0 := Nat.div_eq_of_lt (by rw [← Nat.add_assoc]; exact hX)
  have okR : Ok W (rowL (tab W X m) o T (n + 1)) := by
    intro d hd
    unfold rowL at hd
    rcases List.mem_append.1 hd with hd | hd
    · exact okP d (List.mem_of_mem_take hd)
    · rcases List.mem_append.1 hd with hd | hd
      · exact ok_tab W0 _ _ d hd
      · exact okP d (List.mem_of_mem_drop hd)
  have hlen : (rowL (tab W X m) o T (n + 1)).length = m := by rw [rowL_len (by rw [tab_length]; omega), tab_length]
  have hdv : dv W (rowL (tab W X m) o T (n + 1)) = X % W ^ o + W ^ o * (T % W ^ (n + 1)) := by
    unfold rowL
    rw [dv_append, dv_append, (dv_take _ okP _).1, (dv_take _ okP _).2, dP, dv_tab, tab_length, List.length_take, tab_length, Nat.min_eq_left (by omega), hd0, Nat.mul_zero, Nat.add_zero]
  have := tab_of okR
  rw [hdv, hlen] at this
  exact this
/-- A row with a number in a part: the part taken out, put in anew. -/
theorem put_num {Y o Z n m : Nat} (hY : Y < W ^ o) (hZ : Z < W ^ (n + 1)) (hm : o + n + 1 ≤ m) (T : Nat) :
    dv W (((tab W (Y + W ^ o * Z) m).drop o).take (n + 1)) = Z ∧ rowL (tab W (Y + W ^ o * Z) m) o T (n + 1) = tab W (Y + W ^ o * (T % W ^ (n + 1))) m := by
  have ho := Nat.pow_pos (n := o) W0
  have hX : Y + W ^ o * Z < W ^ (o + n + 1) := by
    have : W ^ o * (Z + 1) ≤ W ^ o * W ^ (n + 1) := Nat.mul_le_mul_left _ hZ
    rw [← Nat.pow_add, Nat.mul_add, Nat.mul_one, ← Nat.add_assoc] at this
    omega
  have hXm : Y + W ^ o * Z < W ^ m := Nat.lt_of_lt_of_le hX (Nat.pow_le_pow_right W0 hm)
  refine ⟨?_, ?_⟩
  · rw [part_num hX, Nat.mod_eq_of_lt hXm, Nat.add_mul_div_left _ _ ho, Nat.div_eq_of_lt hY, Nat.zero_add, Nat.mod_eq_of_lt hZ]
  · rw [row_num hm hX, Nat.add_mul_mod_self_left, Nat.mod_eq_of_lt hY]
end Go.Proofs.YtejmlngnpekagaaGreatDoor
end

/- Division: long division, and division by any number. -/
section
open Go PG Go.Proofs
set_option maxRecDepth 100000
set_option linter.unusedSimpArgs false
set_option linter.unusedVariables false
namespace Go.Proofs.YtejmlngnpekagaaGreatDoor
attribute [local go_sem] Lay2 Lay3 Lay4 Lay5 Lay6 Lay7 Lay8 Lay9 Lay10 Lay11 Lay12 Lay13 Lay14 Lay15 Lay16 Lay17 Lay18 Lay19 Lay21 Lay22 Lay23 Lay25 Lay26 Lay27 Lay30 Lay31 Lay32 Lay33 Lay36 Lay37 Lay41 Lay42 Lay43 Lay47 Lay56 Lay57 Lay59 Lay60 Lay65 Lay66 Lay74 Lay75 Lay105 Lay114 Lay145 Lay146 Lay149 Lay150 Lay151 Lay173 Lay185 Lay189 Lay204 Lay205 Lay208 Lay214 Lay215 Lay216 Lay217 Lay218 Lay220 Lay221 Lay223 Lay224 Lay225 Lay228 qexec_seq qexec_skip qexec_exit qexec_ret qexec_block qexec_loop qexec_range qexec_cond qexec_region qexec_drawn qops_nil qops_none qops_some put_some put_none pblk_exit pblk_other newDsts_nil inlDsts_nil isInl sget_cons sget_nil qval_some qbool_some qgs_bool qgs_und qfree_some qgrd_true qgrd_false qif_true qif_false qval_ite qval_itn qand_true map_ite map_some' map_none' qdo_move qdo_assign qdo_binOp qdo_pick qdo_unOp qdo_convert qdo_extract qdo_field qdo_fieldAddr qdo_alloc qdo_box qdo_build qdo_buildSlice qdo_load qdo_store qdo_nilCheck qdo_makeFunc qdo_makeSlice qdo_slice qdo_indexAddr qdo_call qcont_val qcont_new qcont_st qcont_app0 qcont_app qcont_inl qcont_call njSV_val njSV_nil njSV_row njSV_ptr njSV_sub binV_val binV_nil binV_nn binV_ptr bin_np bin_nnp nilCmp bin_add bin_sub bin_mul bin_quo bin_rem bin_and bin_or bin_xor bin_andNot bin_eql bin_neq bin_lss bin_leq bin_gtr bin_geq bin_shl bin_shr bin_seql bin_sneq bin_sadd bin_beql bin_aeql bin_aneq eqAnd_some eqCells_nil eqCells_cons fieldTypes isStruct eqCell bin_bneq un_not un_neg nj_ite Nat.beq stepA stepR isNew opSV constSV RV.sv allSome E_mu E_own qkeyIn_none qkeyIn_some qkeyAt_none qkeyAt_some Bool.or_false Bool.false_or Bool.or_true Bool.true_or cst setB res resSV pstart startL killL kill1 eraL frzL svPV rvPV rvInt rvSlice frzOf close closeL pconv pbuiltin pmax2 partPV setCells fillPV zrow bound newSV PV.cells Bk.cells Bk.with SV.key pres presL_nil presL_tmp presL_cell presC2_some cellPV_ptr presC List.toList_toArray List.size_toArray List.getElem?_drop Nat.mul_one Int.toNat_natCast Nat.not_lt_zero Nat.lt_irrefl decide_true decide_false Nat.not_lt Option.some.injEq PV.lst.injEq PV.int.injEq PV.bool.injEq PV.tuple.injEq List.cons.injEq Option.map_some Option.map_none Option.bind_some Option.toList List.map_cons List.map_nil List.nil_append List.cons_append List.append_nil List.zip_cons_cons List.zip_nil_left List.zip_nil_right List.getElem?_cons_zero List.getElem?_cons_succ List.drop_zero List.drop_succ_cons List.take_succ_cons List.take_zero List.set_cons_zero List.set_cons_succ List.length_cons List.length_nil List.length_set List.replicate_one List.replicate_zero bne_self_eq_false beq_self_eq_true Nat.zero_add Nat.add_zero Nat.zero_mul Bool.false_eq_true Bool.true_eq_false Bool.not_true Bool.not_false and_true true_and false_and and_false or_false false_or or_true true_or not_true_eq_false not_false_eq_true ne_eq gt_iff_lt List.mem_cons List.not_mem_nil
attribute [local go_sem ↓] pseq_normal pseq_ret pseq_exit pblk_normal pblk_ret newDsts_cons inlDsts_cons gdst_zero gdst_succ retQ_normal retQ_ret qneed_nil qneed_cons retM_normal retM_ret endR_normal endR_ret endR_exit
attribute [local go_sem] Int.reduceToNat Int.reduceEq Int.reduceNe Int.reduceLT Int.reduceLE Int.reduceNeg Int.reduceAdd Nat.reduceEqDiff Nat.reduceAdd Nat.reduceSub Nat.reduceMul Nat.reduceLeDiff Nat.reduceLT
attribute [local go_sem ↓] reduceIte reduceCtorEq

theorem long_step {A V n m k : Nat} (hV0 : 0 < V) (hVn : V < W ^ n) (hn : 2 ≤ n) (hk : k + n + 1 ≤ m) (hm : m ≤ 200000) : ∃ (F : Nat → List PV) (d0 : Nat), A / V / W ^ k % W ≤ d0 ∧ d0 < W ∧ F (A / V / W ^ k % W) = U (tab W (remK A V k) m) ∧
    PCM E 183 [.sub 0 k (n + 1), .val (.int .u64 ((V / W ^ (n - 1) % W : Nat) : Int)), .val (.int .u64 ((V / W ^ (n - 2) % W : Nat) : Int))] [.row 23 1 m (U (tab W (remK A V (k + 1)) m))] (.val (.int .u64 d0)) [.row 23 1 m (U (tab W (remK A V (k + 1)) m))] ∧
    PCM E 184 [.sub 0 k (n + 1), .sub 1 0 n, .val (.int .u64 d0)] [.row 23 1 m (U (tab W (remK A V (k + 1)) m)), .row 23 1 (n + 1) (U (tab W V (n + 1)))] (.val (.bool (decide (A / V / W ^ k % W < d0)))) [.row 23 1 m (F d0), .row 23 1 (n + 1) (U (tab W V (n + 1)))] ∧
    ∀ d, A / V / W ^ k % W < d → d < W → PCM E 185 [.sub 0 k (n + 1), .sub 1 0 n] [.row 23 1 m (F d), .row 23 1 (n + 1) (U (tab W V (n + 1)))] (.val (.bool (decide (d - 1 = A / V / W ^ k % W)))) [.row 23 1 m (F (d - 1)), .row 23 1 (n + 1) (U (tab W V (n + 1)))] := by
  obtain ⟨s1, s2, s3, s4⟩ := remK_step (A := A) (k := k) hV0 hVn
  have hkW := Nat.pow_pos (n := k) W0
  have hnW := Nat.pow_pos (n := n + 1) W0
  obtain ⟨X, hX⟩ : ∃ X, X = remK A V (k + 1) := ⟨_, rfl⟩
  rw [← hX] at s1 s2 s3 s4 ⊢
  have hXe : X = X % W ^ k + W ^ k * (X / W ^ k) := by have := Nat.mod_add_div X (W ^ k); omega
  have hY : X % W ^ k < W ^ k := Nat.mod_lt _ hkW
  obtain ⟨Y, hYd⟩ : ∃ Y, Y = X % W ^ k := ⟨_, rfl⟩
  obtain ⟨Z, hZd⟩ : ∃ Z, Z = X / W ^ k := ⟨_, rfl⟩
  rw [← hYd, ← hZd] at hXe
  rw [← hYd] at hY s3
  rw [← hZd] at s1 s2 s3
  have hZl : Z < W ^ (n + 1) := by
    refine Nat.lt_of_lt_of_le s1 ?_
    rw [Nat.pow_succ]; exact Nat.mul_le_mul_right _ (Nat.le_of_lt hVn)
  rw [← s2, s3, hXe]
  have hZdiv := Nat.div_add_mod Z V
  have hVl : (tab W V (n + 1)).length = n + 1 := tab_length _ _ _
  have okV := ok_tab W0 V (n + 1)
  have hVt : dv W ((tab W V (n + 1)).take n) = V := by
    have hV1 : V < W ^ (n + 1) := Nat.lt_of_lt_of_le hVn (Nat.pow_le_pow_right W0 (Nat.le_succ _))
    rw [(dv_take _ okV _).1, dv_tab, Nat.mod_eq_of_lt hV1, Nat.mod_eq_of_lt hVn]
  have hlenX : ∀ P, (tab W P m).length = m := fun P => tab_length _ _ _
  have hVdig : V / W ^ (n - 1) % W = V / W ^ (n - 1) := Nat.mod_eq_of_lt (by
    rw [Nat.div_lt_iff_lt_mul (Nat.pow_pos W0), Nat.mul_comm, ← Nat.pow_succ, show (n - 1).succ = n by omega]; exact hVn)
  rw [hVdig]
  obtain ⟨d0, g1, g2, kg⟩ := d_guess (out := tab W (Y + W ^ k * Z) m) (o := k) (n := n) (top := V / W ^ (n - 1)) (next := V / W ^ (n - 2) % W) (ok_tab W0 _ _) (by rw [hlenX]; exact hk) (by rw [hlenX]; exact hm) hn (put_num hY hZl hk 0).1 hVn s1 rfl rfl
  rw [hlenX] at kg
  have kt := fun q (hq : q < W) => d_takeOff (out := tab W (Y + W ^ k * Z) m) (vv := tab W V (n + 1)) (o := k) (n := n) (q := q) (ok_tab W0 _ _) okV hq (by rw [hlenX]; exact hk) (by rw [hlenX]; exact hm) (by rw [hVl]; omega) (by rw [hVl]; omega) (put_num hY hZl hk 0).1 hVt
  simp only [hlenX, hVl, (put_num hY hZl hk _).2] at kt
  refine ⟨fun q => U (tab W (Y + W ^ k * ((Z + W ^ (n + 1) - V * q) % W ^ (n + 1))) m), d0, g1, g2, ?_, kg, ?_, fun d h1 h2 => ?_⟩
  · dsimp only
    have e : (Z + W ^ (n + 1) - V * (Z / V)) % W ^ (n + 1) = Z % V := by
      have e1 : Z + W ^ (n + 1) - V * (Z / V) = Z % V + W ^ (n + 1) := by omega
      rw [e1, Nat.add_mod_right, Nat.mod_eq_of_lt (Nat.lt_of_le_of_lt (Nat.mod_le _ _) hZl)]
    rw [e]
  · have := kt d0 g2
    have e : decide (Z < V * d0) = decide (Z / V < d0) := decide_eq_decide.2 (by rw [Nat.div_lt_iff_lt_mul hV0, Nat.mul_comm])
    rw [e] at this
    exact this
  · have hlt : Z < V * d := by rw [Nat.mul_comm]; exact (Nat.div_lt_iff_lt_mul hV0).1 h1
    have hVd : V * d < W ^ (n + 1) := by rw [Nat.pow_succ]; exact Nat.mul_lt_mul'' hVn h2
    have hd1 : V * d = V * (d - 1) + V := by
      obtain ⟨p, rfl⟩ : ∃ p, d = p + 1 := ⟨d - 1, by omega⟩
      rw [Nat.add_sub_cancel, Nat.mul_succ]
    have hZ' : Z + W ^ (n + 1) - V * d < W ^ (n + 1) := by omega
    dsimp only
    rw [Nat.mod_eq_of_lt hZ']
    have kp := d_putBack (out := tab W (Y + W ^ k * (Z + W ^ (n + 1) - V * d)) m) (vv := tab W V (n + 1)) (o := k) (n := n) (ok_tab W0 _ _) okV (by rw [hlenX]; exact hk) (by rw [hlenX]; exact hm) (by rw [hVl]; omega) (by rw [hVl]; omega) (put_num hY hZ' hk 0).1 hVt
    simp only [hlenX, hVl, (put_num hY hZ' hk _).2] at kp
    have e1 : Z + W ^ (n + 1) - V * d + V = Z + W ^ (n + 1) - V * (d - 1) := by omega
    have e2 : decide (W ^ (n + 1) ≤ Z + W ^ (n + 1) - V * d + V) = decide (d - 1 = Z / V) := decide_eq_decide.2 (by
      have h3 : d - 1 ≤ Z / V ↔ (d - 1) * V ≤ Z := Nat.le_div_iff_mul_le hV0
      rw [Nat.mul_comm (d - 1)] at h3
      constructor
      · intro h
        have := h3.2 (by omega)
        omega
      · intro h
        have := h3.1 (by omega)
        omega)
    rw [e2, e1] at kp
    exact kp
set_option maxHeartbeats 4000000 in
theorem d_long {a b : List Nat} (oa : Ok W a) (ob : Ok W b) (la : a.length ≤ 100000) (hn : 2 ≤ b.length) (hba : b.length ≤ a.length) (hb : W ^ (b.length - 1) ≤ vl b) : PC E 157 [NL a, NL b] (.tuple [NN (vl a / vl b), NN (vl a % vl b)]) := by
  have hA : vl a < W ^ a.length := dv_lt a oa
  have hB : vl b < W ^ b.length := dv_lt b ob
  obtain ⟨n, hnd⟩ : ∃ n, n = b.length := ⟨_, rfl⟩
  obtain ⟨m, hmd⟩ : ∃ m, m = a.length := ⟨_, rfl⟩
  have hg := digit_at ob (i := n - 1) (by omega)
  rw [← hnd] at hn hba hb hB
  rw [← hmd] at hA la hba
  have hn1 := Nat.pow_pos (n := n - 1) W0
  have hB2 : vl b / W ^ (n - 1) < W := by
    rw [Nat.div_lt_iff_lt_mul hn1, Nat.mul_comm, ← Nat.pow_succ, show (n - 1).succ = n by omega]; exact hB
  rw [Nat.mod_eq_of_lt hB2] at hg
  have htop0 : vl b / W ^ (n - 1) ≠ 0 := by have := Nat.div_pos hb hn1; omega
  obtain ⟨nb1, nb2, nb3⟩ := norm_top htop0 hB2
  have hbp := bitLen_pos htop0
  have klz := c_Lead (vl b / W ^ (n - 1)) hB2
  obtain ⟨s, hs⟩ : ∃ s, s = 64 - bitLen (vl b / W ^ (n - 1)) := ⟨_, rfl⟩
  rw [show (64 : Int) - (bitLen (vl b / W ^ (n - 1)) : Int) = (s : Int) by omega] at klz
  have hs63 : s ≤ 63 := by omega
  have hp := Nat.two_pow_pos s
  have hVn : vl b * 2 ^ s < W ^ n := by
    have h1 := (bitLen_le (vl b / W ^ (n - 1)) (bitLen (vl b / W ^ (n - 1)))).1 (Nat.le_refl _)
    have h2 : vl b < (vl b / W ^ (n - 1) + 1) * W ^ (n - 1) := by
      have := Nat.div_add_mod (vl b) (W ^ (n - 1))
      have h3 := Nat.mod_lt (vl b) hn1
      rw [Nat.add_mul, Nat.one_mul, Nat.mul_comm]
      omega
    have h4 : (vl b / W ^ (n - 1) + 1) * 2 ^ s ≤ W := by
      have e : 2 ^ bitLen (vl b / W ^ (n - 1)) * 2 ^ s = W := by
        rw [← Nat.pow_add, show bitLen (vl b / W ^ (n - 1)) + s = 64 by omega]
      have h8 := Nat.mul_le_mul_right (2 ^ s) (Nat.succ_le_of_lt h1)
      rw [e] at h8
      exact h8
    have h5 : vl b * 2 ^ s < (vl b / W ^ (n - 1) + 1) * W ^ (n - 1) * 2 ^ s := Nat.mul_lt_mul_of_pos_right h2 hp
    have h6 : (vl b / W ^ (n - 1) + 1) * W ^ (n - 1) * 2 ^ s ≤ W * W ^ (n - 1) := by
      rw [Nat.mul_right_comm]; exact Nat.mul_le_mul_right _ h4
    have h7 : W * W ^ (n - 1) = W ^ n := by rw [Nat.mul_comm, ← Nat.pow_succ]; congr 1; omega
    omega
  have hV0 : 0 < vl b * 2 ^ s := Nat.mul_pos (by omega) hp
  have kl1 := d_left oa (by omega) hs63
  have kl2 := d_left ob (by omega) hs63
  rw [← hmd] at kl1
  rw [← hnd] at kl2
  have hstart : vl a * 2 ^ s / W ^ (m - n + 1) < vl b * 2 ^ s := by
    rw [Nat.div_lt_iff_lt_mul (Nat.pow_pos W0)]
    have h1 : vl a * 2 ^ s < W ^ m * 2 ^ s := Nat.mul_lt_mul_of_pos_right hA hp
    have h2 : W ^ (n - 1) * 2 ^ s * W ^ (m - n + 1) ≤ vl b * 2 ^ s * W ^ (m - n + 1) := Nat.mul_le_mul_right _ (Nat.mul_le_mul_right _ hb)
    have h3 : W ^ (n - 1) * 2 ^ s * W ^ (m - n + 1) = W ^ m * 2 ^ s := by
      rw [Nat.mul_right_comm, ← Nat.pow_add]; congr 2; omega
    omega
  have hst := fun k (hk : k < m - n + 1) => long_step (A := vl a * 2 ^ s) (V := vl b * 2 ^ s) (n := n) (m := m + 1) (k := k) hV0 hVn hn (by omega) (by omega)
  have hQ : vl a * 2 ^ s / (vl b * 2 ^ s) = vl a / vl b := Nat.mul_div_mul_right _ _ hp
  have hR : vl a * 2 ^ s % (vl b * 2 ^ s) = vl a % vl b * 2 ^ s := Nat.mul_mod_mul_right ..
  rw [hQ] at hst
  have h0r : tab W (remK (vl a * 2 ^ s) (vl b * 2 ^ s) (m - n + 1)) (m + 1) = tab W (vl a * 2 ^ s) (m + 1) := by rw [remK_top hstart]
  have hQl : vl a / vl b < W ^ (m - n + 1) := by
    rw [Nat.div_lt_iff_lt_mul (by omega)]
    have h1 : W ^ (m - n + 1) * W ^ (n - 1) ≤ W ^ (m - n + 1) * vl b := Nat.mul_le_mul_left _ hb
    rw [← Nat.pow_add, show m - n + 1 + (n - 1) = m by omega] at h1
    omega
  have hRl : vl a % vl b * 2 ^ s < W ^ (m + 1) := by
    refine Nat.lt_of_lt_of_le (Nat.lt_trans (Nat.mul_lt_mul_of_pos_right (Nat.mod_lt _ (by omega)) hp) hVn) (Nat.pow_le_pow_right W0 (by omega))
  have ksh : PC E 147 [.lst (m + 1) (U (tab W (remK (vl a * 2 ^ s) (vl b * 2 ^ s) 0) (m + 1))), .int .i64 s] (.tuple [NN (vl a % vl b), .bool false]) := by
    have hnum : Num (NL (tab W (vl a % vl b * 2 ^ s) (m + 1))) (vl a % vl b * 2 ^ s) := ⟨_, rfl, ok_tab W0 _ _, (dv_tab _ _).trans (Nat.mod_eq_of_lt hRl), by rw [tab_length]; omega⟩
    have := k_Shrn hnum s
    rw [Nat.mul_div_cancel _ hp, Nat.mul_mod_left] at this
    rw [remK_zero, hR]
    unfold NL at this
    rw [tab_length] at this
    exact this
  have kba : PC E 144 [.lst (m - n + 1) (U (outL (vl a / vl b) (m - n + 1) 0))] (NN (vl a / vl b)) := by
    rw [outL_zero]
    exact PC.at_list (n_Bare (tab W (vl a / vl b) (m - n + 1)) (by rw [tab_length]; omega) (ok_tab W0 _ _)) (tab_length _ _ _) ((dv_tab _ _).trans (Nat.mod_eq_of_lt hQl))
  have hout0 : U (outL (vl a / vl b) (m - n + 1) (m - n + 1)) = List.replicate (m - n + 1) (.int .u64 0) := by rw [outL_all, U_replicate]
  have hset := fun i (hi : i < m - n + 1) => outL_set (X := vl a / vl b) hi
  have hlenU : ∀ i, (U (outL (vl a / vl b) (m - n + 1) i)).length = m - n + 1 := fun i => by unfold U; rw [List.length_map, outL_len]
  have hvd : ∀ i, i < n + 1 → (U (tab W (vl b * 2 ^ s) (n + 1)))[i]? = some (.int .u64 ((vl b * 2 ^ s / W ^ i % W : Nat) : Int)) := fun i hi => tab_getU hi
  rw [← h0r] at kl1
  clear h0r hQ hR hQl hRl hstart hV0 hVn nb1 nb2 nb3 hbp hB2 htop0 hA hB hb oa ob hs hp hn1
  obtain ⟨RU, hRU⟩ : ∃ RU : Nat → List PV, ∀ k, U (tab W (remK (vl a * 2 ^ s) (vl b * 2 ^ s) k) (m + 1)) = RU k := ⟨_, fun _ => rfl⟩
  obtain ⟨RV, hRV⟩ : ∃ RV : List PV, U (tab W (vl b * 2 ^ s) (n + 1)) = RV := ⟨_, rfl⟩
  obtain ⟨G, hG⟩ : ∃ G : Nat → Nat, ∀ i, vl a / vl b / W ^ i % W = G i := ⟨_, fun _ => rfl⟩
  obtain ⟨VD, hVD⟩ : ∃ VD : Nat → Nat, ∀ i, vl b * 2 ^ s / W ^ i % W = VD i := ⟨_, fun _ => rfl⟩
  obtain ⟨O, hO⟩ : ∃ O : Nat → List PV, ∀ i, U (outL (vl a / vl b) (m - n + 1) i) = O i := ⟨_, fun _ => rfl⟩
  simp only [hRU, hRV, hG, hVD, hO] at kl1 kl2 hst ksh kba hout0 hset hlenU hvd
  clear hRU hRV hG hVD hO
  obtain ⟨B1, hB1⟩ : ∃ x, x = vl b / W ^ (n - 1) := ⟨_, rfl⟩
  obtain ⟨Qf, hQf⟩ : ∃ x, x = NN (vl a / vl b) := ⟨_, rfl⟩
  obtain ⟨Rf, hRf⟩ : ∃ x, x = NN (vl a % vl b) := ⟨_, rfl⟩
  rw [← hB1] at hg klz
  rw [← hQf] at kba ⊢
  rw [← hRf] at ksh ⊢
  clear hB1 hQf hRf
  have w1 : IntKind.wrap .i64 ((n : Int) - 1) = ((n - 1 : Nat) : Int) := by rw [wrap64 (by omega) (by omega)]; omega
  have w2 : IntKind.wrap .i64 ((m : Int) - (n : Int)) = ((m - n : Nat) : Int) := by rw [wrap64 (by omega) (by omega)]; omega
  have w3 : IntKind.wrap .i64 (((m - n : Nat) : Int) + 1) = ((m - n + 1 : Nat) : Int) := by rw [wrap64 (by omega) (by omega)]; omega
  have w4 : IntKind.wrap .i64 (((m - n + 1 : Nat) : Int) - 1) = ((m - n + 1 : Nat) : Int) - 1 := wrap64 (by omega) (by omega)
  have w5 : IntKind.wrap .i64 ((n : Int) - 2) = ((n - 2 : Nat) : Int) := by rw [wrap64 (by omega) (by omega)]; omega
  simp only [NL, u, ← hnd, ← hmd] at kl1 kl2 klz ⊢
  generalize U a = UA at *
  generalize U b = UB at *
  refine PC.of_body follows Tryz.func157 (by decide +kernel) rfl (by kernel_rfl) (Nat.le_of_ble_eq_true rfl) (walk ?_)
  simp only [Tryz.f157, w1, go_sem]
  refine qand_i (by omega) ?_
  simp only [Tryz.f157, w1, go_sem]
  refine qval_i (congrArg (Option.map _) hg) ?_
  simp only [Tryz.f157, w1, go_sem]
  refine qcall_i (klz) ?_; simp only [Tryz.f157, w1, go_sem]
  refine qinl_i [] kl1 rfl (by decide) rfl (fun i b k hb => by simp at hb) (by intro d h; simp) (by intro h; cases h) ?_
  simp only [Tryz.f157, ren, eraO, eraL, List.getD_cons_zero, List.filter_cons, List.filter_nil, go_sem]
  refine qinl_i [] kl2 rfl (by decide) rfl (fun i b k hb => by simp at hb) (by intro d h; simp) (by intro h; cases h) ?_
  simp only [Tryz.f157, ren, eraO, eraL, List.getD_cons_zero, List.filter_cons, List.filter_nil, w2, w3, w4, go_sem]
  repeat' ((with_reducible refine qand_i (by omega) ?_); simp only [Tryz.f157, w2, w3, w4, go_sem])
  refine PLoop.intro (fun i : Nat => ⟨[(6, .val (.int .i64 n)), (7, .val (.int .i64 s)), (8, .row 27), (9, .sub 30 0 n), (10, .row 38), (11, .val (.int .i64 ((i : Int) - 1)))],
    [(27, (.row 23 1 (m + 1) (RU i), false)), (30, (.row 23 1 (n + 1) RV, false)), (38, (.row 23 1 (m - n + 1) (O i), false))]⟩) (fun i => i ≤ m - n + 1) (fun i => i) (m - n + 1) (Nat.le_refl _) ?_ fun i hi => walk ?_
  · rw [hout0]
    simp [Wk, sget, killL, kill1, SV.key]
  rcases i with _ | k
  · simp only [Tryz.f157, go_sem]
    refine qif_df (by omega) ?_
    simp only [Tryz.f157, go_sem]
    refine qcall_i (ksh) ?_; simp only [Tryz.f157, go_sem]
    refine qcall_i (kba) ?_; simp only [Tryz.f157, go_sem]
    try rfl
  have we : ((k + 1 : Nat) : Int) - 1 = (k : Int) := by omega
  have wi : IntKind.wrap .i64 ((k : Int) - 1) = (k : Int) - 1 := wrap64 (by omega) (by omega)
  have wa : IntKind.wrap .i64 ((k : Int) + (n : Int)) = ((k + n : Nat) : Int) := by rw [wrap64 (by omega) (by omega)]; omega
  have wb : IntKind.wrap .i64 (((k + n : Nat) : Int) + 1) = ((k + n + 1 : Nat) : Int) := by rw [wrap64 (by omega) (by omega)]; omega
  have wc : k + n + 1 - k = n + 1 := by omega
  obtain ⟨F, d0, g1, g2, g3, kg, kt, kp⟩ := hst k (by omega)
  have v1 := hvd (n - 1) (by omega)
  have v2 := hvd (n - 2) (by omega)
  have x2 := hset k (by omega)
  have x3 := hlenU (k + 1)
  clear hst kl1 kl2 klz hg hvd hset hlenU
  simp only [Tryz.f157, we, wa, wb, go_sem]
  refine qif_dt (by omega) ?_
  simp only [Tryz.f157, we, wa, wb, go_sem]
  repeat' ((with_reducible refine qand_i (by omega) ?_); simp only [Tryz.f157, we, wa, wb, wc, w1, w5, go_sem])
  refine qval_i (congrArg (Option.map _) v1) ?_
  simp only [Tryz.f157, we, wa, wb, wc, w1, w5, go_sem]
  repeat' ((with_reducible refine qand_i (by omega) ?_); simp only [Tryz.f157, we, wa, wb, wc, w1, w5, go_sem])
  refine qval_i (congrArg (Option.map _) v2) ?_
  simp only [Tryz.f157, we, wa, wb, wc, w1, w5, go_sem]
  refine qinl_i [27] (kg) rfl (by decide) rfl (one_blk rfl) (by intro d h; first | (cases h; decide) | cases h) (by intro h; first | rfl | cases h) ?_; simp only [Tryz.f157, ren, eraO, eraL, List.getD_cons_zero, List.getD_cons_succ, List.filter_cons, List.filter_nil, go_sem]
  refine qinl_i [27,30] (kt) rfl (by decide) rfl (two_blk ⟨rfl, rfl⟩) (by intro d h; first | (cases h; decide) | cases h) (by intro h; first | rfl | cases h) ?_; simp only [Tryz.f157, ren, eraO, eraL, List.getD_cons_zero, List.getD_cons_succ, List.filter_cons, List.filter_nil, go_sem]
  refine PLoop.intro (fun d : Nat => ⟨[(6, .val (.int .i64 n)), (7, .val (.int .i64 s)), (8, .row 27), (9, .sub 30 0 n), (10, .row 38), (11, .val (.int .i64 k)), (12, .sub 27 k (n + 1)), (13, .val (.int .u64 d)), (14, .val (.bool (decide (G k < d))))],
    [(27, (.row 23 1 (m + 1) (F d), false)), (30, (.row 23 1 (n + 1) RV, false)), (38, (.row 23 1 (m - n + 1) (O (k + 1)), false))]⟩) (fun d => G k ≤ d ∧ d < W) (fun d => d) d0 ⟨g1, g2⟩ ?_ fun d hd => walk ?_
  · simp [Wk, sget, killL, kill1, SV.key]
  obtain ⟨j1, j2⟩ := hd
  by_cases hlt : G k < d
  · have kp := kp d hlt j2
    have e : (!decide (d - 1 = G k)) = decide (G k < d - 1) := by
      by_cases h : d - 1 = G k
      · rw [decide_eq_true h, decide_eq_false (by omega)]; rfl
      · rw [decide_eq_false h, decide_eq_true (by omega)]; rfl
    have wd : IntKind.wrap .u64 ((d : Int) - 1) = ((d - 1 : Nat) : Int) := by rw [IntKind.wrap_u64]; have : d < 18446744073709551616 := j2; omega
    rw [decide_eq_true hlt]
    simp only [Tryz.f157, wd, go_sem]
    refine qinl_i [27,30] (kp) rfl (by decide) rfl (two_blk ⟨rfl, rfl⟩) (by intro d h; first | (cases h; decide) | cases h) (by intro h; first | rfl | cases h) ?_; simp only [Tryz.f157, e, ren, eraO, eraL, List.getD_cons_zero, List.getD_cons_succ, List.filter_cons, List.filter_nil, go_sem]
    refine ⟨d - 1, ⟨by omega, by omega⟩, by omega, ?_⟩
    simp [Wk, sget, killL, kill1, SV.key, e]
  · have hde : d = G k := by omega
    subst hde
    rw [decide_eq_false hlt, g3]
    simp only [Tryz.f157, go_sem]
    repeat' ((with_reducible refine qand_i (by first | omega | (rw [x3]; omega)) ?_); simp only [Tryz.f157, wi, go_sem])
    refine ⟨k, by omega, by omega, ?_⟩
    simp [Wk, sget, killL, kill1, SV.key, x2]
/-- Division by any number but 0. -/
theorem k_Div {p q : PV} {x y : Nat} (h : Num p x) (h' : Num q y) (hx : bitLen x ≤ 1000000) (hy : bitLen y ≤ 1000000) (h0 : y ≠ 0) : PC E 105 [p, q] (.tuple [NN (x / y), NN (x % y), .int .i64 0]) := by
  have k1 := k_Bare h
  have k2 := k_Bare h'
  have k3 := k_Cmp (num_bits hx) (num_bits hy)
  have lx : (dg W x).length ≤ 15625 := w_of_bits (n := 15625) (by omega)
  have ly : (dg W y).length ≤ 15625 := w_of_bits (n := 15625) (by omega)
  have ox := ok_dg W2 x
  have oy := ok_dg W2 y
  have vx : vl (dg W x) = x := dv_dg W2 x
  have vy : vl (dg W y) = y := dv_dg W2 y
  have hylen : (dg W y).length ≠ 0 := fun h => h0 (by rw [← vy, List.eq_nil_of_length_eq_zero h]; rfl)
  by_cases hlt : x < y
  · have hs : sgn (x : Int) (y : Int) = -1 := by unfold sgn; rw [if_pos (by omega)]
    rw [hs] at k3
    rw [Nat.div_eq_of_lt hlt, Nat.mod_eq_of_lt hlt]
    have hz : NN 0 = .lst 0 [] := rfl
    rw [hz]
    simp only [NN, NL] at k1 k2 k3 ⊢
    refine PC.of_body follows Tryz.func105 (by decide +kernel) rfl (by kernel_rfl) (Nat.le_of_ble_eq_true rfl) (walk ?_)
    simp only [Tryz.f105, go_sem]
    refine qcall_i (k1) ?_; simp only [Tryz.f105, go_sem]
    refine qcall_i (k2) ?_; simp only [Tryz.f105, go_sem]
    refine qif_df (by omega) ?_
    simp only [Tryz.f105, go_sem]
    refine qcall_i (k3) ?_; simp only [Tryz.f105, go_sem]
    try rfl
  have hs : ¬ sgn (x : Int) (y : Int) < 0 := by
    unfold sgn
    rw [if_neg (by omega)]
    split <;> decide
  by_cases h1 : (dg W y).length = 1
  · obtain ⟨d, hd⟩ : ∃ d, dg W y = [d] := by
      match hh : dg W y, h1 with
      | [d], _ => exact ⟨d, rfl⟩
    have hdy : d = y := by rw [hd] at vy; simpa [vl, dv] using vy
    subst hdy
    have hdW : d < W := oy d (by rw [hd]; simp)
    have k4 := d_Small ox (by omega) hdW h0
    rw [vx] at k4
    have hm : x % d < W := Nat.lt_trans (Nat.mod_lt _ (by omega)) hdW
    have k5 := c_Of (x % d) hm
    simp only [NN, NL, hd, U, List.map_cons, List.map_nil, List.length_cons, List.length_nil, Nat.reduceAdd, u] at k1 k2 k3 k4 k5 ⊢
    refine PC.of_body follows Tryz.func105 (by decide +kernel) rfl (by kernel_rfl) (Nat.le_of_ble_eq_true rfl) (walk ?_)
    simp only [Tryz.f105, Int.cast_ofNat_Int, go_sem]
    refine qcall_i (k1) ?_; simp only [Tryz.f105, Int.cast_ofNat_Int, go_sem]
    refine qcall_i (k2) ?_; simp only [Tryz.f105, Int.cast_ofNat_Int, go_sem]
    refine qcall_i (k3) ?_; simp only [Tryz.f105, Int.cast_ofNat_Int, go_sem]
    refine qif_df hs ?_
    simp only [Tryz.f105, Int.cast_ofNat_Int, go_sem]
    refine qcall_i (k4) ?_; simp only [Tryz.f105, Int.cast_ofNat_Int, go_sem]
    refine qcall_i (k5) ?_; simp only [Tryz.f105, Int.cast_ofNat_Int, go_sem]
    try rfl
  have hlen : (dg W y).length ≤ (dg W x).length := by
    refine (dg_length_le W2 _ y).2 (Nat.lt_of_le_of_lt (Nat.not_lt.1 hlt) ?_)
    have := dv_lt (dg W x) ox
    rwa [show dv W (dg W x) = x from vx] at this
  have hbig : W ^ ((dg W y).length - 1) ≤ y := Nat.not_lt.1 fun h => by
    have := (dg_length_le W2 ((dg W y).length - 1) y).2 h
    omega
  have k4 := d_long ox oy (by omega) (by omega) hlen (by rw [vy]; exact hbig)
  rw [vx, vy] at k4
  simp only [NN, NL] at k1 k2 k3 k4 ⊢
  refine PC.of_body follows Tryz.func105 (by decide +kernel) rfl (by kernel_rfl) (Nat.le_of_ble_eq_true rfl) (walk ?_)
  simp only [Tryz.f105, go_sem]
  refine qcall_i (k1) ?_; simp only [Tryz.f105, go_sem]
  refine qcall_i (k2) ?_; simp only [Tryz.f105, go_sem]
  refine qif_df (by omega) ?_
  simp only [Tryz.f105, go_sem]
  refine qcall_i (k3) ?_; simp only [Tryz.f105, go_sem]
  refine qif_df hs ?_
  simp only [Tryz.f105, go_sem]
  refine qif_df (by omega) ?_
  simp only [Tryz.f105, go_sem]
  refine qcall_i (k4) ?_; simp only [Tryz.f105, go_sem]
  try rfl
end Go.Proofs.YtejmlngnpekagaaGreatDoor
end
