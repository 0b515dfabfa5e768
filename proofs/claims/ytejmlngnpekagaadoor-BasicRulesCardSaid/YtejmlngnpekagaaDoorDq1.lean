/- Division of two words by one: math/bits.Div64. -/
import Derived.Test.YtejmlngnpekagaaDoorDq0
import Derived.Test.YtejmlngnpekagaaDoorCut
open Go PG Go.Proofs
set_option maxRecDepth 100000
set_option linter.unusedSimpArgs false
set_option linter.unusedVariables false
namespace Go.Proofs.YtejmlngnpekagaaDoor
attribute [local go_sem] Lay2 Lay3 Lay4 Lay5 Lay6 Lay7 Lay8 Lay9 Lay10 Lay11 Lay12 Lay13 Lay14 Lay15 Lay16 Lay17 Lay18 Lay19 Lay21 Lay22 Lay23 Lay24 Lay25 Lay30 Lay33 Lay36 Lay37 Lay46 Lay47 Lay48 Lay53 Lay54 Lay55 Lay59 Lay100 Lay101 Lay127 Lay146 Lay162 Lay168 Lay169 Lay173 Lay185 Lay186 Lay187 Lay188 Lay189 Lay191 Lay192 Lay194 Lay195 Lay196 Lay199 qexec_seq qexec_skip qexec_exit qexec_ret qexec_block qexec_loop qexec_range qexec_cond qexec_region qexec_drawn qops_nil qops_none qops_some put_some put_none pblk_exit pblk_other newDsts_nil inlDsts_nil isInl sget_cons sget_nil qval_some qbool_some qgs_bool qgs_und qfree_some qgrd_true qgrd_false qif_true qif_false qval_ite qval_itn qand_true map_ite map_some' map_none' qdo_move qdo_assign qdo_binOp qdo_pick qdo_unOp qdo_convert qdo_extract qdo_field qdo_fieldAddr qdo_alloc qdo_box qdo_build qdo_buildSlice qdo_load qdo_store qdo_nilCheck qdo_makeFunc qdo_makeSlice qdo_slice qdo_indexAddr qdo_call qcont_val qcont_new qcont_st qcont_app0 qcont_app qcont_inl qcont_call njSV_val njSV_nil njSV_row njSV_ptr njSV_sub binV_val binV_nil binV_nn binV_ptr bin_np bin_nnp nilCmp bin_add bin_sub bin_mul bin_quo bin_rem bin_and bin_or bin_xor bin_andNot bin_eql bin_neq bin_lss bin_leq bin_gtr bin_geq bin_shl bin_shr bin_seql bin_sneq bin_sadd bin_beql bin_aeql bin_aneq eqAnd_some eqCells_nil eqCells_cons fieldTypes isStruct eqCell bin_bneq un_not un_neg nj_ite Nat.beq stepA stepR isNew opSV constSV RV.sv allSome E_mu E_own qkeyIn_none qkeyIn_some qkeyAt_none qkeyAt_some Bool.or_false Bool.false_or Bool.or_true Bool.true_or cst setB res resSV pstart startL killL kill1 eraL frzL svPV rvPV rvInt rvSlice frzOf close closeL pconv pbuiltin pmax2 partPV setCells fillPV zrow bound newSV PV.cells Bk.cells Bk.with SV.key pres presL_nil presL_tmp presL_cell presC2_some cellPV_ptr presC List.toList_toArray List.size_toArray List.getElem?_drop Nat.mul_one Int.toNat_natCast Nat.not_lt_zero Nat.lt_irrefl decide_true decide_false Nat.not_lt Option.some.injEq PV.lst.injEq PV.int.injEq PV.bool.injEq PV.tuple.injEq List.cons.injEq Option.map_some Option.map_none Option.bind_some Option.toList List.map_cons List.map_nil List.nil_append List.cons_append List.append_nil List.zip_cons_cons List.zip_nil_left List.zip_nil_right List.getElem?_cons_zero List.getElem?_cons_succ List.drop_zero List.drop_succ_cons List.take_succ_cons List.take_zero List.set_cons_zero List.set_cons_succ List.length_cons List.length_nil List.length_set List.replicate_one List.replicate_zero bne_self_eq_false beq_self_eq_true Nat.zero_add Nat.add_zero Nat.zero_mul Bool.false_eq_true Bool.true_eq_false Bool.not_true Bool.not_false and_true true_and false_and and_false or_false false_or or_true true_or not_true_eq_false not_false_eq_true ne_eq gt_iff_lt List.mem_cons List.not_mem_nil
attribute [local go_sem ↓] pseq_normal pseq_ret pseq_exit pblk_normal pblk_ret newDsts_cons inlDsts_cons gdst_zero gdst_succ retQ_normal retQ_ret qneed_nil qneed_cons retM_normal retM_ret endR_normal endR_ret endR_exit
attribute [local go_sem] Int.reduceToNat Int.reduceEq Int.reduceNe Int.reduceLT Int.reduceLE Int.reduceNeg Int.reduceAdd Nat.reduceEqDiff Nat.reduceAdd Nat.reduceSub Nat.reduceMul Nat.reduceLeDiff Nat.reduceLT
attribute [local go_sem ↓] reduceIte reduceCtorEq

theorem c_Lead (x : Nat) (hx : x < W) : PC E 157 [u x] (.int .i64 (64 - (bitLen x : Int))) := by
  have k1 := c_Len64 x hx
  have hb := (bitLen_le x 64).2 hx
  have w1 : IntKind.wrap .i64 (64 - (bitLen x : Int)) = 64 - (bitLen x : Int) := wrap64 (by omega) (by omega)
  simp only [u] at k1 ⊢
  refine PC.of_body follows Tryd.func157 (by decide +kernel) rfl (by kernel_rfl) (Nat.le_of_ble_eq_true rfl) (walk ?_)
  simp only [Tryd.f157, go_sem]
  refine qcall_i (k1) ?_; simp only [Tryd.f157, w1, go_sem]
  try rfl
theorem or_low {a b s : Nat} (h : b < 2 ^ s) : a * 2 ^ s ||| b = a * 2 ^ s + b := by
  rw [Nat.mul_comm, Nat.two_pow_add_eq_or_of_lt h]
/-- Shifted so far that the top bit is set. -/
theorem norm_top {y : Nat} (h0 : y ≠ 0) (hy : y < W) : bitLen y ≤ 64 ∧ 9223372036854775808 ≤ y * 2 ^ (64 - bitLen y) ∧ y * 2 ^ (64 - bitLen y) < W := by
  have hb := (bitLen_le y 64).2 hy
  have hp := bitLen_pos h0
  have h1 := (bitLen_le y (bitLen y)).1 (Nat.le_refl _)
  have h2 : 2 ^ (bitLen y - 1) ≤ y := Nat.not_lt.1 fun h => by have := (bitLen_le y (bitLen y - 1)).2 h; omega
  refine ⟨hb, ?_, ?_⟩
  · have : 2 ^ (bitLen y - 1) * 2 ^ (64 - bitLen y) = 9223372036854775808 := by
      rw [← Nat.pow_add, show bitLen y - 1 + (64 - bitLen y) = 63 by omega]
    rw [← this]
    exact Nat.mul_le_mul_right _ h2
  · have : 2 ^ bitLen y * 2 ^ (64 - bitLen y) = W := by
      rw [← Nat.pow_add, show bitLen y + (64 - bitLen y) = 64 by omega]
    rw [← this]
    exact Nat.mul_lt_mul_of_pos_right h1 (Nat.two_pow_pos _)
set_option maxHeartbeats 4000000 in
theorem c_Div64 {hi lo y : Nat} (hy : y < W) (hl : lo < W) (hh : hi < y) : PC E 156 [u hi, u lo, u y] (.tuple [u ((hi * W + lo) / y), u ((hi * W + lo) % y)]) := by
  have hy' : y < 18446744073709551616 := hy
  have hl' : lo < 18446744073709551616 := hl
  have hy0 : ¬ (y : Int) = 0 := by omega
  by_cases h0 : hi = 0
  · subst h0
    rw [Nat.zero_mul, Nat.zero_add]
    have d1 : IntKind.wrap .u64 ((lo : Int).tdiv (y : Int)) = ((lo / y : Nat) : Int) := by
      rw [n_tdiv]; exact wrap_nat64 (Nat.lt_of_le_of_lt (Nat.div_le_self _ _) hl)
    have d2 : (lo : Int).tmod (y : Int) = ((lo % y : Nat) : Int) := n_tmod lo y
    simp only [u]
    refine PC.of_body follows Tryd.func156 (by decide +kernel) rfl (by kernel_rfl) (Nat.le_of_ble_eq_true rfl) (walk ?_)
    simp only [Tryd.f156, Int.cast_ofNat_Int, go_sem]
    refine qif_df hy0 ?_
    simp only [Tryd.f156, Int.cast_ofNat_Int, go_sem]
    refine qif_df (by omega) ?_
    simp only [Tryd.f156, Int.cast_ofNat_Int, d1, d2, go_sem]
    refine qand_i hy0 ?_
    simp only [Tryd.f156, Int.cast_ofNat_Int, d1, d2, go_sem]
    refine qand_i hy0 ?_
    simp only [Tryd.f156, Int.cast_ofNat_Int, d1, d2, go_sem]
    try exact ⟨rfl, rfl⟩
    try rfl
  obtain ⟨b1, b2, b3⟩ := norm_top (y := y) (by omega) hy
  have kl := c_Lead y hy
  have hbp := bitLen_pos (x := y) (by omega)
  obtain ⟨s, hs⟩ : ∃ s, s = 64 - bitLen y := ⟨_, rfl⟩
  rw [show (64 : Int) - (bitLen y : Int) = (s : Int) by omega] at kl
  rw [← hs] at b2 b3
  have hs63 : s ≤ 63 := by omega
  have hp := Nat.two_pow_pos s
  -- the shifted numbers
  have hN : (hi * W + lo) * 2 ^ s = (hi * 2 ^ s + lo / 2 ^ (64 - s)) * W + lo * 2 ^ s % W := by
    have hW : W = 2 ^ (64 - s) * 2 ^ s := by rw [← Nat.pow_add, show 64 - s + s = 64 by omega]
    have e1 : lo * 2 ^ s % W = lo % 2 ^ (64 - s) * 2 ^ s := by rw [hW, Nat.mul_mod_mul_right]
    have e2 := Nat.div_add_mod lo (2 ^ (64 - s))
    rw [e1, Nat.add_mul, Nat.add_mul, Nat.mul_right_comm, Nat.add_assoc]
    congr 1
    conv => lhs; rw [← e2]
    rw [Nat.add_mul]
    congr 1
    rw [hW, Nat.mul_comm (2 ^ (64 - s)) (lo / _), Nat.mul_assoc]
  have hlow : lo / 2 ^ (64 - s) < 2 ^ s := by
    rw [Nat.div_lt_iff_lt_mul (Nat.two_pow_pos _), ← Nat.pow_add, show s + (64 - s) = 64 by omega]
    exact hl
  have hA : hi * 2 ^ s + lo / 2 ^ (64 - s) < y * 2 ^ s := by
    have : (hi + 1) * 2 ^ s ≤ y * 2 ^ s := Nat.mul_le_mul_right _ hh
    rw [Nat.add_mul, Nat.one_mul] at this
    omega
  have hdv := dq_shift (n := hi * W + lo) (y := y) (s := s)
  rw [hN] at hdv
  rw [← hdv.1, ← hdv.2]
  have hhi : hi * 2 ^ s < W := Nat.lt_of_le_of_lt (Nat.le_add_right _ _) (Nat.lt_trans hA b3)
  have s1 : IntKind.wrap .u64 ((y : Int) * 2 ^ (min s 64)) = ((y * 2 ^ s : Nat) : Int) := by rw [b_shl, Nat.mod_eq_of_lt b3]
  have s2 : IntKind.wrap .u64 ((hi : Int) * 2 ^ (min s 64)) = ((hi * 2 ^ s : Nat) : Int) := by rw [b_shl, Nat.mod_eq_of_lt hhi]
  have s3 : IntKind.wrap .u64 (64 - (s : Int)) = ((64 - s : Nat) : Int) := by rw [IntKind.wrap_u64]; omega
  have s4 : (lo : Int).fdiv (2 ^ (min (64 - s) 64)) = ((lo / 2 ^ (64 - s) : Nat) : Int) := b_shr hl (64 - s)
  have s5 : bits .or .u64 ((hi * 2 ^ s : Nat) : Int) ((lo / 2 ^ (64 - s) : Nat) : Int) = ((hi * 2 ^ s + lo / 2 ^ (64 - s) : Nat) : Int) := by
    rw [b_or hhi (Nat.lt_of_lt_of_le hlow (by have := Nat.pow_le_pow_right (show 0 < 2 by decide) (show s ≤ 64 by omega); exact this)), or_low hlow]
  have s6 : IntKind.wrap .u64 ((lo : Int) * 2 ^ (min s 64)) = ((lo * 2 ^ s % W : Nat) : Int) := b_shl lo s
  have hYm : lo * 2 ^ s % W < W := Nat.mod_lt _ W0
  have w8 : IntKind.wrap .u64 (s : Int) = (s : Int) := wrap_nat64 (show s < 18446744073709551616 by omega)
  generalize hi * 2 ^ s + lo / 2 ^ (64 - s) = A at *
  generalize lo * 2 ^ s % W = v at *
  generalize y * 2 ^ s = Y at *
  generalize hi * 2 ^ s = hs2 at *
  generalize lo / 2 ^ (64 - s) = ls2 at *
  have b3' : Y < 18446744073709551616 := b3
  have hYm' : v < 18446744073709551616 := hYm
  -- halves of words
  have a1 := b_shr b3 32
  have a2 : bits .and .u64 (Y : Int) 4294967295 = ((Y % 2 ^ 32 : Nat) : Int) := m_and Y 32 4294967295 b3 (by decide) (by decide)
  have a3 := b_shr hYm 32
  have a4 : bits .and .u64 (v : Int) 4294967295 = ((v % 2 ^ 32 : Nat) : Int) := m_and v 32 4294967295 hYm (by decide) (by decide)
  rw [show (2 : Nat) ^ 32 = 4294967296 by decide] at a1 a2 a3 a4
  have hYe := Nat.div_add_mod Y 4294967296
  have hve := Nat.div_add_mod v 4294967296
  have hn0 := Nat.mod_lt Y (show 4294967296 > 0 by decide)
  have hv0 := Nat.mod_lt v (show 4294967296 > 0 by decide)
  have hv1 : v / 4294967296 < 4294967296 := by omega
  have hn1 : 4294967296 ≤ 2 * (Y / 4294967296) := by omega
  have htwo := dq_two (B := 4294967296) (a := A) (v := v / 4294967296) (w := v % 4294967296) (y := Y) (by omega) hv0 hA hv1
  have hW2 : A * W + v = (A * 4294967296 + v / 4294967296) * 4294967296 + v % 4294967296 := by
    have hW0 : W = 18446744073709551616 := rfl
    have hW : W = 4294967296 * 4294967296 := by omega
    rw [hW, Nat.add_mul, Nat.mul_assoc]
    omega
  rw [hW2, htwo.1, htwo.2]
  have hYd : Y / 4294967296 * 4294967296 + Y % 4294967296 = Y := Nat.div_add_mod' Y 4294967296
  generalize hN1 : Y / 4294967296 = n1 at *
  generalize hN0 : Y % 4294967296 = n0 at *
  generalize v / 4294967296 = v1 at *
  generalize v % 4294967296 = v0 at *
  clear hN hlow hdv hW2 htwo hYe hve hs hN1 hN0
  obtain ⟨Q1, hQ1⟩ : ∃ Q, Q = (A * 4294967296 + v1) / Y := ⟨_, rfl⟩
  obtain ⟨R1, hR1⟩ : ∃ R, R = (A * 4294967296 + v1) % Y := ⟨_, rfl⟩
  obtain ⟨Q0, hQ0⟩ : ∃ Q, Q = (R1 * 4294967296 + v0) / Y := ⟨_, rfl⟩
  rw [← hQ1, ← hR1, ← hQ0]
  have hR1Y : R1 < Y := by rw [hR1]; exact Nat.mod_lt _ (by omega)
  have hd1 := Nat.div_add_mod (A * 4294967296 + v1) Y
  have hd0 := Nat.div_add_mod (R1 * 4294967296 + v0) Y
  rw [← hQ1, ← hR1] at hd1
  rw [← hQ0] at hd0
  have hR0Y : (R1 * 4294967296 + v0) % Y < Y := Nat.mod_lt _ (by omega)
  obtain ⟨R0, hR0⟩ : ∃ R, R = (R1 * 4294967296 + v0) % Y := ⟨_, rfl⟩
  rw [← hR0] at hd0 hR0Y ⊢
  obtain ⟨QQ, hQQ⟩ : ∃ Q, Q = Q1 * 4294967296 + Q0 := ⟨_, rfl⟩
  rw [← hQQ]
  obtain ⟨RR, hRR⟩ : ∃ R, R = R0 / 2 ^ s := ⟨_, rfl⟩
  rw [← hRR]
  refine PC.of_sem Tryd.func156 (by decide +kernel) rfl (Nat.le_of_ble_eq_true rfl) ?_
  refine PSem.cut follows (by kernel_rfl) 15 (fun _ : Unit => ⟨[(2, .val (.int .u64 Y)), (8, .val (.int .u64 s)), (9, .val (.int .u64 n1)), (10, .val (.int .u64 n0)), (11, .val (.int .u64 A)), (13, .val (.int .u64 v1)), (14, .val (.int .u64 v0)), (15, .val (.int .u64 Q1))], []⟩)
    (fun _ => True) ?_ (fun _ _ => ?_)
  · simp only [u] at kl ⊢
    have d1 : IntKind.wrap .u64 ((A : Int).tdiv (n1 : Int)) = ((A / n1 : Nat) : Int) := by
      rw [n_tdiv]; exact wrap_nat64 (Nat.lt_of_le_of_lt (Nat.div_le_self _ _) (show A < 18446744073709551616 by omega))
    have d2 : IntKind.wrap .u64 ((A : Int) - IntKind.wrap .u64 (((A / n1 : Nat) : Int) * (n1 : Int))) = ((A % n1 : Nat) : Int) := by
      have e := Nat.div_add_mod A n1
      have e2 : ((A / n1 : Nat) : Int) * (n1 : Int) = ((n1 * (A / n1) : Nat) : Int) := by rw [Nat.mul_comm]; simp
      rw [e2, wrap_nat64 (show _ < 18446744073709551616 by omega), IntKind.wrap_u64]
      omega
    simp only [Tryd.f156, qfirst_succ, qfirst_zero, after_succ, after_zero, Int.cast_ofNat_Int, go_sem]
    refine qif_df hy0 ?_
    simp only [Tryd.f156, qfirst_succ, qfirst_zero, after_succ, after_zero, Int.cast_ofNat_Int, go_sem]
    refine qif_df (by omega) ?_
    simp only [Tryd.f156, qfirst_succ, qfirst_zero, after_succ, after_zero, Int.cast_ofNat_Int, go_sem]
    refine qif_df (by omega) ?_
    simp only [Tryd.f156, qfirst_succ, qfirst_zero, after_succ, after_zero, Int.cast_ofNat_Int, go_sem]
    refine qcall_i (kl) ?_; simp only [Tryd.f156, qfirst_succ, qfirst_zero, after_succ, after_zero, Int.cast_ofNat_Int, w8, s1, s2, s3, s4, s5, s6, a1, a2, a3, a4, d1, d2, go_sem]
    repeat' ((with_reducible refine qand_i (by omega) ?_); simp only [Tryd.f156, qfirst_succ, qfirst_zero, after_succ, after_zero, Int.cast_ofNat_Int, w8, s1, s2, s3, s4, s5, s6, a1, a2, a3, a4, d1, d2, go_sem])
    refine PLoop.intro (fun i : Nat × Nat => ⟨[(2, .val (.int .u64 Y)), (8, .val (.int .u64 s)), (9, .val (.int .u64 n1)), (10, .val (.int .u64 n0)), (11, .val (.int .u64 A)), (13, .val (.int .u64 v1)), (14, .val (.int .u64 v0)), (15, .val (.int .u64 i.1)), (16, .val (.int .u64 i.2))], []⟩)
      (fun i => i.1 * n1 + i.2 = A ∧ Q1 ≤ i.1 ∧ i.1 ≤ 4294967297 ∧ i.2 < 4294967296) (fun i => i.1) (A / n1, A % n1) ⟨Nat.div_add_mod' A n1, by rw [hQ1, ← hYd]; exact dq_first (by omega) hv1, dq_up hn1 hn0 (by omega), by have := Nat.mod_lt A (show n1 > 0 by omega); dsimp only; omega⟩ ?_ fun i hi => walk ?_
    · simp [Wk, sget, killL, kill1, SV.key]
    obtain ⟨q, r⟩ := i
    obtain ⟨j1, j2, j3, j4⟩ := hi
    dsimp only at j1 j2 j3 j4 ⊢
    have hQ1' : Q1 = (A * 4294967296 + v1) / (n1 * 4294967296 + n0) := by rw [hYd]; exact hQ1
    have hAy : A < n1 * 4294967296 + n0 := by omega
    have wq : q < 4294967296 → IntKind.wrap .u64 ((q : Int) * (n0 : Int)) = ((q * n0 : Nat) : Int) := fun h => by
      rw [← Int.natCast_mul]
      refine wrap_nat64 ?_
      have : q * n0 ≤ 4294967295 * 4294967295 := Nat.mul_le_mul (by omega) (by omega)
      show q * n0 < 18446744073709551616
      omega
    have wr : IntKind.wrap .u64 (4294967296 * (r : Int)) = ((4294967296 * r : Nat) : Int) := by rw [IntKind.wrap_u64]; omega
    have wa : IntKind.wrap .u64 (((4294967296 * r : Nat) : Int) + (v1 : Int)) = ((4294967296 * r + v1 : Nat) : Int) := by rw [IntKind.wrap_u64]; omega
    have wd : 0 < q → IntKind.wrap .u64 ((q : Int) - 1) = ((q - 1 : Nat) : Int) := fun h => by rw [IntKind.wrap_u64]; omega
    have we : IntKind.wrap .u64 ((r : Int) + (n1 : Int)) = ((r + n1 : Nat) : Int) := by rw [IntKind.wrap_u64]; omega
    have hdone : q * n0 ≤ 4294967296 * r + v1 → Q1 = q := fun h => by rw [hQ1']; exact dq_done j1 (by rw [← hQ1']; exact j2) (by omega) h
    have hkeep : 4294967296 ≤ q ∨ 4294967296 * r + v1 < q * n0 → Q1 ≤ q - 1 ∧ 0 < q ∧ (q - 1) * n1 + (r + n1) = A := fun h => by
      have := dq_keep hn0 hv1 j1 (by rw [← hQ1']; exact j2) hAy h
      rwa [← hQ1'] at this
    have hlast : (4294967296 ≤ q ∨ 4294967296 * r + v1 < q * n0) → 4294967296 ≤ r + n1 → Q1 = q - 1 := fun h h2 => by
      obtain ⟨g1, g2, g3⟩ := hkeep h
      rw [hQ1']
      refine dq_done g3 (by rw [← hQ1']; exact g1) (by omega) ?_
      have m1 : (q - 1) * n0 ≤ 4294967296 * n0 := Nat.mul_le_mul_right _ (by omega)
      have m2 : 4294967296 * n0 ≤ 4294967296 * (r + n1) := Nat.mul_le_mul_left _ (by omega)
      omega
    have hgo : (4294967296 ≤ q ∨ 4294967296 * r + v1 < q * n0) → ∃ i : Nat × Nat, (i.1 * n1 + i.2 = A ∧ Q1 ≤ i.1 ∧ i.1 ≤ 4294967297) ∧ i = (q - 1, r + n1) ∧ i.1 < q := fun h => by
      obtain ⟨g1, g2, g3⟩ := hkeep h
      exact ⟨_, ⟨g3, g1, by dsimp only; omega⟩, rfl, by dsimp only; omega⟩
    by_cases h1 : 4294967296 ≤ q
    · obtain ⟨-, g2, -⟩ := hkeep (.inl h1)
      have wd := wd g2
      simp only [Tryd.f156, go_sem]
      refine qif_dt (by omega) ?_
      simp only [Tryd.f156, wd, we, go_sem]
      refine qif_d (fun h3 => ?_) (fun h3 => ?_)
      · have := hlast (.inl h1) (by omega)
        simp only [Tryd.f156, go_sem]
        refine ⟨(), ?_⟩
        simp [Wk, sget, killL, kill1, SV.key, this]
      · obtain ⟨_, ⟨f1, f2, f3⟩, rfl, f4⟩ := hgo (.inl h1)
        simp only [Tryd.f156, go_sem]
        refine ⟨(q - 1, r + n1), ⟨f1, f2, f3, by dsimp only; omega⟩, f4, ?_⟩
        simp [Wk, sget, killL, kill1, SV.key]
    have wq := wq (by omega)
    simp only [Tryd.f156, go_sem]
    refine qif_df (by omega) ?_
    simp only [Tryd.f156, wq, wr, wa, go_sem]
    refine qif_d (fun h2 => ?_) (fun h2 => ?_)
    · have h2' : 4294967296 * r + v1 < q * n0 := by omega
      obtain ⟨-, g2, -⟩ := hkeep (.inr h2')
      have wd := wd g2
      simp only [Tryd.f156, wd, we, go_sem]
      refine qif_d (fun h3 => ?_) (fun h3 => ?_)
      · have := hlast (.inr h2') (by omega)
        simp only [Tryd.f156, go_sem]
        refine ⟨(), ?_⟩
        simp [Wk, sget, killL, kill1, SV.key, this]
      · obtain ⟨_, ⟨f1, f2, f3⟩, rfl, f4⟩ := hgo (.inr h2')
        simp only [Tryd.f156, go_sem]
        refine ⟨(q - 1, r + n1), ⟨f1, f2, f3, by dsimp only; omega⟩, f4, ?_⟩
        simp [Wk, sget, killL, kill1, SV.key]
    · have := hdone (by omega)
      simp only [Tryd.f156, go_sem]
      refine ⟨(), ?_⟩
      simp [Wk, sget, killL, kill1, SV.key, this]
  have hAv : (A : Int) * 4294967296 + v1 - (Q1 : Int) * Y = R1 := by
    have : ((Y * Q1 + R1 : Nat) : Int) = ((A * 4294967296 + v1 : Nat) : Int) := by rw [hd1]
    simp only [Int.natCast_add, Int.natCast_mul] at this
    rw [Int.mul_comm (Y : Int)] at this
    have e : ((4294967296 : Nat) : Int) = 4294967296 := rfl
    rw [e] at this
    omega
  have w17 : IntKind.wrap .u64 (IntKind.wrap .u64 (IntKind.wrap .u64 ((A : Int) * 4294967296) + (v1 : Int)) - IntKind.wrap .u64 ((Q1 : Int) * (Y : Int))) = (R1 : Int) := by
    rw [IntKind.wrap_u64, IntKind.wrap_u64, IntKind.wrap_u64, IntKind.wrap_u64]
    generalize (Q1 : Int) * (Y : Int) = QY at *
    omega
  refine PSem.cut follows (by kernel_rfl) 4 (fun _ : Unit => ⟨[(2, .val (.int .u64 Y)), (8, .val (.int .u64 s)), (14, .val (.int .u64 v0)), (15, .val (.int .u64 Q1)), (17, .val (.int .u64 R1)), (18, .val (.int .u64 Q0))], []⟩)
    (fun _ => True) ?_ (fun _ _ => ?_)
  · have d1 : IntKind.wrap .u64 ((R1 : Int).tdiv (n1 : Int)) = ((R1 / n1 : Nat) : Int) := by
      rw [n_tdiv]; exact wrap_nat64 (Nat.lt_of_le_of_lt (Nat.div_le_self _ _) (show R1 < 18446744073709551616 by omega))
    have d2 : IntKind.wrap .u64 ((R1 : Int) - IntKind.wrap .u64 (((R1 / n1 : Nat) : Int) * (n1 : Int))) = ((R1 % n1 : Nat) : Int) := by
      have e := Nat.div_add_mod R1 n1
      have e2 : ((R1 / n1 : Nat) : Int) * (n1 : Int) = ((n1 * (R1 / n1) : Nat) : Int) := by rw [Nat.mul_comm]; simp
      rw [e2, wrap_nat64 (show _ < 18446744073709551616 by omega), IntKind.wrap_u64]
      omega
    simp only [Tryd.f156, after_succ, after_zero, qfirst_succ, qfirst_zero, after_succ, after_zero, Int.cast_ofNat_Int, w17, d1, d2, go_sem]
    repeat' ((with_reducible refine qand_i (by omega) ?_); simp only [Tryd.f156, qfirst_succ, qfirst_zero, after_succ, after_zero, Int.cast_ofNat_Int, w17, d1, d2, go_sem])
    refine PLoop.intro (fun i : Nat × Nat => ⟨[(2, .val (.int .u64 Y)), (8, .val (.int .u64 s)), (9, .val (.int .u64 n1)), (10, .val (.int .u64 n0)), (14, .val (.int .u64 v0)), (15, .val (.int .u64 Q1)), (16, .val (.int .u64 i.2)), (17, .val (.int .u64 R1)), (18, .val (.int .u64 i.1))], []⟩)
      (fun i => i.1 * n1 + i.2 = R1 ∧ Q0 ≤ i.1 ∧ i.1 ≤ 4294967297 ∧ i.2 < 4294967296) (fun i => i.1) (R1 / n1, R1 % n1) ⟨Nat.div_add_mod' R1 n1, by rw [hQ0, ← hYd]; exact dq_first (by omega) hv0, dq_up hn1 hn0 (by omega), by have := Nat.mod_lt R1 (show n1 > 0 by omega); dsimp only; omega⟩ ?_ fun i hi => walk ?_
    · simp [Wk, sget, killL, kill1, SV.key]
    obtain ⟨q, r⟩ := i
    obtain ⟨j1, j2, j3, j4⟩ := hi
    dsimp only at j1 j2 j3 j4 ⊢
    have hQ0' : Q0 = (R1 * 4294967296 + v0) / (n1 * 4294967296 + n0) := by rw [hYd]; exact hQ0
    have hRy : R1 < n1 * 4294967296 + n0 := by omega
    have wq : q < 4294967296 → IntKind.wrap .u64 ((q : Int) * (n0 : Int)) = ((q * n0 : Nat) : Int) := fun h => by
      rw [← Int.natCast_mul]
      refine wrap_nat64 ?_
      have : q * n0 ≤ 4294967295 * 4294967295 := Nat.mul_le_mul (by omega) (by omega)
      show q * n0 < 18446744073709551616
      omega
    have wr : IntKind.wrap .u64 (4294967296 * (r : Int)) = ((4294967296 * r : Nat) : Int) := by rw [IntKind.wrap_u64]; omega
    have wa : IntKind.wrap .u64 (((4294967296 * r : Nat) : Int) + (v0 : Int)) = ((4294967296 * r + v0 : Nat) : Int) := by rw [IntKind.wrap_u64]; omega
    have wd : 0 < q → IntKind.wrap .u64 ((q : Int) - 1) = ((q - 1 : Nat) : Int) := fun h => by rw [IntKind.wrap_u64]; omega
    have we : IntKind.wrap .u64 ((r : Int) + (n1 : Int)) = ((r + n1 : Nat) : Int) := by rw [IntKind.wrap_u64]; omega
    have hdone : q * n0 ≤ 4294967296 * r + v0 → Q0 = q := fun h => by rw [hQ0']; exact dq_done j1 (by rw [← hQ0']; exact j2) (by omega) h
    have hkeep : 4294967296 ≤ q ∨ 4294967296 * r + v0 < q * n0 → Q0 ≤ q - 1 ∧ 0 < q ∧ (q - 1) * n1 + (r + n1) = R1 := fun h => by
      have := dq_keep hn0 hv0 j1 (by rw [← hQ0']; exact j2) hRy h
      rwa [← hQ0'] at this
    have hlast : (4294967296 ≤ q ∨ 4294967296 * r + v0 < q * n0) → 4294967296 ≤ r + n1 → Q0 = q - 1 := fun h h2 => by
      obtain ⟨g1, g2, g3⟩ := hkeep h
      rw [hQ0']
      refine dq_done g3 (by rw [← hQ0']; exact g1) (by omega) ?_
      have m1 : (q - 1) * n0 ≤ 4294967296 * n0 := Nat.mul_le_mul_right _ (by omega)
      have m2 : 4294967296 * n0 ≤ 4294967296 * (r + n1) := Nat.mul_le_mul_left _ (by omega)
      omega
    have hgo : (4294967296 ≤ q ∨ 4294967296 * r + v0 < q * n0) → ∃ i : Nat × Nat, (i.1 * n1 + i.2 = R1 ∧ Q0 ≤ i.1 ∧ i.1 ≤ 4294967297) ∧ i = (q - 1, r + n1) ∧ i.1 < q := fun h => by
      obtain ⟨g1, g2, g3⟩ := hkeep h
      exact ⟨_, ⟨g3, g1, by dsimp only; omega⟩, rfl, by dsimp only; omega⟩
    by_cases h1 : 4294967296 ≤ q
    · obtain ⟨-, g2, -⟩ := hkeep (.inl h1)
      have wd := wd g2
      simp only [Tryd.f156, go_sem]
      refine qif_dt (by omega) ?_
      simp only [Tryd.f156, wd, we, go_sem]
      refine qif_d (fun h3 => ?_) (fun h3 => ?_)
      · have := hlast (.inl h1) (by omega)
        simp only [Tryd.f156, go_sem]
        refine ⟨(), ?_⟩
        simp [Wk, sget, killL, kill1, SV.key, this]
      · obtain ⟨_, ⟨f1, f2, f3⟩, rfl, f4⟩ := hgo (.inl h1)
        simp only [Tryd.f156, go_sem]
        refine ⟨(q - 1, r + n1), ⟨f1, f2, f3, by dsimp only; omega⟩, f4, ?_⟩
        simp [Wk, sget, killL, kill1, SV.key]
    have wq := wq (by omega)
    simp only [Tryd.f156, go_sem]
    refine qif_df (by omega) ?_
    simp only [Tryd.f156, wq, wr, wa, go_sem]
    refine qif_d (fun h2 => ?_) (fun h2 => ?_)
    · have h2' : 4294967296 * r + v0 < q * n0 := by omega
      obtain ⟨-, g2, -⟩ := hkeep (.inr h2')
      have wd := wd g2
      simp only [Tryd.f156, wd, we, go_sem]
      refine qif_d (fun h3 => ?_) (fun h3 => ?_)
      · have := hlast (.inr h2') (by omega)
        simp only [Tryd.f156, go_sem]
        refine ⟨(), ?_⟩
        simp [Wk, sget, killL, kill1, SV.key, this]
      · obtain ⟨_, ⟨f1, f2, f3⟩, rfl, f4⟩ := hgo (.inr h2')
        simp only [Tryd.f156, go_sem]
        refine ⟨(q - 1, r + n1), ⟨f1, f2, f3, by dsimp only; omega⟩, f4, ?_⟩
        simp [Wk, sget, killL, kill1, SV.key]
    · have := hdone (by omega)
      simp only [Tryd.f156, go_sem]
      refine ⟨(), ?_⟩
      simp [Wk, sget, killL, kill1, SV.key, this]
  have hRv : (R1 : Int) * 4294967296 + v0 - (Q0 : Int) * Y = R0 := by
    have : ((Y * Q0 + R0 : Nat) : Int) = ((R1 * 4294967296 + v0 : Nat) : Int) := by rw [hd0]
    simp only [Int.natCast_add, Int.natCast_mul] at this
    rw [Int.mul_comm (Y : Int)] at this
    have e : ((4294967296 : Nat) : Int) = 4294967296 := rfl
    rw [e] at this
    omega
  have x1 : IntKind.wrap .u64 (IntKind.wrap .u64 (IntKind.wrap .u64 ((R1 : Int) * 4294967296) + (v0 : Int)) - IntKind.wrap .u64 ((Q0 : Int) * (Y : Int))) = (R0 : Int) := by
    rw [IntKind.wrap_u64, IntKind.wrap_u64, IntKind.wrap_u64, IntKind.wrap_u64]
    generalize (Q0 : Int) * (Y : Int) = QY at *
    omega
  have q1B : Q1 < 4294967296 := by
    rw [hQ1, Nat.div_lt_iff_lt_mul (by omega)]
    have : (A + 1) * 4294967296 ≤ Y * 4294967296 := Nat.mul_le_mul_right _ hA
    rw [Nat.mul_comm 4294967296 Y]
    omega
  have q0B : Q0 < 4294967296 := by
    rw [hQ0, Nat.div_lt_iff_lt_mul (by omega)]
    have : (R1 + 1) * 4294967296 ≤ Y * 4294967296 := Nat.mul_le_mul_right _ hR1Y
    rw [Nat.mul_comm 4294967296 Y]
    omega
  have x2 : IntKind.wrap .u64 (IntKind.wrap .u64 ((Q1 : Int) * 4294967296) + (Q0 : Int)) = (QQ : Int) := by
    rw [IntKind.wrap_u64, IntKind.wrap_u64]; omega
  have x3 : (R0 : Int).fdiv (2 ^ (min s 64)) = (RR : Int) := by rw [hRR]; exact b_shr (show R0 < 18446744073709551616 by omega) s
  refine PSem.last follows (by kernel_rfl) ?_
  simp only [Tryd.f156, after_succ, after_zero, x1, x2, x3, go_sem]
  repeat' ((with_reducible refine qand_i (by omega) ?_); simp only [Tryd.f156, x1, x2, x3, go_sem])
  try exact ⟨rfl, rfl⟩
  try rfl
end Go.Proofs.YtejmlngnpekagaaDoor
