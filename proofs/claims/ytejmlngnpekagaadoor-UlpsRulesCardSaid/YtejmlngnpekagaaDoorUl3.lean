/- How far a number is from a dyad, and within so many halves: ulps.Off, ulps.Within, the reference's halves. -/
import Derived.Test.YtejmlngnpekagaaDoorUl2
open Go PG Go.Proofs
set_option maxRecDepth 100000
set_option linter.unusedSimpArgs false
set_option linter.unusedVariables false
namespace Go.Proofs.YtejmlngnpekagaaDoor
attribute [local go_sem] Lay2 Lay3 Lay4 Lay5 Lay6 Lay7 Lay8 Lay9 Lay10 Lay11 Lay12 Lay13 Lay14 Lay15 Lay16 Lay17 Lay18 Lay19 Lay21 Lay22 Lay23 Lay24 Lay25 Lay30 Lay33 Lay36 Lay37 Lay46 Lay47 Lay48 Lay53 Lay54 Lay55 Lay59 Lay100 Lay101 Lay127 Lay146 Lay162 Lay168 Lay169 Lay173 qexec_seq qexec_skip qexec_exit qexec_ret qexec_block qexec_loop qexec_range qexec_cond qexec_region qexec_drawn qops_nil qops_none qops_some put_some put_none pblk_exit pblk_other newDsts_nil sget_cons sget_nil qval_some qbool_some qgs_bool qgs_und qfree_some qgrd_true qgrd_false qif_true qif_false qval_ite qval_itn qand_true map_ite map_some' map_none' qdo_move qdo_assign qdo_binOp qdo_pick qdo_unOp qdo_convert qdo_extract qdo_field qdo_fieldAddr qdo_alloc qdo_box qdo_build qdo_buildSlice qdo_load qdo_store qdo_nilCheck qdo_makeFunc qdo_makeSlice qdo_slice qdo_indexAddr qdo_call qcont_val qcont_new qcont_st qcont_app0 qcont_app qcont_inl qcont_call njSV_val njSV_nil njSV_row njSV_ptr njSV_sub binV_val binV_nil binV_nn binV_ptr bin_np bin_nnp nilCmp bin_add bin_sub bin_mul bin_quo bin_rem bin_and bin_or bin_xor bin_andNot bin_eql bin_neq bin_lss bin_leq bin_gtr bin_geq bin_shl bin_shr bin_seql bin_sneq bin_sadd bin_beql bin_aeql bin_aneq eqAnd_some eqCells_nil eqCells_cons fieldTypes isStruct eqCell bin_bneq un_not un_neg nj_ite Nat.beq stepA stepR isNew opSV constSV RV.sv allSome E_mu E_own qkeyIn_none qkeyIn_some qkeyAt_none qkeyAt_some Bool.or_false Bool.false_or Bool.or_true Bool.true_or cst setB res resSV pstart startL killL kill1 eraL frzL svPV rvPV rvInt rvSlice frzOf close closeL pconv pbuiltin pmax2 partPV setCells fillPV zrow bound newSV PV.cells Bk.cells Bk.with SV.key pres presL_nil presL_tmp presL_cell presC2_some cellPV_ptr presC List.toList_toArray List.size_toArray List.getElem?_drop Nat.mul_one Int.toNat_natCast Nat.not_lt_zero Nat.lt_irrefl decide_true decide_false Nat.not_lt Option.some.injEq PV.lst.injEq PV.int.injEq PV.bool.injEq PV.tuple.injEq List.cons.injEq Option.map_some Option.map_none Option.bind_some Option.toList List.map_cons List.map_nil List.nil_append List.cons_append List.append_nil List.zip_cons_cons List.zip_nil_left List.zip_nil_right List.getElem?_cons_zero List.getElem?_cons_succ List.drop_zero List.drop_succ_cons List.take_succ_cons List.take_zero List.set_cons_zero List.set_cons_succ List.length_cons List.length_nil List.length_set List.replicate_one List.replicate_zero bne_self_eq_false beq_self_eq_true Nat.zero_add Nat.add_zero Nat.zero_mul Bool.false_eq_true Bool.true_eq_false Bool.not_true Bool.not_false and_true true_and false_and and_false or_false false_or or_true true_or not_true_eq_false not_false_eq_true ne_eq gt_iff_lt List.mem_cons List.not_mem_nil
attribute [local go_sem ↓] pseq_normal pseq_ret pseq_exit pblk_normal pblk_ret newDsts_cons gdst_zero gdst_succ retQ_normal retQ_ret qneed_nil qneed_cons retM_normal retM_ret endR_normal endR_ret endR_exit

theorem bitLen17 {k : Nat} (h : k ≤ 65536) : bitLen k ≤ 17 := (bitLen_le _ _).2 (by show k < 131072; omega)
theorem hv_term {p : Dy} {K : Nat} (hp : LimN K p) (hs : p.s = false) {i : Nat} (hi : i ≤ 17) : LimN (K + 40) ⟨false, p.m, p.e + i⟩ := by
  have he := hp.2.2
  refine ⟨.inr (by show _ ≤ p.e + (i : Int); omega), ?_, by show _ ≤ p.e + (i : Int); omega, by show p.e + (i : Int) ≤ _; omega⟩
  rw [(hv_step hs i).resolve_right (by omega), Int.natAbs_mul, Int.natAbs_natCast]
  have h5 : (p.at (-((K + 40 : Nat) : Int))).natAbs < 2 ^ (2 * K + 40) := by
    have hQ := Nat.two_pow_pos 40
    rw [at_shift' (d := p) (k' := -(K : Int)) (by omega) hp.1, Int.natAbs_mul, Int.natAbs_natCast, show (-(K : Int) - -((K + 40 : Nat) : Int)).toNat = 40 by omega, Nat.pow_add]
    generalize 2 ^ 40 = Q at *
    exact Nat.mul_lt_mul_of_pos_right hp.2.1 hQ
  have h6 : 2 ^ i < 2 ^ 40 := Nat.pow_lt_pow_right (by decide) (by omega)
  rw [show 2 * (K + 40) = 2 * K + 40 + 40 by omega, Nat.pow_add 2 (2 * K + 40) 40]
  generalize 2 ^ (2 * K + 40) = R at *
  generalize 2 ^ 40 = Q at *
  exact Nat.mul_lt_mul'' h5 h6
/-- How far off, with an error's number. -/
def offV (b : Nat) (d : Dy) : PV := if fe b < 2047 ∧ d.fits then (if addE (fd b) d.neg then .tuple [(addS (fd b) d.neg).abs.pv, .int .i64 0] else .tuple [Dy.zero.pv, .int .i64 2]) else .tuple [Dy.zero.pv, .int .i64 1]
theorem c_Off {b : Nat} (hb : b < W) {p : PV} {d : Dy} (h : RD p d) : PC E 49 [u b, p] (offV b d) := by
  have k1 := r_FDyad hb
  have k2 := r_Bare h
  obtain ⟨r, hr, hrf, k3⟩ := r_Minus h
  have k4 := r_Add (RD.fd b) hr
  obtain ⟨s1, P, x1, e1, rfl, -⟩ := h
  unfold okD at k2
  unfold addV at k4
  unfold offV
  refine PC.of_body follows Tryd.func49 (by decide +kernel) rfl (by kernel_rfl) (Nat.le_of_ble_eq_true rfl) (walk ?_)
  simp only [u, DP]
  by_cases h1 : fe b < 2047
  case neg =>
    rw [if_neg h1, decide_eq_false h1] at k1
    rw [if_neg (fun h => h1 h.1)]
    obtain ⟨S1, S2, S3, S4, S5, hS⟩ := okD_ex d
    unfold okD at hS
    rw [hS] at k2
    simp only [u, Dy.pv, DP] at k1 k2
    simp only [Tryd.f49, go_sem, Int.reduceToNat, Int.reduceEq, Int.reduceNe, Int.reduceLT, Int.reduceLE, Int.reduceNeg, Int.reduceAdd, ↓reduceIte, ↓reduceCtorEq, Nat.reduceEqDiff, Nat.reduceAdd, Nat.reduceSub, Nat.reduceMul, Nat.reduceLeDiff, Nat.reduceLT]
    refine qcall_i (k1) ?_; simp only [Tryd.f49, go_sem, Int.reduceToNat, Int.reduceEq, Int.reduceNe, Int.reduceLT, Int.reduceLE, Int.reduceNeg, Int.reduceAdd, ↓reduceIte, ↓reduceCtorEq, Nat.reduceEqDiff, Nat.reduceAdd, Nat.reduceSub, Nat.reduceMul, Nat.reduceLeDiff, Nat.reduceLT]
    refine qcall_i (k2) ?_; simp only [Tryd.f49, go_sem, Int.reduceToNat, Int.reduceEq, Int.reduceNe, Int.reduceLT, Int.reduceLE, Int.reduceNeg, Int.reduceAdd, ↓reduceIte, ↓reduceCtorEq, Nat.reduceEqDiff, Nat.reduceAdd, Nat.reduceSub, Nat.reduceMul, Nat.reduceLeDiff, Nat.reduceLT]
    try rfl
  rw [if_pos h1, decide_eq_true h1] at k1
  by_cases h2 : d.fits
  case neg =>
    rw [if_neg h2] at k2
    rw [if_neg (fun h => h2 h.2)]
    simp only [u, Dy.pv, DP] at k1 k2
    simp only [Tryd.f49, go_sem, Int.reduceToNat, Int.reduceEq, Int.reduceNe, Int.reduceLT, Int.reduceLE, Int.reduceNeg, Int.reduceAdd, ↓reduceIte, ↓reduceCtorEq, Nat.reduceEqDiff, Nat.reduceAdd, Nat.reduceSub, Nat.reduceMul, Nat.reduceLeDiff, Nat.reduceLT]
    refine qcall_i (k1) ?_; simp only [Tryd.f49, go_sem, Int.reduceToNat, Int.reduceEq, Int.reduceNe, Int.reduceLT, Int.reduceLE, Int.reduceNeg, Int.reduceAdd, ↓reduceIte, ↓reduceCtorEq, Nat.reduceEqDiff, Nat.reduceAdd, Nat.reduceSub, Nat.reduceMul, Nat.reduceLeDiff, Nat.reduceLT]
    refine qcall_i (k2) ?_; simp only [Tryd.f49, go_sem, Int.reduceToNat, Int.reduceEq, Int.reduceNe, Int.reduceLT, Int.reduceLE, Int.reduceNeg, Int.reduceAdd, ↓reduceIte, ↓reduceCtorEq, Nat.reduceEqDiff, Nat.reduceAdd, Nat.reduceSub, Nat.reduceMul, Nat.reduceLeDiff, Nat.reduceLT]
    try rfl
  rw [if_pos h2] at k2
  rw [if_pos ⟨h1, h2⟩]
  rw [hrf h2] at k3 k4
  by_cases h3 : addE (fd b) d.neg
  · rw [if_pos h3] at k4
    rw [if_pos h3]
    generalize addS (fd b) d.neg = s at *
    simp only [u, Dy.pv, DP, Dy.abs] at k1 k2 k3 k4 ⊢
    simp only [Tryd.f49, go_sem, Int.reduceToNat, Int.reduceEq, Int.reduceNe, Int.reduceLT, Int.reduceLE, Int.reduceNeg, Int.reduceAdd, ↓reduceIte, ↓reduceCtorEq, Nat.reduceEqDiff, Nat.reduceAdd, Nat.reduceSub, Nat.reduceMul, Nat.reduceLeDiff, Nat.reduceLT]
    refine qcall_i (k1) ?_; simp only [Tryd.f49, go_sem, Int.reduceToNat, Int.reduceEq, Int.reduceNe, Int.reduceLT, Int.reduceLE, Int.reduceNeg, Int.reduceAdd, ↓reduceIte, ↓reduceCtorEq, Nat.reduceEqDiff, Nat.reduceAdd, Nat.reduceSub, Nat.reduceMul, Nat.reduceLeDiff, Nat.reduceLT]
    refine qcall_i (k2) ?_; simp only [Tryd.f49, go_sem, Int.reduceToNat, Int.reduceEq, Int.reduceNe, Int.reduceLT, Int.reduceLE, Int.reduceNeg, Int.reduceAdd, ↓reduceIte, ↓reduceCtorEq, Nat.reduceEqDiff, Nat.reduceAdd, Nat.reduceSub, Nat.reduceMul, Nat.reduceLeDiff, Nat.reduceLT]
    refine qcall_i (k3) ?_; simp only [Tryd.f49, go_sem, Int.reduceToNat, Int.reduceEq, Int.reduceNe, Int.reduceLT, Int.reduceLE, Int.reduceNeg, Int.reduceAdd, ↓reduceIte, ↓reduceCtorEq, Nat.reduceEqDiff, Nat.reduceAdd, Nat.reduceSub, Nat.reduceMul, Nat.reduceLeDiff, Nat.reduceLT]
    refine qcall_i (k4) ?_; simp only [Tryd.f49, go_sem, Int.reduceToNat, Int.reduceEq, Int.reduceNe, Int.reduceLT, Int.reduceLE, Int.reduceNeg, Int.reduceAdd, ↓reduceIte, ↓reduceCtorEq, Nat.reduceEqDiff, Nat.reduceAdd, Nat.reduceSub, Nat.reduceMul, Nat.reduceLeDiff, Nat.reduceLT]
    try rfl
  · rw [if_neg h3] at k4
    rw [if_neg h3]
    simp only [u, Dy.pv, DP] at k1 k2 k3 k4
    simp only [Tryd.f49, go_sem, Int.reduceToNat, Int.reduceEq, Int.reduceNe, Int.reduceLT, Int.reduceLE, Int.reduceNeg, Int.reduceAdd, ↓reduceIte, ↓reduceCtorEq, Nat.reduceEqDiff, Nat.reduceAdd, Nat.reduceSub, Nat.reduceMul, Nat.reduceLeDiff, Nat.reduceLT]
    refine qcall_i (k1) ?_; simp only [Tryd.f49, go_sem, Int.reduceToNat, Int.reduceEq, Int.reduceNe, Int.reduceLT, Int.reduceLE, Int.reduceNeg, Int.reduceAdd, ↓reduceIte, ↓reduceCtorEq, Nat.reduceEqDiff, Nat.reduceAdd, Nat.reduceSub, Nat.reduceMul, Nat.reduceLeDiff, Nat.reduceLT]
    refine qcall_i (k2) ?_; simp only [Tryd.f49, go_sem, Int.reduceToNat, Int.reduceEq, Int.reduceNe, Int.reduceLT, Int.reduceLE, Int.reduceNeg, Int.reduceAdd, ↓reduceIte, ↓reduceCtorEq, Nat.reduceEqDiff, Nat.reduceAdd, Nat.reduceSub, Nat.reduceMul, Nat.reduceLeDiff, Nat.reduceLT]
    refine qcall_i (k3) ?_; simp only [Tryd.f49, go_sem, Int.reduceToNat, Int.reduceEq, Int.reduceNe, Int.reduceLT, Int.reduceLE, Int.reduceNeg, Int.reduceAdd, ↓reduceIte, ↓reduceCtorEq, Nat.reduceEqDiff, Nat.reduceAdd, Nat.reduceSub, Nat.reduceMul, Nat.reduceLeDiff, Nat.reduceLT]
    refine qcall_i (k4) ?_; simp only [Tryd.f49, go_sem, Int.reduceToNat, Int.reduceEq, Int.reduceNe, Int.reduceLT, Int.reduceLE, Int.reduceNeg, Int.reduceAdd, ↓reduceIte, ↓reduceCtorEq, Nat.reduceEqDiff, Nat.reduceAdd, Nat.reduceSub, Nat.reduceMul, Nat.reduceLeDiff, Nat.reduceLT]
    try rfl
/-- So many halves of the step. -/
def bndD (b : Nat) (z : Int) : Dy := (mulS (ulpS b) (norm z 0)).sc (-1)
theorem bnd_lim (b : Nat) {z : Int} (hz : 0 ≤ z ∧ z ≤ 65536) : Lim 20 (norm z 0) ∧ Lim 1174 (mulS (ulpS b) (norm z 0)) ∧ Lim 1175 (bndD b z) := by
  have h1 : Lim 20 (norm z 0) := Lim.norm (by show z.natAbs < 1048576; omega) (by decide)
  have h2 : Lim 1174 (mulS (ulpS b) (norm z 0)) := (ulpS_lim b).mul h1
  exact ⟨h1, h2, h2.sc (J := 1) (by decide)⟩
def withV (b : Nat) (d : Dy) (z : Int) : PV := if z < 0 ∨ 65536 < z then .tuple [.bool false, .int .i64 1] else
  if fe b < 2047 ∧ d.fits then (if addE (fd b) d.neg then .tuple [.bool (decide (cmpD (addS (fd b) d.neg).abs (bndD b z) ≤ 0)), .int .i64 0] else .tuple [.bool false, .int .i64 2]) else .tuple [.bool false, .int .i64 1]
theorem c_Within {b : Nat} (hb : b < W) {p : PV} {d : Dy} (h : RD p d) (hd : bitLen d.m ≤ 900000) {z : Int} (hz : -9223372036854775808 ≤ z ∧ z < 9223372036854775808) : PC E 14 [u b, p, .int .i64 z] (withV b d z) := by
  have k1 := c_Off hb h
  have k2 := c_Ulp b hb
  have hok := h.ok
  obtain ⟨s1, P, x1, e1, rfl, -⟩ := h
  unfold withV
  unfold offV at k1
  refine PC.of_body follows Tryd.func14 (by decide +kernel) rfl (by kernel_rfl) (Nat.le_of_ble_eq_true rfl) (walk ?_)
  simp only [u, DP] at k1 k2 ⊢
  by_cases h0 : z < 0
  · rw [if_pos (.inl h0)]
    simp only [Tryd.f14, go_sem, Int.reduceToNat, Int.reduceEq, Int.reduceNe, Int.reduceLT, Int.reduceLE, Int.reduceNeg, Int.reduceAdd, ↓reduceIte, ↓reduceCtorEq, Nat.reduceEqDiff, Nat.reduceAdd, Nat.reduceSub, Nat.reduceMul, Nat.reduceLeDiff, Nat.reduceLT]
    refine qif_dt h0 ?_
    simp only [Tryd.f14, go_sem, Int.reduceToNat, Int.reduceEq, Int.reduceNe, Int.reduceLT, Int.reduceLE, Int.reduceNeg, Int.reduceAdd, ↓reduceIte, ↓reduceCtorEq, Nat.reduceEqDiff, Nat.reduceAdd, Nat.reduceSub, Nat.reduceMul, Nat.reduceLeDiff, Nat.reduceLT]
    try rfl
  by_cases h1 : 65536 < z
  · rw [if_pos (.inr h1)]
    simp only [Tryd.f14, go_sem, Int.reduceToNat, Int.reduceEq, Int.reduceNe, Int.reduceLT, Int.reduceLE, Int.reduceNeg, Int.reduceAdd, ↓reduceIte, ↓reduceCtorEq, Nat.reduceEqDiff, Nat.reduceAdd, Nat.reduceSub, Nat.reduceMul, Nat.reduceLeDiff, Nat.reduceLT]
    refine qif_df h0 ?_
    simp only [Tryd.f14, go_sem, Int.reduceToNat, Int.reduceEq, Int.reduceNe, Int.reduceLT, Int.reduceLE, Int.reduceNeg, Int.reduceAdd, ↓reduceIte, ↓reduceCtorEq, Nat.reduceEqDiff, Nat.reduceAdd, Nat.reduceSub, Nat.reduceMul, Nat.reduceLeDiff, Nat.reduceLT]
    refine qif_dt h1 ?_
    simp only [Tryd.f14, go_sem, Int.reduceToNat, Int.reduceEq, Int.reduceNe, Int.reduceLT, Int.reduceLE, Int.reduceNeg, Int.reduceAdd, ↓reduceIte, ↓reduceCtorEq, Nat.reduceEqDiff, Nat.reduceAdd, Nat.reduceSub, Nat.reduceMul, Nat.reduceLeDiff, Nat.reduceLT]
    try rfl
  rw [if_neg (by omega)]
  by_cases h2 : fe b < 2047 ∧ d.fits
  case neg =>
    rw [if_neg h2] at k1 ⊢
    simp only [Dy.pv, DP] at k1
    simp only [Tryd.f14, go_sem, Int.reduceToNat, Int.reduceEq, Int.reduceNe, Int.reduceLT, Int.reduceLE, Int.reduceNeg, Int.reduceAdd, ↓reduceIte, ↓reduceCtorEq, Nat.reduceEqDiff, Nat.reduceAdd, Nat.reduceSub, Nat.reduceMul, Nat.reduceLeDiff, Nat.reduceLT]
    refine qif_df h0 ?_
    simp only [Tryd.f14, go_sem, Int.reduceToNat, Int.reduceEq, Int.reduceNe, Int.reduceLT, Int.reduceLE, Int.reduceNeg, Int.reduceAdd, ↓reduceIte, ↓reduceCtorEq, Nat.reduceEqDiff, Nat.reduceAdd, Nat.reduceSub, Nat.reduceMul, Nat.reduceLeDiff, Nat.reduceLT]
    refine qif_df h1 ?_
    simp only [Tryd.f14, go_sem, Int.reduceToNat, Int.reduceEq, Int.reduceNe, Int.reduceLT, Int.reduceLE, Int.reduceNeg, Int.reduceAdd, ↓reduceIte, ↓reduceCtorEq, Nat.reduceEqDiff, Nat.reduceAdd, Nat.reduceSub, Nat.reduceMul, Nat.reduceLeDiff, Nat.reduceLT]
    refine qcall_i (k1) ?_; simp only [Tryd.f14, go_sem, Int.reduceToNat, Int.reduceEq, Int.reduceNe, Int.reduceLT, Int.reduceLE, Int.reduceNeg, Int.reduceAdd, ↓reduceIte, ↓reduceCtorEq, Nat.reduceEqDiff, Nat.reduceAdd, Nat.reduceSub, Nat.reduceMul, Nat.reduceLeDiff, Nat.reduceLT]
    try rfl
  rw [if_pos h2] at k1 ⊢
  by_cases h3 : addE (fd b) d.neg
  case neg =>
    rw [if_neg h3] at k1 ⊢
    simp only [Dy.pv, DP] at k1
    simp only [Tryd.f14, go_sem, Int.reduceToNat, Int.reduceEq, Int.reduceNe, Int.reduceLT, Int.reduceLE, Int.reduceNeg, Int.reduceAdd, ↓reduceIte, ↓reduceCtorEq, Nat.reduceEqDiff, Nat.reduceAdd, Nat.reduceSub, Nat.reduceMul, Nat.reduceLeDiff, Nat.reduceLT]
    refine qif_df h0 ?_
    simp only [Tryd.f14, go_sem, Int.reduceToNat, Int.reduceEq, Int.reduceNe, Int.reduceLT, Int.reduceLE, Int.reduceNeg, Int.reduceAdd, ↓reduceIte, ↓reduceCtorEq, Nat.reduceEqDiff, Nat.reduceAdd, Nat.reduceSub, Nat.reduceMul, Nat.reduceLeDiff, Nat.reduceLT]
    refine qif_df h1 ?_
    simp only [Tryd.f14, go_sem, Int.reduceToNat, Int.reduceEq, Int.reduceNe, Int.reduceLT, Int.reduceLE, Int.reduceNeg, Int.reduceAdd, ↓reduceIte, ↓reduceCtorEq, Nat.reduceEqDiff, Nat.reduceAdd, Nat.reduceSub, Nat.reduceMul, Nat.reduceLeDiff, Nat.reduceLT]
    refine qcall_i (k1) ?_; simp only [Tryd.f14, go_sem, Int.reduceToNat, Int.reduceEq, Int.reduceNe, Int.reduceLT, Int.reduceLE, Int.reduceNeg, Int.reduceAdd, ↓reduceIte, ↓reduceCtorEq, Nat.reduceEqDiff, Nat.reduceAdd, Nat.reduceSub, Nat.reduceMul, Nat.reduceLeDiff, Nat.reduceLT]
    try rfl
  rw [if_pos h3] at k1 ⊢
  rw [if_pos h2.1] at k2
  obtain ⟨b1, b2, b3⟩ := bnd_lim b (z := z) (by omega)
  have k3 := c_dOf z hz.1 hz.2
  have k4 := r_Mul ((ulpS_lim b).RD (by decide)) (b1.RD (by decide))
  rw [mulV_lim (ulpS_lim b) b1 (by decide)] at k4
  have k5 := r_Scale (b2.RD (by decide)) (-1)
  rw [scaleV_lim (J := 1) b2 (by decide) (by decide)] at k5
  have hfb := fd_bits b
  have ra : RD (addS (fd b) d.neg).abs.pv (addS (fd b) d.neg).abs := by
    have h4 := addS_bits (fd_ok' b) (neg_ok hok) h3
    rw [neg_m] at h4
    exact RD.fit (abs_ok (addS_ok _ _)) (by show bitLen (addS (fd b) d.neg).m ≤ _; omega) h3.2.2.2
  have k6 := r_Cmp ra (b3.RD (by decide))
  unfold bndD at k6 ⊢
  generalize (mulS (ulpS b) (norm z 0)).sc (-1) = y1 at *
  generalize mulS (ulpS b) (norm z 0) = y2 at *
  generalize norm z 0 = y3 at *
  generalize ulpS b = y4 at *
  generalize (addS (fd b) d.neg).abs = y5 at *
  simp only [Dy.pv, DP] at k1 k2 k3 k4 k5 k6
  simp only [Tryd.f14, go_sem, Int.reduceToNat, Int.reduceEq, Int.reduceNe, Int.reduceLT, Int.reduceLE, Int.reduceNeg, Int.reduceAdd, ↓reduceIte, ↓reduceCtorEq, Nat.reduceEqDiff, Nat.reduceAdd, Nat.reduceSub, Nat.reduceMul, Nat.reduceLeDiff, Nat.reduceLT]
  refine qif_df h0 ?_
  simp only [Tryd.f14, go_sem, Int.reduceToNat, Int.reduceEq, Int.reduceNe, Int.reduceLT, Int.reduceLE, Int.reduceNeg, Int.reduceAdd, ↓reduceIte, ↓reduceCtorEq, Nat.reduceEqDiff, Nat.reduceAdd, Nat.reduceSub, Nat.reduceMul, Nat.reduceLeDiff, Nat.reduceLT]
  refine qif_df h1 ?_
  simp only [Tryd.f14, go_sem, Int.reduceToNat, Int.reduceEq, Int.reduceNe, Int.reduceLT, Int.reduceLE, Int.reduceNeg, Int.reduceAdd, ↓reduceIte, ↓reduceCtorEq, Nat.reduceEqDiff, Nat.reduceAdd, Nat.reduceSub, Nat.reduceMul, Nat.reduceLeDiff, Nat.reduceLT]
  refine qcall_i (k1) ?_; simp only [Tryd.f14, go_sem, Int.reduceToNat, Int.reduceEq, Int.reduceNe, Int.reduceLT, Int.reduceLE, Int.reduceNeg, Int.reduceAdd, ↓reduceIte, ↓reduceCtorEq, Nat.reduceEqDiff, Nat.reduceAdd, Nat.reduceSub, Nat.reduceMul, Nat.reduceLeDiff, Nat.reduceLT]
  refine qcall_i (k2) ?_; simp only [Tryd.f14, go_sem, Int.reduceToNat, Int.reduceEq, Int.reduceNe, Int.reduceLT, Int.reduceLE, Int.reduceNeg, Int.reduceAdd, ↓reduceIte, ↓reduceCtorEq, Nat.reduceEqDiff, Nat.reduceAdd, Nat.reduceSub, Nat.reduceMul, Nat.reduceLeDiff, Nat.reduceLT]
  refine qcall_i (k3) ?_; simp only [Tryd.f14, go_sem, Int.reduceToNat, Int.reduceEq, Int.reduceNe, Int.reduceLT, Int.reduceLE, Int.reduceNeg, Int.reduceAdd, ↓reduceIte, ↓reduceCtorEq, Nat.reduceEqDiff, Nat.reduceAdd, Nat.reduceSub, Nat.reduceMul, Nat.reduceLeDiff, Nat.reduceLT]
  refine qcall_i (k4) ?_; simp only [Tryd.f14, go_sem, Int.reduceToNat, Int.reduceEq, Int.reduceNe, Int.reduceLT, Int.reduceLE, Int.reduceNeg, Int.reduceAdd, ↓reduceIte, ↓reduceCtorEq, Nat.reduceEqDiff, Nat.reduceAdd, Nat.reduceSub, Nat.reduceMul, Nat.reduceLeDiff, Nat.reduceLT]
  refine qcall_i (k5) ?_; simp only [Tryd.f14, go_sem, Int.reduceToNat, Int.reduceEq, Int.reduceNe, Int.reduceLT, Int.reduceLE, Int.reduceNeg, Int.reduceAdd, ↓reduceIte, ↓reduceCtorEq, Nat.reduceEqDiff, Nat.reduceAdd, Nat.reduceSub, Nat.reduceMul, Nat.reduceLeDiff, Nat.reduceLT]
  refine qcall_i (k6) ?_; simp only [Tryd.f14, go_sem, Int.reduceToNat, Int.reduceEq, Int.reduceNe, Int.reduceLT, Int.reduceLE, Int.reduceNeg, Int.reduceAdd, ↓reduceIte, ↓reduceCtorEq, Nat.reduceEqDiff, Nat.reduceAdd, Nat.reduceSub, Nat.reduceMul, Nat.reduceLeDiff, Nat.reduceLT]
  try rfl
theorem Lim.of_bits {d : Dy} (ho : d.ok) {n J : Nat} (hb : bitLen d.m ≤ n) (he : -(J : Int) ≤ d.e ∧ d.e ≤ J) : Lim (n + J) d := by
  refine ⟨ho, .inr (by omega), ?_⟩
  rw [natAbs_at']
  have h1 := (bitLen_le _ _).1 hb
  refine Nat.lt_of_lt_of_le (Nat.mul_lt_mul_of_pos_right h1 (Nat.two_pow_pos _)) ?_
  rw [← Nat.pow_add]; exact Nat.pow_le_pow_right (by decide) (by omega)
/-- The reference's halves are as many as the program's. -/
theorem hv_bnd {b : Nat} (hf : fe b < 2047) {k : Nat} (hk : k ≤ 65536) : LimN 1157 ⟨false, (ulpN b).m, (ulpN b).e - 1⟩ ∧ LimN 1197 (hvN ⟨false, (ulpN b).m, (ulpN b).e - 1⟩ k (bitLen k)) ∧ (hvN ⟨false, (ulpN b).m, (ulpN b).e - 1⟩ k (bitLen k)).bare = bndD b (k : Int) := by
  have hl := ulpN_lim hf
  have hpat : ∀ L : Int, (⟨false, (ulpN b).m, (ulpN b).e - 1⟩ : Dy).at (L + -1) = (ulpN b).at L := fun L => by
    unfold Dy.at
    rw [show (ulpN b).s = false from rfl]
    simp only [Bool.false_eq_true, if_false]
    rw [show (ulpN b).e - 1 - (L + -1) = (ulpN b).e - L by omega]
  have hp : LimN 1157 ⟨false, (ulpN b).m, (ulpN b).e - 1⟩ := hl.half rfl
  obtain ⟨g1, g2, g3⟩ := hv_spec rfl hp k (bitLen k) (bitLen17 hk)
  refine ⟨hp, g3, ?_⟩
  obtain ⟨b1, b2, b3⟩ := bnd_lim b (z := (k : Int)) (by omega)
  refine eq_of_at (k := -((1197 : Nat) : Int)) (mkD_ok _ _ _) b3.ok (g3.bare (by decide)).ge (b3.ge.mono (by decide)) ?_
  rw [g3.bare_at (by decide)]
  refine g2.trans ?_
  have hus := (ulpS_lim b).ge.mono (k := -((1196 : Nat) : Int)) (by decide)
  have e1 : (bndD b (k : Int)).at (-((1196 : Nat) : Int) + -1) = (ulpS b).at (-((1196 : Nat) : Int)) * (k : Int) := by
    unfold bndD
    rw [sc_at]
    have := mulS_at hus (norm_ge (k : Int) (k := 0) (by decide) (by decide))
    rw [Int.add_zero] at this
    rw [this, norm_at (k : Int) (k := 0) (j := 0) (by decide) (by decide) (Int.le_refl _)]
    simp
  have e2 := hpat (-((1196 : Nat) : Int))
  have e3 : (ulpN b).at (-((1196 : Nat) : Int)) = (ulpS b).at (-((1196 : Nat) : Int)) := by
    obtain ⟨h1, h2⟩ := ulpN_at hf
    rw [at_shift' (d := ulpN b) (k' := -((1154 : Nat) : Int)) (by decide) h2, h1, ← at_shift' (by decide) (ulpS_lim b).ge]
  have e4 : (-((1196 : Nat) : Int) + -1) = -((1197 : Nat) : Int) := by decide
  rw [e4] at e1 e2
  rw [e1, show (-((1157 + 40 : Nat) : Int)) = -((1197 : Nat) : Int) by decide, e2, e3, Nat.mod_eq_of_lt ((bitLen_le k (bitLen k)).1 (Nat.le_refl _))]
end Go.Proofs.YtejmlngnpekagaaDoor
