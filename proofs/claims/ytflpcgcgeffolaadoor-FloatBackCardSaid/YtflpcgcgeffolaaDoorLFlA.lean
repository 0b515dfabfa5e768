/- The helper alive of layer 6's laws. -/
import Derived.Test.YtflpcgcgeffolaaDoorFl4
import Derived.Test.YtflpcgcgeffolaaDoorArgs
open Go PG Go.Proofs
set_option maxRecDepth 100000
set_option linter.unusedSimpArgs false
set_option linter.unusedVariables false
namespace Go.Proofs.YtflpcgcgeffolaaDoor
attribute [local go_sem] Lay2 Lay3 Lay4 Lay5 Lay6 Lay7 Lay8 Lay9 Lay10 Lay11 Lay12 Lay13 Lay14 Lay21 Lay22 Lay24 Lay25 Lay26 Lay27 Lay36 Lay37 Lay38 Lay39 Lay40 Lay41 Lay43 Lay46 Lay47 Lay66 Lay103 Lay105 Lay159 Lay164 Lay165 Lay166 Lay168 Lay169 Lay172 Lay173 qexec_seq qexec_skip qexec_exit qexec_ret qexec_block qexec_loop qexec_range qexec_cond qexec_region qops_nil qops_none qops_some put_some put_none pblk_exit pblk_other newDsts_nil sget_cons qval_some qbool_some qgs_bool qgs_und qfree_some qgrd_true qgrd_false qif_true qif_false qval_ite qval_itn qand_true map_ite map_some' map_none' qdo_move qdo_assign qdo_binOp qdo_pick qdo_unOp qdo_convert qdo_extract qdo_field qdo_fieldAddr qdo_alloc qdo_box qdo_build qdo_buildSlice qdo_load qdo_store qdo_nilCheck qdo_makeFunc qdo_makeSlice qdo_slice qdo_indexAddr qdo_call qcont_val qcont_new qcont_st qcont_app0 qcont_app qcont_inl qcont_call njSV_val njSV_nil njSV_row njSV_ptr njSV_sub binV_val binV_nil binV_nn nilCmp bin_add bin_sub bin_mul bin_quo bin_rem bin_and bin_or bin_xor bin_andNot bin_eql bin_neq bin_lss bin_leq bin_gtr bin_geq bin_shl bin_shr bin_seql bin_sneq bin_sadd bin_beql bin_aeql bin_aneq eqAnd_some eqCells_nil eqCells_cons fieldTypes isStruct eqCell bin_bneq un_not un_neg nj_ite Nat.beq stepA stepR isNew opSV constSV RV.sv allSome E_mu Bool.or_false Bool.false_or Bool.or_true Bool.true_or cst setB res resSV pstart startL killL kill1 eraL frzL svPV rvPV rvInt rvSlice frzOf close closeL pconv pbuiltin pmax2 partPV setCells fillPV zrow bound newSV PV.cells Bk.cells Bk.with SV.key pres presL_nil presL_tmp presL_cell presC2_some cellPV_ptr presC List.toList_toArray List.size_toArray List.getElem?_drop Nat.mul_one Int.toNat_natCast Nat.not_lt_zero Nat.lt_irrefl decide_true decide_false Nat.not_lt Option.some.injEq PV.lst.injEq PV.int.injEq PV.bool.injEq PV.tuple.injEq List.cons.injEq Option.map_some Option.map_none Option.bind_some Option.toList List.map_cons List.map_nil List.nil_append List.cons_append List.append_nil List.zip_cons_cons List.zip_nil_left List.zip_nil_right List.getElem?_cons_zero List.getElem?_cons_succ List.drop_zero List.drop_succ_cons List.take_succ_cons List.take_zero List.set_cons_zero List.set_cons_succ List.length_cons List.length_nil List.length_set List.replicate_one List.replicate_zero bne_self_eq_false beq_self_eq_true Nat.zero_add Nat.add_zero Nat.zero_mul Bool.false_eq_true Bool.true_eq_false Bool.not_true Bool.not_false and_true true_and false_and and_false or_false false_or or_true true_or not_true_eq_false not_false_eq_true ne_eq gt_iff_lt List.mem_cons List.not_mem_nil
attribute [local go_sem ↓] pseq_normal pseq_ret pseq_exit pblk_normal pblk_ret newDsts_cons gdst_zero gdst_succ retQ_normal retQ_ret retM_normal retM_ret endR_normal endR_ret endR_exit

/-- Exact of a bare dyad that fits. -/
theorem mkD_self {d : Dy} (h : d.m % 2 = 1) (h1 : -2147483648 ≤ d.e) (h2 : d.e ≤ 2147483648) : mkD d.s d.m d.e = d := by
  have ht : tz d.m = 0 := tz_of (m := d.m / 2) (by rw [Nat.pow_zero, Nat.one_mul]; omega)
  unfold mkD
  rw [if_neg (by omega), ht, cut_id h1 h2]
  obtain ⟨s, m, e⟩ := d
  simp
theorem k_Exact {d : Dy} (h : d.m % 2 = 1) (hb : bitLen d.m ≤ 1000000) (hf : d.fits) : PC E 29 [d.pv] (exPV (exactS d)) := by
  have k := c_Exact (num_bits hb) hb d.s d.e
  rw [mkD_self h (by have := hf.1; omega) (by have := hf.2; omega), if_pos hf] at k
  exact k

theorem c_alive06 : PC E 27 [] (.bool true) := by
  refine PC.of_body follows Tryd.func27 (by decide +kernel) rfl (by kernel_rfl) (Nat.le_of_ble_eq_true rfl) (walk ?_)
  have e1 : fd 4609434218613702656 = ⟨false, 3, -1⟩ := by
    have h : fm 4609434218613702656 = 2 ^ 51 * (2 * 1 + 1) := by decide
    have ht : tz (2 ^ 51 * (2 * 1 + 1)) = 51 := tz_of (m := 1) rfl
    unfold fd mkD
    rw [h, if_neg (by decide), ht]
    decide
  have k1 := c_FDyad 4609434218613702656 (by decide)
  rw [if_pos (by decide), e1] at k1
  have hd3 : dg W 3 = [3] := dg_one (by decide) (by decide)
  have k2 := k_Exact (d := ⟨false, 3, -1⟩) (by decide) (by decide) (by decide)
  rw [show exactS ⟨false, 3, -1⟩ = some 4609434218613702656 by decide +kernel] at k2
  have k3 := c_5Same ⟨false, 3, -1⟩ ⟨false, 3, -1⟩ (by decide)
  have k4 := c_Kind 9218868437227405312 (by decide)
  rw [show kind 9218868437227405312 = 3 by decide] at k4
  simp only [Dy.pv, DP, NN, NL, hd3, exPV] at k1 k2 k3
  simp only [Tryd.f27, go_sem, Int.reduceToNat, Int.reduceEq, Int.reduceNe, Int.reduceLT, Int.reduceLE, Int.reduceNeg, Int.reduceAdd, ↓reduceIte, ↓reduceCtorEq, Nat.reduceEqDiff, Nat.reduceAdd, Nat.reduceSub, Nat.reduceMul, Nat.reduceLeDiff, Nat.reduceLT]
  refine qcall_i (k1) ?_; simp only [Tryd.f27, go_sem, Int.reduceToNat, Int.reduceEq, Int.reduceNe, Int.reduceLT, Int.reduceLE, Int.reduceNeg, Int.reduceAdd, ↓reduceIte, ↓reduceCtorEq, Nat.reduceEqDiff, Nat.reduceAdd, Nat.reduceSub, Nat.reduceMul, Nat.reduceLeDiff, Nat.reduceLT]
  refine qcall_i (k2) ?_; simp only [Tryd.f27, Int.cast_ofNat_Int, go_sem, Int.reduceToNat, Int.reduceEq, Int.reduceNe, Int.reduceLT, Int.reduceLE, Int.reduceNeg, Int.reduceAdd, ↓reduceIte, ↓reduceCtorEq, Nat.reduceEqDiff, Nat.reduceAdd, Nat.reduceSub, Nat.reduceMul, Nat.reduceLeDiff, Nat.reduceLT]
  refine qcall_i (k3) ?_; simp only [Tryd.f27, go_sem, Int.reduceToNat, Int.reduceEq, Int.reduceNe, Int.reduceLT, Int.reduceLE, Int.reduceNeg, Int.reduceAdd, ↓reduceIte, ↓reduceCtorEq, Nat.reduceEqDiff, Nat.reduceAdd, Nat.reduceSub, Nat.reduceMul, Nat.reduceLeDiff, Nat.reduceLT]
  refine qcall_i (k4) ?_; simp only [Tryd.f27, go_sem, Int.reduceToNat, Int.reduceEq, Int.reduceNe, Int.reduceLT, Int.reduceLE, Int.reduceNeg, Int.reduceAdd, ↓reduceIte, ↓reduceCtorEq, Nat.reduceEqDiff, Nat.reduceAdd, Nat.reduceSub, Nat.reduceMul, Nat.reduceLeDiff, Nat.reduceLT]
  rfl
end Go.Proofs.YtflpcgcgeffolaaDoor
