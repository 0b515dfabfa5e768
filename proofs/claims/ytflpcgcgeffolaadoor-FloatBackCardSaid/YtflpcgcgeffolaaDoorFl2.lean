/- What a binary64's bits are worth: float.Dyad, Whole, Parts. -/
import Derived.Test.YtflpcgcgeffolaaDoorFl1
import Derived.Test.YtflpcgcgeffolaaDoorDy1
open Go PG Go.Proofs
set_option maxRecDepth 100000
set_option linter.unusedSimpArgs false
set_option linter.unusedVariables false
namespace Go.Proofs.YtflpcgcgeffolaaDoor
attribute [local go_sem] Lay2 Lay3 Lay4 Lay5 Lay6 Lay7 Lay8 Lay9 Lay10 Lay11 Lay12 Lay13 Lay14 Lay21 Lay22 Lay24 Lay25 Lay26 Lay27 Lay36 Lay37 Lay38 Lay39 Lay40 Lay41 Lay43 Lay46 Lay47 Lay66 Lay103 Lay105 Lay159 Lay164 Lay165 Lay166 Lay168 Lay169 Lay172 Lay173 qexec_seq qexec_skip qexec_exit qexec_ret qexec_block qexec_loop qexec_range qexec_cond qexec_region qops_nil qops_none qops_some put_some put_none pblk_exit pblk_other newDsts_nil sget_cons qval_some qbool_some qgs_bool qgs_und qfree_some qgrd_true qgrd_false qif_true qif_false qval_ite qval_itn qand_true map_ite map_some' map_none' qdo_move qdo_assign qdo_binOp qdo_pick qdo_unOp qdo_convert qdo_extract qdo_field qdo_fieldAddr qdo_alloc qdo_box qdo_build qdo_buildSlice qdo_load qdo_store qdo_nilCheck qdo_makeFunc qdo_makeSlice qdo_slice qdo_indexAddr qdo_call qcont_val qcont_new qcont_st qcont_app0 qcont_app qcont_inl qcont_call njSV_val njSV_nil njSV_row njSV_ptr njSV_sub binV_val binV_nil binV_nn nilCmp bin_add bin_sub bin_mul bin_quo bin_rem bin_and bin_or bin_xor bin_andNot bin_eql bin_neq bin_lss bin_leq bin_gtr bin_geq bin_shl bin_shr bin_seql bin_sneq bin_sadd bin_beql bin_aeql bin_aneq eqAnd_some eqCells_nil eqCells_cons fieldTypes isStruct eqCell bin_bneq un_not un_neg nj_ite Nat.beq stepA stepR isNew opSV constSV RV.sv allSome E_mu Bool.or_false Bool.false_or Bool.or_true Bool.true_or cst setB res resSV pstart startL killL kill1 eraL frzL svPV rvPV rvInt rvSlice frzOf close closeL pconv pbuiltin pmax2 partPV setCells fillPV zrow bound newSV PV.cells Bk.cells Bk.with SV.key pres presL_nil presL_tmp presL_cell presC2_some cellPV_ptr presC List.toList_toArray List.size_toArray List.getElem?_drop Nat.mul_one Int.toNat_natCast Nat.not_lt_zero Nat.lt_irrefl decide_true decide_false Nat.not_lt Option.some.injEq PV.lst.injEq PV.int.injEq PV.bool.injEq PV.tuple.injEq List.cons.injEq Option.map_some Option.map_none Option.bind_some Option.toList List.map_cons List.map_nil List.nil_append List.cons_append List.append_nil List.zip_cons_cons List.zip_nil_left List.zip_nil_right List.getElem?_cons_zero List.getElem?_cons_succ List.drop_zero List.drop_succ_cons List.take_succ_cons List.take_zero List.set_cons_zero List.set_cons_succ List.length_cons List.length_nil List.length_set List.replicate_one List.replicate_zero bne_self_eq_false beq_self_eq_true Nat.zero_add Nat.add_zero Nat.zero_mul Bool.false_eq_true Bool.true_eq_false Bool.not_true Bool.not_false and_true true_and false_and and_false or_false false_or or_true true_or not_true_eq_false not_false_eq_true ne_eq gt_iff_lt List.mem_cons List.not_mem_nil
attribute [local go_sem ↓] pseq_normal pseq_ret pseq_exit pblk_normal pblk_ret newDsts_cons gdst_zero gdst_succ retQ_normal retQ_ret retM_normal retM_ret endR_normal endR_ret endR_exit

theorem num_one {x : Nat} (h : x < W) : Num (.lst 1 [.int .u64 (x : Int)]) x :=
  ⟨[x], rfl, Ok.cons h Ok.nil, by simp [vl, dv], by simp⟩

/-- The fraction with its hidden bit. -/
def fm (b : Nat) : Nat := if fe b = 0 then ff b else ff b + 4503599627370496
/-- What they are worth (if they are a number). -/
def fd (b : Nat) : Dy := mkD (fs b) (fm b) (max (fe b : Int) 1 - 1075)

theorem fm_lt (b : Nat) : fm b < 9007199254740992 := by unfold fm; have := ff_lt b; split <;> omega
theorem fm_bits (b : Nat) : bitLen (fm b) ≤ 53 := (bitLen_le _ _).2 (fm_lt b)
theorem fm_W (b : Nat) : fm b < W := Nat.lt_trans (fm_lt b) (by decide)
theorem fd_e (b : Nat) : -1074 ≤ (fd b).e ∧ (fd b).e ≤ 1025 := by
  unfold fd mkD
  have h1 := fe_lt b
  have h2 := fm_bits b
  split
  · exact ⟨by decide, by decide⟩
  · rename_i h
    have h3 := tz_bits h
    show -1074 ≤ cut _ + (tz (fm b) : Int) ∧ cut _ + (tz (fm b) : Int) ≤ 1025
    rw [cut_id (by omega) (by omega)]
    omega
theorem fd_bits (b : Nat) : bitLen (fd b).m ≤ 53 := Nat.le_trans (mkD_bits _ _ _) (fm_bits b)
theorem fd_fits (b : Nat) : (fd b).fits := by have := fd_e b; exact ⟨by omega, by omega⟩

theorem c_FDyad (b : Nat) (hb : b < W) : PC E 28 [u b] (if fe b < 2047 then .tuple [(fd b).pv, .bool true] else .tuple [Dy.zero.pv, .bool false]) := by
  refine PC.of_body follows Tryd.func28 (by decide +kernel) rfl (by kernel_rfl) (Nat.le_of_ble_eq_true rfl) (walk ?_)
  have e1 := a52 hb
  have e2 := o52 (ff_lt b)
  have h1 := fe_lt b
  have hm : fm b = if fe b = 0 then ff b else ff b + 4503599627370496 := rfl
  have e3 : IntKind.wrap .i64 (max (fe b : Int) 1 - 1075) = max (fe b : Int) 1 - 1075 := wrap64 (by omega) (by omega)
  have fin : PC E 87 [.bool (fs b), .lst 1 [.int .u64 (fm b : Int)], .int .i64 (max (fe b : Int) 1 - 1075)] (.tuple [(fd b).pv, .int .i64 0]) :=
    PC.cast (c_Make (num_one (fm_W b)) (Nat.le_trans (fm_bits b) (by decide)) (fs b) _) (if_pos (fd_fits b))
  simp only [Tryd.f28, go_sem, Int.reduceToNat, Int.reduceEq, Int.reduceNe, Int.reduceLT, Int.reduceLE, Int.reduceNeg, Int.reduceAdd, ↓reduceIte, ↓reduceCtorEq, Nat.reduceEqDiff, Nat.reduceAdd, Nat.reduceSub, Nat.reduceMul, Nat.reduceLeDiff, Nat.reduceLT]
  refine qcall_i (c_Finite b hb) ?_; simp only [Tryd.f28, go_sem, Int.reduceToNat, Int.reduceEq, Int.reduceNe, Int.reduceLT, Int.reduceLE, Int.reduceNeg, Int.reduceAdd, ↓reduceIte, ↓reduceCtorEq, Nat.reduceEqDiff, Nat.reduceAdd, Nat.reduceSub, Nat.reduceMul, Nat.reduceLeDiff, Nat.reduceLT]
  by_cases hf : fe b < 2047
  · rw [decide_eq_true hf, if_pos hf]
    simp only [Tryd.f28, u, e1, go_sem, Int.reduceToNat, Int.reduceEq, Int.reduceNe, Int.reduceLT, Int.reduceLE, Int.reduceNeg, Int.reduceAdd, ↓reduceIte, ↓reduceCtorEq, Nat.reduceEqDiff, Nat.reduceAdd, Nat.reduceSub, Nat.reduceMul, Nat.reduceLeDiff, Nat.reduceLT]
    refine qcall_i (c_field b hb) ?_; simp only [Tryd.f28, u, e1, go_sem, Int.reduceToNat, Int.reduceEq, Int.reduceNe, Int.reduceLT, Int.reduceLE, Int.reduceNeg, Int.reduceAdd, ↓reduceIte, ↓reduceCtorEq, Nat.reduceEqDiff, Nat.reduceAdd, Nat.reduceSub, Nat.reduceMul, Nat.reduceLeDiff, Nat.reduceLT]
    refine qif_d (fun h => ?_) (fun h => ?_)
    · rw [if_neg (by omega)] at hm
      simp only [Tryd.f28, u, e2, go_sem, Int.reduceToNat, Int.reduceEq, Int.reduceNe, Int.reduceLT, Int.reduceLE, Int.reduceNeg, Int.reduceAdd, ↓reduceIte, ↓reduceCtorEq, Nat.reduceEqDiff, Nat.reduceAdd, Nat.reduceSub, Nat.reduceMul, Nat.reduceLeDiff, Nat.reduceLT]
      refine qcall_i (c_Neg b hb) ?_; simp only [Tryd.f28, u, e3, go_sem, Int.reduceToNat, Int.reduceEq, Int.reduceNe, Int.reduceLT, Int.reduceLE, Int.reduceNeg, Int.reduceAdd, ↓reduceIte, ↓reduceCtorEq, Nat.reduceEqDiff, Nat.reduceAdd, Nat.reduceSub, Nat.reduceMul, Nat.reduceLeDiff, Nat.reduceLT]
      rw [← hm]
      refine qcall_i (fin) ?_; simp only [Tryd.f28, Dy.pv, DP, NN, NL, go_sem, Int.reduceToNat, Int.reduceEq, Int.reduceNe, Int.reduceLT, Int.reduceLE, Int.reduceNeg, Int.reduceAdd, ↓reduceIte, ↓reduceCtorEq, Nat.reduceEqDiff, Nat.reduceAdd, Nat.reduceSub, Nat.reduceMul, Nat.reduceLeDiff, Nat.reduceLT]
    · rw [if_pos (by omega)] at hm
      simp only [Tryd.f28, u, e2, go_sem, Int.reduceToNat, Int.reduceEq, Int.reduceNe, Int.reduceLT, Int.reduceLE, Int.reduceNeg, Int.reduceAdd, ↓reduceIte, ↓reduceCtorEq, Nat.reduceEqDiff, Nat.reduceAdd, Nat.reduceSub, Nat.reduceMul, Nat.reduceLeDiff, Nat.reduceLT]
      refine qcall_i (c_Neg b hb) ?_; simp only [Tryd.f28, u, e3, go_sem, Int.reduceToNat, Int.reduceEq, Int.reduceNe, Int.reduceLT, Int.reduceLE, Int.reduceNeg, Int.reduceAdd, ↓reduceIte, ↓reduceCtorEq, Nat.reduceEqDiff, Nat.reduceAdd, Nat.reduceSub, Nat.reduceMul, Nat.reduceLeDiff, Nat.reduceLT]
      rw [← hm]
      refine qcall_i (fin) ?_; simp only [Tryd.f28, Dy.pv, DP, NN, NL, go_sem, Int.reduceToNat, Int.reduceEq, Int.reduceNe, Int.reduceLT, Int.reduceLE, Int.reduceNeg, Int.reduceAdd, ↓reduceIte, ↓reduceCtorEq, Nat.reduceEqDiff, Nat.reduceAdd, Nat.reduceSub, Nat.reduceMul, Nat.reduceLeDiff, Nat.reduceLT]
  · rw [decide_eq_false hf, if_neg hf]
    simp only [Tryd.f28, go_sem, Int.reduceToNat, Int.reduceEq, Int.reduceNe, Int.reduceLT, Int.reduceLE, Int.reduceNeg, Int.reduceAdd, ↓reduceIte, ↓reduceCtorEq, Nat.reduceEqDiff, Nat.reduceAdd, Nat.reduceSub, Nat.reduceMul, Nat.reduceLeDiff, Nat.reduceLT]
    rfl

theorem c_Whole (b : Nat) (hb : b < W) : PC E 69 [u b] (.tuple [.bool (decide (fe b < 2047 ∧ 0 ≤ (fd b).e)), .bool (decide (fe b < 2047 ∧ (fd b).e = 0 ∧ (fd b).m % 2 = 1))]) := by
  refine PC.of_body follows Tryd.func69 (by decide +kernel) rfl (by kernel_rfl) (Nat.le_of_ble_eq_true rfl) (walk ?_)
  have h := c_FDyad b hb
  have hB := fd_bits b
  by_cases hf : fe b < 2047
  · rw [if_pos hf] at h
    generalize fd b = d at *
    have k := k_Odd (num_bits (x := d.m) (by omega))
    by_cases h0 : d.e = 0
    · simp only [Tryd.f69, go_sem, Int.reduceToNat, Int.reduceEq, Int.reduceNe, Int.reduceLT, Int.reduceLE, Int.reduceNeg, Int.reduceAdd, ↓reduceIte, ↓reduceCtorEq, Nat.reduceEqDiff, Nat.reduceAdd, Nat.reduceSub, Nat.reduceMul, Nat.reduceLeDiff, Nat.reduceLT]
      refine qcall_i (h) ?_; simp only [Tryd.f69, Dy.pv, DP, NN, NL, h0, go_sem, Int.reduceToNat, Int.reduceEq, Int.reduceNe, Int.reduceLT, Int.reduceLE, Int.reduceNeg, Int.reduceAdd, ↓reduceIte, ↓reduceCtorEq, Nat.reduceEqDiff, Nat.reduceAdd, Nat.reduceSub, Nat.reduceMul, Nat.reduceLeDiff, Nat.reduceLT]
      refine qcall_i (k) ?_; simp only [Tryd.f69, go_sem, Int.reduceToNat, Int.reduceEq, Int.reduceNe, Int.reduceLT, Int.reduceLE, Int.reduceNeg, Int.reduceAdd, ↓reduceIte, ↓reduceCtorEq, Nat.reduceEqDiff, Nat.reduceAdd, Nat.reduceSub, Nat.reduceMul, Nat.reduceLeDiff, Nat.reduceLT]
      simp [hf, h0]
    · simp only [Tryd.f69, go_sem, Int.reduceToNat, Int.reduceEq, Int.reduceNe, Int.reduceLT, Int.reduceLE, Int.reduceNeg, Int.reduceAdd, ↓reduceIte, ↓reduceCtorEq, Nat.reduceEqDiff, Nat.reduceAdd, Nat.reduceSub, Nat.reduceMul, Nat.reduceLeDiff, Nat.reduceLT]
      refine qcall_i (h) ?_; simp only [Tryd.f69, Dy.pv, DP, NN, NL, h0, go_sem, Int.reduceToNat, Int.reduceEq, Int.reduceNe, Int.reduceLT, Int.reduceLE, Int.reduceNeg, Int.reduceAdd, ↓reduceIte, ↓reduceCtorEq, Nat.reduceEqDiff, Nat.reduceAdd, Nat.reduceSub, Nat.reduceMul, Nat.reduceLeDiff, Nat.reduceLT]
      simp [hf, h0]
  · rw [if_neg hf] at h
    simp only [Tryd.f69, go_sem, Int.reduceToNat, Int.reduceEq, Int.reduceNe, Int.reduceLT, Int.reduceLE, Int.reduceNeg, Int.reduceAdd, ↓reduceIte, ↓reduceCtorEq, Nat.reduceEqDiff, Nat.reduceAdd, Nat.reduceSub, Nat.reduceMul, Nat.reduceLeDiff, Nat.reduceLT]
    refine qcall_i (h) ?_; simp only [Tryd.f69, Dy.zero, Dy.pv, DP, NN, NL, go_sem, Int.reduceToNat, Int.reduceEq, Int.reduceNe, Int.reduceLT, Int.reduceLE, Int.reduceNeg, Int.reduceAdd, ↓reduceIte, ↓reduceCtorEq, Nat.reduceEqDiff, Nat.reduceAdd, Nat.reduceSub, Nat.reduceMul, Nat.reduceLeDiff, Nat.reduceLT]
    simp [hf]

theorem dg_one {x : Nat} (h0 : x ≠ 0) (h : x < W) : dg W x = [x] := by
  rw [dg_eq W2, if_neg h0, Nat.div_eq_of_lt h, Nat.mod_eq_of_lt h, dg_eq W2, if_pos rfl]

end Go.Proofs.YtflpcgcgeffolaaDoor
