/- The contract of the law TotalBasic: at whatever reads as its arguments it returns true. -/
import Derived.Test.YtfogjddcagckaaaDoorBas5
import Derived.Test.YtfogjddcagckaaaDoorG7
open Go PG Go.Proofs
set_option maxRecDepth 100000
set_option linter.unusedSimpArgs false
set_option linter.unusedVariables false
namespace Go.Proofs.YtfogjddcagckaaaDoor
attribute [local go_sem] Lay2 Lay3 Lay4 Lay5 Lay6 Lay7 Lay8 Lay9 Lay10 Lay11 Lay12 Lay13 Lay14 Lay15 Lay16 Lay17 Lay18 Lay19 Lay21 Lay22 Lay23 Lay24 Lay27 Lay28 Lay29 Lay35 Lay36 Lay38 Lay39 Lay40 Lay42 Lay43 Lay45 Lay46 Lay67 Lay81 Lay82 Lay83 Lay84 Lay85 Lay86 Lay87 Lay90 Lay93 Lay94 Lay105 Lay116 Lay132 Lay138 Lay145 Lay162 Lay163 Lay201 qexec_seq qexec_skip qexec_exit qexec_ret qexec_block qexec_loop qexec_range qexec_cond qexec_region qexec_drawn qops_nil qops_none qops_some put_some put_none pblk_exit pblk_other newDsts_nil sget_cons sget_nil qval_some qbool_some qgs_bool qgs_und qfree_some qgrd_true qgrd_false qif_true qif_false qval_ite qval_itn qand_true map_ite map_some' map_none' qdo_move qdo_assign qdo_binOp qdo_pick qdo_unOp qdo_convert qdo_extract qdo_field qdo_fieldAddr qdo_alloc qdo_box qdo_build qdo_buildSlice qdo_load qdo_store qdo_nilCheck qdo_makeFunc qdo_makeSlice qdo_slice qdo_indexAddr qdo_call qcont_val qcont_new qcont_st qcont_app0 qcont_app qcont_inl qcont_call njSV_val njSV_nil njSV_row njSV_ptr njSV_sub binV_val binV_nil binV_nn binV_ptr bin_np bin_nnp nilCmp bin_add bin_sub bin_mul bin_quo bin_rem bin_and bin_or bin_xor bin_andNot bin_eql bin_neq bin_lss bin_leq bin_gtr bin_geq bin_shl bin_shr bin_seql bin_sneq bin_sadd bin_beql bin_aeql bin_aneq eqAnd_some eqCells_nil eqCells_cons fieldTypes isStruct eqCell bin_bneq un_not un_neg nj_ite Nat.beq stepA stepR isNew opSV constSV RV.sv allSome E_mu E_own qkeyIn_none qkeyIn_some qkeyAt_none qkeyAt_some Bool.or_false Bool.false_or Bool.or_true Bool.true_or cst setB res resSV pstart startL killL kill1 eraL frzL svPV rvPV rvInt rvSlice frzOf close closeL pconv pbuiltin pmax2 partPV setCells fillPV zrow bound newSV PV.cells Bk.cells Bk.with SV.key pres presL_nil presL_tmp presL_cell presC2_some cellPV_ptr presC List.toList_toArray List.size_toArray List.getElem?_drop Nat.mul_one Int.toNat_natCast Nat.not_lt_zero Nat.lt_irrefl decide_true decide_false Nat.not_lt Option.some.injEq PV.lst.injEq PV.int.injEq PV.bool.injEq PV.tuple.injEq List.cons.injEq Option.map_some Option.map_none Option.bind_some Option.toList List.map_cons List.map_nil List.nil_append List.cons_append List.append_nil List.zip_cons_cons List.zip_nil_left List.zip_nil_right List.getElem?_cons_zero List.getElem?_cons_succ List.drop_zero List.drop_succ_cons List.take_succ_cons List.take_zero List.set_cons_zero List.set_cons_succ List.length_cons List.length_nil List.length_set List.replicate_one List.replicate_zero bne_self_eq_false beq_self_eq_true Nat.zero_add Nat.add_zero Nat.zero_mul Bool.false_eq_true Bool.true_eq_false Bool.not_true Bool.not_false and_true true_and false_and and_false or_false false_or or_true true_or not_true_eq_false not_false_eq_true ne_eq gt_iff_lt List.mem_cons List.not_mem_nil
attribute [local go_sem ↓] pseq_normal pseq_ret pseq_exit pblk_normal pblk_ret newDsts_cons gdst_zero gdst_succ retQ_normal retQ_ret qneed_nil qneed_cons retM_normal retM_ret endR_normal endR_ret endR_exit

theorem addT_one' (t : Tt) (x : Nat) : addT t x = mulT t x 4607182418800017408 := by
  have k1 : kind 4607182418800017408 = 2 := by decide
  have k2 : fs 4607182418800017408 = false := by decide
  have k3 : fd0 4607182418800017408 = ⟨false, 1, 0⟩ := by decide +kernel
  have k4 : mulS (fd0 x) ⟨false, 1, 0⟩ = fd0 x := by
    have ho := (fd0_lim x).ok
    generalize fd0 x = d at *
    rcases ho with rfl | ho
    · decide
    · obtain ⟨s, m, e⟩ := d
      unfold mulS
      rw [if_neg (by dsimp only at ho ⊢; omega)]
      simp
  have k5 := kind_le x
  unfold addT mulT
  rw [k1, k2, k3, k4, Bool.bne_false]
  generalize fd0 x = d
  generalize fs x = s
  generalize kind x = k at *
  obtain rfl | rfl | rfl | rfl | rfl | rfl : k = 0 ∨ k = 1 ∨ k = 2 ∨ k = 3 ∨ k = 4 ∨ k = 5 := by omega
  all_goals rfl

theorem law_TotalBasic (pvs : List PV) (h : Fits [qU64, qU64, qU64, qU8] pvs) : PC E 13 pvs (.bool true) := by
  obtain ⟨_, _, _, _, rfl, ⟨x, rfl, hx⟩, ⟨y, rfl, hy⟩, ⟨z, rfl, hz⟩, ⟨dr, rfl, hdr⟩⟩ := fits4 h
  obtain ⟨D, hD⟩ : ∃ D, D = dr % 4 := ⟨_, rfl⟩
  have hD4 : D < 4 := by omega
  have hd : (0 : Int) ≤ (D : Int) ∧ (D : Int) ≤ 3 := by omega
  have kn := T_New
  have kS := c_Sum (l := [x, y]) (fun d h => by simp at h; rcases h with rfl | rfl <;> assumption) (by simp) hd
  have eS : worthS (sumT [x, y]) (D : Int) = fmaS x 4607182418800017408 y D := by
    rw [← worth_fma hy D (.inr (by decide)), ← addT_one']
    rfl
  rw [eS] at kS
  have kA := b_Add hx hy hd
  have kD := c_Dot (ls := [(x, y)]) (fun p h => by simp at h; subst h; exact ⟨hx, hy⟩) (by simp) hd
  have eD : worthS (dotT [(x, y)]) (D : Int) = fmaS x y (sgB x y) D := worth_mul D
  rw [eD] at kD
  have kM := b_Mul hx hy hd
  have kT := T_Times Tt.zero_ok hx hy
  rw [if_pos (show Tt.zero.n < 65536 by decide), if_pos (show Tt.zero.n < 65536 by decide)] at kT
  have o1 : (mulT .zero x y).ok := mulT_ok Tt.zero_ok (by decide) _ _
  have n1 : (mulT .zero x y).n = 1 := mulT_n _ _ _
  have kB := T_Add o1 hz
  rw [if_pos (by omega), if_pos (by omega)] at kB
  have kW := T_Worth (addT_ok o1 (by omega) z) hd
  have kF := b_Fma hx hy hz hd
  have eW : (kind x ≤ 3 ∧ kind y ≤ 3 ∧ kind z ≤ 3) → worthS (addT (mulT .zero x y) z) (D : Int) = fmaS x y z D := fun h => worth_fma hz D (.inl h)
  have kV := b_Worst (l := [x, y, z]) (fun d h => by simp at h; rcases h with rfl | rfl | rfl <;> assumption) (by simp)
  have hp := @worst_pos x y z
  generalize worstS [x, y, z] = w at *
  generalize worthS (addT (mulT .zero x y) z) (D : Int) = R3 at *
  generalize fmaS x y z (D : Int) = R4 at *
  generalize fmaS x y (sgB x y) (D : Int) = R2 at *
  generalize fmaS x 4607182418800017408 y (D : Int) = R1 at *
  obtain ⟨B0, hB0⟩ : ∃ B, B = Tt.zero.bk := ⟨_, rfl⟩
  rw [← hB0] at kn kT
  obtain ⟨B1, hB1⟩ : ∃ B, B = (mulT .zero x y).bk := ⟨_, rfl⟩
  rw [← hB1] at kT kB
  obtain ⟨B2, hB2⟩ : ∃ B, B = (addT (mulT .zero x y) z).bk := ⟨_, rfl⟩
  rw [← hB2] at kB kW
  clear hB0 hB1 hB2 eS eD o1 n1
  unfold resB resPV2 at *
  simp only [u, NL, U, List.map_cons, List.map_nil, List.length_cons, List.length_nil, Nat.reduceAdd] at kS kA kD kM kT kB kW kF kV ⊢
  have w4 : (dr : Int).tmod 4 = (D : Int) := by rw [hD]; exact n_tmod dr 4
  have w6 : IntKind.wrap .i64 (D : Int) = D := wrap64 (by omega) (by omega)
  have w7 : IntKind.wrap .u8 (D : Int) = D := wrap8 (by omega)
  clear hD
  refine PC.of_body follows Tryd.func13 (by decide +kernel) rfl (by kernel_rfl) (Nat.le_of_ble_eq_true rfl) (walk ?_)
  simp only [Tryd.f13, go_sem, Int.reduceToNat, Int.reduceEq, Int.reduceNe, Int.reduceLT, Int.reduceLE, Int.reduceNeg, Int.reduceAdd, ↓reduceIte, ↓reduceCtorEq, Nat.reduceEqDiff, Nat.reduceAdd, Nat.reduceSub, Nat.reduceMul, Nat.reduceLeDiff, Nat.reduceLT]
  refine qcall_i (c_alive29) ?_; simp only [Tryd.f13, w4, w6, w7, List.replicate_succ, go_sem, Int.reduceToNat, Int.reduceEq, Int.reduceNe, Int.reduceLT, Int.reduceLE, Int.reduceNeg, Int.reduceAdd, ↓reduceIte, ↓reduceCtorEq, Nat.reduceEqDiff, Nat.reduceAdd, Nat.reduceSub, Nat.reduceMul, Nat.reduceLeDiff, Nat.reduceLT]
  refine qcall_i (kS) ?_; simp only [Tryd.f13, List.replicate_succ, go_sem, Int.reduceToNat, Int.reduceEq, Int.reduceNe, Int.reduceLT, Int.reduceLE, Int.reduceNeg, Int.reduceAdd, ↓reduceIte, ↓reduceCtorEq, Nat.reduceEqDiff, Nat.reduceAdd, Nat.reduceSub, Nat.reduceMul, Nat.reduceLeDiff, Nat.reduceLT]
  refine qcall_i (kA) ?_; simp only [Tryd.f13, List.replicate_succ, go_sem, Int.reduceToNat, Int.reduceEq, Int.reduceNe, Int.reduceLT, Int.reduceLE, Int.reduceNeg, Int.reduceAdd, ↓reduceIte, ↓reduceCtorEq, Nat.reduceEqDiff, Nat.reduceAdd, Nat.reduceSub, Nat.reduceMul, Nat.reduceLeDiff, Nat.reduceLT]
  refine qcall_i (kD) ?_; simp only [Tryd.f13, List.replicate_succ, go_sem, Int.reduceToNat, Int.reduceEq, Int.reduceNe, Int.reduceLT, Int.reduceLE, Int.reduceNeg, Int.reduceAdd, ↓reduceIte, ↓reduceCtorEq, Nat.reduceEqDiff, Nat.reduceAdd, Nat.reduceSub, Nat.reduceMul, Nat.reduceLeDiff, Nat.reduceLT]
  refine qcall_i (kM) ?_; simp only [Tryd.f13, List.replicate_succ, go_sem, Int.reduceToNat, Int.reduceEq, Int.reduceNe, Int.reduceLT, Int.reduceLE, Int.reduceNeg, Int.reduceAdd, ↓reduceIte, ↓reduceCtorEq, Nat.reduceEqDiff, Nat.reduceAdd, Nat.reduceSub, Nat.reduceMul, Nat.reduceLeDiff, Nat.reduceLT]
  refine qinl_i [] kn rfl (by decide) rfl (fun i b k hb => by simp at hb) (by intro d h; simp) (by intro h; cases h) ?_
  simp only [Tryd.f13, ren, eraO, eraL, List.getD_cons_zero, List.filter_cons, List.filter_nil, go_sem, Int.reduceToNat, Int.reduceEq, Int.reduceNe, Int.reduceLT, Int.reduceLE, Int.reduceNeg, Int.reduceAdd, ↓reduceIte, ↓reduceCtorEq, Nat.reduceEqDiff, Nat.reduceAdd, Nat.reduceSub, Nat.reduceMul, Nat.reduceLeDiff, Nat.reduceLT]
  refine qinl_i [59] (kT) rfl (by decide) rfl (one_blk rfl) (by intro d h; first | (cases h; decide) | cases h) (by intro h; first | rfl | cases h) ?_; simp only [Tryd.f13, ren, eraO, eraL, List.getD_cons_zero, List.getD_cons_succ, List.filter_cons, List.filter_nil, go_sem, Int.reduceToNat, Int.reduceEq, Int.reduceNe, Int.reduceLT, Int.reduceLE, Int.reduceNeg, Int.reduceAdd, ↓reduceIte, ↓reduceCtorEq, Nat.reduceEqDiff, Nat.reduceAdd, Nat.reduceSub, Nat.reduceMul, Nat.reduceLeDiff, Nat.reduceLT]
  refine qinl_i [59] (kB) rfl (by decide) rfl (one_blk rfl) (by intro d h; first | (cases h; decide) | cases h) (by intro h; first | rfl | cases h) ?_; simp only [Tryd.f13, ren, eraO, eraL, List.getD_cons_zero, List.getD_cons_succ, List.filter_cons, List.filter_nil, go_sem, Int.reduceToNat, Int.reduceEq, Int.reduceNe, Int.reduceLT, Int.reduceLE, Int.reduceNeg, Int.reduceAdd, ↓reduceIte, ↓reduceCtorEq, Nat.reduceEqDiff, Nat.reduceAdd, Nat.reduceSub, Nat.reduceMul, Nat.reduceLeDiff, Nat.reduceLT]
  refine qinl_i [59] (kW) rfl (by decide) rfl (one_blk rfl) (by intro d h; first | (cases h; decide) | cases h) (by intro h; first | rfl | cases h) ?_; simp only [Tryd.f13, ren, eraO, eraL, List.getD_cons_zero, List.getD_cons_succ, List.filter_cons, List.filter_nil, go_sem, Int.reduceToNat, Int.reduceEq, Int.reduceNe, Int.reduceLT, Int.reduceLE, Int.reduceNeg, Int.reduceAdd, ↓reduceIte, ↓reduceCtorEq, Nat.reduceEqDiff, Nat.reduceAdd, Nat.reduceSub, Nat.reduceMul, Nat.reduceLeDiff, Nat.reduceLT]
  refine qcall_i (kF) ?_; simp only [Tryd.f13, Bool.and_self, Bool.not_true, Bool.and_true, go_sem, Int.reduceToNat, Int.reduceEq, Int.reduceNe, Int.reduceLT, Int.reduceLE, Int.reduceNeg, Int.reduceAdd, ↓reduceIte, ↓reduceCtorEq, Nat.reduceEqDiff, Nat.reduceAdd, Nat.reduceSub, Nat.reduceMul, Nat.reduceLeDiff, Nat.reduceLT]
  by_cases hN : kind x ≤ 3 ∧ kind y ≤ 3 ∧ kind z ≤ 3
  · rw [eW hN]
    simp only [Tryd.f13, Bool.and_self, Bool.not_true, Bool.and_true, go_sem, Int.reduceToNat, Int.reduceEq, Int.reduceNe, Int.reduceLT, Int.reduceLE, Int.reduceNeg, Int.reduceAdd, ↓reduceIte, ↓reduceCtorEq, Nat.reduceEqDiff, Nat.reduceAdd, Nat.reduceSub, Nat.reduceMul, Nat.reduceLeDiff, Nat.reduceLT]
    try rfl
  · have hp := hp hN
    refine qif_i (fun h => ?_) (fun h => ?_)
    · simp only [Tryd.f13, go_sem, Int.reduceToNat, Int.reduceEq, Int.reduceNe, Int.reduceLT, Int.reduceLE, Int.reduceNeg, Int.reduceAdd, ↓reduceIte, ↓reduceCtorEq, Nat.reduceEqDiff, Nat.reduceAdd, Nat.reduceSub, Nat.reduceMul, Nat.reduceLeDiff, Nat.reduceLT]
    · simp only [Tryd.f13, List.replicate_succ, go_sem, Int.reduceToNat, Int.reduceEq, Int.reduceNe, Int.reduceLT, Int.reduceLE, Int.reduceNeg, Int.reduceAdd, ↓reduceIte, ↓reduceCtorEq, Nat.reduceEqDiff, Nat.reduceAdd, Nat.reduceSub, Nat.reduceMul, Nat.reduceLeDiff, Nat.reduceLT]
      refine qcall_i (kV) ?_; simp only [Tryd.f13, go_sem, Int.reduceToNat, Int.reduceEq, Int.reduceNe, Int.reduceLT, Int.reduceLE, Int.reduceNeg, Int.reduceAdd, ↓reduceIte, ↓reduceCtorEq, Nat.reduceEqDiff, Nat.reduceAdd, Nat.reduceSub, Nat.reduceMul, Nat.reduceLeDiff, Nat.reduceLT]
      exact decide_eq_true (by omega)
end Go.Proofs.YtfogjddcagckaaaDoor
