/- Totals: products, joining, and what a total is worth. -/
import Derived.Test.YtfogjddcagckaaaDoorTot2
open Go PG Go.Proofs
set_option maxRecDepth 100000
set_option linter.unusedSimpArgs false
set_option linter.unusedVariables false
namespace Go.Proofs.YtfogjddcagckaaaDoor
attribute [local go_sem] Lay2 Lay3 Lay4 Lay5 Lay6 Lay7 Lay8 Lay9 Lay10 Lay11 Lay12 Lay13 Lay14 Lay15 Lay16 Lay17 Lay18 Lay19 Lay21 Lay22 Lay23 Lay24 Lay27 Lay28 Lay29 Lay35 Lay36 Lay38 Lay39 Lay40 Lay42 Lay43 Lay45 Lay46 Lay67 Lay81 Lay82 Lay83 Lay84 Lay85 Lay86 Lay87 Lay90 Lay93 Lay94 Lay105 Lay116 Lay132 Lay138 Lay145 Lay162 Lay163 Lay201 qexec_seq qexec_skip qexec_exit qexec_ret qexec_block qexec_loop qexec_range qexec_cond qexec_region qexec_drawn qops_nil qops_none qops_some put_some put_none pblk_exit pblk_other newDsts_nil sget_cons sget_nil qval_some qbool_some qgs_bool qgs_und qfree_some qgrd_true qgrd_false qif_true qif_false qval_ite qval_itn qand_true map_ite map_some' map_none' qdo_move qdo_assign qdo_binOp qdo_pick qdo_unOp qdo_convert qdo_extract qdo_field qdo_fieldAddr qdo_alloc qdo_box qdo_build qdo_buildSlice qdo_load qdo_store qdo_nilCheck qdo_makeFunc qdo_makeSlice qdo_slice qdo_indexAddr qdo_call qcont_val qcont_new qcont_st qcont_app0 qcont_app qcont_inl qcont_call njSV_val njSV_nil njSV_row njSV_ptr njSV_sub binV_val binV_nil binV_nn binV_ptr bin_np bin_nnp nilCmp bin_add bin_sub bin_mul bin_quo bin_rem bin_and bin_or bin_xor bin_andNot bin_eql bin_neq bin_lss bin_leq bin_gtr bin_geq bin_shl bin_shr bin_seql bin_sneq bin_sadd bin_beql bin_aeql bin_aneq eqAnd_some eqCells_nil eqCells_cons fieldTypes isStruct eqCell bin_bneq un_not un_neg nj_ite Nat.beq stepA stepR isNew opSV constSV RV.sv allSome E_mu E_own qkeyIn_none qkeyIn_some qkeyAt_none qkeyAt_some Bool.or_false Bool.false_or Bool.or_true Bool.true_or cst setB res resSV pstart startL killL kill1 eraL frzL svPV rvPV rvInt rvSlice frzOf close closeL pconv pbuiltin pmax2 partPV setCells fillPV zrow bound newSV PV.cells Bk.cells Bk.with SV.key pres presL_nil presL_tmp presL_cell presC2_some cellPV_ptr presC List.toList_toArray List.size_toArray List.getElem?_drop Nat.mul_one Int.toNat_natCast Nat.not_lt_zero Nat.lt_irrefl decide_true decide_false Nat.not_lt Option.some.injEq PV.lst.injEq PV.int.injEq PV.bool.injEq PV.tuple.injEq List.cons.injEq Option.map_some Option.map_none Option.bind_some Option.toList List.map_cons List.map_nil List.nil_append List.cons_append List.append_nil List.zip_cons_cons List.zip_nil_left List.zip_nil_right List.getElem?_cons_zero List.getElem?_cons_succ List.drop_zero List.drop_succ_cons List.take_succ_cons List.take_zero List.set_cons_zero List.set_cons_succ List.length_cons List.length_nil List.length_set List.replicate_one List.replicate_zero bne_self_eq_false beq_self_eq_true Nat.zero_add Nat.add_zero Nat.zero_mul Bool.false_eq_true Bool.true_eq_false Bool.not_true Bool.not_false and_true true_and false_and and_false or_false false_or or_true true_or not_true_eq_false not_false_eq_true ne_eq gt_iff_lt List.mem_cons List.not_mem_nil
attribute [local go_sem ↓] pseq_normal pseq_ret pseq_exit pblk_normal pblk_ret newDsts_cons gdst_zero gdst_succ retQ_normal retQ_ret qneed_nil qneed_cons retM_normal retM_ret endR_normal endR_ret endR_exit

/-- The kind of a product. -/
def kindT (a b : Nat) : Nat := if max a b = 3 ∧ min a b = 0 then 5 else if max a b < 3 ∧ min a b = 0 then 0 else max a b
def mulT (t : Tt) (x y : Nat) : Tt := t.take (kindT (kind x) (kind y)) (fs x != fs y) (mulS (fd0 x) (fd0 y))
theorem prod_limK (x y : Nat) : Lim K0 (mulS (fd0 x) (fd0 y)) := (fd0_lim x).mul (fd0_lim y)
theorem mulT_ok {t : Tt} (ht : t.ok) (hn : t.n < 65536) (x y : Nat) : (mulT t x y).ok := take_ok ht hn _ _ (fun _ _ _ _ => prod_limK x y)
theorem T_Times {t : Tt} (ht : t.ok) {x y : Nat} (hx : x < W) (hy : y < W) : PCM E 62 [.ptr 0 0, .val (.int .u64 x), .val (.int .u64 y)] [t.bk] (.val (.int .i64 (if t.n < 65536 then 0 else 2))) [(if t.n < 65536 then mulT t x y else t).bk] := by
  refine PCM.of_body follows Tryd.func62 (by decide +kernel) rfl (by kernel_rfl) (Nat.le_of_ble_eq_true rfl) (Nat.le_refl _) (by simp) (fun k h => by cases h) (fun h => by cases h) (walk ?_)
  simp only [mstart, startS, blkL, shiftSV]
  have hn := ht.1
  have k0 := T_full t 1 (by decide)
  by_cases h : t.n < 65536
  · rw [if_pos h, if_pos h]
    rw [show decide ((t.n : Int) > 65536 - 1) = false from decide_eq_false (by omega)] at k0
    have k1 := r_FDyad hx
    have k1' := r_FDyad hy
    rw [show (if fe x < 2047 then fd x else Dy.zero) = fd0 x from rfl] at k1
    rw [show (if fe y < 2047 then fd y else Dy.zero) = fd0 y from rfl] at k1'
    have k2 := c_Kind x hx
    have k2' := c_Kind y hy
    have k3 := c_Neg x hx
    have k3' := c_Neg y hy
    have k5 := r_Mul ((fd0_lim x).RD (by decide)) ((fd0_lim y).RD (by decide))
    rw [mulV_lim (fd0_lim x) (fd0_lim y) (by decide)] at k5
    have k4 := T_take ht h (kindT (kind x) (kind y)) (fs x != fs y) ((prod_limK x y).RD (by rw [K0_eq]; decide)) (fun _ _ _ _ => prod_limK x y)
    rw [show t.take (kindT (kind x) (kind y)) (fs x != fs y) (mulS (fd0 x) (fd0 y)) = mulT t x y from rfl] at k4
    generalize mulT t x y = T at *
    generalize mulS (fd0 x) (fd0 y) = m at *
    generalize fd0 x = f at *
    generalize fd0 y = g at *
    have hkT : ((kindT (kind x) (kind y) : Nat) : Int) = if max (kind x : Int) (kind y) = 3 ∧ min (kind x : Int) (kind y) = 0 then 5 else if max (kind x : Int) (kind y) < 3 ∧ min (kind x : Int) (kind y) = 0 then 0 else max (kind x : Int) (kind y) := by
      unfold kindT
      repeat' split
      all_goals omega
    rw [hkT] at k4
    clear hkT
    generalize kind x = a at *
    generalize kind y = b at *
    simp only [u, Dy.pv, DP] at k1 k1' k2 k2' k3 k3' k4 k5
    obtain ⟨tb, htb⟩ : ∃ tb, tb = t.bk := ⟨_, rfl⟩
    rw [← htb] at k0 k4 ⊢
    obtain ⟨Tb, hTb⟩ : ∃ Tb, Tb = T.bk := ⟨_, rfl⟩
    rw [← hTb] at k4 ⊢
    obtain ⟨cs, hcs⟩ : ∃ cs, tb = .box cs := ⟨_, htb⟩
    subst hcs
    simp only [Tryd.f62, nilCmp, go_sem, Int.reduceToNat, Int.reduceEq, Int.reduceNe, Int.reduceLT, Int.reduceLE, Int.reduceNeg, Int.reduceAdd, ↓reduceIte, ↓reduceCtorEq, Nat.reduceEqDiff, Nat.reduceAdd, Nat.reduceSub, Nat.reduceMul, Nat.reduceLeDiff, Nat.reduceLT]
    refine qinl_i [72] (k0) rfl (by decide) rfl (one_blk rfl) (by intro d h; first | (cases h; decide) | cases h) (by intro h; first | rfl | cases h) ?_; simp only [Tryd.f62, ren, eraO, eraL, List.getD_cons_zero, List.getD_cons_succ, List.filter_cons, List.filter_nil, go_sem, Int.reduceToNat, Int.reduceEq, Int.reduceNe, Int.reduceLT, Int.reduceLE, Int.reduceNeg, Int.reduceAdd, ↓reduceIte, ↓reduceCtorEq, Nat.reduceEqDiff, Nat.reduceAdd, Nat.reduceSub, Nat.reduceMul, Nat.reduceLeDiff, Nat.reduceLT]
    refine qcall_i (k2) ?_; simp only [Tryd.f62, go_sem, Int.reduceToNat, Int.reduceEq, Int.reduceNe, Int.reduceLT, Int.reduceLE, Int.reduceNeg, Int.reduceAdd, ↓reduceIte, ↓reduceCtorEq, Nat.reduceEqDiff, Nat.reduceAdd, Nat.reduceSub, Nat.reduceMul, Nat.reduceLeDiff, Nat.reduceLT]
    refine qcall_i (k2') ?_; simp only [Tryd.f62, go_sem, Int.reduceToNat, Int.reduceEq, Int.reduceNe, Int.reduceLT, Int.reduceLE, Int.reduceNeg, Int.reduceAdd, ↓reduceIte, ↓reduceCtorEq, Nat.reduceEqDiff, Nat.reduceAdd, Nat.reduceSub, Nat.reduceMul, Nat.reduceLeDiff, Nat.reduceLT]
    by_cases h3 : max (a : Int) b = 3
    · refine qif_dt h3 ?_
      simp only [Tryd.f62, go_sem, Int.reduceToNat, Int.reduceEq, Int.reduceNe, Int.reduceLT, Int.reduceLE, Int.reduceNeg, Int.reduceAdd, ↓reduceIte, ↓reduceCtorEq, Nat.reduceEqDiff, Nat.reduceAdd, Nat.reduceSub, Nat.reduceMul, Nat.reduceLeDiff, Nat.reduceLT]
      by_cases h0 : min (a : Int) b = 0
      · refine qif_dt h0 ?_
        rw [if_pos ⟨h3, h0⟩] at k4
        simp only [Tryd.f62, go_sem, Int.reduceToNat, Int.reduceEq, Int.reduceNe, Int.reduceLT, Int.reduceLE, Int.reduceNeg, Int.reduceAdd, ↓reduceIte, ↓reduceCtorEq, Nat.reduceEqDiff, Nat.reduceAdd, Nat.reduceSub, Nat.reduceMul, Nat.reduceLeDiff, Nat.reduceLT]
        refine qcall_i (k1) ?_; simp only [Tryd.f62, go_sem, Int.reduceToNat, Int.reduceEq, Int.reduceNe, Int.reduceLT, Int.reduceLE, Int.reduceNeg, Int.reduceAdd, ↓reduceIte, ↓reduceCtorEq, Nat.reduceEqDiff, Nat.reduceAdd, Nat.reduceSub, Nat.reduceMul, Nat.reduceLeDiff, Nat.reduceLT]
        refine qcall_i (k1') ?_; simp only [Tryd.f62, go_sem, Int.reduceToNat, Int.reduceEq, Int.reduceNe, Int.reduceLT, Int.reduceLE, Int.reduceNeg, Int.reduceAdd, ↓reduceIte, ↓reduceCtorEq, Nat.reduceEqDiff, Nat.reduceAdd, Nat.reduceSub, Nat.reduceMul, Nat.reduceLeDiff, Nat.reduceLT]
        refine qcall_i (k5) ?_; simp only [Tryd.f62, go_sem, Int.reduceToNat, Int.reduceEq, Int.reduceNe, Int.reduceLT, Int.reduceLE, Int.reduceNeg, Int.reduceAdd, ↓reduceIte, ↓reduceCtorEq, Nat.reduceEqDiff, Nat.reduceAdd, Nat.reduceSub, Nat.reduceMul, Nat.reduceLeDiff, Nat.reduceLT]
        refine qcall_i (k3) ?_; simp only [Tryd.f62, go_sem, Int.reduceToNat, Int.reduceEq, Int.reduceNe, Int.reduceLT, Int.reduceLE, Int.reduceNeg, Int.reduceAdd, ↓reduceIte, ↓reduceCtorEq, Nat.reduceEqDiff, Nat.reduceAdd, Nat.reduceSub, Nat.reduceMul, Nat.reduceLeDiff, Nat.reduceLT]
        refine qcall_i (k3') ?_; simp only [Tryd.f62, go_sem, Int.reduceToNat, Int.reduceEq, Int.reduceNe, Int.reduceLT, Int.reduceLE, Int.reduceNeg, Int.reduceAdd, ↓reduceIte, ↓reduceCtorEq, Nat.reduceEqDiff, Nat.reduceAdd, Nat.reduceSub, Nat.reduceMul, Nat.reduceLeDiff, Nat.reduceLT]
        refine qinl_i [72] (k4) rfl (by decide) rfl (one_blk rfl) (by intro d h; first | (cases h; decide) | cases h) (by intro h; first | rfl | cases h) ?_; simp only [Tryd.f62, ren, eraO, eraL, List.getD_cons_zero, List.getD_cons_succ, List.filter_cons, List.filter_nil, go_sem, Int.reduceToNat, Int.reduceEq, Int.reduceNe, Int.reduceLT, Int.reduceLE, Int.reduceNeg, Int.reduceAdd, ↓reduceIte, ↓reduceCtorEq, Nat.reduceEqDiff, Nat.reduceAdd, Nat.reduceSub, Nat.reduceMul, Nat.reduceLeDiff, Nat.reduceLT]
        exact fin1 (by decide) rfl rfl
      · refine qif_df h0 ?_
        rw [if_neg (fun h => h0 h.2), if_neg (fun h => h0 h.2)] at k4
        simp only [Tryd.f62, go_sem, Int.reduceToNat, Int.reduceEq, Int.reduceNe, Int.reduceLT, Int.reduceLE, Int.reduceNeg, Int.reduceAdd, ↓reduceIte, ↓reduceCtorEq, Nat.reduceEqDiff, Nat.reduceAdd, Nat.reduceSub, Nat.reduceMul, Nat.reduceLeDiff, Nat.reduceLT]
        refine qif_df (by omega) ?_
        simp only [Tryd.f62, go_sem, Int.reduceToNat, Int.reduceEq, Int.reduceNe, Int.reduceLT, Int.reduceLE, Int.reduceNeg, Int.reduceAdd, ↓reduceIte, ↓reduceCtorEq, Nat.reduceEqDiff, Nat.reduceAdd, Nat.reduceSub, Nat.reduceMul, Nat.reduceLeDiff, Nat.reduceLT]
        refine qcall_i (k1) ?_; simp only [Tryd.f62, go_sem, Int.reduceToNat, Int.reduceEq, Int.reduceNe, Int.reduceLT, Int.reduceLE, Int.reduceNeg, Int.reduceAdd, ↓reduceIte, ↓reduceCtorEq, Nat.reduceEqDiff, Nat.reduceAdd, Nat.reduceSub, Nat.reduceMul, Nat.reduceLeDiff, Nat.reduceLT]
        refine qcall_i (k1') ?_; simp only [Tryd.f62, go_sem, Int.reduceToNat, Int.reduceEq, Int.reduceNe, Int.reduceLT, Int.reduceLE, Int.reduceNeg, Int.reduceAdd, ↓reduceIte, ↓reduceCtorEq, Nat.reduceEqDiff, Nat.reduceAdd, Nat.reduceSub, Nat.reduceMul, Nat.reduceLeDiff, Nat.reduceLT]
        refine qcall_i (k5) ?_; simp only [Tryd.f62, go_sem, Int.reduceToNat, Int.reduceEq, Int.reduceNe, Int.reduceLT, Int.reduceLE, Int.reduceNeg, Int.reduceAdd, ↓reduceIte, ↓reduceCtorEq, Nat.reduceEqDiff, Nat.reduceAdd, Nat.reduceSub, Nat.reduceMul, Nat.reduceLeDiff, Nat.reduceLT]
        refine qcall_i (k3) ?_; simp only [Tryd.f62, go_sem, Int.reduceToNat, Int.reduceEq, Int.reduceNe, Int.reduceLT, Int.reduceLE, Int.reduceNeg, Int.reduceAdd, ↓reduceIte, ↓reduceCtorEq, Nat.reduceEqDiff, Nat.reduceAdd, Nat.reduceSub, Nat.reduceMul, Nat.reduceLeDiff, Nat.reduceLT]
        refine qcall_i (k3') ?_; simp only [Tryd.f62, go_sem, Int.reduceToNat, Int.reduceEq, Int.reduceNe, Int.reduceLT, Int.reduceLE, Int.reduceNeg, Int.reduceAdd, ↓reduceIte, ↓reduceCtorEq, Nat.reduceEqDiff, Nat.reduceAdd, Nat.reduceSub, Nat.reduceMul, Nat.reduceLeDiff, Nat.reduceLT]
        refine qinl_i [72] (k4) rfl (by decide) rfl (one_blk rfl) (by intro d h; first | (cases h; decide) | cases h) (by intro h; first | rfl | cases h) ?_; simp only [Tryd.f62, ren, eraO, eraL, List.getD_cons_zero, List.getD_cons_succ, List.filter_cons, List.filter_nil, go_sem, Int.reduceToNat, Int.reduceEq, Int.reduceNe, Int.reduceLT, Int.reduceLE, Int.reduceNeg, Int.reduceAdd, ↓reduceIte, ↓reduceCtorEq, Nat.reduceEqDiff, Nat.reduceAdd, Nat.reduceSub, Nat.reduceMul, Nat.reduceLeDiff, Nat.reduceLT]
        exact fin1 (by decide) rfl rfl
    · refine qif_df h3 ?_
      rw [if_neg (fun h => h3 h.1)] at k4
      simp only [Tryd.f62, go_sem, Int.reduceToNat, Int.reduceEq, Int.reduceNe, Int.reduceLT, Int.reduceLE, Int.reduceNeg, Int.reduceAdd, ↓reduceIte, ↓reduceCtorEq, Nat.reduceEqDiff, Nat.reduceAdd, Nat.reduceSub, Nat.reduceMul, Nat.reduceLeDiff, Nat.reduceLT]
      by_cases h2 : max (a : Int) b < 3
      · refine qif_dt h2 ?_
        simp only [Tryd.f62, go_sem, Int.reduceToNat, Int.reduceEq, Int.reduceNe, Int.reduceLT, Int.reduceLE, Int.reduceNeg, Int.reduceAdd, ↓reduceIte, ↓reduceCtorEq, Nat.reduceEqDiff, Nat.reduceAdd, Nat.reduceSub, Nat.reduceMul, Nat.reduceLeDiff, Nat.reduceLT]
        by_cases h0 : min (a : Int) b = 0
        · refine qif_dt h0 ?_
          rw [if_pos ⟨h2, h0⟩] at k4
          simp only [Tryd.f62, go_sem, Int.reduceToNat, Int.reduceEq, Int.reduceNe, Int.reduceLT, Int.reduceLE, Int.reduceNeg, Int.reduceAdd, ↓reduceIte, ↓reduceCtorEq, Nat.reduceEqDiff, Nat.reduceAdd, Nat.reduceSub, Nat.reduceMul, Nat.reduceLeDiff, Nat.reduceLT]
          refine qcall_i (k1) ?_; simp only [Tryd.f62, go_sem, Int.reduceToNat, Int.reduceEq, Int.reduceNe, Int.reduceLT, Int.reduceLE, Int.reduceNeg, Int.reduceAdd, ↓reduceIte, ↓reduceCtorEq, Nat.reduceEqDiff, Nat.reduceAdd, Nat.reduceSub, Nat.reduceMul, Nat.reduceLeDiff, Nat.reduceLT]
          refine qcall_i (k1') ?_; simp only [Tryd.f62, go_sem, Int.reduceToNat, Int.reduceEq, Int.reduceNe, Int.reduceLT, Int.reduceLE, Int.reduceNeg, Int.reduceAdd, ↓reduceIte, ↓reduceCtorEq, Nat.reduceEqDiff, Nat.reduceAdd, Nat.reduceSub, Nat.reduceMul, Nat.reduceLeDiff, Nat.reduceLT]
          refine qcall_i (k5) ?_; simp only [Tryd.f62, go_sem, Int.reduceToNat, Int.reduceEq, Int.reduceNe, Int.reduceLT, Int.reduceLE, Int.reduceNeg, Int.reduceAdd, ↓reduceIte, ↓reduceCtorEq, Nat.reduceEqDiff, Nat.reduceAdd, Nat.reduceSub, Nat.reduceMul, Nat.reduceLeDiff, Nat.reduceLT]
          refine qcall_i (k3) ?_; simp only [Tryd.f62, go_sem, Int.reduceToNat, Int.reduceEq, Int.reduceNe, Int.reduceLT, Int.reduceLE, Int.reduceNeg, Int.reduceAdd, ↓reduceIte, ↓reduceCtorEq, Nat.reduceEqDiff, Nat.reduceAdd, Nat.reduceSub, Nat.reduceMul, Nat.reduceLeDiff, Nat.reduceLT]
          refine qcall_i (k3') ?_; simp only [Tryd.f62, go_sem, Int.reduceToNat, Int.reduceEq, Int.reduceNe, Int.reduceLT, Int.reduceLE, Int.reduceNeg, Int.reduceAdd, ↓reduceIte, ↓reduceCtorEq, Nat.reduceEqDiff, Nat.reduceAdd, Nat.reduceSub, Nat.reduceMul, Nat.reduceLeDiff, Nat.reduceLT]
          refine qinl_i [72] (k4) rfl (by decide) rfl (one_blk rfl) (by intro d h; first | (cases h; decide) | cases h) (by intro h; first | rfl | cases h) ?_; simp only [Tryd.f62, ren, eraO, eraL, List.getD_cons_zero, List.getD_cons_succ, List.filter_cons, List.filter_nil, go_sem, Int.reduceToNat, Int.reduceEq, Int.reduceNe, Int.reduceLT, Int.reduceLE, Int.reduceNeg, Int.reduceAdd, ↓reduceIte, ↓reduceCtorEq, Nat.reduceEqDiff, Nat.reduceAdd, Nat.reduceSub, Nat.reduceMul, Nat.reduceLeDiff, Nat.reduceLT]
          exact fin1 (by decide) rfl rfl
        · refine qif_df h0 ?_
          rw [if_neg (fun h => h0 h.2)] at k4
          simp only [Tryd.f62, go_sem, Int.reduceToNat, Int.reduceEq, Int.reduceNe, Int.reduceLT, Int.reduceLE, Int.reduceNeg, Int.reduceAdd, ↓reduceIte, ↓reduceCtorEq, Nat.reduceEqDiff, Nat.reduceAdd, Nat.reduceSub, Nat.reduceMul, Nat.reduceLeDiff, Nat.reduceLT]
          refine qcall_i (k1) ?_; simp only [Tryd.f62, go_sem, Int.reduceToNat, Int.reduceEq, Int.reduceNe, Int.reduceLT, Int.reduceLE, Int.reduceNeg, Int.reduceAdd, ↓reduceIte, ↓reduceCtorEq, Nat.reduceEqDiff, Nat.reduceAdd, Nat.reduceSub, Nat.reduceMul, Nat.reduceLeDiff, Nat.reduceLT]
          refine qcall_i (k1') ?_; simp only [Tryd.f62, go_sem, Int.reduceToNat, Int.reduceEq, Int.reduceNe, Int.reduceLT, Int.reduceLE, Int.reduceNeg, Int.reduceAdd, ↓reduceIte, ↓reduceCtorEq, Nat.reduceEqDiff, Nat.reduceAdd, Nat.reduceSub, Nat.reduceMul, Nat.reduceLeDiff, Nat.reduceLT]
          refine qcall_i (k5) ?_; simp only [Tryd.f62, go_sem, Int.reduceToNat, Int.reduceEq, Int.reduceNe, Int.reduceLT, Int.reduceLE, Int.reduceNeg, Int.reduceAdd, ↓reduceIte, ↓reduceCtorEq, Nat.reduceEqDiff, Nat.reduceAdd, Nat.reduceSub, Nat.reduceMul, Nat.reduceLeDiff, Nat.reduceLT]
          refine qcall_i (k3) ?_; simp only [Tryd.f62, go_sem, Int.reduceToNat, Int.reduceEq, Int.reduceNe, Int.reduceLT, Int.reduceLE, Int.reduceNeg, Int.reduceAdd, ↓reduceIte, ↓reduceCtorEq, Nat.reduceEqDiff, Nat.reduceAdd, Nat.reduceSub, Nat.reduceMul, Nat.reduceLeDiff, Nat.reduceLT]
          refine qcall_i (k3') ?_; simp only [Tryd.f62, go_sem, Int.reduceToNat, Int.reduceEq, Int.reduceNe, Int.reduceLT, Int.reduceLE, Int.reduceNeg, Int.reduceAdd, ↓reduceIte, ↓reduceCtorEq, Nat.reduceEqDiff, Nat.reduceAdd, Nat.reduceSub, Nat.reduceMul, Nat.reduceLeDiff, Nat.reduceLT]
          refine qinl_i [72] (k4) rfl (by decide) rfl (one_blk rfl) (by intro d h; first | (cases h; decide) | cases h) (by intro h; first | rfl | cases h) ?_; simp only [Tryd.f62, ren, eraO, eraL, List.getD_cons_zero, List.getD_cons_succ, List.filter_cons, List.filter_nil, go_sem, Int.reduceToNat, Int.reduceEq, Int.reduceNe, Int.reduceLT, Int.reduceLE, Int.reduceNeg, Int.reduceAdd, ↓reduceIte, ↓reduceCtorEq, Nat.reduceEqDiff, Nat.reduceAdd, Nat.reduceSub, Nat.reduceMul, Nat.reduceLeDiff, Nat.reduceLT]
          exact fin1 (by decide) rfl rfl
      · refine qif_df h2 ?_
        rw [if_neg (fun h => h2 h.1)] at k4
        simp only [Tryd.f62, go_sem, Int.reduceToNat, Int.reduceEq, Int.reduceNe, Int.reduceLT, Int.reduceLE, Int.reduceNeg, Int.reduceAdd, ↓reduceIte, ↓reduceCtorEq, Nat.reduceEqDiff, Nat.reduceAdd, Nat.reduceSub, Nat.reduceMul, Nat.reduceLeDiff, Nat.reduceLT]
        refine qcall_i (k1) ?_; simp only [Tryd.f62, go_sem, Int.reduceToNat, Int.reduceEq, Int.reduceNe, Int.reduceLT, Int.reduceLE, Int.reduceNeg, Int.reduceAdd, ↓reduceIte, ↓reduceCtorEq, Nat.reduceEqDiff, Nat.reduceAdd, Nat.reduceSub, Nat.reduceMul, Nat.reduceLeDiff, Nat.reduceLT]
        refine qcall_i (k1') ?_; simp only [Tryd.f62, go_sem, Int.reduceToNat, Int.reduceEq, Int.reduceNe, Int.reduceLT, Int.reduceLE, Int.reduceNeg, Int.reduceAdd, ↓reduceIte, ↓reduceCtorEq, Nat.reduceEqDiff, Nat.reduceAdd, Nat.reduceSub, Nat.reduceMul, Nat.reduceLeDiff, Nat.reduceLT]
        refine qcall_i (k5) ?_; simp only [Tryd.f62, go_sem, Int.reduceToNat, Int.reduceEq, Int.reduceNe, Int.reduceLT, Int.reduceLE, Int.reduceNeg, Int.reduceAdd, ↓reduceIte, ↓reduceCtorEq, Nat.reduceEqDiff, Nat.reduceAdd, Nat.reduceSub, Nat.reduceMul, Nat.reduceLeDiff, Nat.reduceLT]
        refine qcall_i (k3) ?_; simp only [Tryd.f62, go_sem, Int.reduceToNat, Int.reduceEq, Int.reduceNe, Int.reduceLT, Int.reduceLE, Int.reduceNeg, Int.reduceAdd, ↓reduceIte, ↓reduceCtorEq, Nat.reduceEqDiff, Nat.reduceAdd, Nat.reduceSub, Nat.reduceMul, Nat.reduceLeDiff, Nat.reduceLT]
        refine qcall_i (k3') ?_; simp only [Tryd.f62, go_sem, Int.reduceToNat, Int.reduceEq, Int.reduceNe, Int.reduceLT, Int.reduceLE, Int.reduceNeg, Int.reduceAdd, ↓reduceIte, ↓reduceCtorEq, Nat.reduceEqDiff, Nat.reduceAdd, Nat.reduceSub, Nat.reduceMul, Nat.reduceLeDiff, Nat.reduceLT]
        refine qinl_i [72] (k4) rfl (by decide) rfl (one_blk rfl) (by intro d h; first | (cases h; decide) | cases h) (by intro h; first | rfl | cases h) ?_; simp only [Tryd.f62, ren, eraO, eraL, List.getD_cons_zero, List.getD_cons_succ, List.filter_cons, List.filter_nil, go_sem, Int.reduceToNat, Int.reduceEq, Int.reduceNe, Int.reduceLT, Int.reduceLE, Int.reduceNeg, Int.reduceAdd, ↓reduceIte, ↓reduceCtorEq, Nat.reduceEqDiff, Nat.reduceAdd, Nat.reduceSub, Nat.reduceMul, Nat.reduceLeDiff, Nat.reduceLT]
        exact fin1 (by decide) rfl rfl
  · rw [if_neg h, if_neg h]
    rw [show decide ((t.n : Int) > 65536 - 1) = true from decide_eq_true (by omega)] at k0
    obtain ⟨tb, htb⟩ : ∃ tb, tb = t.bk := ⟨_, rfl⟩
    rw [← htb] at k0 ⊢
    obtain ⟨cs, hcs⟩ : ∃ cs, tb = .box cs := ⟨_, htb⟩
    subst hcs
    simp only [Tryd.f62, nilCmp, go_sem, Int.reduceToNat, Int.reduceEq, Int.reduceNe, Int.reduceLT, Int.reduceLE, Int.reduceNeg, Int.reduceAdd, ↓reduceIte, ↓reduceCtorEq, Nat.reduceEqDiff, Nat.reduceAdd, Nat.reduceSub, Nat.reduceMul, Nat.reduceLeDiff, Nat.reduceLT]
    refine qinl_i [72] (k0) rfl (by decide) rfl (one_blk rfl) (by intro d h; first | (cases h; decide) | cases h) (by intro h; first | rfl | cases h) ?_; simp only [Tryd.f62, ren, eraO, eraL, List.getD_cons_zero, List.getD_cons_succ, List.filter_cons, List.filter_nil, go_sem, Int.reduceToNat, Int.reduceEq, Int.reduceNe, Int.reduceLT, Int.reduceLE, Int.reduceNeg, Int.reduceAdd, ↓reduceIte, ↓reduceCtorEq, Nat.reduceEqDiff, Nat.reduceAdd, Nat.reduceSub, Nat.reduceMul, Nat.reduceLeDiff, Nat.reduceLT]
    exact fin1 (by decide) rfl rfl

/-- All that another one took. -/
def joinT (t o : Tt) : Tt := ⟨t.n + o.n, addS t.sum o.sum, t.wrong || o.wrong, t.nan || o.nan, t.up || o.up, t.down || o.down, t.minus || o.minus, t.plus || o.plus, t.other || o.other⟩
theorem joinT_ok {t o : Tt} (ht : t.ok) (ho : o.ok) (hn : t.n + o.n ≤ 65536) : (joinT t o).ok := by
  have := sum_add (m := o.n) ht.2.1 ho.2.1 ht.2.2.1 ho.2.2.1 (ht.lim.fits (by rw [K0_eq]; decide)) (ho.lim.fits (by rw [K0_eq]; decide)) ht.2.2.2 ho.2.2.2
  exact ⟨hn, this⟩
theorem T_JoinN {t o : Tt} (ht : t.ok) (ho : o.ok) (hn : ¬ t.n + o.n ≤ 65536) : PCM E 63 [.ptr 0 0, .ptr 1 0] [t.bk, o.bk] (.val (.int .i64 2)) [t.bk, o.bk] := by
  refine PCM.of_body follows Tryd.func63 (by decide +kernel) rfl (by kernel_rfl) (Nat.le_of_ble_eq_true rfl) (Nat.le_refl _) (by simp) (fun k h => by cases h) (fun h => by cases h) (walk ?_)
  have h1 := ho.1
  have k0 := T_full t (o.n : Int) (by omega)
  rw [show decide ((t.n : Int) > 65536 - (o.n : Int)) = true from decide_eq_true (by omega)] at k0
  simp only [mstart, startS, blkL, shiftSV]
  obtain ⟨tb, htb⟩ : ∃ tb, tb = t.bk := ⟨_, rfl⟩
  rw [← htb] at k0 ⊢
  obtain ⟨cs, hcs⟩ : ∃ cs, tb = .box cs := ⟨_, htb⟩
  subst hcs
  unfold Tt.bk
  simp only [Tryd.f63, nilCmp, go_sem, Int.reduceToNat, Int.reduceEq, Int.reduceNe, Int.reduceLT, Int.reduceLE, Int.reduceNeg, Int.reduceAdd, ↓reduceIte, ↓reduceCtorEq, Nat.reduceEqDiff, Nat.reduceAdd, Nat.reduceSub, Nat.reduceMul, Nat.reduceLeDiff, Nat.reduceLT]
  refine qinl_i [136] (k0) rfl (by decide) rfl (one_blk rfl) (by intro d h; first | (cases h; decide) | cases h) (by intro h; first | rfl | cases h) ?_; simp only [Tryd.f63, ren, eraO, eraL, List.getD_cons_zero, List.getD_cons_succ, List.filter_cons, List.filter_nil, go_sem, Int.reduceToNat, Int.reduceEq, Int.reduceNe, Int.reduceLT, Int.reduceLE, Int.reduceNeg, Int.reduceAdd, ↓reduceIte, ↓reduceCtorEq, Nat.reduceEqDiff, Nat.reduceAdd, Nat.reduceSub, Nat.reduceMul, Nat.reduceLeDiff, Nat.reduceLT]
  exact fin2 (by decide) rfl rfl rfl
theorem T_JoinSN {t : Tt} (ht : t.ok) (hn : ¬ t.n + t.n ≤ 65536) : PCM E 63 [.ptr 0 0, .ptr 0 0] [t.bk] (.val (.int .i64 2)) [t.bk] := by
  refine PCM.of_body follows Tryd.func63 (by decide +kernel) rfl (by kernel_rfl) (Nat.le_of_ble_eq_true rfl) (Nat.le_refl _) (by simp) (fun k h => by cases h) (fun h => by cases h) (walk ?_)
  have h1 := ht.1
  have k0 := T_full t (t.n : Int) (by omega)
  rw [show decide ((t.n : Int) > 65536 - (t.n : Int)) = true from decide_eq_true (by omega)] at k0
  simp only [mstart, startS, blkL, shiftSV]
  unfold Tt.bk at k0 ⊢
  simp only [Tryd.f63, nilCmp, go_sem, Int.reduceToNat, Int.reduceEq, Int.reduceNe, Int.reduceLT, Int.reduceLE, Int.reduceNeg, Int.reduceAdd, ↓reduceIte, ↓reduceCtorEq, Nat.reduceEqDiff, Nat.reduceAdd, Nat.reduceSub, Nat.reduceMul, Nat.reduceLeDiff, Nat.reduceLT]
  refine qinl_i [136] (k0) rfl (by decide) rfl (one_blk rfl) (by intro d h; first | (cases h; decide) | cases h) (by intro h; first | rfl | cases h) ?_; simp only [Tryd.f63, ren, eraO, eraL, List.getD_cons_zero, List.getD_cons_succ, List.filter_cons, List.filter_nil, go_sem, Int.reduceToNat, Int.reduceEq, Int.reduceNe, Int.reduceLT, Int.reduceLE, Int.reduceNeg, Int.reduceAdd, ↓reduceIte, ↓reduceCtorEq, Nat.reduceEqDiff, Nat.reduceAdd, Nat.reduceSub, Nat.reduceMul, Nat.reduceLeDiff, Nat.reduceLT]
  exact fin1 (by decide) rfl rfl
end Go.Proofs.YtfogjddcagckaaaDoor
