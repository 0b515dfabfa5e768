/- Totals: joining; what a total is worth. -/
import Derived.Test.YtfogjddcagckaaaDoorTot3
open Go PG Go.Proofs
set_option maxRecDepth 100000
set_option linter.unusedSimpArgs false
set_option linter.unusedVariables false
namespace Go.Proofs.YtfogjddcagckaaaDoor
attribute [local go_sem] Lay2 Lay3 Lay4 Lay5 Lay6 Lay7 Lay8 Lay9 Lay10 Lay11 Lay12 Lay13 Lay14 Lay15 Lay16 Lay17 Lay18 Lay19 Lay21 Lay22 Lay23 Lay24 Lay27 Lay28 Lay29 Lay35 Lay36 Lay38 Lay39 Lay40 Lay42 Lay43 Lay45 Lay46 Lay67 Lay81 Lay82 Lay83 Lay84 Lay85 Lay86 Lay87 Lay90 Lay93 Lay94 Lay105 Lay116 Lay132 Lay138 Lay145 Lay162 Lay163 Lay201 qexec_seq qexec_skip qexec_exit qexec_ret qexec_block qexec_loop qexec_range qexec_cond qexec_region qexec_drawn qops_nil qops_none qops_some put_some put_none pblk_exit pblk_other newDsts_nil sget_cons sget_nil qval_some qbool_some qgs_bool qgs_und qfree_some qgrd_true qgrd_false qif_true qif_false qval_ite qval_itn qand_true map_ite map_some' map_none' qdo_move qdo_assign qdo_binOp qdo_pick qdo_unOp qdo_convert qdo_extract qdo_field qdo_fieldAddr qdo_alloc qdo_box qdo_build qdo_buildSlice qdo_load qdo_store qdo_nilCheck qdo_makeFunc qdo_makeSlice qdo_slice qdo_indexAddr qdo_call qcont_val qcont_new qcont_st qcont_app0 qcont_app qcont_inl qcont_call njSV_val njSV_nil njSV_row njSV_ptr njSV_sub binV_val binV_nil binV_nn binV_ptr bin_np bin_nnp nilCmp bin_add bin_sub bin_mul bin_quo bin_rem bin_and bin_or bin_xor bin_andNot bin_eql bin_neq bin_lss bin_leq bin_gtr bin_geq bin_shl bin_shr bin_seql bin_sneq bin_sadd bin_beql bin_aeql bin_aneq eqAnd_some eqCells_nil eqCells_cons fieldTypes isStruct eqCell bin_bneq un_not un_neg nj_ite Nat.beq stepA stepR isNew opSV constSV RV.sv allSome E_mu E_own qkeyIn_none qkeyIn_some qkeyAt_none qkeyAt_some Bool.or_false Bool.false_or Bool.or_true Bool.true_or cst setB res resSV pstart startL killL kill1 eraL frzL svPV rvPV rvInt rvSlice frzOf close closeL pconv pbuiltin pmax2 partPV setCells fillPV zrow bound newSV PV.cells Bk.cells Bk.with SV.key pres presL_nil presL_tmp presL_cell presC2_some cellPV_ptr presC List.toList_toArray List.size_toArray List.getElem?_drop Nat.mul_one Int.toNat_natCast Nat.not_lt_zero Nat.lt_irrefl decide_true decide_false Nat.not_lt Option.some.injEq PV.lst.injEq PV.int.injEq PV.bool.injEq PV.tuple.injEq List.cons.injEq Option.map_some Option.map_none Option.bind_some Option.toList List.map_cons List.map_nil List.nil_append List.cons_append List.append_nil List.zip_cons_cons List.zip_nil_left List.zip_nil_right List.getElem?_cons_zero List.getElem?_cons_succ List.drop_zero List.drop_succ_cons List.take_succ_cons List.take_zero List.set_cons_zero List.set_cons_succ List.length_cons List.length_nil List.length_set List.replicate_one List.replicate_zero bne_self_eq_false beq_self_eq_true Nat.zero_add Nat.add_zero Nat.zero_mul Bool.false_eq_true Bool.true_eq_false Bool.not_true Bool.not_false and_true true_and false_and and_false or_false false_or or_true true_or not_true_eq_false not_false_eq_true ne_eq gt_iff_lt List.mem_cons List.not_mem_nil
attribute [local go_sem ↓] pseq_normal pseq_ret pseq_exit pblk_normal pblk_ret newDsts_cons gdst_zero gdst_succ retQ_normal retQ_ret qneed_nil qneed_cons retM_normal retM_ret endR_normal endR_ret endR_exit

theorem T_JoinS {t : Tt} (ht : t.ok) (hn : t.n + t.n ≤ 65536) : PCM E 63 [.ptr 0 0, .ptr 0 0] [t.bk] (.val (.int .i64 0)) [(joinT t t).bk] := by
  refine PCM.of_sem Tryd.func63 (by decide +kernel) rfl (Nat.le_of_ble_eq_true rfl) (Nat.le_refl _) (by simp) (fun k h => by cases h) (fun h => by cases h) ?_
  have k0 := T_full t (t.n : Int) (by omega)
  rw [show decide ((t.n : Int) > 65536 - (t.n : Int)) = false from decide_eq_false (by omega)] at k0
  have k1 := r_Add ht.rd ht.rd
  rw [addV_lim ht.lim ht.lim (by rw [K0_eq]; decide)] at k1
  have w1 : IntKind.wrap .i64 ((t.n : Int) + (t.n : Int)) = ((t.n + t.n : Nat) : Int) := by rw [wrap64 (by omega) (by omega)]; omega
  unfold joinT
  simp only [mstart, startS, blkL, shiftSV]
  unfold Tt.bk at k0 ⊢
  generalize hN : t.n + t.n = nn at *
  generalize addS t.sum t.sum = S at *
  obtain ⟨tn, ts, b1, b2, b3, b4, b5, b6, b7⟩ := t
  simp only [Dy.pv, DP] at k0 k1 w1 ⊢
  refine PSem.cut follows (by kernel_rfl) 4 (fun _ : Unit => ⟨[(0, .ptr 136 0), (1, .ptr 136 0)], [(136, (.box [.int .i64 nn, .bool S.s, NN S.m, .int .i64 S.e, .bool (b1), .bool (b2), .bool (b3), .bool (b4), .bool (b5), .bool (b6), .bool (b7)], false))]⟩) (fun _ => True) ?_ (fun _ _ => ?_)
  · simp only [Tryd.f63, nilCmp, qfirst_succ, qfirst_zero, after_succ, after_zero, go_sem, Int.reduceToNat, Int.reduceEq, Int.reduceNe, Int.reduceLT, Int.reduceLE, Int.reduceNeg, Int.reduceAdd, ↓reduceIte, ↓reduceCtorEq, Nat.reduceEqDiff, Nat.reduceAdd, Nat.reduceSub, Nat.reduceMul, Nat.reduceLeDiff, Nat.reduceLT]
    refine qinl_i [136] (k0) rfl (by decide) rfl (one_blk rfl) (by intro d h; first | (cases h; decide) | cases h) (by intro h; first | rfl | cases h) ?_; simp only [Tryd.f63, qfirst_succ, qfirst_zero, after_succ, after_zero, ren, eraO, eraL, List.getD_cons_zero, List.getD_cons_succ, List.filter_cons, List.filter_nil, go_sem, Int.reduceToNat, Int.reduceEq, Int.reduceNe, Int.reduceLT, Int.reduceLE, Int.reduceNeg, Int.reduceAdd, ↓reduceIte, ↓reduceCtorEq, Nat.reduceEqDiff, Nat.reduceAdd, Nat.reduceSub, Nat.reduceMul, Nat.reduceLeDiff, Nat.reduceLT]
    refine qcall_i (k1) ?_; simp only [Tryd.f63, qfirst_succ, qfirst_zero, after_succ, after_zero, w1, go_sem, Int.reduceToNat, Int.reduceEq, Int.reduceNe, Int.reduceLT, Int.reduceLE, Int.reduceNeg, Int.reduceAdd, ↓reduceIte, ↓reduceCtorEq, Nat.reduceEqDiff, Nat.reduceAdd, Nat.reduceSub, Nat.reduceMul, Nat.reduceLeDiff, Nat.reduceLT]
    refine ⟨(), ?_⟩
    simp [Wk, sget, killL, kill1, SV.key, setCells]
  refine PSem.cut follows (by kernel_rfl) 1 (fun _ : Unit => ⟨[(0, .ptr 136 0), (1, .ptr 136 0)], [(136, (.box [.int .i64 nn, .bool S.s, NN S.m, .int .i64 S.e, .bool (b1 || b1), .bool (b2 || b2), .bool (b3), .bool (b4), .bool (b5), .bool (b6), .bool (b7)], false))]⟩) (fun _ => True) ?_ (fun _ _ => ?_)
  · cases b1 <;> cases b2
    all_goals
      simp only [Tryd.f63, qfirst_succ, qfirst_zero, after_succ, after_zero, go_sem, Int.reduceToNat, Int.reduceEq, Int.reduceNe, Int.reduceLT, Int.reduceLE, Int.reduceNeg, Int.reduceAdd, ↓reduceIte, ↓reduceCtorEq, Nat.reduceEqDiff, Nat.reduceAdd, Nat.reduceSub, Nat.reduceMul, Nat.reduceLeDiff, Nat.reduceLT]
      refine ⟨(), ?_⟩
      simp [Wk, sget, killL, kill1, SV.key, setCells]
  refine PSem.cut follows (by kernel_rfl) 1 (fun _ : Unit => ⟨[(0, .ptr 136 0), (1, .ptr 136 0)], [(136, (.box [.int .i64 nn, .bool S.s, NN S.m, .int .i64 S.e, .bool (b1 || b1), .bool (b2 || b2), .bool (b3 || b3), .bool (b4 || b4), .bool (b5), .bool (b6), .bool (b7)], false))]⟩) (fun _ => True) ?_ (fun _ _ => ?_)
  · cases b3 <;> cases b4
    all_goals
      simp only [Tryd.f63, qfirst_succ, qfirst_zero, after_succ, after_zero, go_sem, Int.reduceToNat, Int.reduceEq, Int.reduceNe, Int.reduceLT, Int.reduceLE, Int.reduceNeg, Int.reduceAdd, ↓reduceIte, ↓reduceCtorEq, Nat.reduceEqDiff, Nat.reduceAdd, Nat.reduceSub, Nat.reduceMul, Nat.reduceLeDiff, Nat.reduceLT]
      refine ⟨(), ?_⟩
      simp [Wk, sget, killL, kill1, SV.key, setCells]
  refine PSem.last follows (by kernel_rfl) ?_
  cases b5 <;> cases b6 <;> cases b7
  all_goals
    simp only [Tryd.f63, after_succ, after_zero, go_sem, Int.reduceToNat, Int.reduceEq, Int.reduceNe, Int.reduceLT, Int.reduceLE, Int.reduceNeg, Int.reduceAdd, ↓reduceIte, ↓reduceCtorEq, Nat.reduceEqDiff, Nat.reduceAdd, Nat.reduceSub, Nat.reduceMul, Nat.reduceLeDiff, Nat.reduceLT]
    exact fin1 (by decide) (by simp [sget]) rfl

theorem T_Join {t o : Tt} (ht : t.ok) (ho : o.ok) (hn : t.n + o.n ≤ 65536) : PCM E 63 [.ptr 0 0, .ptr 1 0] [t.bk, o.bk] (.val (.int .i64 0)) [(joinT t o).bk, o.bk] := by
  refine PCM.of_sem Tryd.func63 (by decide +kernel) rfl (Nat.le_of_ble_eq_true rfl) (Nat.le_refl _) (by simp) (fun k h => by cases h) (fun h => by cases h) ?_
  have k0 := T_full t (o.n : Int) (by omega)
  rw [show decide ((t.n : Int) > 65536 - (o.n : Int)) = false from decide_eq_false (by omega)] at k0
  have k1 := r_Add ht.rd ho.rd
  rw [addV_lim ht.lim ho.lim (by rw [K0_eq]; decide)] at k1
  have w1 : IntKind.wrap .i64 ((t.n : Int) + (o.n : Int)) = ((t.n + o.n : Nat) : Int) := by rw [wrap64 (by omega) (by omega)]; omega
  unfold joinT
  simp only [mstart, startS, blkL, shiftSV]
  unfold Tt.bk at k0 ⊢
  generalize hN : t.n + o.n = nn at *
  generalize addS t.sum o.sum = S at *
  obtain ⟨tn, ts, b1, b2, b3, b4, b5, b6, b7⟩ := t
  obtain ⟨on, os, c1, c2, c3, c4, c5, c6, c7⟩ := o
  simp only [Dy.pv, DP] at k0 k1 w1 ⊢
  refine PSem.cut follows (by kernel_rfl) 4 (fun _ : Unit => ⟨[(0, .ptr 136 0), (1, .ptr (136 + 1) 0)], [(136, (.box [.int .i64 nn, .bool S.s, NN S.m, .int .i64 S.e, .bool (b1), .bool (b2), .bool (b3), .bool (b4), .bool (b5), .bool (b6), .bool (b7)], false)), ((136 + 1), (.box [.int .i64 on, .bool os.s, NN os.m, .int .i64 os.e, .bool c1, .bool c2, .bool c3, .bool c4, .bool c5, .bool c6, .bool c7], false))]⟩) (fun _ => True) ?_ (fun _ _ => ?_)
  · simp only [Tryd.f63, nilCmp, qfirst_succ, qfirst_zero, after_succ, after_zero, go_sem, Int.reduceToNat, Int.reduceEq, Int.reduceNe, Int.reduceLT, Int.reduceLE, Int.reduceNeg, Int.reduceAdd, ↓reduceIte, ↓reduceCtorEq, Nat.reduceEqDiff, Nat.reduceAdd, Nat.reduceSub, Nat.reduceMul, Nat.reduceLeDiff, Nat.reduceLT]
    refine qinl_i [136] (k0) rfl (by decide) rfl (one_blk rfl) (by intro d h; first | (cases h; decide) | cases h) (by intro h; first | rfl | cases h) ?_; simp only [Tryd.f63, qfirst_succ, qfirst_zero, after_succ, after_zero, ren, eraO, eraL, List.getD_cons_zero, List.getD_cons_succ, List.filter_cons, List.filter_nil, go_sem, Int.reduceToNat, Int.reduceEq, Int.reduceNe, Int.reduceLT, Int.reduceLE, Int.reduceNeg, Int.reduceAdd, ↓reduceIte, ↓reduceCtorEq, Nat.reduceEqDiff, Nat.reduceAdd, Nat.reduceSub, Nat.reduceMul, Nat.reduceLeDiff, Nat.reduceLT]
    refine qcall_i (k1) ?_; simp only [Tryd.f63, qfirst_succ, qfirst_zero, after_succ, after_zero, w1, go_sem, Int.reduceToNat, Int.reduceEq, Int.reduceNe, Int.reduceLT, Int.reduceLE, Int.reduceNeg, Int.reduceAdd, ↓reduceIte, ↓reduceCtorEq, Nat.reduceEqDiff, Nat.reduceAdd, Nat.reduceSub, Nat.reduceMul, Nat.reduceLeDiff, Nat.reduceLT]
    refine ⟨(), ?_⟩
    simp [Wk, sget, killL, kill1, SV.key, setCells]
  refine PSem.cut follows (by kernel_rfl) 1 (fun _ : Unit => ⟨[(0, .ptr 136 0), (1, .ptr (136 + 1) 0)], [(136, (.box [.int .i64 nn, .bool S.s, NN S.m, .int .i64 S.e, .bool (b1 || c1), .bool (b2 || c2), .bool (b3), .bool (b4), .bool (b5), .bool (b6), .bool (b7)], false)), ((136 + 1), (.box [.int .i64 on, .bool os.s, NN os.m, .int .i64 os.e, .bool c1, .bool c2, .bool c3, .bool c4, .bool c5, .bool c6, .bool c7], false))]⟩) (fun _ => True) ?_ (fun _ _ => ?_)
  · cases b1 <;> cases b2
    all_goals
      simp only [Tryd.f63, qfirst_succ, qfirst_zero, after_succ, after_zero, go_sem, Int.reduceToNat, Int.reduceEq, Int.reduceNe, Int.reduceLT, Int.reduceLE, Int.reduceNeg, Int.reduceAdd, ↓reduceIte, ↓reduceCtorEq, Nat.reduceEqDiff, Nat.reduceAdd, Nat.reduceSub, Nat.reduceMul, Nat.reduceLeDiff, Nat.reduceLT]
      refine ⟨(), ?_⟩
      simp [Wk, sget, killL, kill1, SV.key, setCells]
  refine PSem.cut follows (by kernel_rfl) 1 (fun _ : Unit => ⟨[(0, .ptr 136 0), (1, .ptr (136 + 1) 0)], [(136, (.box [.int .i64 nn, .bool S.s, NN S.m, .int .i64 S.e, .bool (b1 || c1), .bool (b2 || c2), .bool (b3 || c3), .bool (b4 || c4), .bool (b5), .bool (b6), .bool (b7)], false)), ((136 + 1), (.box [.int .i64 on, .bool os.s, NN os.m, .int .i64 os.e, .bool c1, .bool c2, .bool c3, .bool c4, .bool c5, .bool c6, .bool c7], false))]⟩) (fun _ => True) ?_ (fun _ _ => ?_)
  · cases b3 <;> cases b4
    all_goals
      simp only [Tryd.f63, qfirst_succ, qfirst_zero, after_succ, after_zero, go_sem, Int.reduceToNat, Int.reduceEq, Int.reduceNe, Int.reduceLT, Int.reduceLE, Int.reduceNeg, Int.reduceAdd, ↓reduceIte, ↓reduceCtorEq, Nat.reduceEqDiff, Nat.reduceAdd, Nat.reduceSub, Nat.reduceMul, Nat.reduceLeDiff, Nat.reduceLT]
      refine ⟨(), ?_⟩
      simp [Wk, sget, killL, kill1, SV.key, setCells]
  refine PSem.last follows (by kernel_rfl) ?_
  cases b5 <;> cases b6 <;> cases b7
  all_goals
    simp only [Tryd.f63, after_succ, after_zero, go_sem, Int.reduceToNat, Int.reduceEq, Int.reduceNe, Int.reduceLT, Int.reduceLE, Int.reduceNeg, Int.reduceAdd, ↓reduceIte, ↓reduceCtorEq, Nat.reduceEqDiff, Nat.reduceAdd, Nat.reduceSub, Nat.reduceMul, Nat.reduceLeDiff, Nat.reduceLT]
    exact fin2 (by decide) (by simp [sget]) (by simp [sget]) rfl

end Go.Proofs.YtfogjddcagckaaaDoor
