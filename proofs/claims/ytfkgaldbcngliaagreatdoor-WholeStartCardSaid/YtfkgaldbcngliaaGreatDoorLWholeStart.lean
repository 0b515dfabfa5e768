import Derived.Test.YtfkgaldbcngliaaGreatDoorSt1
open Go PG Go.Proofs
set_option maxRecDepth 100000
set_option linter.unusedSimpArgs false
set_option linter.unusedVariables false
namespace Go.Proofs.YtfkgaldbcngliaaGreatDoor
attribute [local go_sem] Lay2 Lay3 Lay4 Lay5 Lay6 Lay7 Lay8 Lay9 Lay10 Lay11 Lay12 Lay13 Lay14 Lay15 Lay16 Lay17 Lay18 Lay19 Lay20 Lay21 Lay22 Lay26 Lay27 Lay28 Lay29 Lay31 Lay32 Lay33 Lay34 Lay35 Lay41 Lay42 Lay43 Lay47 Lay48 Lay60 Lay61 Lay62 Lay63 Lay64 Lay72 Lay73 Lay74 Lay83 Lay84 Lay86 Lay90 Lay91 Lay92 Lay93 Lay102 Lay103 Lay139 Lay143 Lay149 Lay158 Lay159 Lay160 Lay161 Lay162 Lay174 Lay175 Lay193 Lay207 Lay208 Lay209 Lay210 Lay228 Lay229 Lay237 Lay238 Lay265 Lay287 Lay295 Lay296 Lay297 Lay299 Lay301 Lay302 Lay303 Lay304 Lay305 Lay307 Lay308 Lay310 Lay311 Lay312 Lay315 Lay316 Lay317 qexec_seq qexec_skip qexec_exit qexec_ret qexec_block qexec_loop qexec_range qexec_cond qexec_region qexec_drawn qops_nil qops_none qops_some put_some put_none pblk_exit pblk_other newDsts_nil inlDsts_nil isInl sget_cons sget_nil qval_some qbool_some qgs_bool qgs_und qfree_some qgrd_true qgrd_false qif_true qif_false qval_ite qval_itn qand_true map_ite map_some' map_none' qdo_move qdo_assign qdo_binOp qdo_pick qdo_unOp qdo_convert qdo_extract qdo_makeInterface qdo_field qdo_fieldAddr qdo_alloc qdo_box qdo_build qdo_buildSlice qdo_load qdo_store qdo_nilCheck qdo_makeFunc qdo_makeSlice qdo_slice qdo_indexAddr qdo_call qcont_val qcont_new qcont_st qcont_app0 qcont_app qcont_inl qcont_call njSV_val njSV_nil njSV_row njSV_ptr njSV_sub binV_val binV_nil binV_nn binV_ptr bin_np bin_nnp nilCmp bin_add bin_sub bin_mul bin_quo bin_rem bin_and bin_or bin_xor bin_andNot bin_eql bin_neq bin_lss bin_leq bin_gtr bin_geq bin_shl bin_shr bin_seql bin_sneq bin_sadd bin_beql bin_aeql bin_aneq eqAnd_some eqCells_nil eqCells_cons fieldTypes isStruct eqCell bin_bneq un_not un_neg nj_ite Nat.beq stepA stepR isNew opSV constSV RV.sv allSome E_mu E_own qkeyIn_none qkeyIn_some qkeyAt_none qkeyAt_some Bool.or_false Bool.false_or Bool.or_true Bool.true_or cst setB res resSV pstart startL killL kill1 eraL frzL svPV rvPV rvInt rvSlice rvBytes frzOf close closeL pconv pbuiltin pmax2 partPV setCells fillPV zrow bound newSV PV.cells Bk.cells Bk.with SV.key pres presL_nil presL_tmp presL_cell presC2_some cellPV_ptr presC List.toList_toArray List.size_toArray List.getElem?_drop Nat.mul_one Int.toNat_natCast Nat.not_lt_zero Nat.lt_irrefl decide_true decide_false Nat.not_lt Option.some.injEq PV.lst.injEq PV.int.injEq PV.bool.injEq PV.tuple.injEq List.cons.injEq Option.map_some Option.map_none Option.bind_some Option.toList List.map_cons List.map_nil List.nil_append List.cons_append List.append_nil List.zip_cons_cons List.zip_nil_left List.zip_nil_right List.getElem?_cons_zero List.getElem?_cons_succ List.drop_zero List.drop_succ_cons List.take_succ_cons List.take_zero List.set_cons_zero List.set_cons_succ List.length_cons List.length_nil List.length_set List.replicate_one List.replicate_zero bne_self_eq_false beq_self_eq_true Nat.zero_add Nat.add_zero Nat.zero_mul Bool.false_eq_true Bool.true_eq_false Bool.not_true Bool.not_false and_true true_and false_and and_false or_false false_or or_true true_or not_true_eq_false not_false_eq_true ne_eq gt_iff_lt List.mem_cons List.not_mem_nil
attribute [local go_sem ↓] pseq_normal pseq_ret pseq_exit pblk_normal pblk_ret newDsts_cons inlDsts_cons gdst_zero gdst_succ retQ_normal retQ_ret qneed_nil qneed_cons retM_normal retM_ret endR_normal endR_ret endR_exit
attribute [local go_sem] Int.reduceToNat Int.reduceEq Int.reduceNe Int.reduceLT Int.reduceLE Int.reduceNeg Int.reduceAdd Nat.reduceEqDiff Nat.reduceAdd Nat.reduceSub Nat.reduceMul Nat.reduceLeDiff Nat.reduceLT
attribute [local go_sem ↓] reduceIte reduceCtorEq
open XX
set_option maxHeartbeats 4000000 in
theorem law_WholeStart (pvs : List PV) (h : Fits [qOp, qWay, qU16] pvs) : PC E 6 pvs (.bool true) := by
  obtain ⟨_, _, _, rfl, ⟨k, x, y, n, rfl, hk, hx, hy, hn⟩, ⟨dir, f, t, rfl, hd, hf, ht⟩, ⟨m, rfl, hm⟩⟩ := fits3 h
  have k0 := l_alive
  have k1 := t_far k x y n dir f t
  by_cases c1 : tFar k dir f t
  · rw [decide_eq_true c1] at k1
    simp only [opv, wayv] at k1 ⊢
    refine PC.of_body follows Tryz.func6 (by decide +kernel) rfl (by kernel_rfl) (Nat.le_of_ble_eq_true rfl) (walk ?_)
    simp only [Tryz.f6, go_sem]
    refine qcall_i (k0) ?_; simp only [Tryz.f6, go_sem]
    refine qcall_i (k1) ?_; simp only [Tryz.f6, go_sem]
    try rfl
  rw [decide_eq_false c1] at k1
  have c2 : hOk dir f t := Decidable.byContradiction fun h => c1 (.inr (.inr (.inr h)))
  obtain ⟨⟨p1, p2, p3, p4⟩, p5, p6⟩ := c2
  have c2 : hOk dir f t := ⟨⟨p1, p2, p3, p4⟩, p5, p6⟩
  obtain ⟨f', hf'⟩ : ∃ f' : Int, f' = 32 + (m : Int).tmod (t - 31) := ⟨_, rfl⟩
  have hr : 0 ≤ (m : Int).tmod (t - 31) ∧ (m : Int).tmod (t - 31) < t - 31 := by
    rw [Int.tmod_eq_emod_of_nonneg (by omega)]
    exact ⟨Int.emod_nonneg _ (by omega), Int.emod_lt_of_pos _ (by omega)⟩
  have c3 : hOk dir f' t := ⟨⟨by omega, by omega, p3, p4⟩, p5, p6⟩
  have k2 := t_do hx hy hn.1 hn.2 k c2
  have k3 := t_do hx hy hn.1 hn.2 k c3
  have main := start_op (k := k) hx hy hn.1 hn.2 c2 c3
  have w1 : IntKind.wrap .i64 (m : Int) = m := wrap64 (by omega) (by omega)
  have w2 : IntKind.wrap .i64 (t - 31) = t - 31 := wrap64 (by omega) (by omega)
  have w3 : IntKind.wrap .i64 (32 + (m : Int).tmod (t - 31)) = f' := by rw [wrap64 (by omega) (by omega), hf']
  generalize opR k x y n dir f t = R at *
  generalize opR k x y n dir f' t = R' at *
  obtain ⟨b, fl, st⟩ := R
  obtain ⟨b', fl', st'⟩ := R'
  simp only [Prod.mk.injEq] at main
  simp only [opv, wayv, rPV] at k1 k2 k3 ⊢
  refine PC.of_body follows Tryz.func6 (by decide +kernel) rfl (by kernel_rfl) (Nat.le_of_ble_eq_true rfl) (walk ?_)
  simp only [Tryz.f6, go_sem]
  refine qcall_i (k0) ?_; simp only [Tryz.f6, go_sem]
  refine qcall_i (k1) ?_; simp only [Tryz.f6, go_sem]
  refine qcall_i (k2) ?_; simp only [Tryz.f6, w1, w2, w3, go_sem]
  refine qand_i (by omega) ?_
  simp only [Tryz.f6, w1, w2, w3, go_sem]
  refine qcall_i (k3) ?_; simp only [Tryz.f6, go_sem]
  rcases main with ⟨rfl, rfl, rfl⟩ | e
  · rw [show (decide ((b' : Int) = (b' : Int)) && (decide ((fl' : Int) = (fl' : Int)) && (decide ((st' : Int) = (st' : Int)) && true))) = true by simp]
    simp only [Tryz.f6, go_sem]
    try rfl
  · have e1 : decide ((st' : Int) = (st : Int)) = false := decide_eq_false (by omega)
    rw [e1, Bool.false_and, Bool.and_false, Bool.and_false]
    simp only [Tryz.f6, e1, go_sem]
    exact decide_eq_true (fun h2 => e (by omega))
end Go.Proofs.YtfkgaldbcngliaaGreatDoor
