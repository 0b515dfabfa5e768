/- The contract of the law HypotRules: at whatever reads as its arguments it returns true. -/
import Derived.Test.YtmnnnapelmhalaaDoorH7
import Derived.Test.YtmnnnapelmhalaaDoorG7
open Go PG Go.Proofs
set_option maxRecDepth 100000
set_option linter.unusedSimpArgs false
set_option linter.unusedVariables false
namespace Go.Proofs.YtmnnnapelmhalaaDoor
attribute [local go_sem] Lay2 Lay3 Lay4 Lay5 Lay6 Lay7 Lay8 Lay9 Lay10 Lay11 Lay12 Lay13 Lay14 Lay15 Lay16 Lay17 Lay18 Lay19 Lay21 Lay22 Lay25 Lay27 Lay28 Lay29 Lay30 Lay31 Lay35 Lay38 Lay39 Lay52 Lay75 Lay76 Lay79 Lay121 Lay126 Lay128 Lay129 Lay130 Lay131 Lay132 Lay134 Lay135 Lay137 Lay138 Lay139 Lay142 qexec_seq qexec_skip qexec_exit qexec_ret qexec_block qexec_loop qexec_range qexec_cond qexec_region qexec_drawn qops_nil qops_none qops_some put_some put_none pblk_exit pblk_other newDsts_nil inlDsts_nil isInl sget_cons sget_nil qval_some qbool_some qgs_bool qgs_und qfree_some qgrd_true qgrd_false qif_true qif_false qval_ite qval_itn qand_true map_ite map_some' map_none' qdo_move qdo_assign qdo_binOp qdo_pick qdo_unOp qdo_convert qdo_extract qdo_field qdo_fieldAddr qdo_alloc qdo_box qdo_build qdo_buildSlice qdo_load qdo_store qdo_nilCheck qdo_makeFunc qdo_makeSlice qdo_slice qdo_indexAddr qdo_call qcont_val qcont_new qcont_st qcont_app0 qcont_app qcont_inl qcont_call njSV_val njSV_nil njSV_row njSV_ptr njSV_sub binV_val binV_nil binV_nn binV_ptr bin_np bin_nnp nilCmp bin_add bin_sub bin_mul bin_quo bin_rem bin_and bin_or bin_xor bin_andNot bin_eql bin_neq bin_lss bin_leq bin_gtr bin_geq bin_shl bin_shr bin_seql bin_sneq bin_sadd bin_beql bin_aeql bin_aneq eqAnd_some eqCells_nil eqCells_cons fieldTypes isStruct eqCell bin_bneq un_not un_neg nj_ite Nat.beq stepA stepR isNew opSV constSV RV.sv allSome E_mu E_own qkeyIn_none qkeyIn_some qkeyAt_none qkeyAt_some Bool.or_false Bool.false_or Bool.or_true Bool.true_or cst setB res resSV pstart startL killL kill1 eraL frzL svPV rvPV rvInt rvSlice frzOf close closeL pconv pbuiltin pmax2 partPV setCells fillPV zrow bound newSV PV.cells Bk.cells Bk.with SV.key pres presL_nil presL_tmp presL_cell presC2_some cellPV_ptr presC List.toList_toArray List.size_toArray List.getElem?_drop Nat.mul_one Int.toNat_natCast Nat.not_lt_zero Nat.lt_irrefl decide_true decide_false Nat.not_lt Option.some.injEq PV.lst.injEq PV.int.injEq PV.bool.injEq PV.tuple.injEq List.cons.injEq Option.map_some Option.map_none Option.bind_some Option.toList List.map_cons List.map_nil List.nil_append List.cons_append List.append_nil List.zip_cons_cons List.zip_nil_left List.zip_nil_right List.getElem?_cons_zero List.getElem?_cons_succ List.drop_zero List.drop_succ_cons List.take_succ_cons List.take_zero List.set_cons_zero List.set_cons_succ List.length_cons List.length_nil List.length_set List.replicate_one List.replicate_zero bne_self_eq_false beq_self_eq_true Nat.zero_add Nat.add_zero Nat.zero_mul Bool.false_eq_true Bool.true_eq_false Bool.not_true Bool.not_false and_true true_and false_and and_false or_false false_or or_true true_or not_true_eq_false not_false_eq_true ne_eq gt_iff_lt List.mem_cons List.not_mem_nil
attribute [local go_sem ↓] pseq_normal pseq_ret pseq_exit pblk_normal pblk_ret newDsts_cons inlDsts_cons gdst_zero gdst_succ retQ_normal retQ_ret qneed_nil qneed_cons retM_normal retM_ret endR_normal endR_ret endR_exit
attribute [local go_sem] Int.reduceToNat Int.reduceEq Int.reduceNe Int.reduceLT Int.reduceLE Int.reduceNeg Int.reduceAdd Nat.reduceEqDiff Nat.reduceAdd Nat.reduceSub Nat.reduceMul Nat.reduceLeDiff Nat.reduceLT
attribute [local go_sem ↓] reduceIte reduceCtorEq

set_option maxHeartbeats 4000000 in
theorem law_HypotRules (pvs : List PV) (h : Fits [qU64, qU64, qU8] pvs) : PC E 3 pvs (.bool true) := by
  obtain ⟨_, _, _, rfl, ⟨x, rfl, hx⟩, ⟨y, rfl, hy⟩, ⟨dr, rfl, hdr⟩⟩ := fits3 h
  obtain ⟨D, hD⟩ : ∃ D, D = dr % 4 := ⟨_, rfl⟩
  have hD4 : D < 4 := by omega
  have hd : (0 : Int) ≤ (D : Int) ∧ (D : Int) ≤ 3 := by omega
  have kx := c_rKind x hx
  have ky := c_rKind y hy
  have sx := c_rSize x hx
  have sy := c_rSize y hy
  have w4 : (dr : Int).tmod 4 = (D : Int) := by rw [hD]; exact n_tmod dr 4
  have w6 : IntKind.wrap .i64 (D : Int) = D := wrap64 (by omega) (by omega)
  have w7 : IntKind.wrap .u8 (D : Int) = D := wrap8 (by omega)
  have z0 : ((0 : Nat) : Int) = 0 := rfl
  by_cases hk : kind x ≤ 2 ∧ kind y ≤ 2
  case neg =>
    simp only [u] at kx ky ⊢
    clear sx sy hx hy
    generalize kind x = a at *
    generalize kind y = b at *
    refine PC.of_body follows Tryd.func3 (by decide +kernel) rfl (by kernel_rfl) (Nat.le_of_ble_eq_true rfl) (walk ?_)
    simp only [Tryd.f3, go_sem]
    refine qcall_i (c_alive30) ?_; simp only [Tryd.f3, w4, w6, w7, go_sem]
    refine qcall_i (kx) ?_; simp only [Tryd.f3, go_sem]
    repeat' first
      | (with_reducible refine qcall_i ky ?_; simp only [Tryd.f3, go_sem])
      | ((with_reducible refine qif_d (fun h => ?_) (fun h => ?_)) <;> first | (exfalso; omega) | simp only [Tryd.f3, go_sem])
      | rfl
  have eW : W = 18446744073709551616 := by decide
  have aI : fsz x < INF := fsz_INF.1 (fd_fin hk.1)
  have bI : fsz y < INF := fsz_INF.1 (fd_fin hk.2)
  have ka : kind (fsz x) ≤ 2 := by rw [(size_fields hx).2.2]; exact hk.1
  have kb : kind (fsz y) ≤ 2 := by rw [(size_fields hy).2.2]; exact hk.2
  have aW : fsz x < W := by have := fsz_lt x; omega
  have bW : fsz y < W := by have := fsz_lt y; omega
  obtain ⟨r1, hr1⟩ := isq_ex (rootM (sumQ [x, y]))
  have hr2 : Isq (rootM (sumQ [fsz y, fsz x])) r1 := by rw [sumQ_size hx hy]; exact hr1
  obtain ⟨r2, hr3⟩ := isq_ex (rootM (prodG (fsz x) (fsz y)))
  have k1 := h_Hypot hx hy hr1 hd
  have k2 := h_Hypot bW aW hr2 hd
  rw [lenS_size hx hy hk.1 hk.2] at k2
  have k3 := h_Mean (l := [x]) (fun d h => by simp at h; rw [h]; exact hx) (by simp) (by simp) hd
  rw [mean_one hx hk.1] at k3
  have k4 := h_Mean (l := [fsz x, fsz y]) (fun d h => by simp at h; rcases h with rfl | rfl <;> assumption) (by simp) (by simp) hd
  have k5 := h_Geometric aW bW hr3 hd
  have q1 := len_ge bI aI kb ka hr2 (D : Int)
  rw [lenS_size hx hy hk.1 hk.2] at q1
  have q2 := means_two aI bI ka kb hr3 (D : Int)
  clear hr1 hr2 hr3 ka kb aI bI aW bW eW hD
  generalize lenS [x, y] r1 (D : Int) = R1 at *
  generalize meanS [fsz x, fsz y] (D : Int) = R2 at *
  generalize geoS (fsz x) (fsz y) r2 (D : Int) = R3 at *
  generalize fsz x = a at *
  generalize fsz y = b at *
  unfold resB at *
  simp only [u, NL, U, List.map_cons, List.map_nil, List.length_cons, List.length_nil, Nat.reduceAdd, z0] at kx ky sx sy k1 k2 k3 k4 k5 ⊢
  generalize kind x = kx' at *
  generalize kind y = ky' at *
  refine PC.of_body follows Tryd.func3 (by decide +kernel) rfl (by kernel_rfl) (Nat.le_of_ble_eq_true rfl) (walk ?_)
  simp only [Tryd.f3, go_sem]
  refine qcall_i (c_alive30) ?_; simp only [Tryd.f3, w4, w6, w7, go_sem]
  refine qcall_i (kx) ?_; simp only [Tryd.f3, go_sem]
  refine qif_df (by omega) ?_
  simp only [Tryd.f3, go_sem]
  refine qcall_i (ky) ?_; simp only [Tryd.f3, go_sem]
  refine qif_df (by omega) ?_
  simp only [Tryd.f3, w4, w6, w7, go_sem]
  refine qcall_i (sx) ?_; simp only [Tryd.f3, go_sem]
  refine qcall_i (sy) ?_; simp only [Tryd.f3, go_sem]
  refine qcall_i (k1) ?_; simp only [Tryd.f3, w4, w6, w7, go_sem]
  refine qcall_i (k2) ?_; simp only [Tryd.f3, Bool.and_self, List.replicate_succ, go_sem]
  repeat' first
    | (with_reducible refine qcall_i k3 ?_; simp only [Tryd.f3, Bool.and_self, List.replicate_succ, go_sem])
    | (with_reducible refine qcall_i k4 ?_; simp only [Tryd.f3, Bool.and_self, List.replicate_succ, go_sem])
    | (with_reducible refine qcall_i k5 ?_; simp only [Tryd.f3, Bool.and_self, List.replicate_succ, go_sem])
    | ((with_reducible refine qif_d (fun h => ?_) (fun h => ?_)) <;> first | (exfalso; omega) | simp only [Tryd.f3, Bool.and_self, List.replicate_succ, go_sem])
    | rfl
    | exact decide_eq_true (by omega)
end Go.Proofs.YtmnnnapelmhalaaDoor
