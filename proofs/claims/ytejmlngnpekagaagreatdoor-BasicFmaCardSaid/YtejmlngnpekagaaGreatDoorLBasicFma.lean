/- The contract of the law BasicFma: at whatever reads as its arguments it returns true. -/
import Derived.Test.YtejmlngnpekagaaGreatDoorBq4
import Derived.Test.YtejmlngnpekagaaGreatDoorG7
open Go PG Go.Proofs
set_option maxRecDepth 100000
set_option linter.unusedSimpArgs false
set_option linter.unusedVariables false
namespace Go.Proofs.YtejmlngnpekagaaGreatDoor
attribute [local go_sem] Lay2 Lay3 Lay4 Lay5 Lay6 Lay7 Lay8 Lay9 Lay10 Lay11 Lay12 Lay13 Lay14 Lay15 Lay16 Lay17 Lay18 Lay19 Lay21 Lay22 Lay23 Lay25 Lay26 Lay27 Lay30 Lay31 Lay32 Lay33 Lay36 Lay37 Lay41 Lay42 Lay43 Lay47 Lay56 Lay57 Lay59 Lay60 Lay65 Lay66 Lay74 Lay75 Lay105 Lay114 Lay145 Lay146 Lay149 Lay150 Lay151 Lay173 Lay185 Lay189 Lay204 Lay205 Lay208 Lay214 Lay215 Lay216 Lay217 Lay218 Lay220 Lay221 Lay223 Lay224 Lay225 Lay228 qexec_seq qexec_skip qexec_exit qexec_ret qexec_block qexec_loop qexec_range qexec_cond qexec_region qexec_drawn qops_nil qops_none qops_some put_some put_none pblk_exit pblk_other newDsts_nil inlDsts_nil isInl sget_cons sget_nil qval_some qbool_some qgs_bool qgs_und qfree_some qgrd_true qgrd_false qif_true qif_false qval_ite qval_itn qand_true map_ite map_some' map_none' qdo_move qdo_assign qdo_binOp qdo_pick qdo_unOp qdo_convert qdo_extract qdo_field qdo_fieldAddr qdo_alloc qdo_box qdo_build qdo_buildSlice qdo_load qdo_store qdo_nilCheck qdo_makeFunc qdo_makeSlice qdo_slice qdo_indexAddr qdo_call qcont_val qcont_new qcont_st qcont_app0 qcont_app qcont_inl qcont_call njSV_val njSV_nil njSV_row njSV_ptr njSV_sub binV_val binV_nil binV_nn binV_ptr bin_np bin_nnp nilCmp bin_add bin_sub bin_mul bin_quo bin_rem bin_and bin_or bin_xor bin_andNot bin_eql bin_neq bin_lss bin_leq bin_gtr bin_geq bin_shl bin_shr bin_seql bin_sneq bin_sadd bin_beql bin_aeql bin_aneq eqAnd_some eqCells_nil eqCells_cons fieldTypes isStruct eqCell bin_bneq un_not un_neg nj_ite Nat.beq stepA stepR isNew opSV constSV RV.sv allSome E_mu E_own qkeyIn_none qkeyIn_some qkeyAt_none qkeyAt_some Bool.or_false Bool.false_or Bool.or_true Bool.true_or cst setB res resSV pstart startL killL kill1 eraL frzL svPV rvPV rvInt rvSlice frzOf close closeL pconv pbuiltin pmax2 partPV setCells fillPV zrow bound newSV PV.cells Bk.cells Bk.with SV.key pres presL_nil presL_tmp presL_cell presC2_some cellPV_ptr presC List.toList_toArray List.size_toArray List.getElem?_drop Nat.mul_one Int.toNat_natCast Nat.not_lt_zero Nat.lt_irrefl decide_true decide_false Nat.not_lt Option.some.injEq PV.lst.injEq PV.int.injEq PV.bool.injEq PV.tuple.injEq List.cons.injEq Option.map_some Option.map_none Option.bind_some Option.toList List.map_cons List.map_nil List.nil_append List.cons_append List.append_nil List.zip_cons_cons List.zip_nil_left List.zip_nil_right List.getElem?_cons_zero List.getElem?_cons_succ List.drop_zero List.drop_succ_cons List.take_succ_cons List.take_zero List.set_cons_zero List.set_cons_succ List.length_cons List.length_nil List.length_set List.replicate_one List.replicate_zero bne_self_eq_false beq_self_eq_true Nat.zero_add Nat.add_zero Nat.zero_mul Bool.false_eq_true Bool.true_eq_false Bool.not_true Bool.not_false and_true true_and false_and and_false or_false false_or or_true true_or not_true_eq_false not_false_eq_true ne_eq gt_iff_lt List.mem_cons List.not_mem_nil
attribute [local go_sem ↓] pseq_normal pseq_ret pseq_exit pblk_normal pblk_ret newDsts_cons inlDsts_cons gdst_zero gdst_succ retQ_normal retQ_ret qneed_nil qneed_cons retM_normal retM_ret endR_normal endR_ret endR_exit
attribute [local go_sem] Int.reduceToNat Int.reduceEq Int.reduceNe Int.reduceLT Int.reduceLE Int.reduceNeg Int.reduceAdd Nat.reduceEqDiff Nat.reduceAdd Nat.reduceSub Nat.reduceMul Nat.reduceLeDiff Nat.reduceLT
attribute [local go_sem ↓] reduceIte reduceCtorEq

set_option maxHeartbeats 4000000 in
theorem law_BasicFma (pvs : List PV) (h : Fits [qU64, qU64, qU64, qInt] pvs) : PC E 5 pvs (.bool true) := by
  obtain ⟨_, _, _, _, rfl, ⟨x, rfl, hx⟩, ⟨y, rfl, hy⟩, ⟨z, rfl, hz⟩, ⟨dir, rfl, -, -⟩⟩ := fits4 h
  have ol : Ok W [x, y, z] := fun d h => by simp at h; rcases h with rfl | rfl | rfl <;> assumption
  have ol2 : Ok W [x, y] := fun d h => by simp at h; rcases h with rfl | rfl <;> assumption
  have kw := b_Worst ol (by simp)
  have kv := b_Worst ol2 (by simp)
  have w3 := worst3 x y z
  have w2 := worst2 x y
  have hs := sgB_lt x y
  by_cases hd : 0 ≤ dir ∧ dir ≤ 3
  case neg =>
    have kF := b_FmaN (x := x) (y := y) (z := z) hd
    have kA := b_AddN (x := x) (y := y) hd
    have kM := b_MulN hx hy hd
    have s1 := c_28sameN (p := .bool true) (a := (0, 0)) hd
    have z0 : ((0 : Nat) : Int) = 0 := rfl
    generalize worstS [x, y, z] = w at *
    generalize worstS [x, y] = v at *
    unfold ansB at s1
    simp only [u, NL, U, List.map_cons, List.map_nil, List.length_cons, List.length_nil, resB, Nat.reduceAdd, z0] at kw kv kF kA kM s1 ⊢
    refine PC.of_body follows Tryz.func5 (by decide +kernel) rfl (by kernel_rfl) (Nat.le_of_ble_eq_true rfl) (walk ?_)
    simp only [Tryz.f5, List.replicate_succ, go_sem]
    refine qcall_i (c_alive28) ?_; simp only [Tryz.f5, List.replicate_succ, go_sem]
    refine qcall_i (kw) ?_; simp only [Tryz.f5, List.replicate_succ, go_sem]
    refine qcall_i (kv) ?_; simp only [Tryz.f5, List.replicate_succ, go_sem]
    refine qif_d (fun h1 => ?_) (fun h1 => ?_)
    · simp only [Tryz.f5, go_sem]
      refine qif_df (by omega) ?_
      simp only [Tryz.f5, List.replicate_succ, go_sem]
      refine qcall_i (kF) ?_; simp only [Tryz.f5, List.replicate_succ, go_sem]
      refine qcall_i (kA) ?_; simp only [Tryz.f5, List.replicate_succ, go_sem]
      refine qcall_i (kM) ?_; simp only [Tryz.f5, List.replicate_succ, go_sem]
      refine qcall_i (s1) ?_; simp only [Tryz.f5, List.replicate_succ, go_sem]
      refine qcall_i (s1) ?_; simp only [Tryz.f5, List.replicate_succ, go_sem]
      refine qcall_i (s1) ?_; simp only [Tryz.f5, List.replicate_succ, go_sem]
      try rfl
    · simp only [Tryz.f5, List.replicate_succ, go_sem]
      refine qcall_i (kF) ?_; simp only [Tryz.f5, List.replicate_succ, go_sem]
      refine qcall_i (kA) ?_; simp only [Tryz.f5, List.replicate_succ, go_sem]
      refine qcall_i (kM) ?_; simp only [Tryz.f5, List.replicate_succ, go_sem]
      refine qcall_i (s1) ?_; simp only [Tryz.f5, List.replicate_succ, go_sem]
      refine qcall_i (s1) ?_; simp only [Tryz.f5, List.replicate_succ, go_sem]
      refine qcall_i (s1) ?_; simp only [Tryz.f5, List.replicate_succ, go_sem]
      try rfl
  have kF := b_Fma hx hy hz hd
  have kA := b_Add hx hy hd
  have kM := b_Mul hx hy hd
  have k1 : worstS [x, y, z] = 0 → _ := fun h => c_28Fma hx hy hz hd (w3.1.1 h)
  have k2 : worstS [x, y] = 0 → _ := fun h => c_28Fma (y := 4607182418800017408) hx (by decide) hy hd ⟨(w2.1.1 h).1, by decide, (w2.1.1 h).2⟩
  have k3 : worstS [x, y] = 0 → _ := fun h => c_28Fma hx hy hs hd ⟨(w2.1.1 h).1, (w2.1.1 h).2, by unfold sgB; split <;> decide⟩
  have n1 := fmaS_early dir w3.1 w3.2
  have n2 := fmaS_early (x := x) (y := 4607182418800017408) (z := y) (w := worstS [x, y]) dir (by rw [w2.1, show kind 4607182418800017408 = 2 by decide]; omega) (by rw [w2.2, show kind 4607182418800017408 = 2 by decide]; omega)
  have n3 := fmaS_early (x := x) (y := y) (z := sgB x y) (w := worstS [x, y]) dir (by rw [w2.1, show kind (sgB x y) = 0 by unfold sgB; split <;> decide]; omega) (by rw [w2.2, show kind (sgB x y) = 0 by unfold sgB; split <;> decide]; omega)
  have e1 := c_28Early (worstS [x, y, z])
  have e2 := c_28Early (worstS [x, y])
  have s1 := c_28same hd (fmaS_fl x y z dir)
  have s2 := c_28same hd (fmaS_fl x 4607182418800017408 y dir)
  have s3 := c_28same hd (fmaS_fl x y (sgB x y) dir)
  have hxy : x ^^^ y < W := by
    have : W = 2 ^ 64 := by decide
    rw [this] at *
    exact Nat.xor_lt_two_pow hx hy
  have x1 : bits .xor .u64 (x : Int) (y : Int) = ((x ^^^ y : Nat) : Int) := b_xor hx hy
  have x2 : bits .and .u64 ((x ^^^ y : Nat) : Int) 9223372036854775808 = ((sgB x y : Nat) : Int) := by
    rw [← sgB_eq hx hy]
    exact b_and hxy (by decide)
  generalize worstS [x, y, z] = w at *
  generalize worstS [x, y] = v at *
  generalize fmaS x y z dir = R1 at *
  generalize fmaS x 4607182418800017408 y dir = R2 at *
  generalize fmaS x y (sgB x y) dir = R3 at *
  generalize earlyS w = E1 at *
  generalize earlyS v = E2 at *
  generalize sgB x y = sg at *
  generalize x ^^^ y = xy at *
  unfold ansB at *
  simp only [u, NL, U, List.map_cons, List.map_nil, List.length_cons, List.length_nil, resB, Nat.reduceAdd] at kw kv kF kA kM k1 k2 k3 e1 e2 s1 s2 s3 ⊢
  rw [show ((4607182418800017408 : Nat) : Int) = 4607182418800017408 from rfl] at k2
  refine PC.of_body follows Tryz.func5 (by decide +kernel) rfl (by kernel_rfl) (Nat.le_of_ble_eq_true rfl) (walk ?_)
  simp only [Tryz.f5, List.replicate_succ, x1, x2, go_sem]
  refine qcall_i (c_alive28) ?_; simp only [Tryz.f5, List.replicate_succ, x1, x2, go_sem]
  refine qcall_i (kw) ?_; simp only [Tryz.f5, List.replicate_succ, x1, x2, go_sem]
  refine qcall_i (kv) ?_; simp only [Tryz.f5, List.replicate_succ, x1, x2, go_sem]
  refine qif_dt hd.1 ?_
  simp only [Tryz.f5, go_sem]
  refine qif_dt hd.2 ?_
  simp only [Tryz.f5, List.replicate_succ, x1, x2, go_sem]
  refine qcall_i (e1) ?_; simp only [Tryz.f5, List.replicate_succ, x1, x2, go_sem]
  refine qcall_i (e2) ?_; simp only [Tryz.f5, List.replicate_succ, x1, x2, go_sem]
  refine qcall_i (e2) ?_; simp only [Tryz.f5, List.replicate_succ, x1, x2, go_sem]
  refine qif_d (fun h1 => ?_) (fun h1 => ?_)
  · have k1 := k1 (by omega)
    simp only [Tryz.f5, List.replicate_succ, x1, x2, go_sem]
    refine qcall_i (k1) ?_; simp only [Tryz.f5, List.replicate_succ, x1, x2, go_sem]
    refine qif_d (fun h2 => ?_) (fun h2 => ?_)
    · have k2 := k2 (by omega)
      have k3 := k3 (by omega)
      simp only [Tryz.f5, List.replicate_succ, x1, x2, go_sem]
      refine qcall_i (k2) ?_; simp only [Tryz.f5, List.replicate_succ, x1, x2, go_sem]
      refine qcall_i (k3) ?_; simp only [Tryz.f5, List.replicate_succ, x1, x2, go_sem]
      refine qcall_i (kF) ?_; simp only [Tryz.f5, List.replicate_succ, x1, x2, go_sem]
      refine qcall_i (kA) ?_; simp only [Tryz.f5, List.replicate_succ, x1, x2, go_sem]
      refine qcall_i (kM) ?_; simp only [Tryz.f5, List.replicate_succ, x1, x2, go_sem]
      refine qcall_i (s1) ?_; simp only [Tryz.f5, List.replicate_succ, x1, x2, go_sem]
      refine qcall_i (s2) ?_; simp only [Tryz.f5, List.replicate_succ, x1, x2, go_sem]
      refine qcall_i (s3) ?_; simp only [Tryz.f5, List.replicate_succ, x1, x2, go_sem]
      try rfl
    · have q2 := n2 (by omega)
      have q3 := n3 (by omega)
      subst q2
      subst q3
      simp only [Tryz.f5, List.replicate_succ, x1, x2, go_sem]
      refine qcall_i (kF) ?_; simp only [Tryz.f5, List.replicate_succ, x1, x2, go_sem]
      refine qcall_i (kA) ?_; simp only [Tryz.f5, List.replicate_succ, x1, x2, go_sem]
      refine qcall_i (kM) ?_; simp only [Tryz.f5, List.replicate_succ, x1, x2, go_sem]
      refine qcall_i (s1) ?_; simp only [Tryz.f5, List.replicate_succ, x1, x2, go_sem]
      refine qcall_i (s2) ?_; simp only [Tryz.f5, List.replicate_succ, x1, x2, go_sem]
      refine qcall_i (s3) ?_; simp only [Tryz.f5, List.replicate_succ, x1, x2, go_sem]
      try rfl
  · have q1 := n1 (by omega)
    subst q1
    simp only [Tryz.f5, List.replicate_succ, x1, x2, go_sem]
    refine qif_d (fun h2 => ?_) (fun h2 => ?_)
    · have k2 := k2 (by omega)
      have k3 := k3 (by omega)
      simp only [Tryz.f5, List.replicate_succ, x1, x2, go_sem]
      refine qcall_i (k2) ?_; simp only [Tryz.f5, List.replicate_succ, x1, x2, go_sem]
      refine qcall_i (k3) ?_; simp only [Tryz.f5, List.replicate_succ, x1, x2, go_sem]
      refine qcall_i (kF) ?_; simp only [Tryz.f5, List.replicate_succ, x1, x2, go_sem]
      refine qcall_i (kA) ?_; simp only [Tryz.f5, List.replicate_succ, x1, x2, go_sem]
      refine qcall_i (kM) ?_; simp only [Tryz.f5, List.replicate_succ, x1, x2, go_sem]
      refine qcall_i (s1) ?_; simp only [Tryz.f5, List.replicate_succ, x1, x2, go_sem]
      refine qcall_i (s2) ?_; simp only [Tryz.f5, List.replicate_succ, x1, x2, go_sem]
      refine qcall_i (s3) ?_; simp only [Tryz.f5, List.replicate_succ, x1, x2, go_sem]
      try rfl
    · have q2 := n2 (by omega)
      have q3 := n3 (by omega)
      subst q2
      subst q3
      simp only [Tryz.f5, List.replicate_succ, x1, x2, go_sem]
      refine qcall_i (kF) ?_; simp only [Tryz.f5, List.replicate_succ, x1, x2, go_sem]
      refine qcall_i (kA) ?_; simp only [Tryz.f5, List.replicate_succ, x1, x2, go_sem]
      refine qcall_i (kM) ?_; simp only [Tryz.f5, List.replicate_succ, x1, x2, go_sem]
      refine qcall_i (s1) ?_; simp only [Tryz.f5, List.replicate_succ, x1, x2, go_sem]
      refine qcall_i (s2) ?_; simp only [Tryz.f5, List.replicate_succ, x1, x2, go_sem]
      refine qcall_i (s3) ?_; simp only [Tryz.f5, List.replicate_succ, x1, x2, go_sem]
      try rfl
end Go.Proofs.YtejmlngnpekagaaGreatDoor
