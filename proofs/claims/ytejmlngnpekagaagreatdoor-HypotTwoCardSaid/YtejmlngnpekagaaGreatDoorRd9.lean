/- The document's rounding of numbers that need not be bare; a rounding looks at the worth alone. -/
import Derived.Test.YtejmlngnpekagaaGreatDoorRd8
import Derived.Test.YtejmlngnpekagaaGreatDoorLimN
open Go PG Go.Proofs
set_option maxRecDepth 100000
set_option linter.unusedSimpArgs false
set_option linter.unusedVariables false
namespace Go.Proofs.YtejmlngnpekagaaGreatDoor
attribute [local go_sem] Lay2 Lay3 Lay4 Lay5 Lay6 Lay7 Lay8 Lay9 Lay10 Lay11 Lay12 Lay13 Lay14 Lay15 Lay16 Lay17 Lay18 Lay19 Lay21 Lay22 Lay23 Lay25 Lay26 Lay27 Lay30 Lay31 Lay32 Lay33 Lay36 Lay37 Lay41 Lay42 Lay43 Lay47 Lay56 Lay57 Lay59 Lay60 Lay65 Lay66 Lay74 Lay75 Lay105 Lay114 Lay145 Lay146 Lay149 Lay150 Lay151 Lay173 Lay185 Lay189 Lay204 Lay205 Lay208 Lay214 Lay215 Lay216 Lay217 Lay218 Lay220 Lay221 Lay223 Lay224 Lay225 Lay228 qexec_seq qexec_skip qexec_exit qexec_ret qexec_block qexec_loop qexec_range qexec_cond qexec_region qexec_drawn qops_nil qops_none qops_some put_some put_none pblk_exit pblk_other newDsts_nil inlDsts_nil isInl sget_cons sget_nil qval_some qbool_some qgs_bool qgs_und qfree_some qgrd_true qgrd_false qif_true qif_false qval_ite qval_itn qand_true map_ite map_some' map_none' qdo_move qdo_assign qdo_binOp qdo_pick qdo_unOp qdo_convert qdo_extract qdo_field qdo_fieldAddr qdo_alloc qdo_box qdo_build qdo_buildSlice qdo_load qdo_store qdo_nilCheck qdo_makeFunc qdo_makeSlice qdo_slice qdo_indexAddr qdo_call qcont_val qcont_new qcont_st qcont_app0 qcont_app qcont_inl qcont_call njSV_val njSV_nil njSV_row njSV_ptr njSV_sub binV_val binV_nil binV_nn binV_ptr bin_np bin_nnp nilCmp bin_add bin_sub bin_mul bin_quo bin_rem bin_and bin_or bin_xor bin_andNot bin_eql bin_neq bin_lss bin_leq bin_gtr bin_geq bin_shl bin_shr bin_seql bin_sneq bin_sadd bin_beql bin_aeql bin_aneq eqAnd_some eqCells_nil eqCells_cons fieldTypes isStruct eqCell bin_bneq un_not un_neg nj_ite Nat.beq stepA stepR isNew opSV constSV RV.sv allSome E_mu E_own qkeyIn_none qkeyIn_some qkeyAt_none qkeyAt_some Bool.or_false Bool.false_or Bool.or_true Bool.true_or cst setB res resSV pstart startL killL kill1 eraL frzL svPV rvPV rvInt rvSlice frzOf close closeL pconv pbuiltin pmax2 partPV setCells fillPV zrow bound newSV PV.cells Bk.cells Bk.with SV.key pres presL_nil presL_tmp presL_cell presC2_some cellPV_ptr presC List.toList_toArray List.size_toArray List.getElem?_drop Nat.mul_one Int.toNat_natCast Nat.not_lt_zero Nat.lt_irrefl decide_true decide_false Nat.not_lt Option.some.injEq PV.lst.injEq PV.int.injEq PV.bool.injEq PV.tuple.injEq List.cons.injEq Option.map_some Option.map_none Option.bind_some Option.toList List.map_cons List.map_nil List.nil_append List.cons_append List.append_nil List.zip_cons_cons List.zip_nil_left List.zip_nil_right List.getElem?_cons_zero List.getElem?_cons_succ List.drop_zero List.drop_succ_cons List.take_succ_cons List.take_zero List.set_cons_zero List.set_cons_succ List.length_cons List.length_nil List.length_set List.replicate_one List.replicate_zero bne_self_eq_false beq_self_eq_true Nat.zero_add Nat.add_zero Nat.zero_mul Bool.false_eq_true Bool.true_eq_false Bool.not_true Bool.not_false and_true true_and false_and and_false or_false false_or or_true true_or not_true_eq_false not_false_eq_true ne_eq gt_iff_lt List.mem_cons List.not_mem_nil
attribute [local go_sem ↓] pseq_normal pseq_ret pseq_exit pblk_normal pblk_ret newDsts_cons inlDsts_cons gdst_zero gdst_succ retQ_normal retQ_ret qneed_nil qneed_cons retM_normal retM_ret endR_normal endR_ret endR_exit
attribute [local go_sem] Int.reduceToNat Int.reduceEq Int.reduceNe Int.reduceLT Int.reduceLE Int.reduceNeg Int.reduceAdd Nat.reduceEqDiff Nat.reduceAdd Nat.reduceSub Nat.reduceMul Nat.reduceLeDiff Nat.reduceLT
attribute [local go_sem ↓] reduceIte reduceCtorEq

set_option maxHeartbeats 4000000 in
theorem c_7ToN {d : Dy} (hb : bitLen d.m ≤ 1000000) (he : -10000000000 ≤ d.e ∧ d.e ≤ 10000000000) (more : Bool) {dir : Int} (hd0 : 0 ≤ dir) (hd3 : dir ≤ 3) :
    PC E 22 [d.nv, .bool more, .int .i64 dir] (.tuple [u (toS d more dir).1, .int .i64 (toS d more dir).2]) := by
  have hI : INF = 9218868437227405312 := rfl
  have k1 := c_Below (n := d.abs) (bel_low : Bel (low d) d.abs) hb he
  have hle := low_le d
  refine PC.of_body follows Tryz.func22 (by decide +kernel) rfl (by kernel_rfl) (Nat.le_of_ble_eq_true rfl) (walk ?_)
  by_cases h0 : d.m = 0
  · have e1 : toS d more dir = (0, 0) := if_pos h0
    rw [e1]
    simp only [u, Dy.abs, Dy.nv, DP, VN, VL] at k1 ⊢
    simp only [Tryz.f22, go_sem]
    refine qif_dt (by rw [h0]; rfl) ?_
    simp only [Tryz.f22, go_sem]
    exact ⟨rfl, rfl⟩
  have hlen : ¬ ((dg B d.m).length : Int) = 0 := fun h => h0 (dgB_nil (by omega))
  by_cases ht1 : 1023 < d.top
  · rw [toS_big h0 ht1]
    have hl : low d = 9218868437227405312 := if_pos ht1
    rw [hl] at k1
    have w1 : IntKind.wrap .u64 (9218868437227405312 + 9223372036854775808) = 18442240474082181120 := by decide
    have w2 : IntKind.wrap .u64 (9218868437227405311 + 9223372036854775808) = 18442240474082181119 := by decide
    have w3 : IntKind.wrap .u64 (9218868437227405312 + 0) = 9218868437227405312 := by decide
    have w4 : IntKind.wrap .u64 (9218868437227405311 + 0) = 9218868437227405311 := by decide
    obtain ⟨s, m, e⟩ := d
    simp only [u, Dy.abs, Dy.nv, DP, VN, VL] at k1 hlen ⊢
    cases s <;> rcases dir4 hd0 hd3 with rfl | rfl | rfl | rfl
    all_goals
      simp only [Tryz.f22, go_sem]
      refine qif_df hlen ?_
      simp only [Tryz.f22, go_sem]
      refine qcall_i (k1) ?_; simp only [Tryz.f22, Int.cast_ofNat_Int, w1, w2, w3, w4, go_sem]
      try rfl
  have htle : d.top ≤ 1023 := by omega
  have hur := unit_range htle
  have hp := flo_ok h0 htle
  have hl : low d = packB (flo d (unitOf d.top)) (unitOf d.top) := if_neg (by omega)
  have hlI : low d < INF := by have := pack_lt_inf hp; omega
  obtain ⟨m1, m2⟩ := pos_mid h0 htle
  have hfb := fd_bits (low d)
  have hfe := fd_e (low d)
  have hme := mid7_e (low d)
  have hmb := mid7_bits (low d)
  have k2 := c_7value (low d) hle
  have k3 := k_5Cmp (a := fd (low d)) (b := d.abs) (by omega) hb (by omega) he
  have k4 := c_7Middle (low d) hlI
  have k5 := k_5Cmp (a := d.abs) (b := mid7 (low d)) hb (by omega) he (by omega)
  rw [cmp_mid7 hlI, m1] at k5
  have k6 := k_5Cmp (a := d.abs) (b := ⟨false, 1, -1022⟩) hb (one_bits _ _) he (by decide)
  have hsm := one_cmp h0 (-1022)
  rw [toS_no h0 htle, upM_low h0 htle]
  have hle' : d.abs.nv = .agg [.bool false, VN d.m, .int .i64 d.e] := rfl
  generalize cmpD d.abs ⟨false, 1, -1022⟩ = cs at *
  generalize hc0 : cmpD (fd (low d)) d.abs = c0 at *
  generalize fd (low d) = x at *
  generalize mid7 (low d) = y at *
  generalize hf d (unitOf d.top) = H at *
  generalize bl d (unitOf d.top) = L at *
  have hvS : ∀ a, vS d a = if a = true then low d + 1 else low d := fun _ => rfl
  have ws1 : IntKind.wrap .u64 ((low d : Int) + 0) = (low d : Int) := wrapu (by omega) (by show _ < 18446744073709551616; omega)
  have ws2 : IntKind.wrap .u64 ((low d : Int) + 1) = ((low d + 1 : Nat) : Int) := wrapu (by omega) (by show _ < 18446744073709551616; omega)
  have ws3 : IntKind.wrap .u64 ((low d : Int) + 9223372036854775808) = ((low d + 9223372036854775808 : Nat) : Int) := wrapu (by omega) (by show _ < 18446744073709551616; omega)
  have ws4 : IntKind.wrap .u64 (((low d + 1 : Nat) : Int) + 0) = ((low d + 1 : Nat) : Int) := wrapu (by omega) (by show _ < 18446744073709551616; omega)
  have ws5 : IntKind.wrap .u64 (((low d + 1 : Nat) : Int) + 9223372036854775808) = ((low d + 1 + 9223372036854775808 : Nat) : Int) := wrapu (by omega) (by show _ < 18446744073709551616; omega)
  have ws6 : ((low d : Int)).tmod 2 = ((low d % 2 : Nat) : Int) := n_tmod (low d) 2
  have hne : ¬ (low d : Int) = 9218868437227405312 := by omega
  generalize low d = lw at *
  have e6 : Dy.nv ⟨false, 1, -1022⟩ = .agg [.bool false, .lst 1 [.int .u32 1], .int .i64 (-1022)] := by rw [← VN_one]; rfl
  rw [e6] at k6
  obtain ⟨R, hR⟩ : ∃ R : PV, R = .tuple [u (withS d.s (vS d (awayS dir d.s (decide (lw % 2 = 1)) H (L || more)))), .int .i64 ((if vS d (awayS dir d.s (decide (lw % 2 = 1)) H (L || more)) = INF then 5 else if (H || (L || more)) = true then (if d.top < -1022 then 3 else 1) else 0 : Nat) : Int)] := ⟨_, rfl⟩
  rw [hvS] at hR
  rw [← hvS] at hR
  have hR' := hR
  rw [show (PV.tuple [u (withS d.s (vS d (awayS dir d.s (decide (lw % 2 = 1)) H (L || more)))), .int .i64 ((if vS d (awayS dir d.s (decide (lw % 2 = 1)) H (L || more)) = INF then 5 else if (H || (L || more)) = true then (if d.top < -1022 then 3 else 1) else 0 : Nat) : Int)]) = R from hR.symm]
  rw [hvS] at hR
  clear hvS hR'
  simp only [u, Dy.abs, Dy.nv, DP, VN, VL] at k1 k2 k3 k4 k5 k6 ⊢
  have hov : decide ((lw : Int) = 9218868437227405312) = false := decide_eq_false hne
  cases hs : d.s <;> cases more <;> rcases dir4 hd0 hd3 with rfl | rfl | rfl | rfl
  all_goals
    simp only [Tryz.f22, hs, go_sem]
    refine qif_df hlen ?_
    simp only [Tryz.f22, hs, go_sem]
    refine qcall_i (k1) ?_; simp only [Tryz.f22, hs, hov, ws1, ws2, ws3, ws4, ws5, ws6, go_sem]
    repeat' first
      | (with_reducible refine qcall_i k2 ?_; simp only [Tryz.f22, hs, hov, ws1, ws2, ws3, ws4, ws5, ws6, go_sem])
      | (with_reducible refine qcall_i k3 ?_; simp only [Tryz.f22, hs, hov, ws1, ws2, ws3, ws4, ws5, ws6, go_sem])
      | (with_reducible refine qcall_i k4 ?_; simp only [Tryz.f22, hs, hov, ws1, ws2, ws3, ws4, ws5, ws6, go_sem])
      | (with_reducible refine qcall_i k5 ?_; simp only [Tryz.f22, hs, hov, ws1, ws2, ws3, ws4, ws5, ws6, go_sem])
      | (with_reducible refine qcall_i k6 ?_; simp only [Tryz.f22, hs, hov, ws1, ws2, ws3, ws4, ws5, ws6, go_sem])
      | ((with_reducible refine qif_d (fun h => ?_) (fun h => ?_)) <;> simp only [Tryz.f22, hs, hov, ws1, ws2, ws3, ws4, ws5, ws6, go_sem])
  all_goals
    refine Eq.trans ?_ hR.symm
    clear k1 k2 k3 k4 k5 k6 hR ws1 ws2 ws3 ws4 ws5 ws6 hfb hfe hme hmb hle' hp hl htle hur hlen hb he hle m1 hc0 ht1
    rw [hs]
    clear hs
    clear e6 hov hd0 hd3 R
    have hnl : ¬ lw = 9218868437227405312 := by omega
    cases H <;> cases L <;> simp_all [awayS, upw, withS, u] <;> (repeat' split) <;> omega
end Go.Proofs.YtejmlngnpekagaaGreatDoor
