/- Several parts in one text. -/
import Derived.Test.YtmnojbkakgfinaaGreatDoorI1
import Derived.Test.YtmnojbkakgfinaaGreatDoorI3
open Go PG Go.Proofs
namespace Go.Proofs.YtmnojbkakgfinaaGreatDoor
attribute [local go_sem] Lay2 Lay3 Lay4 Lay5 Lay6 Lay7 Lay8 Lay9 Lay10 Lay11 Lay12 Lay13 Lay14 Lay15 Lay16 Lay17 Lay18 Lay19 Lay21 Lay23 Lay24 Lay25 Lay26 Lay27 Lay28 Lay31 Lay32 Lay33 Lay40 Lay43 Lay44 Lay49 Lay50 Lay57 Lay58 Lay61 Lay68 Lay69 Lay72 Lay77 Lay125 Lay133 Lay134 Lay150 Lay167 Lay168 Lay169 Lay170 Lay180 Lay181 Lay185 Lay186 Lay189 Lay205 Lay208 Lay223 Lay227 Lay228 Lay231 Lay232 Lay233 Lay234 Lay235 Lay236 Lay237 Lay238 Lay240 Lay241 Lay242 Lay243 Lay244 Lay245 Lay246 Lay247 Lay249 Lay250 qexec_seq qexec_skip qexec_exit qexec_ret qexec_block qexec_loop qexec_range qexec_cond qexec_region qexec_drawn qops_nil qops_none qops_some put_some put_none pblk_exit pblk_other newDsts_nil inlDsts_nil isInl sget_cons sget_nil qval_some qbool_some qgs_bool qgs_und qfree_some qgrd_true qgrd_false qif_true qif_false qval_ite qval_itn qand_true map_ite map_some' map_none' qdo_move qdo_assign qdo_binOp qdo_pick qdo_unOp qdo_convert qdo_extract qdo_field qdo_fieldAddr qdo_alloc qdo_box qdo_build qdo_buildSlice qdo_load qdo_store qdo_nilCheck qdo_makeFunc qdo_makeSlice qdo_slice qdo_indexAddr qdo_call qcont_val qcont_new qcont_st qcont_app0 qcont_app qcont_inl qcont_call njSV_val njSV_nil njSV_row njSV_ptr njSV_sub binV_val binV_nil binV_nn binV_ptr bin_np bin_nnp nilCmp bin_add bin_sub bin_mul bin_quo bin_rem bin_and bin_or bin_xor bin_andNot bin_eql bin_neq bin_lss bin_leq bin_gtr bin_geq bin_shl bin_shr bin_seql bin_sneq bin_sadd bin_beql bin_aeql bin_aneq eqAnd_some eqCells_nil eqCells_cons fieldTypes isStruct eqCell bin_bneq un_not un_neg nj_ite Nat.beq stepA stepR isNew opSV constSV RV.sv allSome E_mu E_own qkeyIn_none qkeyIn_some qkeyAt_none qkeyAt_some Bool.or_false Bool.false_or Bool.or_true Bool.true_or cst setB res resSV pstart startL killL kill1 eraL frzL svPV rvPV rvInt rvSlice rvBytes frzOf close closeL pconv pbuiltin pmax2 partPV setCells fillPV zrow bound newSV PV.cells Bk.cells Bk.with SV.key pres presL_nil presL_tmp presL_cell presC2_some cellPV_ptr presC List.toList_toArray List.size_toArray List.getElem?_drop Nat.mul_one Int.toNat_natCast Nat.not_lt_zero Nat.lt_irrefl decide_true decide_false Nat.not_lt Option.some.injEq PV.lst.injEq PV.int.injEq PV.bool.injEq PV.tuple.injEq List.cons.injEq Option.map_some Option.map_none Option.bind_some Option.toList List.map_cons List.map_nil List.nil_append List.cons_append List.append_nil List.zip_cons_cons List.zip_nil_left List.zip_nil_right List.getElem?_cons_zero List.getElem?_cons_succ List.drop_zero List.drop_succ_cons List.take_succ_cons List.take_zero List.set_cons_zero List.set_cons_succ List.length_cons List.length_nil List.length_set List.replicate_one List.replicate_zero bne_self_eq_false beq_self_eq_true Nat.zero_add Nat.add_zero Nat.zero_mul Bool.false_eq_true Bool.true_eq_false Bool.not_true Bool.not_false and_true true_and false_and and_false or_false false_or or_true true_or not_true_eq_false not_false_eq_true ne_eq gt_iff_lt List.mem_cons List.not_mem_nil
attribute [local go_sem ↓] pseq_normal pseq_ret pseq_exit pblk_normal pblk_ret newDsts_cons inlDsts_cons gdst_zero gdst_succ retQ_normal retQ_ret qneed_nil qneed_cons retM_normal retM_ret endR_normal endR_ret endR_exit
attribute [local go_sem] Int.reduceToNat Int.reduceEq Int.reduceNe Int.reduceLT Int.reduceLE Int.reduceNeg Int.reduceAdd Nat.reduceEqDiff Nat.reduceAdd Nat.reduceSub Nat.reduceMul Nat.reduceLeDiff Nat.reduceLT
attribute [local go_sem ↓] reduceIte reduceCtorEq
/- The document's rounding: planimeterref07.To. -/
section
open Go PG Go.Proofs
set_option maxRecDepth 100000
set_option linter.unusedSimpArgs false
set_option linter.unusedVariables false

theorem one_cmp {d : Dy} (h0 : d.m ≠ 0) (e : Int) : cmpD d.abs ⟨false, 1, e⟩ < 0 ↔ d.top < e := by
  have h1 := top_at h0 (k := min d.e e) (by omega)
  rw [cmp_at (k := min d.e e) (abs_le (by omega)) (.inr (show _ ≤ e by omega)), sgn_neg, abs_at, nat_at (d := ⟨false, 1, e⟩) rfl]
  dsimp only
  rw [Nat.one_mul]
  constructor
  · intro h
    refine Decidable.byContradiction fun hn => ?_
    have : 2 ^ (e - min d.e e).toNat ≤ 2 ^ (d.top - min d.e e).toNat := Nat.pow_le_pow_right (by decide) (by omega)
    omega
  · intro h
    have : 2 ^ (d.top + 1 - min d.e e).toNat ≤ 2 ^ (e - min d.e e).toNat := Nat.pow_le_pow_right (by decide) (by omega)
    omega
theorem dir4 {dir : Int} (h0 : 0 ≤ dir) (h3 : dir ≤ 3) : dir = 0 ∨ dir = 1 ∨ dir = 2 ∨ dir = 3 := by omega

set_option maxHeartbeats 4000000 in
theorem c_7To {d : Dy} (hok : d.ok) (hb : bitLen d.m ≤ 1000000) (he : -10000000000 ≤ d.e ∧ d.e ≤ 10000000000) (more : Bool) {dir : Int} (hd0 : 0 ≤ dir) (hd3 : dir ≤ 3) :
    PC E 28 [d.nv, .bool more, .int .i64 dir] (.tuple [u (toS d more dir).1, .int .i64 (toS d more dir).2]) := by
  have hI : INF = 9218868437227405312 := rfl
  have k1 := c_Below (n := d.abs) (bel_low : Bel (low d) d.abs) hb he
  have hle := low_le d
  refine PC.of_body follows Tryz.func28 (by decide +kernel) rfl (by kernel_rfl) (Nat.le_of_ble_eq_true rfl) (walk ?_)
  by_cases h0 : d.m = 0
  · have e1 : toS d more dir = (0, 0) := if_pos h0
    rw [e1]
    simp only [u, Dy.abs, Dy.nv, DP, VN, VL] at k1 ⊢
    simp only [Tryz.f28, go_sem]
    refine qif_dt (by rw [h0]; rfl) ?_
    simp only [Tryz.f28, go_sem]
    exact ⟨rfl, rfl⟩
  have hlen : ¬ ((dg B d.m).length : Int) = 0 := fun h => h0 (dgB_nil (by omega))
  by_cases ht1 : 1023 < d.top
  · rw [toS_big h0 ht1]
    have hl : low d = 9218868437227405312 := if_pos ht1
    rw [hl] at k1
    have w1 : IntKind.wrap .u64 (9218868437227405312 + 9223372036854775808) = 18442240474082181120 := by decide
    have w2 : IntKind.wrap .u64 (9218868437227405311 + 9223372036854775808) = 18442240474082181119 := by decide
    have w3 : IntKind.wrap .u64 (9218868437227405312 + 0) = 9218868437227405312 := by decide
    have w4 : IntKind.wrap .u64 (9218868437227405311 + 0) = 9218868437227405311 := by decide
    obtain ⟨s, m, e⟩ := d
    simp only [u, Dy.abs, Dy.nv, DP, VN, VL] at k1 hlen ⊢
    cases s <;> rcases dir4 hd0 hd3 with rfl | rfl | rfl | rfl
    all_goals
      simp only [Tryz.f28, go_sem]
      refine qif_df hlen ?_
      simp only [Tryz.f28, go_sem]
      refine qcall_i (k1) ?_; simp only [Tryz.f28, Int.cast_ofNat_Int, w1, w2, w3, w4, go_sem]
      try rfl
  have htle : d.top ≤ 1023 := by omega
  have hur := unit_range htle
  have hp := flo_ok h0 htle
  have hl : low d = packB (flo d (unitOf d.top)) (unitOf d.top) := if_neg (by omega)
  have hlI : low d < INF := by have := pack_lt_inf hp; omega
  obtain ⟨m1, m2⟩ := pos_mid h0 htle
  have hfb := fd_bits (low d)
  have hfe := fd_e (low d)
  have hme := mid7_e (low d)
  have hmb := mid7_bits (low d)
  have k2 := c_7value (low d) hle
  have k3 := k_5Cmp (a := fd (low d)) (b := d.abs) (by omega) hb (by omega) he
  have k4 := c_7Middle (low d) hlI
  have k5 := k_5Cmp (a := d.abs) (b := mid7 (low d)) hb (by omega) he (by omega)
  rw [cmp_mid7 hlI, m1] at k5
  have k6 := k_5Cmp (a := d.abs) (b := ⟨false, 1, -1022⟩) hb (one_bits _ _) he (by decide)
  have hsm := one_cmp h0 (-1022)
  rw [toS_no h0 htle, upM_low h0 htle]
  have hle' : d.abs.nv = .agg [.bool false, VN d.m, .int .i64 d.e] := rfl
  generalize cmpD d.abs ⟨false, 1, -1022⟩ = cs at *
  generalize hc0 : cmpD (fd (low d)) d.abs = c0 at *
  generalize fd (low d) = x at *
  generalize mid7 (low d) = y at *
  generalize hf d (unitOf d.top) = H at *
  generalize bl d (unitOf d.top) = L at *
  have hvS : ∀ a, vS d a = if a = true then low d + 1 else low d := fun _ => rfl
  have ws1 : IntKind.wrap .u64 ((low d : Int) + 0) = (low d : Int) := wrapu (by omega) (by show _ < 18446744073709551616; omega)
  have ws2 : IntKind.wrap .u64 ((low d : Int) + 1) = ((low d + 1 : Nat) : Int) := wrapu (by omega) (by show _ < 18446744073709551616; omega)
  have ws3 : IntKind.wrap .u64 ((low d : Int) + 9223372036854775808) = ((low d + 9223372036854775808 : Nat) : Int) := wrapu (by omega) (by show _ < 18446744073709551616; omega)
  have ws4 : IntKind.wrap .u64 (((low d + 1 : Nat) : Int) + 0) = ((low d + 1 : Nat) : Int) := wrapu (by omega) (by show _ < 18446744073709551616; omega)
  have ws5 : IntKind.wrap .u64 (((low d + 1 : Nat) : Int) + 9223372036854775808) = ((low d + 1 + 9223372036854775808 : Nat) : Int) := wrapu (by omega) (by show _ < 18446744073709551616; omega)
  have ws6 : ((low d : Int)).tmod 2 = ((low d % 2 : Nat) : Int) := n_tmod (low d) 2
  have hne : ¬ (low d : Int) = 9218868437227405312 := by omega
  generalize low d = lw at *
  have e6 : Dy.nv ⟨false, 1, -1022⟩ = .agg [.bool false, .lst 1 [.int .u32 1], .int .i64 (-1022)] := by rw [← VN_one]; rfl
  rw [e6] at k6
  obtain ⟨R, hR⟩ : ∃ R : PV, R = .tuple [u (withS d.s (vS d (awayS dir d.s (decide (lw % 2 = 1)) H (L || more)))), .int .i64 ((if vS d (awayS dir d.s (decide (lw % 2 = 1)) H (L || more)) = INF then 5 else if (H || (L || more)) = true then (if d.top < -1022 then 3 else 1) else 0 : Nat) : Int)] := ⟨_, rfl⟩
  rw [hvS] at hR
  rw [← hvS] at hR
  have hR' := hR
  rw [show (PV.tuple [u (withS d.s (vS d (awayS dir d.s (decide (lw % 2 = 1)) H (L || more)))), .int .i64 ((if vS d (awayS dir d.s (decide (lw % 2 = 1)) H (L || more)) = INF then 5 else if (H || (L || more)) = true then (if d.top < -1022 then 3 else 1) else 0 : Nat) : Int)]) = R from hR.symm]
  rw [hvS] at hR
  clear hvS hR'
  simp only [u, Dy.abs, Dy.nv, DP, VN, VL] at k1 k2 k3 k4 k5 k6 ⊢
  have hov : decide ((lw : Int) = 9218868437227405312) = false := decide_eq_false hne
  cases hs : d.s <;> cases more <;> rcases dir4 hd0 hd3 with rfl | rfl | rfl | rfl
  all_goals
    simp only [Tryz.f28, hs, go_sem]
    refine qif_df hlen ?_
    simp only [Tryz.f28, hs, go_sem]
    refine qcall_i (k1) ?_; simp only [Tryz.f28, hs, hov, ws1, ws2, ws3, ws4, ws5, ws6, go_sem]
    repeat' first
      | (with_reducible refine qcall_i k2 ?_; simp only [Tryz.f28, hs, hov, ws1, ws2, ws3, ws4, ws5, ws6, go_sem])
      | (with_reducible refine qcall_i k3 ?_; simp only [Tryz.f28, hs, hov, ws1, ws2, ws3, ws4, ws5, ws6, go_sem])
      | (with_reducible refine qcall_i k4 ?_; simp only [Tryz.f28, hs, hov, ws1, ws2, ws3, ws4, ws5, ws6, go_sem])
      | (with_reducible refine qcall_i k5 ?_; simp only [Tryz.f28, hs, hov, ws1, ws2, ws3, ws4, ws5, ws6, go_sem])
      | (with_reducible refine qcall_i k6 ?_; simp only [Tryz.f28, hs, hov, ws1, ws2, ws3, ws4, ws5, ws6, go_sem])
      | ((with_reducible refine qif_d (fun h => ?_) (fun h => ?_)) <;> simp only [Tryz.f28, hs, hov, ws1, ws2, ws3, ws4, ws5, ws6, go_sem])
  all_goals
    refine Eq.trans ?_ hR.symm
    clear k1 k2 k3 k4 k5 k6 hR ws1 ws2 ws3 ws4 ws5 ws6 hfb hfe hme hmb hle' hp hl htle hur hlen hok hb he hle m1 hc0 ht1
    rw [hs]
    clear hs
    clear e6 hov hd0 hd3 R
    have hnl : ¬ lw = 9218868437227405312 := by omega
    cases H <;> cases L <;> simp_all [awayS, upw, withS, u] <;> (repeat' split) <;> omega
end

/- The document's rounding of numbers that need not be bare; a rounding looks at the worth alone. -/
section
open Go PG Go.Proofs
set_option maxRecDepth 100000
set_option linter.unusedSimpArgs false
set_option linter.unusedVariables false

set_option maxHeartbeats 4000000 in
theorem c_7ToN {d : Dy} (hb : bitLen d.m ≤ 1000000) (he : -10000000000 ≤ d.e ∧ d.e ≤ 10000000000) (more : Bool) {dir : Int} (hd0 : 0 ≤ dir) (hd3 : dir ≤ 3) :
    PC E 28 [d.nv, .bool more, .int .i64 dir] (.tuple [u (toS d more dir).1, .int .i64 (toS d more dir).2]) := by
  have hI : INF = 9218868437227405312 := rfl
  have k1 := c_Below (n := d.abs) (bel_low : Bel (low d) d.abs) hb he
  have hle := low_le d
  refine PC.of_body follows Tryz.func28 (by decide +kernel) rfl (by kernel_rfl) (Nat.le_of_ble_eq_true rfl) (walk ?_)
  by_cases h0 : d.m = 0
  · have e1 : toS d more dir = (0, 0) := if_pos h0
    rw [e1]
    simp only [u, Dy.abs, Dy.nv, DP, VN, VL] at k1 ⊢
    simp only [Tryz.f28, go_sem]
    refine qif_dt (by rw [h0]; rfl) ?_
    simp only [Tryz.f28, go_sem]
    exact ⟨rfl, rfl⟩
  have hlen : ¬ ((dg B d.m).length : Int) = 0 := fun h => h0 (dgB_nil (by omega))
  by_cases ht1 : 1023 < d.top
  · rw [toS_big h0 ht1]
    have hl : low d = 9218868437227405312 := if_pos ht1
    rw [hl] at k1
    have w1 : IntKind.wrap .u64 (9218868437227405312 + 9223372036854775808) = 18442240474082181120 := by decide
    have w2 : IntKind.wrap .u64 (9218868437227405311 + 9223372036854775808) = 18442240474082181119 := by decide
    have w3 : IntKind.wrap .u64 (9218868437227405312 + 0) = 9218868437227405312 := by decide
    have w4 : IntKind.wrap .u64 (9218868437227405311 + 0) = 9218868437227405311 := by decide
    obtain ⟨s, m, e⟩ := d
    simp only [u, Dy.abs, Dy.nv, DP, VN, VL] at k1 hlen ⊢
    cases s <;> rcases dir4 hd0 hd3 with rfl | rfl | rfl | rfl
    all_goals
      simp only [Tryz.f28, go_sem]
      refine qif_df hlen ?_
      simp only [Tryz.f28, go_sem]
      refine qcall_i (k1) ?_; simp only [Tryz.f28, Int.cast_ofNat_Int, w1, w2, w3, w4, go_sem]
      try rfl
  have htle : d.top ≤ 1023 := by omega
  have hur := unit_range htle
  have hp := flo_ok h0 htle
  have hl : low d = packB (flo d (unitOf d.top)) (unitOf d.top) := if_neg (by omega)
  have hlI : low d < INF := by have := pack_lt_inf hp; omega
  obtain ⟨m1, m2⟩ := pos_mid h0 htle
  have hfb := fd_bits (low d)
  have hfe := fd_e (low d)
  have hme := mid7_e (low d)
  have hmb := mid7_bits (low d)
  have k2 := c_7value (low d) hle
  have k3 := k_5Cmp (a := fd (low d)) (b := d.abs) (by omega) hb (by omega) he
  have k4 := c_7Middle (low d) hlI
  have k5 := k_5Cmp (a := d.abs) (b := mid7 (low d)) hb (by omega) he (by omega)
  rw [cmp_mid7 hlI, m1] at k5
  have k6 := k_5Cmp (a := d.abs) (b := ⟨false, 1, -1022⟩) hb (one_bits _ _) he (by decide)
  have hsm := one_cmp h0 (-1022)
  rw [toS_no h0 htle, upM_low h0 htle]
  have hle' : d.abs.nv = .agg [.bool false, VN d.m, .int .i64 d.e] := rfl
  generalize cmpD d.abs ⟨false, 1, -1022⟩ = cs at *
  generalize hc0 : cmpD (fd (low d)) d.abs = c0 at *
  generalize fd (low d) = x at *
  generalize mid7 (low d) = y at *
  generalize hf d (unitOf d.top) = H at *
  generalize bl d (unitOf d.top) = L at *
  have hvS : ∀ a, vS d a = if a = true then low d + 1 else low d := fun _ => rfl
  have ws1 : IntKind.wrap .u64 ((low d : Int) + 0) = (low d : Int) := wrapu (by omega) (by show _ < 18446744073709551616; omega)
  have ws2 : IntKind.wrap .u64 ((low d : Int) + 1) = ((low d + 1 : Nat) : Int) := wrapu (by omega) (by show _ < 18446744073709551616; omega)
  have ws3 : IntKind.wrap .u64 ((low d : Int) + 9223372036854775808) = ((low d + 9223372036854775808 : Nat) : Int) := wrapu (by omega) (by show _ < 18446744073709551616; omega)
  have ws4 : IntKind.wrap .u64 (((low d + 1 : Nat) : Int) + 0) = ((low d + 1 : Nat) : Int) := wrapu (by omega) (by show _ < 18446744073709551616; omega)
  have ws5 : IntKind.wrap .u64 (((low d + 1 : Nat) : Int) + 9223372036854775808) = ((low d + 1 + 9223372036854775808 : Nat) : Int) := wrapu (by omega) (by show _ < 18446744073709551616; omega)
  have ws6 : ((low d : Int)).tmod 2 = ((low d % 2 : Nat) : Int) := n_tmod (low d) 2
  have hne : ¬ (low d : Int) = 9218868437227405312 := by omega
  generalize low d = lw at *
  have e6 : Dy.nv ⟨false, 1, -1022⟩ = .agg [.bool false, .lst 1 [.int .u32 1], .int .i64 (-1022)] := by rw [← VN_one]; rfl
  rw [e6] at k6
  obtain ⟨R, hR⟩ : ∃ R : PV, R = .tuple [u (withS d.s (vS d (awayS dir d.s (decide (lw % 2 = 1)) H (L || more)))), .int .i64 ((if vS d (awayS dir d.s (decide (lw % 2 = 1)) H (L || more)) = INF then 5 else if (H || (L || more)) = true then (if d.top < -1022 then 3 else 1) else 0 : Nat) : Int)] := ⟨_, rfl⟩
  rw [hvS] at hR
  rw [← hvS] at hR
  have hR' := hR
  rw [show (PV.tuple [u (withS d.s (vS d (awayS dir d.s (decide (lw % 2 = 1)) H (L || more)))), .int .i64 ((if vS d (awayS dir d.s (decide (lw % 2 = 1)) H (L || more)) = INF then 5 else if (H || (L || more)) = true then (if d.top < -1022 then 3 else 1) else 0 : Nat) : Int)]) = R from hR.symm]
  rw [hvS] at hR
  clear hvS hR'
  simp only [u, Dy.abs, Dy.nv, DP, VN, VL] at k1 k2 k3 k4 k5 k6 ⊢
  have hov : decide ((lw : Int) = 9218868437227405312) = false := decide_eq_false hne
  cases hs : d.s <;> cases more <;> rcases dir4 hd0 hd3 with rfl | rfl | rfl | rfl
  all_goals
    simp only [Tryz.f28, hs, go_sem]
    refine qif_df hlen ?_
    simp only [Tryz.f28, hs, go_sem]
    refine qcall_i (k1) ?_; simp only [Tryz.f28, hs, hov, ws1, ws2, ws3, ws4, ws5, ws6, go_sem]
    repeat' first
      | (with_reducible refine qcall_i k2 ?_; simp only [Tryz.f28, hs, hov, ws1, ws2, ws3, ws4, ws5, ws6, go_sem])
      | (with_reducible refine qcall_i k3 ?_; simp only [Tryz.f28, hs, hov, ws1, ws2, ws3, ws4, ws5, ws6, go_sem])
      | (with_reducible refine qcall_i k4 ?_; simp only [Tryz.f28, hs, hov, ws1, ws2, ws3, ws4, ws5, ws6, go_sem])
      | (with_reducible refine qcall_i k5 ?_; simp only [Tryz.f28, hs, hov, ws1, ws2, ws3, ws4, ws5, ws6, go_sem])
      | (with_reducible refine qcall_i k6 ?_; simp only [Tryz.f28, hs, hov, ws1, ws2, ws3, ws4, ws5, ws6, go_sem])
      | ((with_reducible refine qif_d (fun h => ?_) (fun h => ?_)) <;> simp only [Tryz.f28, hs, hov, ws1, ws2, ws3, ws4, ws5, ws6, go_sem])
  all_goals
    refine Eq.trans ?_ hR.symm
    clear k1 k2 k3 k4 k5 k6 hR ws1 ws2 ws3 ws4 ws5 ws6 hfb hfe hme hmb hle' hp hl htle hur hlen hb he hle m1 hc0 ht1
    rw [hs]
    clear hs
    clear e6 hov hd0 hd3 R
    have hnl : ¬ lw = 9218868437227405312 := by omega
    cases H <;> cases L <;> simp_all [awayS, upw, withS, u] <;> (repeat' split) <;> omega
end

/- A rounding looks at the worth alone. -/
section
open Go PG Go.Proofs
set_option maxRecDepth 100000
set_option linter.unusedSimpArgs false
set_option linter.unusedVariables false

theorem parts_uniq {f f' h h' P r r' : Nat} (hh : h ≤ 1) (hh' : h' ≤ 1) (hr : r < P) (hr' : r' < P) (he : (2 * f + h) * P + r = (2 * f' + h') * P + r') : f = f' ∧ h = h' ∧ r = r' := by
  have hP : 0 < P := by omega
  have e1 : ((2 * f + h) * P + r) / P = 2 * f + h := by rw [Nat.mul_comm, Nat.mul_add_div hP, Nat.div_eq_of_lt hr]; omega
  have e2 : ((2 * f' + h') * P + r') / P = 2 * f' + h' := by rw [Nat.mul_comm, Nat.mul_add_div hP, Nat.div_eq_of_lt hr']; omega
  rw [he, e2] at e1
  have e3 : f = f' := by omega
  have e4 : h = h' := by omega
  subst e3 e4
  exact ⟨rfl, rfl, by omega⟩
theorem pow_sandwich {a b A : Nat} (h1 : 2 ^ a ≤ A) (h2 : A < 2 ^ b) : a < b := by
  refine Decidable.byContradiction fun h => ?_
  have := Nat.pow_le_pow_right (n := 2) (by decide) (show b ≤ a by omega)
  omega
theorem top_congr {d d' : Dy} {k : Int} (h0 : d.m ≠ 0) (h0' : d'.m ≠ 0) (ha : (d.at k).natAbs = (d'.at k).natAbs) (hk : k ≤ d.e) (hk' : k ≤ d'.e) : d.top = d'.top := by
  obtain ⟨a1, a2⟩ := top_at h0 hk
  obtain ⟨b1, b2⟩ := top_at h0' hk'
  have t1 : d.top = bitLen d.m - 1 + d.e := if_neg h0
  have t2 : d'.top = bitLen d'.m - 1 + d'.e := if_neg h0'
  have p1 := bitLen_pos h0
  have p2 := bitLen_pos h0'
  rw [ha] at a1 a2
  have c1 := pow_sandwich a1 b2
  have c2 := pow_sandwich b1 a2
  omega
theorem toS_congr {d d' : Dy} {k : Int} (h0 : d.m ≠ 0) (h0' : d'.m ≠ 0) (hs : d.s = d'.s) (ha : (d.at k).natAbs = (d'.at k).natAbs) (hk : k ≤ d.e) (hk' : k ≤ d'.e) (hk2 : k ≤ -1075) (more : Bool) (dir : Int) : toS d more dir = toS d' more dir := by
  have ht := top_congr h0 h0' ha hk hk'
  have hu : k ≤ unitOf d.top - 1 := by unfold unitOf; omega
  obtain ⟨r, e, hr, hb⟩ := parts_at d (unitOf d.top) hk hu
  obtain ⟨r', e', hr', hb'⟩ := parts_at d' (unitOf d.top) hk' hu
  rw [← ha, e] at e'
  obtain ⟨g1, g2, g3⟩ := parts_uniq (by split <;> omega) (by split <;> omega) hr hr' e'
  have g4 : hf d (unitOf d.top) = hf d' (unitOf d.top) := by
    cases hx : hf d (unitOf d.top) <;> cases hy : hf d' (unitOf d.top) <;> simp [hx, hy] at g2 <;> rfl
  have g5 : bl d (unitOf d.top) = bl d' (unitOf d.top) := by
    rw [g3] at hb
    cases hx : bl d (unitOf d.top) <;> cases hy : bl d' (unitOf d.top) <;> simp [hx, hy] at hb hb' <;> first | rfl | exact absurd hb hb' | exact absurd hb' hb
  have g6 : low d = low d' := by unfold low; rw [← ht, g1]
  unfold toS magS
  rw [if_neg h0, if_neg h0', ← hs, ← ht, ← g4, ← g5, ← g6]
theorem bare_s {K : Nat} {d : Dy} (h : LimN K d) (hK : K ≤ 1000000) (h0 : d.m ≠ 0) : d.bare.m ≠ 0 ∧ d.bare.s = d.s ∧ -(K : Int) ≤ d.bare.e := by
  have e := h.bare_at hK
  have hP := Nat.two_pow_pos (d.e - -(K : Int)).toNat
  have hm : d.bare.m ≠ 0 := by
    intro hz
    have e2 := congrArg Int.natAbs e
    rw [natAbs_at', natAbs_at', hz, Nat.zero_mul] at e2
    have := Nat.mul_pos (Nat.pos_of_ne_zero h0) hP
    omega
  refine ⟨hm, ?_, ((h.bare hK).ge).resolve_left hm⟩
  have hQ := Nat.two_pow_pos (d.bare.e - -(K : Int)).toNat
  have p1 := Nat.mul_pos (Nat.pos_of_ne_zero h0) hP
  have p2 := Nat.mul_pos (Nat.pos_of_ne_zero hm) hQ
  unfold Dy.at at e
  generalize d.m * _ = x at *
  generalize d.bare.m * _ = y at *
  cases h1 : d.bare.s <;> cases h2 : d.s <;> simp only [h1, h2, Bool.false_eq_true, if_false, if_true] at e <;> first | rfl | omega
theorem bare_m0 {K : Nat} {d : Dy} (h : LimN K d) (hK : K ≤ 1000000) : d.bare.m = 0 ↔ d.m = 0 := by
  constructor
  · intro hz
    exact Decidable.byContradiction fun h0 => (bare_s h hK h0).1 hz
  · intro hz
    unfold Dy.bare
    rw [hz]
    exact mkD_m0.2 rfl
theorem toS_bare {K : Nat} {d : Dy} (h : LimN K d) (hK : K ≤ 900000) (more : Bool) (dir : Int) : toS d.bare more dir = toS d more dir := by
  have h' := h.mono (J := K + 1075) (by omega)
  by_cases h0 : d.m = 0
  · have h1 := (bare_m0 h' (by omega)).2 h0
    unfold toS
    rw [if_pos h1, if_pos h0]
  · obtain ⟨h1, h2, h3⟩ := bare_s h' (by omega) h0
    have h4 := h'.2.2.1
    refine toS_congr (k := -((K + 1075 : Nat) : Int)) h1 h0 h2 (congrArg Int.natAbs (h'.bare_at (by omega))) h3 h4 (by omega) more dir
end
end Go.Proofs.YtmnojbkakgfinaaGreatDoor
