/- Intervals: the reference's and the law's own functions. -/
import Derived.Test.YtejmlngnpekagaaGreatDoorIv1
import Derived.Test.YtejmlngnpekagaaGreatDoorLimM
import Derived.Test.YtejmlngnpekagaaGreatDoorG7
open Go PG Go.Proofs
set_option maxRecDepth 100000
set_option linter.unusedSimpArgs false
set_option linter.unusedVariables false
namespace Go.Proofs.YtejmlngnpekagaaGreatDoor
attribute [local go_sem] Lay2 Lay3 Lay4 Lay5 Lay6 Lay7 Lay8 Lay9 Lay10 Lay11 Lay12 Lay13 Lay14 Lay15 Lay16 Lay17 Lay18 Lay19 Lay21 Lay22 Lay23 Lay25 Lay26 Lay27 Lay30 Lay31 Lay32 Lay33 Lay36 Lay37 Lay41 Lay42 Lay43 Lay47 Lay56 Lay57 Lay59 Lay60 Lay65 Lay66 Lay74 Lay75 Lay105 Lay114 Lay145 Lay146 Lay149 Lay150 Lay151 Lay173 Lay185 Lay189 Lay204 Lay205 Lay208 Lay214 Lay215 Lay216 Lay217 Lay218 Lay220 Lay221 Lay223 Lay224 Lay225 Lay228 qexec_seq qexec_skip qexec_exit qexec_ret qexec_block qexec_loop qexec_range qexec_cond qexec_region qexec_drawn qops_nil qops_none qops_some put_some put_none pblk_exit pblk_other newDsts_nil sget_cons sget_nil qval_some qbool_some qgs_bool qgs_und qfree_some qgrd_true qgrd_false qif_true qif_false qval_ite qval_itn qand_true map_ite map_some' map_none' qdo_move qdo_assign qdo_binOp qdo_pick qdo_unOp qdo_convert qdo_extract qdo_field qdo_fieldAddr qdo_alloc qdo_box qdo_build qdo_buildSlice qdo_load qdo_store qdo_nilCheck qdo_makeFunc qdo_makeSlice qdo_slice qdo_indexAddr qdo_call qcont_val qcont_new qcont_st qcont_app0 qcont_app qcont_inl qcont_call njSV_val njSV_nil njSV_row njSV_ptr njSV_sub binV_val binV_nil binV_nn binV_ptr bin_np bin_nnp nilCmp bin_add bin_sub bin_mul bin_quo bin_rem bin_and bin_or bin_xor bin_andNot bin_eql bin_neq bin_lss bin_leq bin_gtr bin_geq bin_shl bin_shr bin_seql bin_sneq bin_sadd bin_beql bin_aeql bin_aneq eqAnd_some eqCells_nil eqCells_cons fieldTypes isStruct eqCell bin_bneq un_not un_neg nj_ite Nat.beq stepA stepR isNew opSV constSV RV.sv allSome E_mu E_own qkeyIn_none qkeyIn_some qkeyAt_none qkeyAt_some Bool.or_false Bool.false_or Bool.or_true Bool.true_or cst setB res resSV pstart startL killL kill1 eraL frzL svPV rvPV rvInt rvSlice frzOf close closeL pconv pbuiltin pmax2 partPV setCells fillPV zrow bound newSV PV.cells Bk.cells Bk.with SV.key pres presL_nil presL_tmp presL_cell presC2_some cellPV_ptr presC List.toList_toArray List.size_toArray List.getElem?_drop Nat.mul_one Int.toNat_natCast Nat.not_lt_zero Nat.lt_irrefl decide_true decide_false Nat.not_lt Option.some.injEq PV.lst.injEq PV.int.injEq PV.bool.injEq PV.tuple.injEq List.cons.injEq Option.map_some Option.map_none Option.bind_some Option.toList List.map_cons List.map_nil List.nil_append List.cons_append List.append_nil List.zip_cons_cons List.zip_nil_left List.zip_nil_right List.getElem?_cons_zero List.getElem?_cons_succ List.drop_zero List.drop_succ_cons List.take_succ_cons List.take_zero List.set_cons_zero List.set_cons_succ List.length_cons List.length_nil List.length_set List.replicate_one List.replicate_zero bne_self_eq_false beq_self_eq_true Nat.zero_add Nat.add_zero Nat.zero_mul Bool.false_eq_true Bool.true_eq_false Bool.not_true Bool.not_false and_true true_and false_and and_false or_false false_or or_true true_or not_true_eq_false not_false_eq_true ne_eq gt_iff_lt List.mem_cons List.not_mem_nil
attribute [local go_sem ↓] pseq_normal pseq_ret pseq_exit pblk_normal pblk_ret newDsts_cons gdst_zero gdst_succ retQ_normal retQ_ret qneed_nil qneed_cons retM_normal retM_ret endR_normal endR_ret endR_exit

def Iv.nv (i : Iv) : PV := .agg [.bool i.lo.s, VN i.lo.m, .int .i64 i.lo.e, .bool i.hi.s, VN i.hi.m, .int .i64 i.hi.e]
theorem l_15Mul {K J : Nat} {a b : Dy} (ha : LimN K a) (hb : LimN J b) (hK : K + J ≤ 500000) : PC E 143 [a.nv, b.nv] (mulS a b).nv := by
  have k1 := l_2Mul (x := a.m) (y := b.m) (by have := ha.bits; omega) (by have := hb.bits; omega)
  have w1 : IntKind.wrap .i64 (a.e + b.e) = a.e + b.e := wrap64 (by have := ha.2.2; have := hb.2.2; omega) (by have := ha.2.2; have := hb.2.2; omega)
  refine PC.of_body follows Tryz.func143 (by decide +kernel) rfl (by kernel_rfl) (Nat.le_of_ble_eq_true rfl) (walk ?_)
  unfold mulS
  by_cases za : a.m = 0
  · rw [if_pos (.inl za)]
    simp only [Dy.nv, DP, VN, VL]
    simp only [Tryz.f143, go_sem, Int.reduceToNat, Int.reduceEq, Int.reduceNe, Int.reduceLT, Int.reduceLE, Int.reduceNeg, Int.reduceAdd, ↓reduceIte, ↓reduceCtorEq, Nat.reduceEqDiff, Nat.reduceAdd, Nat.reduceSub, Nat.reduceMul, Nat.reduceLeDiff, Nat.reduceLT]
    refine qif_dt (by have := dgB_len0.2 za; omega) ?_
    simp only [Tryz.f143, go_sem, Int.reduceToNat, Int.reduceEq, Int.reduceNe, Int.reduceLT, Int.reduceLE, Int.reduceNeg, Int.reduceAdd, ↓reduceIte, ↓reduceCtorEq, Nat.reduceEqDiff, Nat.reduceAdd, Nat.reduceSub, Nat.reduceMul, Nat.reduceLeDiff, Nat.reduceLT]
    try rfl
  by_cases zb : b.m = 0
  · rw [if_pos (.inr zb)]
    simp only [Dy.nv, DP, VN, VL]
    simp only [Tryz.f143, go_sem, Int.reduceToNat, Int.reduceEq, Int.reduceNe, Int.reduceLT, Int.reduceLE, Int.reduceNeg, Int.reduceAdd, ↓reduceIte, ↓reduceCtorEq, Nat.reduceEqDiff, Nat.reduceAdd, Nat.reduceSub, Nat.reduceMul, Nat.reduceLeDiff, Nat.reduceLT]
    refine qif_df (fun h => za (dgB_len0.1 (by omega))) ?_
    simp only [Tryz.f143, go_sem, Int.reduceToNat, Int.reduceEq, Int.reduceNe, Int.reduceLT, Int.reduceLE, Int.reduceNeg, Int.reduceAdd, ↓reduceIte, ↓reduceCtorEq, Nat.reduceEqDiff, Nat.reduceAdd, Nat.reduceSub, Nat.reduceMul, Nat.reduceLeDiff, Nat.reduceLT]
    refine qif_dt (by have := dgB_len0.2 zb; omega) ?_
    simp only [Tryz.f143, go_sem, Int.reduceToNat, Int.reduceEq, Int.reduceNe, Int.reduceLT, Int.reduceLE, Int.reduceNeg, Int.reduceAdd, ↓reduceIte, ↓reduceCtorEq, Nat.reduceEqDiff, Nat.reduceAdd, Nat.reduceSub, Nat.reduceMul, Nat.reduceLeDiff, Nat.reduceLT]
    try rfl
  rw [if_neg (by omega)]
  simp only [Dy.nv, DP, VN, VL] at k1 ⊢
  simp only [Tryz.f143, go_sem, Int.reduceToNat, Int.reduceEq, Int.reduceNe, Int.reduceLT, Int.reduceLE, Int.reduceNeg, Int.reduceAdd, ↓reduceIte, ↓reduceCtorEq, Nat.reduceEqDiff, Nat.reduceAdd, Nat.reduceSub, Nat.reduceMul, Nat.reduceLeDiff, Nat.reduceLT]
  refine qif_df (fun h => za (dgB_len0.1 (by omega))) ?_
  simp only [Tryz.f143, go_sem, Int.reduceToNat, Int.reduceEq, Int.reduceNe, Int.reduceLT, Int.reduceLE, Int.reduceNeg, Int.reduceAdd, ↓reduceIte, ↓reduceCtorEq, Nat.reduceEqDiff, Nat.reduceAdd, Nat.reduceSub, Nat.reduceMul, Nat.reduceLeDiff, Nat.reduceLT]
  refine qif_df (fun h => zb (dgB_len0.1 (by omega))) ?_
  simp only [Tryz.f143, go_sem, Int.reduceToNat, Int.reduceEq, Int.reduceNe, Int.reduceLT, Int.reduceLE, Int.reduceNeg, Int.reduceAdd, ↓reduceIte, ↓reduceCtorEq, Nat.reduceEqDiff, Nat.reduceAdd, Nat.reduceSub, Nat.reduceMul, Nat.reduceLeDiff, Nat.reduceLT]
  refine qcall_i (k1) ?_; simp only [Tryz.f143, w1, go_sem, Int.reduceToNat, Int.reduceEq, Int.reduceNe, Int.reduceLT, Int.reduceLE, Int.reduceNeg, Int.reduceAdd, ↓reduceIte, ↓reduceCtorEq, Nat.reduceEqDiff, Nat.reduceAdd, Nat.reduceSub, Nat.reduceMul, Nat.reduceLeDiff, Nat.reduceLT]
  try rfl
theorem l_Ends {i k : Iv} {K J : Nat} (h1 : LimN K i.lo) (h2 : LimN K i.hi) (h3 : LimN J k.lo) (h4 : LimN J k.hi) (hK : K + J ≤ 500000) : PC E 81 [i.nv, k.nv] (mulI i k).nv := by
  have k1 := l_15Mul h1 h3 hK
  have k2 := l_15Mul h1 h4 hK
  have k3 := l_15Mul h2 h3 hK
  have k4 := l_15Mul h2 h4 hK
  have m1 := h1.mul h3
  have m2 := h1.mul h4
  have m3 := h2.mul h3
  have m4 := h2.mul h4
  refine PC.of_body follows Tryz.func81 (by decide +kernel) rfl (by kernel_rfl) (Nat.le_of_ble_eq_true rfl) (walk ?_)
  unfold mulI min4 max4
  generalize mulS i.lo k.lo = p at *
  generalize mulS i.lo k.hi = q at *
  generalize mulS i.hi k.lo = r at *
  generalize mulS i.hi k.hi = s at *
  have a2 : LimN (K + J) (minD p q) := minD_P (P := LimN (K + J)) m1 m2
  have a3 : LimN (K + J) (minD (minD p q) r) := minD_P (P := LimN (K + J)) a2 m3
  have b2 : LimN (K + J) (maxD p q) := maxD_P (P := LimN (K + J)) m1 m2
  have b3 : LimN (K + J) (maxD (maxD p q) r) := maxD_P (P := LimN (K + J)) b2 m3
  have c1 := l_Cmp m2 m1 hK
  have c2 := l_Cmp m3 a2 hK
  have c3 := l_Cmp m4 a3 hK
  have g1 := l_Cmp m2 m1 hK
  have g2 := l_Cmp m3 b2 hK
  have g3 := l_Cmp m4 b3 hK
  have d1 : minD p q = if cmpD q p < 0 then q else p := rfl
  have d2 : minD (minD p q) r = if cmpD r (minD p q) < 0 then r else (minD p q) := rfl
  have d3 : minD (minD (minD p q) r) s = if cmpD s (minD (minD p q) r) < 0 then s else (minD (minD p q) r) := rfl
  have f1 : maxD p q = if 0 < cmpD q p then q else p := rfl
  have f2 : maxD (maxD p q) r = if 0 < cmpD r (maxD p q) then r else (maxD p q) := rfl
  have f3 : maxD (maxD (maxD p q) r) s = if 0 < cmpD s (maxD (maxD p q) r) then s else (maxD (maxD p q) r) := rfl
  have v1 : IntKind.wrap .i64 2 = 2 := by decide
  have v2 : IntKind.wrap .i64 3 = 3 := by decide
  have v3 : IntKind.wrap .i64 4 = 4 := by decide
  simp only [Iv.nv, Dy.nv, DP] at k1 k2 k3 k4 c1 c2 c3 g1 g2 g3 ⊢
  simp only [Tryz.f81, go_sem, Int.reduceToNat, Int.reduceEq, Int.reduceNe, Int.reduceLT, Int.reduceLE, Int.reduceNeg, Int.reduceAdd, ↓reduceIte, ↓reduceCtorEq, Nat.reduceEqDiff, Nat.reduceAdd, Nat.reduceSub, Nat.reduceMul, Nat.reduceLeDiff, Nat.reduceLT]
  refine qcall_i (k1) ?_; simp only [Tryz.f81, go_sem, Int.reduceToNat, Int.reduceEq, Int.reduceNe, Int.reduceLT, Int.reduceLE, Int.reduceNeg, Int.reduceAdd, ↓reduceIte, ↓reduceCtorEq, Nat.reduceEqDiff, Nat.reduceAdd, Nat.reduceSub, Nat.reduceMul, Nat.reduceLeDiff, Nat.reduceLT]
  refine qcall_i (k2) ?_; simp only [Tryz.f81, go_sem, Int.reduceToNat, Int.reduceEq, Int.reduceNe, Int.reduceLT, Int.reduceLE, Int.reduceNeg, Int.reduceAdd, ↓reduceIte, ↓reduceCtorEq, Nat.reduceEqDiff, Nat.reduceAdd, Nat.reduceSub, Nat.reduceMul, Nat.reduceLeDiff, Nat.reduceLT]
  refine qcall_i (k3) ?_; simp only [Tryz.f81, go_sem, Int.reduceToNat, Int.reduceEq, Int.reduceNe, Int.reduceLT, Int.reduceLE, Int.reduceNeg, Int.reduceAdd, ↓reduceIte, ↓reduceCtorEq, Nat.reduceEqDiff, Nat.reduceAdd, Nat.reduceSub, Nat.reduceMul, Nat.reduceLeDiff, Nat.reduceLT]
  refine qcall_i (k4) ?_; simp only [Tryz.f81, List.range_zero, List.getD_cons_zero, List.getD_cons_succ, Nat.reduceMod, Int.cast_ofNat_Int, go_sem, Int.reduceToNat, Int.reduceEq, Int.reduceNe, Int.reduceLT, Int.reduceLE, Int.reduceNeg, Int.reduceAdd, ↓reduceIte, ↓reduceCtorEq, Nat.reduceEqDiff, Nat.reduceAdd, Nat.reduceSub, Nat.reduceMul, Nat.reduceLeDiff, Nat.reduceLT]
  refine PLoop.intro (fun i : Nat => ⟨[(4, .ptr 4 0), (5, .row 28), (6, .ptr 6 0), (7, .val (.int .i64 i))],
    [(4, (.box [.bool false, .lst 0 [], .int .i64 0, .bool false, .lst 0 [], .int .i64 0], false)), (28, (.row 43 3 4 [.bool p.s, VN p.m, .int .i64 p.e, .bool q.s, VN q.m, .int .i64 q.e, .bool r.s, VN r.m, .int .i64 r.e, .bool s.s, VN s.m, .int .i64 s.e], false)), (6, (.box [.bool (pre4 minD p q r s i).s, VN (pre4 minD p q r s i).m, .int .i64 (pre4 minD p q r s i).e, .bool (pre4 maxD p q r s i).s, VN (pre4 maxD p q r s i).m, .int .i64 (pre4 maxD p q r s i).e], false))]⟩) (fun i => 1 ≤ i ∧ i ≤ 4) (fun i => 4 - i) 1 (by decide) ?_ fun i hi => walk ?_
  · simp [Wk, sget, killL, kill1, SV.key, pre4]
  obtain ⟨hi1, hi2⟩ := hi
  rcases i with _ | _ | _ | _ | _ | i
  · omega
  · simp only [pre4]
    simp only [Tryz.f81, Int.cast_ofNat_Int, v1, v2, v3, go_sem, Int.reduceToNat, Int.reduceEq, Int.reduceNe, Int.reduceLT, Int.reduceLE, Int.reduceNeg, Int.reduceAdd, ↓reduceIte, ↓reduceCtorEq, Nat.reduceEqDiff, Nat.reduceAdd, Nat.reduceSub, Nat.reduceMul, Nat.reduceLeDiff, Nat.reduceLT]
    refine qcall_i (c1) ?_; simp only [Tryz.f81, Int.cast_ofNat_Int, v1, v2, v3, go_sem, Int.reduceToNat, Int.reduceEq, Int.reduceNe, Int.reduceLT, Int.reduceLE, Int.reduceNeg, Int.reduceAdd, ↓reduceIte, ↓reduceCtorEq, Nat.reduceEqDiff, Nat.reduceAdd, Nat.reduceSub, Nat.reduceMul, Nat.reduceLeDiff, Nat.reduceLT]
    refine qif_d (fun h => ?_) (fun h => ?_)
    all_goals
      simp only [Tryz.f81, Int.cast_ofNat_Int, v1, v2, v3, List.drop_append, List.take_append, go_sem, Int.reduceToNat, Int.reduceEq, Int.reduceNe, Int.reduceLT, Int.reduceLE, Int.reduceNeg, Int.reduceAdd, ↓reduceIte, ↓reduceCtorEq, Nat.reduceEqDiff, Nat.reduceAdd, Nat.reduceSub, Nat.reduceMul, Nat.reduceLeDiff, Nat.reduceLT]
      refine qcall_i (g1) ?_; simp only [Tryz.f81, Int.cast_ofNat_Int, v1, v2, v3, go_sem, Int.reduceToNat, Int.reduceEq, Int.reduceNe, Int.reduceLT, Int.reduceLE, Int.reduceNeg, Int.reduceAdd, ↓reduceIte, ↓reduceCtorEq, Nat.reduceEqDiff, Nat.reduceAdd, Nat.reduceSub, Nat.reduceMul, Nat.reduceLeDiff, Nat.reduceLT]
      refine qif_d (fun h' => ?_) (fun h' => ?_)
      all_goals
        simp only [Tryz.f81, Int.cast_ofNat_Int, v1, v2, v3, go_sem, Int.reduceToNat, Int.reduceEq, Int.reduceNe, Int.reduceLT, Int.reduceLE, Int.reduceNeg, Int.reduceAdd, ↓reduceIte, ↓reduceCtorEq, Nat.reduceEqDiff, Nat.reduceAdd, Nat.reduceSub, Nat.reduceMul, Nat.reduceLeDiff, Nat.reduceLT]
        refine ⟨2, by omega, by omega, ?_⟩
        simp only [pre4]
        first | rw [d1, if_pos h] | rw [d1, if_neg h]
        first | rw [f1, if_pos h'] | rw [f1, if_neg h']
        simp [Wk, sget, killL, kill1, SV.key, setCells]
  · simp only [pre4]
    simp only [Tryz.f81, Int.cast_ofNat_Int, v1, v2, v3, go_sem, Int.reduceToNat, Int.reduceEq, Int.reduceNe, Int.reduceLT, Int.reduceLE, Int.reduceNeg, Int.reduceAdd, ↓reduceIte, ↓reduceCtorEq, Nat.reduceEqDiff, Nat.reduceAdd, Nat.reduceSub, Nat.reduceMul, Nat.reduceLeDiff, Nat.reduceLT]
    refine qcall_i (c2) ?_; simp only [Tryz.f81, Int.cast_ofNat_Int, v1, v2, v3, go_sem, Int.reduceToNat, Int.reduceEq, Int.reduceNe, Int.reduceLT, Int.reduceLE, Int.reduceNeg, Int.reduceAdd, ↓reduceIte, ↓reduceCtorEq, Nat.reduceEqDiff, Nat.reduceAdd, Nat.reduceSub, Nat.reduceMul, Nat.reduceLeDiff, Nat.reduceLT]
    refine qif_d (fun h => ?_) (fun h => ?_)
    all_goals
      simp only [Tryz.f81, Int.cast_ofNat_Int, v1, v2, v3, List.drop_append, List.take_append, go_sem, Int.reduceToNat, Int.reduceEq, Int.reduceNe, Int.reduceLT, Int.reduceLE, Int.reduceNeg, Int.reduceAdd, ↓reduceIte, ↓reduceCtorEq, Nat.reduceEqDiff, Nat.reduceAdd, Nat.reduceSub, Nat.reduceMul, Nat.reduceLeDiff, Nat.reduceLT]
      refine qcall_i (g2) ?_; simp only [Tryz.f81, Int.cast_ofNat_Int, v1, v2, v3, go_sem, Int.reduceToNat, Int.reduceEq, Int.reduceNe, Int.reduceLT, Int.reduceLE, Int.reduceNeg, Int.reduceAdd, ↓reduceIte, ↓reduceCtorEq, Nat.reduceEqDiff, Nat.reduceAdd, Nat.reduceSub, Nat.reduceMul, Nat.reduceLeDiff, Nat.reduceLT]
      refine qif_d (fun h' => ?_) (fun h' => ?_)
      all_goals
        simp only [Tryz.f81, Int.cast_ofNat_Int, v1, v2, v3, go_sem, Int.reduceToNat, Int.reduceEq, Int.reduceNe, Int.reduceLT, Int.reduceLE, Int.reduceNeg, Int.reduceAdd, ↓reduceIte, ↓reduceCtorEq, Nat.reduceEqDiff, Nat.reduceAdd, Nat.reduceSub, Nat.reduceMul, Nat.reduceLeDiff, Nat.reduceLT]
        refine ⟨3, by omega, by omega, ?_⟩
        simp only [pre4]
        first | rw [d2, if_pos h] | rw [d2, if_neg h]
        first | rw [f2, if_pos h'] | rw [f2, if_neg h']
        simp [Wk, sget, killL, kill1, SV.key, setCells]
  · simp only [pre4]
    simp only [Tryz.f81, Int.cast_ofNat_Int, v1, v2, v3, go_sem, Int.reduceToNat, Int.reduceEq, Int.reduceNe, Int.reduceLT, Int.reduceLE, Int.reduceNeg, Int.reduceAdd, ↓reduceIte, ↓reduceCtorEq, Nat.reduceEqDiff, Nat.reduceAdd, Nat.reduceSub, Nat.reduceMul, Nat.reduceLeDiff, Nat.reduceLT]
    refine qcall_i (c3) ?_; simp only [Tryz.f81, Int.cast_ofNat_Int, v1, v2, v3, go_sem, Int.reduceToNat, Int.reduceEq, Int.reduceNe, Int.reduceLT, Int.reduceLE, Int.reduceNeg, Int.reduceAdd, ↓reduceIte, ↓reduceCtorEq, Nat.reduceEqDiff, Nat.reduceAdd, Nat.reduceSub, Nat.reduceMul, Nat.reduceLeDiff, Nat.reduceLT]
    refine qif_d (fun h => ?_) (fun h => ?_)
    all_goals
      simp only [Tryz.f81, Int.cast_ofNat_Int, v1, v2, v3, List.drop_append, List.take_append, go_sem, Int.reduceToNat, Int.reduceEq, Int.reduceNe, Int.reduceLT, Int.reduceLE, Int.reduceNeg, Int.reduceAdd, ↓reduceIte, ↓reduceCtorEq, Nat.reduceEqDiff, Nat.reduceAdd, Nat.reduceSub, Nat.reduceMul, Nat.reduceLeDiff, Nat.reduceLT]
      refine qcall_i (g3) ?_; simp only [Tryz.f81, Int.cast_ofNat_Int, v1, v2, v3, go_sem, Int.reduceToNat, Int.reduceEq, Int.reduceNe, Int.reduceLT, Int.reduceLE, Int.reduceNeg, Int.reduceAdd, ↓reduceIte, ↓reduceCtorEq, Nat.reduceEqDiff, Nat.reduceAdd, Nat.reduceSub, Nat.reduceMul, Nat.reduceLeDiff, Nat.reduceLT]
      refine qif_d (fun h' => ?_) (fun h' => ?_)
      all_goals
        simp only [Tryz.f81, Int.cast_ofNat_Int, v1, v2, v3, go_sem, Int.reduceToNat, Int.reduceEq, Int.reduceNe, Int.reduceLT, Int.reduceLE, Int.reduceNeg, Int.reduceAdd, ↓reduceIte, ↓reduceCtorEq, Nat.reduceEqDiff, Nat.reduceAdd, Nat.reduceSub, Nat.reduceMul, Nat.reduceLeDiff, Nat.reduceLT]
        refine ⟨4, by omega, by omega, ?_⟩
        simp only [pre4]
        first | rw [d3, if_pos h] | rw [d3, if_neg h]
        first | rw [f3, if_pos h'] | rw [f3, if_neg h']
        simp [Wk, sget, killL, kill1, SV.key, setCells]
  · simp only [pre4]
    simp only [Tryz.f81, Int.cast_ofNat_Int, go_sem, Int.reduceToNat, Int.reduceEq, Int.reduceNe, Int.reduceLT, Int.reduceLE, Int.reduceNeg, Int.reduceAdd, ↓reduceIte, ↓reduceCtorEq, Nat.reduceEqDiff, Nat.reduceAdd, Nat.reduceSub, Nat.reduceMul, Nat.reduceLeDiff, Nat.reduceLT]
    try rfl
  · omega

/-- A law's interval: two dyads as they come. -/
theorem q_15Of {l : List PV} {s1 s2 : Bool} {P1 P2 : PV} {e1 e2 : Int} : PC E 24 [.agg [.bool s1, P1, .int .i64 e1, .bool s2, P2, .int .i64 e2]] (.agg [.bool s1, P1, .int .i64 e1, .bool s2, P2, .int .i64 e2]) := by
  refine PC.of_body follows Tryz.func24 (by decide +kernel) rfl (by kernel_rfl) (Nat.le_of_ble_eq_true rfl) (walk ?_)
  simp only [Tryz.f24, go_sem, Int.reduceToNat, Int.reduceEq, Int.reduceNe, Int.reduceLT, Int.reduceLE, Int.reduceNeg, Int.reduceAdd, ↓reduceIte, ↓reduceCtorEq, Nat.reduceEqDiff, Nat.reduceAdd, Nat.reduceSub, Nat.reduceMul, Nat.reduceLeDiff, Nat.reduceLT]
def nearP (n : Nat) (e : Int) : Prop := n ≤ 10 ∧ -3000 ≤ e ∧ e ≤ 3000
instance (n : Nat) (e : Int) : Decidable (nearP n e) := inferInstanceAs (Decidable (_ ∧ _))
theorem c_15Near {s1 s2 : Bool} {n1 n2 : Nat} {c1 c2 : List PV} {e1 e2 : Int} :
    PC E 23 [.agg [.bool s1, .lst n1 c1, .int .i64 e1, .bool s2, .lst n2 c2, .int .i64 e2]] (.bool (decide (nearP n1 e1 ∧ nearP n2 e2))) := by
  have v1 : IntKind.wrap .i64 1 = 1 := by decide
  have v2 : IntKind.wrap .i64 2 = 2 := by decide
  obtain ⟨R, hR⟩ : ∃ R, R = decide (nearP n1 e1 ∧ nearP n2 e2) := ⟨_, rfl⟩
  rw [← hR]
  refine PC.of_body follows Tryz.func23 (by decide +kernel) rfl (by kernel_rfl) (Nat.le_of_ble_eq_true rfl) (walk ?_)
  simp only [Tryz.f23, List.range_zero, List.getD_cons_zero, List.getD_cons_succ, Nat.reduceMod, v1, v2, go_sem, Int.reduceToNat, Int.reduceEq, Int.reduceNe, Int.reduceLT, Int.reduceLE, Int.reduceNeg, Int.reduceAdd, ↓reduceIte, ↓reduceCtorEq, Nat.reduceEqDiff, Nat.reduceAdd, Nat.reduceSub, Nat.reduceMul, Nat.reduceLeDiff, Nat.reduceLT]
  refine qloop_u 3 ?_
  simp only [Tryz.f23, qunr_succ, Int.cast_ofNat_Int, List.range_zero, List.getD_cons_zero, List.getD_cons_succ, Nat.reduceMod, v1, v2, go_sem, Int.reduceToNat, Int.reduceEq, Int.reduceNe, Int.reduceLT, Int.reduceLE, Int.reduceNeg, Int.reduceAdd, ↓reduceIte, ↓reduceCtorEq, Nat.reduceEqDiff, Nat.reduceAdd, Nat.reduceSub, Nat.reduceMul, Nat.reduceLeDiff, Nat.reduceLT]
  unfold nearP at hR
  repeat' first
    | (refine qif_d (fun h => ?_) (fun h => ?_))
    | simp only [Tryz.f23, qunr_succ, Int.cast_ofNat_Int, List.range_zero, List.getD_cons_zero, List.getD_cons_succ, Nat.reduceMod, v1, v2, go_sem, Int.reduceToNat, Int.reduceEq, Int.reduceNe, Int.reduceLT, Int.reduceLE, Int.reduceNeg, Int.reduceAdd, ↓reduceIte, ↓reduceCtorEq, Nat.reduceEqDiff, Nat.reduceAdd, Nat.reduceSub, Nat.reduceMul, Nat.reduceLeDiff, Nat.reduceLT]
  all_goals
    rw [hR]
    first
      | exact (decide_eq_true (by omega)).symm
      | exact (decide_eq_false (by omega)).symm
      | (congr 1; congr 1; first | exact (decide_eq_true (by omega)).symm | exact (decide_eq_false (by omega)).symm)
end Go.Proofs.YtejmlngnpekagaaGreatDoor
