/- What nat.Bits, nat.Low, nat.Odd, nat.Shr and nat.Shl hand back. -/
import Derived.Test.YtflpcgcgeffolaaDoorNat3
open Go PG Go.Proofs
set_option maxRecDepth 100000
set_option linter.unusedSimpArgs false
set_option linter.unusedVariables false
namespace Go.Proofs.YtflpcgcgeffolaaDoor
attribute [local go_sem] Lay2 Lay3 Lay4 Lay5 Lay6 Lay7 Lay8 Lay9 Lay10 Lay11 Lay12 Lay13 Lay14 Lay21 Lay22 Lay24 Lay25 Lay26 Lay27 Lay36 Lay37 Lay38 Lay39 Lay40 Lay41 Lay43 Lay46 Lay47 Lay66 Lay103 Lay105 Lay159 Lay164 Lay165 Lay166 Lay168 Lay169 Lay172 Lay173 qexec_seq qexec_skip qexec_exit qexec_ret qexec_block qexec_loop qexec_range qexec_cond qexec_region qops_nil qops_none qops_some put_some put_none pblk_exit pblk_other newDsts_nil sget_cons qval_some qbool_some qgs_bool qgs_und qfree_some qgrd_true qgrd_false qif_true qif_false qval_ite qval_itn qand_true map_ite map_some' map_none' qdo_move qdo_assign qdo_binOp qdo_pick qdo_unOp qdo_convert qdo_extract qdo_field qdo_fieldAddr qdo_alloc qdo_box qdo_build qdo_buildSlice qdo_load qdo_store qdo_nilCheck qdo_makeFunc qdo_makeSlice qdo_slice qdo_indexAddr qdo_call qcont_val qcont_new qcont_st qcont_app0 qcont_app qcont_inl qcont_call njSV_val njSV_nil njSV_row njSV_ptr njSV_sub binV_val binV_nil binV_nn nilCmp bin_add bin_sub bin_mul bin_quo bin_rem bin_and bin_or bin_xor bin_andNot bin_eql bin_neq bin_lss bin_leq bin_gtr bin_geq bin_shl bin_shr bin_seql bin_sneq bin_sadd bin_beql bin_aeql bin_aneq eqAnd_some eqCells_nil eqCells_cons fieldTypes isStruct eqCell bin_bneq un_not un_neg nj_ite Nat.beq stepA stepR isNew opSV constSV RV.sv allSome E_mu Bool.or_false Bool.false_or Bool.or_true Bool.true_or cst setB res resSV pstart startL killL kill1 eraL frzL svPV rvPV rvInt rvSlice frzOf close closeL pconv pbuiltin pmax2 partPV setCells fillPV zrow bound newSV PV.cells Bk.cells Bk.with SV.key pres presL_nil presL_tmp presL_cell presC2_some cellPV_ptr presC List.toList_toArray List.size_toArray List.getElem?_drop Nat.mul_one Int.toNat_natCast Nat.not_lt_zero Nat.lt_irrefl decide_true decide_false Nat.not_lt Option.some.injEq PV.lst.injEq PV.int.injEq PV.bool.injEq PV.tuple.injEq List.cons.injEq Option.map_some Option.map_none Option.bind_some Option.toList List.map_cons List.map_nil List.nil_append List.cons_append List.append_nil List.zip_cons_cons List.zip_nil_left List.zip_nil_right List.getElem?_cons_zero List.getElem?_cons_succ List.drop_zero List.drop_succ_cons List.take_succ_cons List.take_zero List.set_cons_zero List.set_cons_succ List.length_cons List.length_nil List.length_set List.replicate_one List.replicate_zero bne_self_eq_false beq_self_eq_true Nat.zero_add Nat.add_zero Nat.zero_mul Bool.false_eq_true Bool.true_eq_false Bool.not_true Bool.not_false and_true true_and false_and and_false or_false false_or or_true true_or not_true_eq_false not_false_eq_true ne_eq gt_iff_lt List.mem_cons List.not_mem_nil
attribute [local go_sem ↓] pseq_normal pseq_ret pseq_exit pblk_normal pblk_ret newDsts_cons gdst_zero gdst_succ retQ_normal retQ_ret retM_normal retM_ret endR_normal endR_ret endR_exit

theorem c_Bits (l : List Nat) (hl : l.length ≤ 1048576) (ho : Ok W l) : PC E 98 [NL l] (.int .i64 (bitLen (vl l))) := by
  refine PC.of_body follows Tryd.func98 (by decide +kernel) rfl (by kernel_rfl) (Nat.le_of_ble_eq_true rfl) (walk ?_)
  simp only [Tryd.f98, go_sem, Int.reduceToNat, Int.reduceEq, Int.reduceNe, Int.reduceLT, Int.reduceLE, Int.reduceNeg, Int.reduceAdd, ↓reduceIte, ↓reduceCtorEq, Nat.reduceEqDiff, Nat.reduceAdd, Nat.reduceSub, Nat.reduceMul, Nat.reduceLeDiff, Nat.reduceLT]
  refine qcall_i (n_Bare l (by omega) ho) ?_
  have hlen : (dg W (vl l)).length ≤ l.length := (dg_length_le W2 _ _).2 (dv_lt l ho)
  simp only [NN, NL]
  simp only [Tryd.f98, go_sem, Int.reduceToNat, Int.reduceEq, Int.reduceNe, Int.reduceLT, Int.reduceLE, Int.reduceNeg, Int.reduceAdd, ↓reduceIte, ↓reduceCtorEq, Nat.reduceEqDiff, Nat.reduceAdd, Nat.reduceSub, Nat.reduceMul, Nat.reduceLeDiff, Nat.reduceLT]
  generalize vl l = x at *
  refine qif_d (fun h => ?_) (fun h => ?_)
  · have h0 : x = 0 := by
      have := (dg_length_le W2 0 x).1 (by omega)
      rw [Nat.pow_zero] at this
      omega
    simp only [Tryd.f98, go_sem, Int.reduceToNat, Int.reduceEq, Int.reduceNe, Int.reduceLT, Int.reduceLE, Int.reduceNeg, Int.reduceAdd, ↓reduceIte, ↓reduceCtorEq, Nat.reduceEqDiff, Nat.reduceAdd, Nat.reduceSub, Nat.reduceMul, Nat.reduceLeDiff, Nat.reduceLT]
    subst h0
    rfl
  · obtain ⟨m, hm⟩ : ∃ m, (dg W x).length = m + 1 := ⟨(dg W x).length - 1, by omega⟩
    have e1 : IntKind.wrap .i64 (((m + 1 : Nat) : Int) - 1) = (m : Int) := by rw [wrap64 (by omega) (by omega)]; omega
    have e2 : IntKind.wrap .i64 (64 * (m : Int)) = ((64 * m : Nat) : Int) := by rw [wrap64 (by omega) (by omega)]; omega
    have hx : (U (dg W x))[m]? = some (u (x / W ^ m % W)) := by
      rw [U_get, ← dv_dg W2 x, ← dv_get W0 _ (ok_dg W2 x) m, dv_dg W2, List.getD_eq_getElem?_getD, List.getElem?_eq_getElem (show m < (dg W x).length by omega)]; rfl
    simp only [Tryd.f98, hm, e1, e2, go_sem, Int.reduceToNat, Int.reduceEq, Int.reduceNe, Int.reduceLT, Int.reduceLE, Int.reduceNeg, Int.reduceAdd, ↓reduceIte, ↓reduceCtorEq, Nat.reduceEqDiff, Nat.reduceAdd, Nat.reduceSub, Nat.reduceMul, Nat.reduceLeDiff, Nat.reduceLT]
    refine qand_i (by omega) ?_
    simp only [Tryd.f98, hm, e1, e2, go_sem, Int.reduceToNat, Int.reduceEq, Int.reduceNe, Int.reduceLT, Int.reduceLE, Int.reduceNeg, Int.reduceAdd, ↓reduceIte, ↓reduceCtorEq, Nat.reduceEqDiff, Nat.reduceAdd, Nat.reduceSub, Nat.reduceMul, Nat.reduceLeDiff, Nat.reduceLT]
    refine qval_i (congrArg (Option.map _) hx) ?_
    simp only [Tryd.f98, go_sem, Int.reduceToNat, Int.reduceEq, Int.reduceNe, Int.reduceLT, Int.reduceLE, Int.reduceNeg, Int.reduceAdd, ↓reduceIte, ↓reduceCtorEq, Nat.reduceEqDiff, Nat.reduceAdd, Nat.reduceSub, Nat.reduceMul, Nat.reduceLeDiff, Nat.reduceLT]
    refine qcall_i (c_Len64 _ (Nat.mod_lt _ W0)) ?_
    simp only [Tryd.f98, go_sem, Int.reduceToNat, Int.reduceEq, Int.reduceNe, Int.reduceLT, Int.reduceLE, Int.reduceNeg, Int.reduceAdd, ↓reduceIte, ↓reduceCtorEq, Nat.reduceEqDiff, Nat.reduceAdd, Nat.reduceSub, Nat.reduceMul, Nat.reduceLeDiff, Nat.reduceLT]
    have := (bitLen_le (x / W ^ m % W) 64).2 (Nat.mod_lt _ W0)
    rw [wrap64 (by omega) (by omega), bitLen_top hm]
    simp

theorem c_Odd (l : List Nat) (ho : Ok W l) : PC E 118 [NL l] (.bool (decide (vl l % 2 = 1))) := by
  refine PC.of_body follows Tryd.func118 (by decide +kernel) rfl (by kernel_rfl) (Nat.le_of_ble_eq_true rfl) (walk ?_)
  simp only [Tryd.f118, go_sem, Int.reduceToNat, Int.reduceEq, Int.reduceNe, Int.reduceLT, Int.reduceLE, Int.reduceNeg, Int.reduceAdd, ↓reduceIte, ↓reduceCtorEq, Nat.reduceEqDiff, Nat.reduceAdd, Nat.reduceSub, Nat.reduceMul, Nat.reduceLeDiff, Nat.reduceLT]
  refine qcall_i (n_limb l ho 0) ?_
  have e := b_and (a := lb (vl l) 0) (b := 1) (lb_lt _ _) (by decide)
  simp only [Tryd.f118, u, go_sem, Int.reduceToNat, Int.reduceEq, Int.reduceNe, Int.reduceLT, Int.reduceLE, Int.reduceNeg, Int.reduceAdd, ↓reduceIte, ↓reduceCtorEq, Nat.reduceEqDiff, Nat.reduceAdd, Nat.reduceSub, Nat.reduceMul, Nat.reduceLeDiff, Nat.reduceLT]
  have e2 : lb (vl l) 0 &&& 1 = vl l % 2 := by
    rw [Nat.and_one_is_mod]
    show (vl l / W ^ 0 % W) % 2 = _
    rw [Nat.pow_zero, Nat.div_one, Nat.mod_mod_of_dvd _ (by decide)]
  rw [e2] at e
  rw [show (1 : Int) = ((1 : Nat) : Int) from rfl, e]
  simp
  omega

theorem c_Low (l : List Nat) (hl : l.length ≤ 1048576) (ho : Ok W l) : PC E 131 [NL l] (.int .i64 (tz (vl l))) := by
  refine PC.of_body follows Tryd.func131 (by decide +kernel) rfl (by kernel_rfl) (Nat.le_of_ble_eq_true rfl) (walk ?_)
  simp only [NL]
  simp only [Tryd.f131, go_sem, Int.reduceToNat, Int.reduceEq, Int.reduceNe, Int.reduceLT, Int.reduceLE, Int.reduceNeg, Int.reduceAdd, ↓reduceIte, ↓reduceCtorEq, Nat.reduceEqDiff, Nat.reduceAdd, Nat.reduceSub, Nat.reduceMul, Nat.reduceLeDiff, Nat.reduceLT]
  refine PLoop.intro (fun i : Nat => ⟨[(0, .val (NL l)), (5, .val (NL l)), (6, .val (.int .i64 l.length)), (7, .val (.int .i64 i))], []⟩) (fun i => i ≤ l.length ∧ vl l % W ^ i = 0) (fun i => l.length - i) 0 (by simp [Nat.mod_one]) (by simp [Wk, sget, NL]) fun i hi => walk ?_
  obtain ⟨hi, hz⟩ := hi
  have hlt := dv_lt l ho
  simp only [NL]
  simp only [Tryd.f131, go_sem, Int.reduceToNat, Int.reduceEq, Int.reduceNe, Int.reduceLT, Int.reduceLE, Int.reduceNeg, Int.reduceAdd, ↓reduceIte, ↓reduceCtorEq, Nat.reduceEqDiff, Nat.reduceAdd, Nat.reduceSub, Nat.reduceMul, Nat.reduceLeDiff, Nat.reduceLT]
  refine qif_d (fun h => ?_) (fun h => ?_)
  · have hwi : IntKind.wrap .i64 ((i : Int) + 1) = ((i + 1 : Nat) : Int) := by rw [wrap64 (by omega) (by omega)]; omega
    have e2 : IntKind.wrap .i64 (64 * (i : Int)) = ((64 * i : Nat) : Int) := by rw [wrap64 (by omega) (by omega)]; omega
    have hx : (U l)[i]? = some (u (vl l / W ^ i % W)) := by
      rw [U_get, ← dv_get W0 _ ho i, List.getD_eq_getElem?_getD, List.getElem?_eq_getElem (show i < l.length by omega)]; rfl
    simp only [Tryd.f131, go_sem, Int.reduceToNat, Int.reduceEq, Int.reduceNe, Int.reduceLT, Int.reduceLE, Int.reduceNeg, Int.reduceAdd, ↓reduceIte, ↓reduceCtorEq, Nat.reduceEqDiff, Nat.reduceAdd, Nat.reduceSub, Nat.reduceMul, Nat.reduceLeDiff, Nat.reduceLT]
    refine qand_i (by omega) ?_
    simp only [Tryd.f131, go_sem, Int.reduceToNat, Int.reduceEq, Int.reduceNe, Int.reduceLT, Int.reduceLE, Int.reduceNeg, Int.reduceAdd, ↓reduceIte, ↓reduceCtorEq, Nat.reduceEqDiff, Nat.reduceAdd, Nat.reduceSub, Nat.reduceMul, Nat.reduceLeDiff, Nat.reduceLT]
    refine qval_i (congrArg (Option.map _) hx) ?_
    simp only [Tryd.f131, u, go_sem, Int.reduceToNat, Int.reduceEq, Int.reduceNe, Int.reduceLT, Int.reduceLE, Int.reduceNeg, Int.reduceAdd, ↓reduceIte, ↓reduceCtorEq, Nat.reduceEqDiff, Nat.reduceAdd, Nat.reduceSub, Nat.reduceMul, Nat.reduceLeDiff, Nat.reduceLT]
    refine qif_d (fun h0 => ?_) (fun h0 => ?_)
    · simp only [Tryd.f131, e2, go_sem, Int.reduceToNat, Int.reduceEq, Int.reduceNe, Int.reduceLT, Int.reduceLE, Int.reduceNeg, Int.reduceAdd, ↓reduceIte, ↓reduceCtorEq, Nat.reduceEqDiff, Nat.reduceAdd, Nat.reduceSub, Nat.reduceMul, Nat.reduceLeDiff, Nat.reduceLT]
      refine qcall_i (c_TrailingZeros64 _ (Nat.mod_lt _ W0)) ?_
      simp only [Tryd.f131, e2, go_sem, Int.reduceToNat, Int.reduceEq, Int.reduceNe, Int.reduceLT, Int.reduceLE, Int.reduceNeg, Int.reduceAdd, ↓reduceIte, ↓reduceCtorEq, Nat.reduceEqDiff, Nat.reduceAdd, Nat.reduceSub, Nat.reduceMul, Nat.reduceLeDiff, Nat.reduceLT]
      have hd : vl l / W ^ i % W ≠ 0 := by omega
      have hk := (Lib.lowest_bit 64 _ hd (Nat.mod_lt _ W0)).2
      rw [wrap64 (by omega) (by omega), tz_limb hz hd]
      simp
    · simp only [Tryd.f131, hwi, go_sem, Int.reduceToNat, Int.reduceEq, Int.reduceNe, Int.reduceLT, Int.reduceLE, Int.reduceNeg, Int.reduceAdd, ↓reduceIte, ↓reduceCtorEq, Nat.reduceEqDiff, Nat.reduceAdd, Nat.reduceSub, Nat.reduceMul, Nat.reduceLeDiff, Nat.reduceLT]
      refine ⟨i + 1, ⟨by omega, ?_⟩, by omega, by simp [Wk, sget, NL]⟩
      have hd : vl l / W ^ i % W = 0 := by
        generalize vl l / W ^ i % W = d at h0
        omega
      rw [Nat.pow_succ, Nat.mod_mul, hz, hd]
      rfl
  · have e : i = l.length := by omega
    subst e
    simp only [Tryd.f131, go_sem, Int.reduceToNat, Int.reduceEq, Int.reduceNe, Int.reduceLT, Int.reduceLE, Int.reduceNeg, Int.reduceAdd, ↓reduceIte, ↓reduceCtorEq, Nat.reduceEqDiff, Nat.reduceAdd, Nat.reduceSub, Nat.reduceMul, Nat.reduceLeDiff, Nat.reduceLT]
    rw [Nat.mod_eq_of_lt hlt] at hz
    rw [show vl l = 0 from hz]
    rfl

theorem U_replicate (n : Nat) : U (List.replicate n 0) = List.replicate n (.int .u64 0) := by simp [U, u]

theorem c_Shr (l : List Nat) (hl : l.length ≤ 1048576) (ho : Ok W l) (n : Int) : PC E 107 [NL l, .int .i64 n] (.tuple [NN (vl l / 2 ^ n.toNat), .bool (decide (vl l % 2 ^ n.toNat ≠ 0))]) := by
  refine PC.of_body follows Tryd.func107 (by decide +kernel) rfl (by kernel_rfl) (Nat.le_of_ble_eq_true rfl) (walk ?_)
  simp only [Tryd.f107, go_sem, Int.reduceToNat, Int.reduceEq, Int.reduceNe, Int.reduceLT, Int.reduceLE, Int.reduceNeg, Int.reduceAdd, ↓reduceIte, ↓reduceCtorEq, Nat.reduceEqDiff, Nat.reduceAdd, Nat.reduceSub, Nat.reduceMul, Nat.reduceLeDiff, Nat.reduceLT]
  refine qcall_i (n_Bare l (by omega) ho) ?_
  have hlen : (dg W (vl l)).length ≤ l.length := (dg_length_le W2 _ _).2 (dv_lt l ho)
  have hbl := bitLen_le_limbs (vl l)
  have hv := dv_dg W2 (vl l)
  have od := ok_dg W2 (vl l)
  simp only [NN]
  generalize hx : vl l = x at *
  have hmx : max n 0 = (n.toNat : Int) := by omega
  generalize n.toNat = k at *
  simp only [Tryd.f107, hmx, go_sem, Int.reduceToNat, Int.reduceEq, Int.reduceNe, Int.reduceLT, Int.reduceLE, Int.reduceNeg, Int.reduceAdd, ↓reduceIte, ↓reduceCtorEq, Nat.reduceEqDiff, Nat.reduceAdd, Nat.reduceSub, Nat.reduceMul, Nat.reduceLeDiff, Nat.reduceLT]
  refine qcall_i (c_Bits (dg W x) (by omega) od) ?_
  rw [show vl (dg W x) = x from hv]
  simp only [Tryd.f107, hmx, go_sem, Int.reduceToNat, Int.reduceEq, Int.reduceNe, Int.reduceLT, Int.reduceLE, Int.reduceNeg, Int.reduceAdd, ↓reduceIte, ↓reduceCtorEq, Nat.reduceEqDiff, Nat.reduceAdd, Nat.reduceSub, Nat.reduceMul, Nat.reduceLeDiff, Nat.reduceLT]
  refine qif_d (fun h => ?_) (fun h => ?_)
  · simp only [NL]
    simp only [Tryd.f107, go_sem, Int.reduceToNat, Int.reduceEq, Int.reduceNe, Int.reduceLT, Int.reduceLE, Int.reduceNeg, Int.reduceAdd, ↓reduceIte, ↓reduceCtorEq, Nat.reduceEqDiff, Nat.reduceAdd, Nat.reduceSub, Nat.reduceMul, Nat.reduceLeDiff, Nat.reduceLT]
    have hlt : x < 2 ^ k := (bitLen_le x k).1 (by omega)
    rw [Nat.div_eq_of_lt hlt, Nat.mod_eq_of_lt hlt]
    refine ⟨rfl, ?_⟩
    have := (dg_length_le W2 0 x)
    rw [Nat.pow_zero] at this
    rw [decide_eq_decide]
    omega
  · have hk : k < bitLen x := by omega
    have e1 : IntKind.wrap .i64 ((k : Int).tdiv 64) = ((k / 64 : Nat) : Int) := by
      rw [Int.tdiv_eq_ediv_of_nonneg (by omega), wrap64 (by omega) (by omega)]; omega
    have e2 : (k : Int).tmod 64 = ((k % 64 : Nat) : Int) := by
      rw [Int.tmod_eq_emod_of_nonneg (by omega)]; omega
    have e3 : IntKind.wrap .i64 (((dg W x).length : Int) - ((k / 64 : Nat) : Int)) = (((dg W x).length - k / 64 : Nat) : Int) := by
      rw [wrap64 (by omega) (by omega)]; omega
    have hlx := (dg_length_le W2 _ x).1 (Nat.le_refl _)
    simp only [NL]
    simp only [Tryd.f107, hmx, e1, e2, e3, go_sem, Int.reduceToNat, Int.reduceEq, Int.reduceNe, Int.reduceLT, Int.reduceLE, Int.reduceNeg, Int.reduceAdd, ↓reduceIte, ↓reduceCtorEq, Nat.reduceEqDiff, Nat.reduceAdd, Nat.reduceSub, Nat.reduceMul, Nat.reduceLeDiff, Nat.reduceLT]
    refine qand_i (by omega) ?_
    simp only [Tryd.f107, hmx, e1, e2, e3, go_sem, Int.reduceToNat, Int.reduceEq, Int.reduceNe, Int.reduceLT, Int.reduceLE, Int.reduceNeg, Int.reduceAdd, ↓reduceIte, ↓reduceCtorEq, Nat.reduceEqDiff, Nat.reduceAdd, Nat.reduceSub, Nat.reduceMul, Nat.reduceLeDiff, Nat.reduceLT]
    generalize hm : (dg W x).length - k / 64 = m at *
    generalize hw : k / 64 = w at *
    generalize hp : k % 64 = p at *
    have hkk : k = 64 * w + p := by omega
    have hp64 : p < 64 := by omega
    have hy : x / 2 ^ k < W ^ m := by
      rw [Nat.div_lt_iff_lt_mul (Nat.two_pow_pos k), W_pow, ← Nat.pow_add]
      refine Nat.lt_of_lt_of_le hlx ?_
      rw [W_pow]
      exact Nat.pow_le_pow_right (by decide) (by omega)
    refine PLoop.intro (fun i : Nat => ⟨[(0, .val (NL (dg W x))), (1, .val (.int .i64 k)), (6, .val (.int .i64 w)), (7, .val (.int .i64 p)), (8, .row 30), (32, .val (.int .i64 m)), (33, .val (.int .i64 i))],
      [(30, (.row 22 1 m (U (tab W (x / 2 ^ k) i ++ List.replicate (m - i) 0)), false))]⟩) (fun i => i ≤ m) (fun i => m - i) 0 (by omega) (by simp [Wk, sget, NL, tab, U_replicate]) fun i hi => walk ?_
    simp only [Tryd.f107, go_sem, Int.reduceToNat, Int.reduceEq, Int.reduceNe, Int.reduceLT, Int.reduceLE, Int.reduceNeg, Int.reduceAdd, ↓reduceIte, ↓reduceCtorEq, Nat.reduceEqDiff, Nat.reduceAdd, Nat.reduceSub, Nat.reduceMul, Nat.reduceLeDiff, Nat.reduceLT]
    refine qif_d (fun h => ?_) (fun h => ?_)
    · have f1 : IntKind.wrap .i64 ((i : Int) + (w : Int)) = ((i + w : Nat) : Int) := by rw [wrap64 (by omega) (by omega)]; omega
      have f2 : IntKind.wrap .i64 (((i + w : Nat) : Int) + 1) = ((i + w + 1 : Nat) : Int) := by rw [wrap64 (by omega) (by omega)]; omega
      have f3 : IntKind.wrap .i64 (64 - (p : Int)) = ((64 - p : Nat) : Int) := by rw [wrap64 (by omega) (by omega)]; omega
      have f4 : IntKind.wrap .i64 ((i : Int) + 1) = ((i + 1 : Nat) : Int) := by rw [wrap64 (by omega) (by omega)]; omega
      have g1 := n_limb (dg W x) od ((i + w : Nat) : Int)
      have g2 := n_limb (dg W x) od ((i + w + 1 : Nat) : Int)
      rw [show vl (dg W x) = x from hv, lb_nat] at g1 g2
      have l1 : x / W ^ (i + w) % W < W := Nat.mod_lt _ W0
      have f5 := b_shr l1 p
      have f6 := b_shl (x / W ^ (i + w + 1) % W) (64 - p)
      have f7 := b_or (a := x / W ^ (i + w) % W / 2 ^ p) (b := x / W ^ (i + w + 1) % W * 2 ^ (64 - p) % W) (Nat.lt_of_le_of_lt (Nat.div_le_self _ _) l1) (Nat.mod_lt _ W0)
      rw [shr_digit x w p i hp64, ← hkk] at f7
      simp only [Tryd.f107, f1, f2, f3, go_sem, Int.reduceToNat, Int.reduceEq, Int.reduceNe, Int.reduceLT, Int.reduceLE, Int.reduceNeg, Int.reduceAdd, ↓reduceIte, ↓reduceCtorEq, Nat.reduceEqDiff, Nat.reduceAdd, Nat.reduceSub, Nat.reduceMul, Nat.reduceLeDiff, Nat.reduceLT]
      refine qcall_i g1 ?_
      simp only [Tryd.f107, f1, f2, f3, u, f5, go_sem, Int.reduceToNat, Int.reduceEq, Int.reduceNe, Int.reduceLT, Int.reduceLE, Int.reduceNeg, Int.reduceAdd, ↓reduceIte, ↓reduceCtorEq, Nat.reduceEqDiff, Nat.reduceAdd, Nat.reduceSub, Nat.reduceMul, Nat.reduceLeDiff, Nat.reduceLT]
      refine qand_i (by omega) ?_
      simp only [Tryd.f107, f1, f2, f3, u, f5, go_sem, Int.reduceToNat, Int.reduceEq, Int.reduceNe, Int.reduceLT, Int.reduceLE, Int.reduceNeg, Int.reduceAdd, ↓reduceIte, ↓reduceCtorEq, Nat.reduceEqDiff, Nat.reduceAdd, Nat.reduceSub, Nat.reduceMul, Nat.reduceLeDiff, Nat.reduceLT]
      refine qcall_i g2 ?_
      simp only [Tryd.f107, f1, f2, f3, u, f5, f6, f7, go_sem, Int.reduceToNat, Int.reduceEq, Int.reduceNe, Int.reduceLT, Int.reduceLE, Int.reduceNeg, Int.reduceAdd, ↓reduceIte, ↓reduceCtorEq, Nat.reduceEqDiff, Nat.reduceAdd, Nat.reduceSub, Nat.reduceMul, Nat.reduceLeDiff, Nat.reduceLT]
      refine qand_i (by omega) ?_
      simp only [Tryd.f107, f1, f2, f3, u, f5, f6, f7, go_sem, Int.reduceToNat, Int.reduceEq, Int.reduceNe, Int.reduceLT, Int.reduceLE, Int.reduceNeg, Int.reduceAdd, ↓reduceIte, ↓reduceCtorEq, Nat.reduceEqDiff, Nat.reduceAdd, Nat.reduceSub, Nat.reduceMul, Nat.reduceLeDiff, Nat.reduceLT]
      refine qand_i (by omega) ?_
      simp only [Tryd.f107, f1, f2, f3, u, f5, f6, f7, go_sem, Int.reduceToNat, Int.reduceEq, Int.reduceNe, Int.reduceLT, Int.reduceLE, Int.reduceNeg, Int.reduceAdd, ↓reduceIte, ↓reduceCtorEq, Nat.reduceEqDiff, Nat.reduceAdd, Nat.reduceSub, Nat.reduceMul, Nat.reduceLeDiff, Nat.reduceLT]
      refine qand_i (by simp [U, tab]; omega) ?_
      simp only [Tryd.f107, f4, hmx, go_sem, Int.reduceToNat, Int.reduceEq, Int.reduceNe, Int.reduceLT, Int.reduceLE, Int.reduceNeg, Int.reduceAdd, ↓reduceIte, ↓reduceCtorEq, Nat.reduceEqDiff, Nat.reduceAdd, Nat.reduceSub, Nat.reduceMul, Nat.reduceLeDiff, Nat.reduceLT]
      refine ⟨i + 1, by omega, by omega, ?_⟩
      simp [Wk, sget, u, NL]
      rw [← fill_set (by omega), ← U_set]
      rfl
    · have e : i = m := by omega
      subst e
      simp only [Tryd.f107, go_sem, Int.reduceToNat, Int.reduceEq, Int.reduceNe, Int.reduceLT, Int.reduceLE, Int.reduceNeg, Int.reduceAdd, ↓reduceIte, ↓reduceCtorEq, Nat.reduceEqDiff, Nat.reduceAdd, Nat.reduceSub, Nat.reduceMul, Nat.reduceLeDiff, Nat.reduceLT]
      rw [Nat.sub_self, List.replicate_zero, List.append_nil]
      refine qcall_i (r := NN (x / 2 ^ k)) (PC.at_list (n_Bare (tab W (x / 2 ^ k) i) (by rw [tab_length]; omega) (ok_tab W0 _ _)) (tab_length _ _ _) ((dv_tab _ _).trans (Nat.mod_eq_of_lt hy))) ?_
      simp only [Tryd.f107, go_sem, Int.reduceToNat, Int.reduceEq, Int.reduceNe, Int.reduceLT, Int.reduceLE, Int.reduceNeg, Int.reduceAdd, ↓reduceIte, ↓reduceCtorEq, Nat.reduceEqDiff, Nat.reduceAdd, Nat.reduceSub, Nat.reduceMul, Nat.reduceLeDiff, Nat.reduceLT]
      refine qcall_i (c_Low (dg W x) (by omega) od) ?_
      rw [show vl (dg W x) = x from hv]
      simp only [Tryd.f107, go_sem, Int.reduceToNat, Int.reduceEq, Int.reduceNe, Int.reduceLT, Int.reduceLE, Int.reduceNeg, Int.reduceAdd, ↓reduceIte, ↓reduceCtorEq, Nat.reduceEqDiff, Nat.reduceAdd, Nat.reduceSub, Nat.reduceMul, Nat.reduceLeDiff, Nat.reduceLT]
      have h0 : x ≠ 0 := fun h0 => by subst h0; rw [bitLen_zero] at hk; omega
      rw [decide_eq_decide, Int.ofNat_lt]
      exact tz_lt h0

/-- What Shl hands back. -/
def shlV (x : Nat) (n : Int) : PV :=
  if n < 0 then .tuple [.lst 0 [], .int .i64 1] else if x = 0 then .tuple [.lst 0 [], .int .i64 0] else if n > 65536 - bitLen x then .tuple [.lst 0 [], .int .i64 2] else .tuple [NN (x * 2 ^ n.toNat), .int .i64 0]

theorem c_Shl (l : List Nat) (hl : l.length ≤ 1048576) (ho : Ok W l) (n : Int) (hn : -9223372036854775808 ≤ n) : PC E 92 [NL l, .int .i64 n] (shlV (vl l) n) := by
  refine PC.of_body follows Tryd.func92 (by decide +kernel) rfl (by kernel_rfl) (Nat.le_of_ble_eq_true rfl) (walk ?_)
  simp only [Tryd.f92, go_sem, Int.reduceToNat, Int.reduceEq, Int.reduceNe, Int.reduceLT, Int.reduceLE, Int.reduceNeg, Int.reduceAdd, ↓reduceIte, ↓reduceCtorEq, Nat.reduceEqDiff, Nat.reduceAdd, Nat.reduceSub, Nat.reduceMul, Nat.reduceLeDiff, Nat.reduceLT]
  refine qcall_i (n_Bare l (by omega) ho) ?_
  have hlen : (dg W (vl l)).length ≤ l.length := (dg_length_le W2 _ _).2 (dv_lt l ho)
  have hbl := bitLen_le_limbs (vl l)
  have hv := dv_dg W2 (vl l)
  have od := ok_dg W2 (vl l)
  simp only [NN]
  generalize hx : vl l = x at *
  simp only [Tryd.f92, go_sem, Int.reduceToNat, Int.reduceEq, Int.reduceNe, Int.reduceLT, Int.reduceLE, Int.reduceNeg, Int.reduceAdd, ↓reduceIte, ↓reduceCtorEq, Nat.reduceEqDiff, Nat.reduceAdd, Nat.reduceSub, Nat.reduceMul, Nat.reduceLeDiff, Nat.reduceLT]
  refine qif_d (fun h => ?_) (fun h => ?_)
  · simp only [Tryd.f92, go_sem, Int.reduceToNat, Int.reduceEq, Int.reduceNe, Int.reduceLT, Int.reduceLE, Int.reduceNeg, Int.reduceAdd, ↓reduceIte, ↓reduceCtorEq, Nat.reduceEqDiff, Nat.reduceAdd, Nat.reduceSub, Nat.reduceMul, Nat.reduceLeDiff, Nat.reduceLT]
    simp [shlV, h]
  simp only [Tryd.f92, go_sem, Int.reduceToNat, Int.reduceEq, Int.reduceNe, Int.reduceLT, Int.reduceLE, Int.reduceNeg, Int.reduceAdd, ↓reduceIte, ↓reduceCtorEq, Nat.reduceEqDiff, Nat.reduceAdd, Nat.reduceSub, Nat.reduceMul, Nat.reduceLeDiff, Nat.reduceLT]
  simp only [NL]
  simp only [Tryd.f92, go_sem, Int.reduceToNat, Int.reduceEq, Int.reduceNe, Int.reduceLT, Int.reduceLE, Int.reduceNeg, Int.reduceAdd, ↓reduceIte, ↓reduceCtorEq, Nat.reduceEqDiff, Nat.reduceAdd, Nat.reduceSub, Nat.reduceMul, Nat.reduceLeDiff, Nat.reduceLT]
  refine qif_d (fun h0 => ?_) (fun h0 => ?_)
  · have hx0 : x = 0 := by
      have := (dg_length_le W2 0 x).1 (by omega)
      rw [Nat.pow_zero] at this
      omega
    simp only [Tryd.f92, go_sem, Int.reduceToNat, Int.reduceEq, Int.reduceNe, Int.reduceLT, Int.reduceLE, Int.reduceNeg, Int.reduceAdd, ↓reduceIte, ↓reduceCtorEq, Nat.reduceEqDiff, Nat.reduceAdd, Nat.reduceSub, Nat.reduceMul, Nat.reduceLeDiff, Nat.reduceLT]
    simp [shlV, h, hx0]
  have hx0 : x ≠ 0 := fun hx0 => h0 (by subst hx0; rfl)
  simp only [Tryd.f92, go_sem, Int.reduceToNat, Int.reduceEq, Int.reduceNe, Int.reduceLT, Int.reduceLE, Int.reduceNeg, Int.reduceAdd, ↓reduceIte, ↓reduceCtorEq, Nat.reduceEqDiff, Nat.reduceAdd, Nat.reduceSub, Nat.reduceMul, Nat.reduceLeDiff, Nat.reduceLT]
  have hB := c_Bits (dg W x) (by omega) od
  rw [show vl (dg W x) = x from hv] at hB
  refine qcall_i hB ?_
  have e0 : IntKind.wrap .i64 (65536 - (bitLen x : Int)) = 65536 - (bitLen x : Int) := wrap64 (by omega) (by omega)
  simp only [Tryd.f92, e0, go_sem, Int.reduceToNat, Int.reduceEq, Int.reduceNe, Int.reduceLT, Int.reduceLE, Int.reduceNeg, Int.reduceAdd, ↓reduceIte, ↓reduceCtorEq, Nat.reduceEqDiff, Nat.reduceAdd, Nat.reduceSub, Nat.reduceMul, Nat.reduceLeDiff, Nat.reduceLT]
  refine qif_d (fun h1 => ?_) (fun h1 => ?_)
  · simp only [Tryd.f92, go_sem, Int.reduceToNat, Int.reduceEq, Int.reduceNe, Int.reduceLT, Int.reduceLE, Int.reduceNeg, Int.reduceAdd, ↓reduceIte, ↓reduceCtorEq, Nat.reduceEqDiff, Nat.reduceAdd, Nat.reduceSub, Nat.reduceMul, Nat.reduceLeDiff, Nat.reduceLT]
    simp [shlV, h, hx0, h1]
  obtain ⟨k, rfl⟩ : ∃ k : Nat, n = k := ⟨n.toNat, by omega⟩
  have hk : k ≤ 65536 := by omega
  have hbp := bitLen_pos hx0
  have e1 : IntKind.wrap .i64 ((k : Int).tdiv 64) = ((k / 64 : Nat) : Int) := by
    rw [Int.tdiv_eq_ediv_of_nonneg (by omega), wrap64 (by omega) (by omega)]; omega
  have e2 : (k : Int).tmod 64 = ((k % 64 : Nat) : Int) := by
    rw [Int.tmod_eq_emod_of_nonneg (by omega)]; omega
  have e3 : IntKind.wrap .i64 (((dg W x).length : Int) + ((k / 64 : Nat) : Int)) = (((dg W x).length + k / 64 : Nat) : Int) := by
    rw [wrap64 (by omega) (by omega)]; omega
  have e4 : IntKind.wrap .i64 ((((dg W x).length + k / 64 : Nat) : Int) + 1) = (((dg W x).length + k / 64 + 1 : Nat) : Int) := by
    rw [wrap64 (by omega) (by omega)]; omega
  have hlx := (dg_length_le W2 _ x).1 (Nat.le_refl _)
  have hr : shlV x k = .tuple [NN (x * 2 ^ k), .int .i64 0] := by
    unfold shlV
    rw [if_neg h, if_neg hx0, if_neg h1, Int.toNat_natCast]
  rw [hr]
  simp only [Tryd.f92, NL, e1, e2, e3, e4, go_sem, Int.reduceToNat, Int.reduceEq, Int.reduceNe, Int.reduceLT, Int.reduceLE, Int.reduceNeg, Int.reduceAdd, ↓reduceIte, ↓reduceCtorEq, Nat.reduceEqDiff, Nat.reduceAdd, Nat.reduceSub, Nat.reduceMul, Nat.reduceLeDiff, Nat.reduceLT]
  refine qand_i (by omega) ?_
  simp only [Tryd.f92, NL, e1, e2, e3, e4, go_sem, Int.reduceToNat, Int.reduceEq, Int.reduceNe, Int.reduceLT, Int.reduceLE, Int.reduceNeg, Int.reduceAdd, ↓reduceIte, ↓reduceCtorEq, Nat.reduceEqDiff, Nat.reduceAdd, Nat.reduceSub, Nat.reduceMul, Nat.reduceLeDiff, Nat.reduceLT]
  generalize hm : (dg W x).length + k / 64 + 1 = m at *
  generalize hw : k / 64 = w at *
  generalize hp : k % 64 = p at *
  have hkk : k = 64 * w + p := by omega
  have hp64 : p < 64 := by omega
  have hy : x * 2 ^ k < W ^ m := by
    have h2 : x * 2 ^ k < W ^ (dg W x).length * 2 ^ k := Nat.mul_lt_mul_of_pos_right hlx (Nat.two_pow_pos k)
    refine Nat.lt_of_lt_of_le h2 ?_
    rw [W_pow, W_pow, ← Nat.pow_add]
    exact Nat.pow_le_pow_right (by decide) (by omega)
  refine PLoop.intro (fun i : Nat => ⟨[(0, .val (NL (dg W x))), (1, .val (.int .i64 k)), (6, .val (.int .i64 w)), (7, .val (.int .i64 p)), (8, .row 35), (37, .val (.int .i64 m)), (38, .val (.int .i64 i))],
    [(35, (.row 22 1 m (U (tab W (x * 2 ^ k) i ++ List.replicate (m - i) 0)), false))]⟩) (fun i => i ≤ m) (fun i => m - i) 0 (by omega) (by simp [Wk, sget, NL, tab, U_replicate]) fun i hi => walk ?_
  simp only [Tryd.f92, go_sem, Int.reduceToNat, Int.reduceEq, Int.reduceNe, Int.reduceLT, Int.reduceLE, Int.reduceNeg, Int.reduceAdd, ↓reduceIte, ↓reduceCtorEq, Nat.reduceEqDiff, Nat.reduceAdd, Nat.reduceSub, Nat.reduceMul, Nat.reduceLeDiff, Nat.reduceLT]
  refine qif_d (fun h => ?_) (fun h => ?_)
  · have f1 : IntKind.wrap .i64 ((i : Int) - (w : Int)) = (i : Int) - w := wrap64 (by omega) (by omega)
    have f2 : IntKind.wrap .i64 ((i : Int) - (w : Int) - 1) = (i : Int) - w - 1 := wrap64 (by omega) (by omega)
    have f3 : IntKind.wrap .i64 (64 - (p : Int)) = ((64 - p : Nat) : Int) := by rw [wrap64 (by omega) (by omega)]; omega
    have f4 : IntKind.wrap .i64 ((i : Int) + 1) = ((i + 1 : Nat) : Int) := by rw [wrap64 (by omega) (by omega)]; omega
    have g1 := n_limb (dg W x) od ((i : Int) - w)
    have g2 := n_limb (dg W x) od ((i : Int) - w - 1)
    rw [show vl (dg W x) = x from hv] at g1 g2
    have f5 := b_shl (lb x ((i : Int) - w)) p
    have f6 := b_shr (lb_lt x ((i : Int) - w - 1)) (64 - p)
    have f7 := b_or (a := lb x ((i : Int) - w) * 2 ^ p % W) (b := lb x ((i : Int) - w - 1) / 2 ^ (64 - p)) (Nat.mod_lt _ W0) (Nat.lt_of_le_of_lt (Nat.div_le_self _ _) (lb_lt _ _))
    rw [shl_digit x w p i hp64, ← hkk] at f7
    simp only [Tryd.f92, f1, f2, f3, go_sem, Int.reduceToNat, Int.reduceEq, Int.reduceNe, Int.reduceLT, Int.reduceLE, Int.reduceNeg, Int.reduceAdd, ↓reduceIte, ↓reduceCtorEq, Nat.reduceEqDiff, Nat.reduceAdd, Nat.reduceSub, Nat.reduceMul, Nat.reduceLeDiff, Nat.reduceLT]
    refine qcall_i g1 ?_
    simp only [Tryd.f92, f1, f2, f3, u, f5, go_sem, Int.reduceToNat, Int.reduceEq, Int.reduceNe, Int.reduceLT, Int.reduceLE, Int.reduceNeg, Int.reduceAdd, ↓reduceIte, ↓reduceCtorEq, Nat.reduceEqDiff, Nat.reduceAdd, Nat.reduceSub, Nat.reduceMul, Nat.reduceLeDiff, Nat.reduceLT]
    refine qand_i (by omega) ?_
    simp only [Tryd.f92, f1, f2, f3, u, f5, go_sem, Int.reduceToNat, Int.reduceEq, Int.reduceNe, Int.reduceLT, Int.reduceLE, Int.reduceNeg, Int.reduceAdd, ↓reduceIte, ↓reduceCtorEq, Nat.reduceEqDiff, Nat.reduceAdd, Nat.reduceSub, Nat.reduceMul, Nat.reduceLeDiff, Nat.reduceLT]
    refine qcall_i g2 ?_
    simp only [Tryd.f92, f1, f2, f3, u, f5, f6, f7, go_sem, Int.reduceToNat, Int.reduceEq, Int.reduceNe, Int.reduceLT, Int.reduceLE, Int.reduceNeg, Int.reduceAdd, ↓reduceIte, ↓reduceCtorEq, Nat.reduceEqDiff, Nat.reduceAdd, Nat.reduceSub, Nat.reduceMul, Nat.reduceLeDiff, Nat.reduceLT]
    refine qand_i (by omega) ?_
    simp only [Tryd.f92, f1, f2, f3, u, f5, f6, f7, go_sem, Int.reduceToNat, Int.reduceEq, Int.reduceNe, Int.reduceLT, Int.reduceLE, Int.reduceNeg, Int.reduceAdd, ↓reduceIte, ↓reduceCtorEq, Nat.reduceEqDiff, Nat.reduceAdd, Nat.reduceSub, Nat.reduceMul, Nat.reduceLeDiff, Nat.reduceLT]
    refine qand_i (by omega) ?_
    simp only [Tryd.f92, f1, f2, f3, u, f5, f6, f7, go_sem, Int.reduceToNat, Int.reduceEq, Int.reduceNe, Int.reduceLT, Int.reduceLE, Int.reduceNeg, Int.reduceAdd, ↓reduceIte, ↓reduceCtorEq, Nat.reduceEqDiff, Nat.reduceAdd, Nat.reduceSub, Nat.reduceMul, Nat.reduceLeDiff, Nat.reduceLT]
    refine qand_i (by simp [U, tab]; omega) ?_
    simp only [Tryd.f92, f4, go_sem, Int.reduceToNat, Int.reduceEq, Int.reduceNe, Int.reduceLT, Int.reduceLE, Int.reduceNeg, Int.reduceAdd, ↓reduceIte, ↓reduceCtorEq, Nat.reduceEqDiff, Nat.reduceAdd, Nat.reduceSub, Nat.reduceMul, Nat.reduceLeDiff, Nat.reduceLT]
    refine ⟨i + 1, by omega, by omega, ?_⟩
    simp [Wk, sget, u, NL]
    rw [← fill_set (by omega), ← U_set]
    rfl
  · have e : i = m := by omega
    subst e
    simp only [Tryd.f92, go_sem, Int.reduceToNat, Int.reduceEq, Int.reduceNe, Int.reduceLT, Int.reduceLE, Int.reduceNeg, Int.reduceAdd, ↓reduceIte, ↓reduceCtorEq, Nat.reduceEqDiff, Nat.reduceAdd, Nat.reduceSub, Nat.reduceMul, Nat.reduceLeDiff, Nat.reduceLT]
    rw [Nat.sub_self, List.replicate_zero, List.append_nil]
    refine qcall_i (r := NN (x * 2 ^ k)) (PC.at_list (n_Bare (tab W (x * 2 ^ k) i) (by rw [tab_length]; omega) (ok_tab W0 _ _)) (tab_length _ _ _) ((dv_tab _ _).trans (Nat.mod_eq_of_lt hy))) ?_
    simp only [Tryd.f92, go_sem, Int.reduceToNat, Int.reduceEq, Int.reduceNe, Int.reduceLT, Int.reduceLE, Int.reduceNeg, Int.reduceAdd, ↓reduceIte, ↓reduceCtorEq, Nat.reduceEqDiff, Nat.reduceAdd, Nat.reduceSub, Nat.reduceMul, Nat.reduceLeDiff, Nat.reduceLT]
end Go.Proofs.YtflpcgcgeffolaaDoor
