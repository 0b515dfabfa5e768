/- The contract of the law FloatWhole: at whatever reads as its arguments it returns true. -/
import Derived.Test.YtkddalmjhmgbeaaDoorFl5
import Derived.Test.YtkddalmjhmgbeaaDoorRd20
open Go PG Go.Proofs
set_option maxRecDepth 100000
set_option linter.unusedSimpArgs false
set_option linter.unusedVariables false
namespace Go.Proofs.YtkddalmjhmgbeaaDoor
attribute [local go_sem] Lay2 Lay3 Lay4 Lay5 Lay6 Lay7 Lay8 Lay9 Lay10 Lay11 Lay12 Lay13 Lay14 Lay21 Lay22 Lay24 Lay27 Lay36 Lay47 Lay53 Lay55 Lay56 Lay57 Lay58 Lay62 Lay63 Lay66 Lay67 Lay68 Lay69 Lay72 Lay95 Lay121 Lay129 Lay144 Lay145 Lay146 Lay148 Lay149 Lay152 Lay153 qexec_seq qexec_skip qexec_exit qexec_ret qexec_block qexec_loop qexec_range qexec_cond qexec_region qops_nil qops_none qops_some put_some put_none pblk_exit pblk_other newDsts_nil sget_cons qval_some qbool_some qgs_bool qgs_und qfree_some qgrd_true qgrd_false qif_true qif_false qval_ite qval_itn qand_true map_ite map_some' map_none' qdo_move qdo_assign qdo_binOp qdo_pick qdo_unOp qdo_convert qdo_extract qdo_field qdo_fieldAddr qdo_alloc qdo_box qdo_build qdo_buildSlice qdo_load qdo_store qdo_nilCheck qdo_makeFunc qdo_makeSlice qdo_slice qdo_indexAddr qdo_call qcont_val qcont_new qcont_st qcont_app0 qcont_app qcont_inl qcont_call njSV_val njSV_nil njSV_row njSV_ptr njSV_sub binV_val binV_nil binV_nn nilCmp bin_add bin_sub bin_mul bin_quo bin_rem bin_and bin_or bin_xor bin_andNot bin_eql bin_neq bin_lss bin_leq bin_gtr bin_geq bin_shl bin_shr bin_seql bin_sneq bin_sadd bin_beql bin_aeql bin_aneq eqAnd_some eqCells_nil eqCells_cons fieldTypes isStruct eqCell bin_bneq un_not un_neg nj_ite Nat.beq stepA stepR isNew opSV constSV RV.sv allSome E_mu Bool.or_false Bool.false_or Bool.or_true Bool.true_or cst setB res resSV pstart startL killL kill1 eraL frzL svPV rvPV rvInt rvSlice frzOf close closeL pconv pbuiltin pmax2 partPV setCells fillPV zrow bound newSV PV.cells Bk.cells Bk.with SV.key pres presL_nil presL_tmp presL_cell presC2_some cellPV_ptr presC List.toList_toArray List.size_toArray List.getElem?_drop Nat.mul_one Int.toNat_natCast Nat.not_lt_zero Nat.lt_irrefl decide_true decide_false Nat.not_lt Option.some.injEq PV.lst.injEq PV.int.injEq PV.bool.injEq PV.tuple.injEq List.cons.injEq Option.map_some Option.map_none Option.bind_some Option.toList List.map_cons List.map_nil List.nil_append List.cons_append List.append_nil List.zip_cons_cons List.zip_nil_left List.zip_nil_right List.getElem?_cons_zero List.getElem?_cons_succ List.drop_zero List.drop_succ_cons List.take_succ_cons List.take_zero List.set_cons_zero List.set_cons_succ List.length_cons List.length_nil List.length_set List.replicate_one List.replicate_zero bne_self_eq_false beq_self_eq_true Nat.zero_add Nat.add_zero Nat.zero_mul Bool.false_eq_true Bool.true_eq_false Bool.not_true Bool.not_false and_true true_and false_and and_false or_false false_or or_true true_or not_true_eq_false not_false_eq_true ne_eq gt_iff_lt List.mem_cons List.not_mem_nil
attribute [local go_sem ↓] pseq_normal pseq_ret pseq_exit pblk_normal pblk_ret newDsts_cons gdst_zero gdst_succ retQ_normal retQ_ret retM_normal retM_ret endR_normal endR_ret endR_exit

theorem c_Whole'' (b : Nat) (hb : b < W) (hf : fe b < 2047) : PC E 51 [u b] (.tuple [.bool (decide (0 ≤ (fd b).e)), .bool (decide ((fd b).e = 0 ∧ (fd b).m % 2 = 1))]) :=
  PC.cast (c_Whole b hb) (by
    rw [show decide (fe b < 2047 ∧ 0 ≤ (fd b).e) = decide (0 ≤ (fd b).e) from decide_eq_decide.2 ⟨fun h => h.2, fun h => ⟨hf, h⟩⟩,
      show decide (fe b < 2047 ∧ (fd b).e = 0 ∧ (fd b).m % 2 = 1) = decide ((fd b).e = 0 ∧ (fd b).m % 2 = 1) from decide_eq_decide.2 ⟨fun h => h.2, fun h => ⟨hf, h⟩⟩])

theorem law_FloatWhole (pvs : List PV) (h : Fits [qU64, qBool] pvs) : PC E 10 pvs (.bool true) := by
  obtain ⟨_, _, rfl, ⟨n, rfl, hn⟩, ⟨neg, rfl⟩⟩ := fits2 h
  refine PC.of_body follows Tryd.func10 (by decide +kernel) rfl (by kernel_rfl) (Nat.le_of_ble_eq_true rfl) (walk ?_)
  have e1 : Int.tmod (n : Int) 9007199254740992 = ((n % 9007199254740992 : Nat) : Int) := n_tmod n 9007199254740992
  have hk : n % 9007199254740992 < 9007199254740992 := Nat.mod_lt _ (by decide)
  simp only [Tryd.f10, u, go_sem, Int.reduceToNat, Int.reduceEq, Int.reduceNe, Int.reduceLT, Int.reduceLE, Int.reduceNeg, Int.reduceAdd, ↓reduceIte, ↓reduceCtorEq, Nat.reduceEqDiff, Nat.reduceAdd, Nat.reduceSub, Nat.reduceMul, Nat.reduceLeDiff, Nat.reduceLT]
  refine qcall_i (c_alive06) ?_; simp only [Tryd.f10, u, e1, go_sem, Int.reduceToNat, Int.reduceEq, Int.reduceNe, Int.reduceLT, Int.reduceLE, Int.reduceNeg, Int.reduceAdd, ↓reduceIte, ↓reduceCtorEq, Nat.reduceEqDiff, Nat.reduceAdd, Nat.reduceSub, Nat.reduceMul, Nat.reduceLeDiff, Nat.reduceLT]
  generalize n % 9007199254740992 = k at *
  refine qif_d (fun h0 => ?_) (fun h0 => ?_)
  · simp only [Tryd.f10, go_sem, Int.reduceToNat, Int.reduceEq, Int.reduceNe, Int.reduceLT, Int.reduceLE, Int.reduceNeg, Int.reduceAdd, ↓reduceIte, ↓reduceCtorEq, Nat.reduceEqDiff, Nat.reduceAdd, Nat.reduceSub, Nat.reduceMul, Nat.reduceLeDiff, Nat.reduceLT]
  have h0' : k ≠ 0 := by omega
  obtain ⟨m, hm⟩ := tz_spec h0'
  have hd : k / 2 ^ tz k = 2 * m + 1 := Nat.div_eq_of_eq_mul_right (Nat.two_pow_pos _) hm
  have htz : tz k < 53 := Nat.lt_of_lt_of_le (tz_bits h0') ((bitLen_le k 53).2 hk)
  have hbk := (bitLen_le k 53).2 hk
  have hbl : bitLen (2 * m + 1) + tz k = bitLen k := by
    have := bitLen_shl (2 * m + 1) (tz k) (by omega)
    rw [Nat.mul_comm, ← hm] at this
    exact this.symm
  have hbp := bitLen_pos h0'
  have x1 : mkD neg k 0 = ⟨neg, 2 * m + 1, tz k⟩ := by rw [mkD, if_neg h0', hd, cut_id (by decide) (by decide), Int.zero_add]
  have x2 : mkD neg k (-1) = ⟨neg, 2 * m + 1, (-1 : Int) + tz k⟩ := by rw [mkD, if_neg h0', hd, cut_id (by decide) (by decide)]
  have t1 : Dy.top ⟨neg, 2 * m + 1, tz k⟩ = bitLen k - 1 := by rw [Dy.top, if_neg (show (2 * m + 1) ≠ 0 by omega)]; show (bitLen (2 * m + 1) : Int) - 1 + tz k = _; omega
  have t2 : Dy.top ⟨neg, 2 * m + 1, (-1 : Int) + tz k⟩ = bitLen k - 2 := by rw [Dy.top, if_neg (show (2 * m + 1) ≠ 0 by omega)]; show (bitLen (2 * m + 1) : Int) - 1 + (-1 + tz k) = _; omega
  obtain ⟨b, y1, y2, y3, y4, y5⟩ := exact_fd (d := ⟨neg, 2 * m + 1, tz k⟩) (show (2 * m + 1) % 2 = 1 by omega) (by rw [t1]; omega) (by rw [t1]; unfold unitOf; show _ ≤ (tz k : Int); omega)
  obtain ⟨c, z1, z2, z3, z4, z5⟩ := exact_fd (d := ⟨neg, 2 * m + 1, (-1 : Int) + tz k⟩) (show (2 * m + 1) % 2 = 1 by omega) (by rw [t2]; omega) (by rw [t2]; unfold unitOf; show _ ≤ (-1 + tz k : Int); omega)
  have hkW : k < W := Nat.lt_trans hk (by decide)
  have k1 := c_Exact (num_one hkW) (by omega) neg 0
  have k2 := c_Exact (num_one hkW) (by omega) neg (-1)
  rw [x1, if_pos (show Dy.fits ⟨neg, 2 * m + 1, tz k⟩ from ⟨by show _ ≤ (tz k : Int); omega, by show (tz k : Int) ≤ _; omega⟩), y1] at k1
  rw [x2, if_pos (show Dy.fits ⟨neg, 2 * m + 1, (-1 : Int) + tz k⟩ from ⟨by show _ ≤ (-1 + tz k : Int); omega, by show (-1 + tz k : Int) ≤ _; omega⟩), z1] at k2
  have k3 := c_Whole'' b y2 y3
  have k4 := c_Whole'' c z2 z3
  have k5 := c_Parts b y2
  have k6 := c_Neg b y2
  rw [y4] at k3 k5
  rw [z4] at k4
  rw [if_pos ⟨y3, show (2 * m + 1) ≠ 0 by omega⟩] at k5
  rw [y5] at k6
  have l1 := tz_lt (x := k) (n := 1) h0'
  have l2 := tz_lt (x := k) (n := 2) h0'
  rw [show (2 : Nat) ^ 1 = 2 by decide] at l1
  rw [show (2 : Nat) ^ 2 = 4 by decide] at l2
  have s1 : decide (0 ≤ (tz k : Int)) = true := decide_eq_true (by omega)
  have s2 : decide ((tz k : Int) = 0 ∧ (2 * m + 1) % 2 = 1) = decide (((k % 2 : Nat) : Int) = 1) := decide_eq_decide.2 (by omega)
  have s3 : decide (0 ≤ -1 + (tz k : Int)) = decide (((k % 2 : Nat) : Int) = 0) := decide_eq_decide.2 (by omega)
  have s4 : decide (-1 + (tz k : Int) = 0 ∧ (2 * m + 1) % 2 = 1) = decide (((k % 4 : Nat) : Int) = 2) := decide_eq_decide.2 (by omega)
  have r2 : Int.tmod (k : Int) 2 = ((k % 2 : Nat) : Int) := n_tmod k 2
  have r4 : Int.tmod (k : Int) 4 = ((k % 4 : Nat) : Int) := n_tmod k 4
  rw [s1, s2] at k3
  rw [s3, s4] at k4
  simp only [DP, exPV, u] at k1 k2 k3 k4 k5 k6
  simp only [Tryd.f10, go_sem, Int.reduceToNat, Int.reduceEq, Int.reduceNe, Int.reduceLT, Int.reduceLE, Int.reduceNeg, Int.reduceAdd, ↓reduceIte, ↓reduceCtorEq, Nat.reduceEqDiff, Nat.reduceAdd, Nat.reduceSub, Nat.reduceMul, Nat.reduceLeDiff, Nat.reduceLT]
  refine qcall_i (k1) ?_; simp only [Tryd.f10, go_sem, Int.reduceToNat, Int.reduceEq, Int.reduceNe, Int.reduceLT, Int.reduceLE, Int.reduceNeg, Int.reduceAdd, ↓reduceIte, ↓reduceCtorEq, Nat.reduceEqDiff, Nat.reduceAdd, Nat.reduceSub, Nat.reduceMul, Nat.reduceLeDiff, Nat.reduceLT]
  refine qcall_i (k2) ?_; simp only [Tryd.f10, go_sem, Int.reduceToNat, Int.reduceEq, Int.reduceNe, Int.reduceLT, Int.reduceLE, Int.reduceNeg, Int.reduceAdd, ↓reduceIte, ↓reduceCtorEq, Nat.reduceEqDiff, Nat.reduceAdd, Nat.reduceSub, Nat.reduceMul, Nat.reduceLeDiff, Nat.reduceLT]
  refine qcall_i (k3) ?_; simp only [Tryd.f10, go_sem, Int.reduceToNat, Int.reduceEq, Int.reduceNe, Int.reduceLT, Int.reduceLE, Int.reduceNeg, Int.reduceAdd, ↓reduceIte, ↓reduceCtorEq, Nat.reduceEqDiff, Nat.reduceAdd, Nat.reduceSub, Nat.reduceMul, Nat.reduceLeDiff, Nat.reduceLT]
  refine qcall_i (k4) ?_; simp only [Tryd.f10, go_sem, Int.reduceToNat, Int.reduceEq, Int.reduceNe, Int.reduceLT, Int.reduceLE, Int.reduceNeg, Int.reduceAdd, ↓reduceIte, ↓reduceCtorEq, Nat.reduceEqDiff, Nat.reduceAdd, Nat.reduceSub, Nat.reduceMul, Nat.reduceLeDiff, Nat.reduceLT]
  refine qcall_i (k5) ?_; simp only [Tryd.f10, go_sem, Int.reduceToNat, Int.reduceEq, Int.reduceNe, Int.reduceLT, Int.reduceLE, Int.reduceNeg, Int.reduceAdd, ↓reduceIte, ↓reduceCtorEq, Nat.reduceEqDiff, Nat.reduceAdd, Nat.reduceSub, Nat.reduceMul, Nat.reduceLeDiff, Nat.reduceLT]
  clear k1 k2 k3 k4 k5 e1 s1 s2 s3 s4 l1 l2 x1 x2 t1 t2 y1 z1 z2 z3 z4 z5 y4
  refine PLoop.intro (fun i : Nat => ⟨[(1, .val (.bool neg)), (5, .val (.int .u64 k)), (7, .val (.int .u64 b)), (8, .val (.bool true)), (10, .val (.bool true)), (11, .val (.bool true)), (12, .val (.bool (decide (((k % 2 : Nat) : Int) = 1)))), (13, .val (.bool (decide (((k % 2 : Nat) : Int) = 0)))), (14, .val (.bool (decide (((k % 4 : Nat) : Int) = 2)))), (15, .val (.int .u64 ((2 * m + 1) * 2 ^ i : Nat))), (16, .val (.int .i64 ((tz k : Int) - (i : Int)))), (17, .val (.bool true))], []⟩) (fun i => i ≤ tz k) (fun i => tz k - i) 0 (Nat.zero_le _) ?_ fun i hi => walk ?_
  · simp [Wk, sget, killL, kill1, SV.key, NL, VL, u, e32, Nat.pow_zero, Nat.mul_one]
  have hmi : (2 * m + 1) * 2 ^ i ≤ k := by
    have h1 : 2 ^ i ≤ 2 ^ tz k := Nat.pow_le_pow_right (by decide) hi
    have h2 := Nat.mul_le_mul_left (2 * m + 1) h1
    rw [Nat.mul_comm (2 * m + 1) (2 ^ tz k), ← hm] at h2
    exact h2
  have hme : i = tz k → (2 * m + 1) * 2 ^ i = k := fun h => by rw [h, Nat.mul_comm]; exact hm.symm
  generalize hP : (2 * m + 1) * 2 ^ i = P at *
  have w1 : IntKind.wrap .u64 (2 * (P : Int)) = ((2 * P : Nat) : Int) := by
    rw [show 2 * (P : Int) = ((2 * P : Nat) : Int) by omega]
    exact wrap_nat64 (by show _ < 18446744073709551616; omega)
  have w2 : IntKind.wrap .i64 ((tz k : Int) - (i : Int) - 1) = (tz k : Int) - ((i + 1 : Nat) : Int) := by rw [wrap64 (by omega) (by omega)]; omega
  simp only [Tryd.f10, go_sem, Int.reduceToNat, Int.reduceEq, Int.reduceNe, Int.reduceLT, Int.reduceLE, Int.reduceNeg, Int.reduceAdd, ↓reduceIte, ↓reduceCtorEq, Nat.reduceEqDiff, Nat.reduceAdd, Nat.reduceSub, Nat.reduceMul, Nat.reduceLeDiff, Nat.reduceLT]
  refine qif_d (fun h1 => ?_) (fun h1 => ?_)
  · simp only [Tryd.f10, go_sem, Int.reduceToNat, Int.reduceEq, Int.reduceNe, Int.reduceLT, Int.reduceLE, Int.reduceNeg, Int.reduceAdd, ↓reduceIte, ↓reduceCtorEq, Nat.reduceEqDiff, Nat.reduceAdd, Nat.reduceSub, Nat.reduceMul, Nat.reduceLeDiff, Nat.reduceLT]
    refine qif_dt (by omega) ?_
    simp only [Tryd.f10, w1, w2, go_sem, Int.reduceToNat, Int.reduceEq, Int.reduceNe, Int.reduceLT, Int.reduceLE, Int.reduceNeg, Int.reduceAdd, ↓reduceIte, ↓reduceCtorEq, Nat.reduceEqDiff, Nat.reduceAdd, Nat.reduceSub, Nat.reduceMul, Nat.reduceLeDiff, Nat.reduceLT]
    refine ⟨i + 1, by omega, by omega, ?_⟩
    have hP2 : (2 * m + 1) * 2 ^ (i + 1) = 2 * P := by rw [Nat.pow_succ, ← Nat.mul_assoc, hP, Nat.mul_comm]
    simp [Wk, sget, killL, kill1, SV.key, NL, VL, u, e32, hP2]
  · have hik : i = tz k := by omega
    have hPk := hme hik
    have f1 : decide ((tz k : Int) - (i : Int) = 0) = true := decide_eq_true (by omega)
    subst hPk
    simp only [Tryd.f10, r2, r4, f1, go_sem, Int.reduceToNat, Int.reduceEq, Int.reduceNe, Int.reduceLT, Int.reduceLE, Int.reduceNeg, Int.reduceAdd, ↓reduceIte, ↓reduceCtorEq, Nat.reduceEqDiff, Nat.reduceAdd, Nat.reduceSub, Nat.reduceMul, Nat.reduceLeDiff, Nat.reduceLT]
    refine qcall_i k6 ?_
    simp only [Tryd.f10, go_sem, Int.reduceToNat, Int.reduceEq, Int.reduceNe, Int.reduceLT, Int.reduceLE, Int.reduceNeg, Int.reduceAdd, ↓reduceIte, ↓reduceCtorEq, Nat.reduceEqDiff, Nat.reduceAdd, Nat.reduceSub, Nat.reduceMul, Nat.reduceLeDiff, Nat.reduceLT]
end Go.Proofs.YtkddalmjhmgbeaaDoor
