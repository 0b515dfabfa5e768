/- The contract of the law FloatExact: at whatever reads as its arguments it returns true. -/
import Derived.Test.YtkddalmjhmgbeaaDoorFl5
import Derived.Test.YtkddalmjhmgbeaaDoorArgs2
import Derived.Test.YtkddalmjhmgbeaaDoorRd20
open Go PG Go.Proofs
set_option maxRecDepth 100000
set_option linter.unusedSimpArgs false
set_option linter.unusedVariables false
namespace Go.Proofs.YtkddalmjhmgbeaaDoor
attribute [local go_sem] Lay2 Lay3 Lay4 Lay5 Lay6 Lay7 Lay8 Lay9 Lay10 Lay11 Lay12 Lay13 Lay14 Lay21 Lay22 Lay24 Lay27 Lay36 Lay47 Lay53 Lay55 Lay56 Lay57 Lay58 Lay62 Lay63 Lay66 Lay67 Lay68 Lay69 Lay72 Lay95 Lay121 Lay129 Lay144 Lay145 Lay146 Lay148 Lay149 Lay152 Lay153 qexec_seq qexec_skip qexec_exit qexec_ret qexec_block qexec_loop qexec_range qexec_cond qexec_region qops_nil qops_none qops_some put_some put_none pblk_exit pblk_other newDsts_nil sget_cons qval_some qbool_some qgs_bool qgs_und qfree_some qgrd_true qgrd_false qif_true qif_false qval_ite qval_itn qand_true map_ite map_some' map_none' qdo_move qdo_assign qdo_binOp qdo_pick qdo_unOp qdo_convert qdo_extract qdo_field qdo_fieldAddr qdo_alloc qdo_box qdo_build qdo_buildSlice qdo_load qdo_store qdo_nilCheck qdo_makeFunc qdo_makeSlice qdo_slice qdo_indexAddr qdo_call qcont_val qcont_new qcont_st qcont_app0 qcont_app qcont_inl qcont_call njSV_val njSV_nil njSV_row njSV_ptr njSV_sub binV_val binV_nil binV_nn nilCmp bin_add bin_sub bin_mul bin_quo bin_rem bin_and bin_or bin_xor bin_andNot bin_eql bin_neq bin_lss bin_leq bin_gtr bin_geq bin_shl bin_shr bin_seql bin_sneq bin_sadd bin_beql bin_aeql bin_aneq eqAnd_some eqCells_nil eqCells_cons fieldTypes isStruct eqCell bin_bneq un_not un_neg nj_ite Nat.beq stepA stepR isNew opSV constSV RV.sv allSome E_mu Bool.or_false Bool.false_or Bool.or_true Bool.true_or cst setB res resSV pstart startL killL kill1 eraL frzL svPV rvPV rvInt rvSlice frzOf close closeL pconv pbuiltin pmax2 partPV setCells fillPV zrow bound newSV PV.cells Bk.cells Bk.with SV.key pres presL_nil presL_tmp presL_cell presC2_some cellPV_ptr presC List.toList_toArray List.size_toArray List.getElem?_drop Nat.mul_one Int.toNat_natCast Nat.not_lt_zero Nat.lt_irrefl decide_true decide_false Nat.not_lt Option.some.injEq PV.lst.injEq PV.int.injEq PV.bool.injEq PV.tuple.injEq List.cons.injEq Option.map_some Option.map_none Option.bind_some Option.toList List.map_cons List.map_nil List.nil_append List.cons_append List.append_nil List.zip_cons_cons List.zip_nil_left List.zip_nil_right List.getElem?_cons_zero List.getElem?_cons_succ List.drop_zero List.drop_succ_cons List.take_succ_cons List.take_zero List.set_cons_zero List.set_cons_succ List.length_cons List.length_nil List.length_set List.replicate_one List.replicate_zero bne_self_eq_false beq_self_eq_true Nat.zero_add Nat.add_zero Nat.zero_mul Bool.false_eq_true Bool.true_eq_false Bool.not_true Bool.not_false and_true true_and false_and and_false or_false false_or or_true true_or not_true_eq_false not_false_eq_true ne_eq gt_iff_lt List.mem_cons List.not_mem_nil
attribute [local go_sem ↓] pseq_normal pseq_ret pseq_exit pblk_normal pblk_ret newDsts_cons gdst_zero gdst_succ retQ_normal retQ_ret retM_normal retM_ret endR_normal endR_ret endR_exit

theorem mkD_ok (s : Bool) (x : Nat) (e : Int) : mkD s x e = .zero ∨ (mkD s x e).m % 2 = 1 := by
  by_cases hx : x = 0
  · left; subst hx; rfl
  · right
    rw [mkD, if_neg hx]
    obtain ⟨m, hm⟩ := tz_spec hx
    have : x / 2 ^ tz x = 2 * m + 1 := Nat.div_eq_of_eq_mul_right (Nat.two_pow_pos _) hm
    show x / 2 ^ tz x % 2 = 1
    omega

/-- What some bits are worth has bits. -/
theorem fd_exact (b : Nat) (hf : fe b < 2047) (h : (fd b).m ≠ 0) : (fd b).top ≤ 1023 ∧ unitOf (fd b).top ≤ (fd b).e := by
  have hx : fm b ≠ 0 := fun hx => h (by unfold fd; rw [hx]; rfl)
  have ht : (fd b).top = bitLen (fd b).m - 1 + (fd b).e := if_neg h
  have hfm := fm_bits b
  obtain ⟨m, hm⟩ := tz_spec hx
  have hd : fm b / 2 ^ tz (fm b) = 2 * m + 1 := Nat.div_eq_of_eq_mul_right (Nat.two_pow_pos _) hm
  have hbl : bitLen (2 * m + 1) + tz (fm b) = bitLen (fm b) := by
    have := bitLen_shl (2 * m + 1) (tz (fm b)) (by omega)
    rw [Nat.mul_comm, ← hm] at this
    exact this.symm
  have hfd : fd b = ⟨fs b, 2 * m + 1, (max (fe b : Int) 1 - 1075) + tz (fm b)⟩ := by
    have := fe_lt b
    unfold fd
    rw [mkD, if_neg hx, hd, cut_id (by omega) (by omega)]
  have e1 : (fd b).m = 2 * m + 1 := by rw [hfd]
  have e2 : (fd b).e = (max (fe b : Int) 1 - 1075) + tz (fm b) := by rw [hfd]
  rw [e1, e2] at ht
  rw [e2]
  unfold unitOf
  rw [ht]
  have hbp : bitLen (fm b) = 0 ∨ 0 < bitLen (fm b) := by omega
  constructor <;> omega

theorem kind2 (b : Nat) : decide ((kind b : Int) ≤ 2) = decide (fe b < 2047) := by
  have := kind_num b
  exact decide_eq_decide.2 (by omega)

/-- Either bits are told that are worth it, or none are. -/
theorem exact_cases {d : Dy} (hok : d = Dy.zero ∨ d.m % 2 = 1) :
    (∃ b, (if d.fits then exactS d else none) = some b ∧ b < W ∧ fe b < 2047 ∧ fd b = d) ∨ ((if d.fits then exactS d else none) = none ∧ ∀ n, fe n < 2047 → fd n ≠ d) := by
  rcases hok with rfl | h
  · exact .inl ⟨0, rfl, by decide, by decide, rfl⟩
  · have h0 : d.m ≠ 0 := by omega
    by_cases hx : d.top ≤ 1023 ∧ unitOf d.top ≤ d.e
    · obtain ⟨b, y1, y2, y3, y4, y5⟩ := exact_fd h hx.1 hx.2
      have hf : d.fits := by rw [← y4]; exact fd_fits b
      exact .inl ⟨b, by rw [if_pos hf]; exact y1, y2, y3, y4⟩
    · refine .inr ⟨?_, fun n hn hd => ?_⟩
      · by_cases hf : d.fits
        · rw [if_pos hf]; unfold exactS; rw [if_neg h0, if_pos (by omega)]
        · rw [if_neg hf]
      · subst hd
        exact hx (fd_exact n hn h0)

theorem law_FloatExact (pvs : List PV) (h : Fits [qD, qU64] pvs) : PC E 8 pvs (.bool true) := by
  obtain ⟨_, _, rfl, ⟨s, l, e, rfl, ol, he0, he1⟩, ⟨n, rfl, hn⟩⟩ := fits2 h
  refine PC.of_body follows Tryd.func8 (by decide +kernel) rfl (by kernel_rfl) (Nat.le_of_ble_eq_true rfl) (walk ?_)
  simp only [DP, NL]
  simp only [Tryd.f8, u, go_sem, Int.reduceToNat, Int.reduceEq, Int.reduceNe, Int.reduceLT, Int.reduceLE, Int.reduceNeg, Int.reduceAdd, ↓reduceIte, ↓reduceCtorEq, Nat.reduceEqDiff, Nat.reduceAdd, Nat.reduceSub, Nat.reduceMul, Nat.reduceLeDiff, Nat.reduceLT]
  refine qcall_i (c_alive06) ?_; simp only [Tryd.f8, u, go_sem, Int.reduceToNat, Int.reduceEq, Int.reduceNe, Int.reduceLT, Int.reduceLE, Int.reduceNeg, Int.reduceAdd, ↓reduceIte, ↓reduceCtorEq, Nat.reduceEqDiff, Nat.reduceAdd, Nat.reduceSub, Nat.reduceMul, Nat.reduceLeDiff, Nat.reduceLT]
  refine qif_d (fun h => ?_) (fun h => ?_)
  · simp only [Tryd.f8, go_sem, Int.reduceToNat, Int.reduceEq, Int.reduceNe, Int.reduceLT, Int.reduceLE, Int.reduceNeg, Int.reduceAdd, ↓reduceIte, ↓reduceCtorEq, Nat.reduceEqDiff, Nat.reduceAdd, Nat.reduceSub, Nat.reduceMul, Nat.reduceLeDiff, Nat.reduceLT]
  have hb := bits_of_vl ol
  have hp := num_NL ol (by omega)
  have k1 := c_5Of hp (by omega) s e
  have k2 := c_Exact hp (by omega) s e
  have hok := mkD_ok s (vl l) e
  have hbd := mkD_bits s (vl l) e
  simp only [DP, NL] at k1 k2
  simp only [Tryd.f8, go_sem, Int.reduceToNat, Int.reduceEq, Int.reduceNe, Int.reduceLT, Int.reduceLE, Int.reduceNeg, Int.reduceAdd, ↓reduceIte, ↓reduceCtorEq, Nat.reduceEqDiff, Nat.reduceAdd, Nat.reduceSub, Nat.reduceMul, Nat.reduceLeDiff, Nat.reduceLT]
  generalize PV.lst l.length (U l) = P at *
  generalize mkD s (vl l) e = d at *
  simp only [Dy.nv, DP, VN, VL] at k1
  refine qcall_i (k1) ?_; simp only [Tryd.f8, go_sem, Int.reduceToNat, Int.reduceEq, Int.reduceNe, Int.reduceLT, Int.reduceLE, Int.reduceNeg, Int.reduceAdd, ↓reduceIte, ↓reduceCtorEq, Nat.reduceEqDiff, Nat.reduceAdd, Nat.reduceSub, Nat.reduceMul, Nat.reduceLeDiff, Nat.reduceLT]
  rcases exact_cases hok with ⟨b, y1, y2, y3, y4⟩ | ⟨y1, y2⟩
  · rw [y1] at k2
    have k3 := c_rKind b y2
    have k4 := c_Worth b y2
    have k5 := c_6Same d d (by omega) (by omega)
    have hk := kind_num b
    rw [y4] at k4
    simp only [exPV, u, Dy.nv, DP, VN, VL] at k2 k3 k4 k5
    refine qcall_i (k2) ?_; simp only [Tryd.f8, go_sem, Int.reduceToNat, Int.reduceEq, Int.reduceNe, Int.reduceLT, Int.reduceLE, Int.reduceNeg, Int.reduceAdd, ↓reduceIte, ↓reduceCtorEq, Nat.reduceEqDiff, Nat.reduceAdd, Nat.reduceSub, Nat.reduceMul, Nat.reduceLeDiff, Nat.reduceLT]
    refine qcall_i (k3) ?_; simp only [Tryd.f8, go_sem, Int.reduceToNat, Int.reduceEq, Int.reduceNe, Int.reduceLT, Int.reduceLE, Int.reduceNeg, Int.reduceAdd, ↓reduceIte, ↓reduceCtorEq, Nat.reduceEqDiff, Nat.reduceAdd, Nat.reduceSub, Nat.reduceMul, Nat.reduceLeDiff, Nat.reduceLT]
    refine qif_dt (by omega) ?_
    simp only [Tryd.f8, go_sem, Int.reduceToNat, Int.reduceEq, Int.reduceNe, Int.reduceLT, Int.reduceLE, Int.reduceNeg, Int.reduceAdd, ↓reduceIte, ↓reduceCtorEq, Nat.reduceEqDiff, Nat.reduceAdd, Nat.reduceSub, Nat.reduceMul, Nat.reduceLeDiff, Nat.reduceLT]
    refine qcall_i (k4) ?_; simp only [Tryd.f8, go_sem, Int.reduceToNat, Int.reduceEq, Int.reduceNe, Int.reduceLT, Int.reduceLE, Int.reduceNeg, Int.reduceAdd, ↓reduceIte, ↓reduceCtorEq, Nat.reduceEqDiff, Nat.reduceAdd, Nat.reduceSub, Nat.reduceMul, Nat.reduceLeDiff, Nat.reduceLT]
    refine qcall_i (k5) ?_; simp only [Tryd.f8, go_sem, Int.reduceToNat, Int.reduceEq, Int.reduceNe, Int.reduceLT, Int.reduceLE, Int.reduceNeg, Int.reduceAdd, ↓reduceIte, ↓reduceCtorEq, Nat.reduceEqDiff, Nat.reduceAdd, Nat.reduceSub, Nat.reduceMul, Nat.reduceLeDiff, Nat.reduceLT]
  · rw [y1] at k2
    have k3 := c_rKind n hn
    have k4 := c_Worth n hn
    have hbn := fd_bits n
    have k5 := c_6Same (fd n) d (by omega) (by omega)
    have hk := kind_num n
    simp only [exPV, u, Dy.nv, DP, VN, VL] at k2 k3 k4 k5
    refine qcall_i (k2) ?_; simp only [Tryd.f8, go_sem, Int.reduceToNat, Int.reduceEq, Int.reduceNe, Int.reduceLT, Int.reduceLE, Int.reduceNeg, Int.reduceAdd, ↓reduceIte, ↓reduceCtorEq, Nat.reduceEqDiff, Nat.reduceAdd, Nat.reduceSub, Nat.reduceMul, Nat.reduceLeDiff, Nat.reduceLT]
    refine qcall_i (k3) ?_; simp only [Tryd.f8, go_sem, Int.reduceToNat, Int.reduceEq, Int.reduceNe, Int.reduceLT, Int.reduceLE, Int.reduceNeg, Int.reduceAdd, ↓reduceIte, ↓reduceCtorEq, Nat.reduceEqDiff, Nat.reduceAdd, Nat.reduceSub, Nat.reduceMul, Nat.reduceLeDiff, Nat.reduceLT]
    refine qif_d (fun h1 => ?_) (fun h1 => ?_)
    · simp only [Tryd.f8, go_sem, Int.reduceToNat, Int.reduceEq, Int.reduceNe, Int.reduceLT, Int.reduceLE, Int.reduceNeg, Int.reduceAdd, ↓reduceIte, ↓reduceCtorEq, Nat.reduceEqDiff, Nat.reduceAdd, Nat.reduceSub, Nat.reduceMul, Nat.reduceLeDiff, Nat.reduceLT]
    · simp only [Tryd.f8, go_sem, Int.reduceToNat, Int.reduceEq, Int.reduceNe, Int.reduceLT, Int.reduceLE, Int.reduceNeg, Int.reduceAdd, ↓reduceIte, ↓reduceCtorEq, Nat.reduceEqDiff, Nat.reduceAdd, Nat.reduceSub, Nat.reduceMul, Nat.reduceLeDiff, Nat.reduceLT]
      refine qcall_i (k4) ?_; simp only [Tryd.f8, go_sem, Int.reduceToNat, Int.reduceEq, Int.reduceNe, Int.reduceLT, Int.reduceLE, Int.reduceNeg, Int.reduceAdd, ↓reduceIte, ↓reduceCtorEq, Nat.reduceEqDiff, Nat.reduceAdd, Nat.reduceSub, Nat.reduceMul, Nat.reduceLeDiff, Nat.reduceLT]
      have hne : decide (fd n = d) = false := decide_eq_false (y2 n (by omega))
      refine qcall_i (k5) ?_; simp only [Tryd.f8, hne, go_sem, Int.reduceToNat, Int.reduceEq, Int.reduceNe, Int.reduceLT, Int.reduceLE, Int.reduceNeg, Int.reduceAdd, ↓reduceIte, ↓reduceCtorEq, Nat.reduceEqDiff, Nat.reduceAdd, Nat.reduceSub, Nat.reduceMul, Nat.reduceLeDiff, Nat.reduceLT]
end Go.Proofs.YtkddalmjhmgbeaaDoor
