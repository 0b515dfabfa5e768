/- Places, distances and steps: ulps' functions. -/
import Derived.Test.YtejmlngnpekagaaDoorNx2
open Go PG Go.Proofs
set_option maxRecDepth 100000
set_option linter.unusedSimpArgs false
set_option linter.unusedVariables false
namespace Go.Proofs.YtejmlngnpekagaaDoor
attribute [local go_sem] Lay2 Lay3 Lay4 Lay5 Lay6 Lay7 Lay8 Lay9 Lay10 Lay11 Lay12 Lay13 Lay14 Lay15 Lay16 Lay17 Lay18 Lay19 Lay21 Lay22 Lay23 Lay24 Lay25 Lay30 Lay33 Lay36 Lay37 Lay46 Lay47 Lay48 Lay53 Lay54 Lay55 Lay59 Lay100 Lay101 Lay127 Lay146 Lay162 Lay168 Lay169 Lay173 qexec_seq qexec_skip qexec_exit qexec_ret qexec_block qexec_loop qexec_range qexec_cond qexec_region qexec_drawn qops_nil qops_none qops_some put_some put_none pblk_exit pblk_other newDsts_nil sget_cons sget_nil qval_some qbool_some qgs_bool qgs_und qfree_some qgrd_true qgrd_false qif_true qif_false qval_ite qval_itn qand_true map_ite map_some' map_none' qdo_move qdo_assign qdo_binOp qdo_pick qdo_unOp qdo_convert qdo_extract qdo_field qdo_fieldAddr qdo_alloc qdo_box qdo_build qdo_buildSlice qdo_load qdo_store qdo_nilCheck qdo_makeFunc qdo_makeSlice qdo_slice qdo_indexAddr qdo_call qcont_val qcont_new qcont_st qcont_app0 qcont_app qcont_inl qcont_call njSV_val njSV_nil njSV_row njSV_ptr njSV_sub binV_val binV_nil binV_nn binV_ptr bin_np bin_nnp nilCmp bin_add bin_sub bin_mul bin_quo bin_rem bin_and bin_or bin_xor bin_andNot bin_eql bin_neq bin_lss bin_leq bin_gtr bin_geq bin_shl bin_shr bin_seql bin_sneq bin_sadd bin_beql bin_aeql bin_aneq eqAnd_some eqCells_nil eqCells_cons fieldTypes isStruct eqCell bin_bneq un_not un_neg nj_ite Nat.beq stepA stepR isNew opSV constSV RV.sv allSome E_mu E_own qkeyIn_none qkeyIn_some qkeyAt_none qkeyAt_some Bool.or_false Bool.false_or Bool.or_true Bool.true_or cst setB res resSV pstart startL killL kill1 eraL frzL svPV rvPV rvInt rvSlice frzOf close closeL pconv pbuiltin pmax2 partPV setCells fillPV zrow bound newSV PV.cells Bk.cells Bk.with SV.key pres presL_nil presL_tmp presL_cell presC2_some cellPV_ptr presC List.toList_toArray List.size_toArray List.getElem?_drop Nat.mul_one Int.toNat_natCast Nat.not_lt_zero Nat.lt_irrefl decide_true decide_false Nat.not_lt Option.some.injEq PV.lst.injEq PV.int.injEq PV.bool.injEq PV.tuple.injEq List.cons.injEq Option.map_some Option.map_none Option.bind_some Option.toList List.map_cons List.map_nil List.nil_append List.cons_append List.append_nil List.zip_cons_cons List.zip_nil_left List.zip_nil_right List.getElem?_cons_zero List.getElem?_cons_succ List.drop_zero List.drop_succ_cons List.take_succ_cons List.take_zero List.set_cons_zero List.set_cons_succ List.length_cons List.length_nil List.length_set List.replicate_one List.replicate_zero bne_self_eq_false beq_self_eq_true Nat.zero_add Nat.add_zero Nat.zero_mul Bool.false_eq_true Bool.true_eq_false Bool.not_true Bool.not_false and_true true_and false_and and_false or_false false_or or_true true_or not_true_eq_false not_false_eq_true ne_eq gt_iff_lt List.mem_cons List.not_mem_nil
attribute [local go_sem ↓] pseq_normal pseq_ret pseq_exit pblk_normal pblk_ret newDsts_cons gdst_zero gdst_succ retQ_normal retQ_ret qneed_nil qneed_cons retM_normal retM_ret endR_normal endR_ret endR_exit

/-- Bits in their order. -/
def plc (b : Nat) : Int := if fs b = true then -(fsz b : Int) else fsz b
theorem plc_range (b : Nat) : -9223372036854775808 < plc b ∧ plc b < 9223372036854775808 := by
  have := fsz_lt b
  unfold plc; split <;> omega
theorem wu64 (x : Int) : IntKind.wrap .u64 x = x % 18446744073709551616 := IntKind.wrap_u64 x
theorem c_Place (b : Nat) (hb : b < W) : PC E 10 [u b] (if kind b ≤ 3 then .tuple [.int .i64 (plc b), .bool true] else .tuple [.int .i64 0, .bool false]) := by
  refine PC.of_body follows Tryd.func10 (by decide +kernel) rfl (by kernel_rfl) (Nat.le_of_ble_eq_true rfl) (walk ?_)
  have hz := fsz_lt b
  have k1 := c_Kind b hb
  have k2 := c_Neg b hb
  have hn := n63 hb
  have w1 : IntKind.wrap .i64 (fsz b : Int) = fsz b := wrap64 (by omega) (by omega)
  have w2 : IntKind.wrap .i64 (0 - (fsz b : Int)) = -(fsz b : Int) := by rw [wrap64 (by omega) (by omega)]; omega
  simp only [u] at k1 k2 ⊢
  by_cases hk : kind b ≤ 3
  · rw [if_pos hk]
    unfold plc
    simp only [Tryd.f10, go_sem, Int.reduceToNat, Int.reduceEq, Int.reduceNe, Int.reduceLT, Int.reduceLE, Int.reduceNeg, Int.reduceAdd, ↓reduceIte, ↓reduceCtorEq, Nat.reduceEqDiff, Nat.reduceAdd, Nat.reduceSub, Nat.reduceMul, Nat.reduceLeDiff, Nat.reduceLT]
    refine qcall_i (k1) ?_; simp only [Tryd.f10, go_sem, Int.reduceToNat, Int.reduceEq, Int.reduceNe, Int.reduceLT, Int.reduceLE, Int.reduceNeg, Int.reduceAdd, ↓reduceIte, ↓reduceCtorEq, Nat.reduceEqDiff, Nat.reduceAdd, Nat.reduceSub, Nat.reduceMul, Nat.reduceLeDiff, Nat.reduceLT]
    refine qif_df (by omega) ?_
    cases hs : fs b
    · rw [hs] at k2
      simp only [Tryd.f10, hn, w1, go_sem, Int.reduceToNat, Int.reduceEq, Int.reduceNe, Int.reduceLT, Int.reduceLE, Int.reduceNeg, Int.reduceAdd, ↓reduceIte, ↓reduceCtorEq, Nat.reduceEqDiff, Nat.reduceAdd, Nat.reduceSub, Nat.reduceMul, Nat.reduceLeDiff, Nat.reduceLT]
      refine qcall_i (k2) ?_; simp only [Tryd.f10, go_sem, Int.reduceToNat, Int.reduceEq, Int.reduceNe, Int.reduceLT, Int.reduceLE, Int.reduceNeg, Int.reduceAdd, ↓reduceIte, ↓reduceCtorEq, Nat.reduceEqDiff, Nat.reduceAdd, Nat.reduceSub, Nat.reduceMul, Nat.reduceLeDiff, Nat.reduceLT]
      try rfl
    · rw [hs] at k2
      simp only [Tryd.f10, hn, w1, go_sem, Int.reduceToNat, Int.reduceEq, Int.reduceNe, Int.reduceLT, Int.reduceLE, Int.reduceNeg, Int.reduceAdd, ↓reduceIte, ↓reduceCtorEq, Nat.reduceEqDiff, Nat.reduceAdd, Nat.reduceSub, Nat.reduceMul, Nat.reduceLeDiff, Nat.reduceLT]
      refine qcall_i (k2) ?_; simp only [Tryd.f10, w2, go_sem, Int.reduceToNat, Int.reduceEq, Int.reduceNe, Int.reduceLT, Int.reduceLE, Int.reduceNeg, Int.reduceAdd, ↓reduceIte, ↓reduceCtorEq, Nat.reduceEqDiff, Nat.reduceAdd, Nat.reduceSub, Nat.reduceMul, Nat.reduceLeDiff, Nat.reduceLT]
      try rfl
  · rw [if_neg hk]
    simp only [Tryd.f10, go_sem, Int.reduceToNat, Int.reduceEq, Int.reduceNe, Int.reduceLT, Int.reduceLE, Int.reduceNeg, Int.reduceAdd, ↓reduceIte, ↓reduceCtorEq, Nat.reduceEqDiff, Nat.reduceAdd, Nat.reduceSub, Nat.reduceMul, Nat.reduceLeDiff, Nat.reduceLT]
    refine qcall_i (k1) ?_; simp only [Tryd.f10, go_sem, Int.reduceToNat, Int.reduceEq, Int.reduceNe, Int.reduceLT, Int.reduceLE, Int.reduceNeg, Int.reduceAdd, ↓reduceIte, ↓reduceCtorEq, Nat.reduceEqDiff, Nat.reduceAdd, Nat.reduceSub, Nat.reduceMul, Nat.reduceLeDiff, Nat.reduceLT]
    refine qif_dt (by omega) ?_
    simp only [Tryd.f10, go_sem, Int.reduceToNat, Int.reduceEq, Int.reduceNe, Int.reduceLT, Int.reduceLE, Int.reduceNeg, Int.reduceAdd, ↓reduceIte, ↓reduceCtorEq, Nat.reduceEqDiff, Nat.reduceAdd, Nat.reduceSub, Nat.reduceMul, Nat.reduceLeDiff, Nat.reduceLT]
    try rfl

/-- The bits at a place. -/
def atS (z : Int) : Option Nat := if z.natAbs ≤ INF then some (withS (decide (z < 0)) z.natAbs) else none
theorem c_Distance (a b : Nat) (ha : a < W) (hb : b < W) : PC E 11 [u a, u b] (if kind a ≤ 3 ∧ kind b ≤ 3 then .tuple [u (plc a - plc b).natAbs, .int .i64 0] else .tuple [u 0, .int .i64 1]) := by
  refine PC.of_body follows Tryd.func11 (by decide +kernel) rfl (by kernel_rfl) (Nat.le_of_ble_eq_true rfl) (walk ?_)
  have ra := plc_range a
  have rb := plc_range b
  have k1 := c_Place a ha
  have k2 := c_Place b hb
  by_cases h1 : kind a ≤ 3
  · rw [if_pos h1] at k1
    by_cases h2 : kind b ≤ 3
    · rw [if_pos h2] at k2
      rw [if_pos ⟨h1, h2⟩]
      have w1 : IntKind.wrap .u64 (IntKind.wrap .u64 (max (plc a) (plc b)) - IntKind.wrap .u64 (min (plc a) (plc b))) = ((plc a - plc b).natAbs : Int) := by
        rw [wu64, wu64, wu64]; omega
      simp only [u] at k1 k2 ⊢
      simp only [Tryd.f11, go_sem, Int.reduceToNat, Int.reduceEq, Int.reduceNe, Int.reduceLT, Int.reduceLE, Int.reduceNeg, Int.reduceAdd, ↓reduceIte, ↓reduceCtorEq, Nat.reduceEqDiff, Nat.reduceAdd, Nat.reduceSub, Nat.reduceMul, Nat.reduceLeDiff, Nat.reduceLT]
      refine qcall_i (k1) ?_; simp only [Tryd.f11, go_sem, Int.reduceToNat, Int.reduceEq, Int.reduceNe, Int.reduceLT, Int.reduceLE, Int.reduceNeg, Int.reduceAdd, ↓reduceIte, ↓reduceCtorEq, Nat.reduceEqDiff, Nat.reduceAdd, Nat.reduceSub, Nat.reduceMul, Nat.reduceLeDiff, Nat.reduceLT]
      refine qcall_i (k2) ?_; simp only [Tryd.f11, w1, go_sem, Int.reduceToNat, Int.reduceEq, Int.reduceNe, Int.reduceLT, Int.reduceLE, Int.reduceNeg, Int.reduceAdd, ↓reduceIte, ↓reduceCtorEq, Nat.reduceEqDiff, Nat.reduceAdd, Nat.reduceSub, Nat.reduceMul, Nat.reduceLeDiff, Nat.reduceLT]
      try (exact ⟨rfl, rfl⟩)
      try rfl
    · rw [if_neg h2] at k2
      rw [if_neg (fun h => h2 h.2)]
      simp only [u] at k1 k2 ⊢
      simp only [Tryd.f11, go_sem, Int.reduceToNat, Int.reduceEq, Int.reduceNe, Int.reduceLT, Int.reduceLE, Int.reduceNeg, Int.reduceAdd, ↓reduceIte, ↓reduceCtorEq, Nat.reduceEqDiff, Nat.reduceAdd, Nat.reduceSub, Nat.reduceMul, Nat.reduceLeDiff, Nat.reduceLT]
      refine qcall_i (k1) ?_; simp only [Tryd.f11, go_sem, Int.reduceToNat, Int.reduceEq, Int.reduceNe, Int.reduceLT, Int.reduceLE, Int.reduceNeg, Int.reduceAdd, ↓reduceIte, ↓reduceCtorEq, Nat.reduceEqDiff, Nat.reduceAdd, Nat.reduceSub, Nat.reduceMul, Nat.reduceLeDiff, Nat.reduceLT]
      refine qcall_i (k2) ?_; simp only [Tryd.f11, go_sem, Int.reduceToNat, Int.reduceEq, Int.reduceNe, Int.reduceLT, Int.reduceLE, Int.reduceNeg, Int.reduceAdd, ↓reduceIte, ↓reduceCtorEq, Nat.reduceEqDiff, Nat.reduceAdd, Nat.reduceSub, Nat.reduceMul, Nat.reduceLeDiff, Nat.reduceLT]
      try (exact ⟨rfl, rfl⟩)
      try rfl
  · rw [if_neg h1] at k1
    rw [if_neg (fun h => h1 h.1)]
    by_cases h2 : kind b ≤ 3
    · rw [if_pos h2] at k2
      simp only [u] at k1 k2 ⊢
      simp only [Tryd.f11, go_sem, Int.reduceToNat, Int.reduceEq, Int.reduceNe, Int.reduceLT, Int.reduceLE, Int.reduceNeg, Int.reduceAdd, ↓reduceIte, ↓reduceCtorEq, Nat.reduceEqDiff, Nat.reduceAdd, Nat.reduceSub, Nat.reduceMul, Nat.reduceLeDiff, Nat.reduceLT]
      refine qcall_i (k1) ?_; simp only [Tryd.f11, go_sem, Int.reduceToNat, Int.reduceEq, Int.reduceNe, Int.reduceLT, Int.reduceLE, Int.reduceNeg, Int.reduceAdd, ↓reduceIte, ↓reduceCtorEq, Nat.reduceEqDiff, Nat.reduceAdd, Nat.reduceSub, Nat.reduceMul, Nat.reduceLeDiff, Nat.reduceLT]
      refine qcall_i (k2) ?_; simp only [Tryd.f11, go_sem, Int.reduceToNat, Int.reduceEq, Int.reduceNe, Int.reduceLT, Int.reduceLE, Int.reduceNeg, Int.reduceAdd, ↓reduceIte, ↓reduceCtorEq, Nat.reduceEqDiff, Nat.reduceAdd, Nat.reduceSub, Nat.reduceMul, Nat.reduceLeDiff, Nat.reduceLT]
      try (exact ⟨rfl, rfl⟩)
      try rfl
    · rw [if_neg h2] at k2
      simp only [u] at k1 k2 ⊢
      simp only [Tryd.f11, go_sem, Int.reduceToNat, Int.reduceEq, Int.reduceNe, Int.reduceLT, Int.reduceLE, Int.reduceNeg, Int.reduceAdd, ↓reduceIte, ↓reduceCtorEq, Nat.reduceEqDiff, Nat.reduceAdd, Nat.reduceSub, Nat.reduceMul, Nat.reduceLeDiff, Nat.reduceLT]
      refine qcall_i (k1) ?_; simp only [Tryd.f11, go_sem, Int.reduceToNat, Int.reduceEq, Int.reduceNe, Int.reduceLT, Int.reduceLE, Int.reduceNeg, Int.reduceAdd, ↓reduceIte, ↓reduceCtorEq, Nat.reduceEqDiff, Nat.reduceAdd, Nat.reduceSub, Nat.reduceMul, Nat.reduceLeDiff, Nat.reduceLT]
      refine qcall_i (k2) ?_; simp only [Tryd.f11, go_sem, Int.reduceToNat, Int.reduceEq, Int.reduceNe, Int.reduceLT, Int.reduceLE, Int.reduceNeg, Int.reduceAdd, ↓reduceIte, ↓reduceCtorEq, Nat.reduceEqDiff, Nat.reduceAdd, Nat.reduceSub, Nat.reduceMul, Nat.reduceLeDiff, Nat.reduceLT]
      try (exact ⟨rfl, rfl⟩)
      try rfl
theorem c_34Place (b : Nat) (hb : b < W) : PC E 21 [u b] (.int .i64 (plc b)) := by
  refine PC.of_body follows Tryd.func21 (by decide +kernel) rfl (by kernel_rfl) (Nat.le_of_ble_eq_true rfl) (walk ?_)
  have hz := fsz_lt b
  have k1 := c_rSize b hb
  have w1 : IntKind.wrap .i64 (fsz b : Int) = fsz b := wrap64 (by omega) (by omega)
  have w2 : IntKind.wrap .i64 (0 - (fsz b : Int)) = -(fsz b : Int) := by rw [wrap64 (by omega) (by omega)]; omega
  unfold plc
  simp only [u] at k1 ⊢
  simp only [Tryd.f21, go_sem, Int.reduceToNat, Int.reduceEq, Int.reduceNe, Int.reduceLT, Int.reduceLE, Int.reduceNeg, Int.reduceAdd, ↓reduceIte, ↓reduceCtorEq, Nat.reduceEqDiff, Nat.reduceAdd, Nat.reduceSub, Nat.reduceMul, Nat.reduceLeDiff, Nat.reduceLT]
  refine qcall_i (k1) ?_; simp only [Tryd.f21, w1, go_sem, Int.reduceToNat, Int.reduceEq, Int.reduceNe, Int.reduceLT, Int.reduceLE, Int.reduceNeg, Int.reduceAdd, ↓reduceIte, ↓reduceCtorEq, Nat.reduceEqDiff, Nat.reduceAdd, Nat.reduceSub, Nat.reduceMul, Nat.reduceLeDiff, Nat.reduceLT]
  have hfs : fs b = decide (9223372036854775808 ≤ b) := rfl
  by_cases h : 9223372036854775808 ≤ b
  · rw [hfs, decide_eq_true h, if_pos rfl]
    refine qif_dt (by omega) ?_
    simp only [Tryd.f21, w2, go_sem, Int.reduceToNat, Int.reduceEq, Int.reduceNe, Int.reduceLT, Int.reduceLE, Int.reduceNeg, Int.reduceAdd, ↓reduceIte, ↓reduceCtorEq, Nat.reduceEqDiff, Nat.reduceAdd, Nat.reduceSub, Nat.reduceMul, Nat.reduceLeDiff, Nat.reduceLT]
    try rfl
  · rw [hfs, decide_eq_false h, if_neg (by decide)]
    refine qif_df (by omega) ?_
    simp only [Tryd.f21, go_sem, Int.reduceToNat, Int.reduceEq, Int.reduceNe, Int.reduceLT, Int.reduceLE, Int.reduceNeg, Int.reduceAdd, ↓reduceIte, ↓reduceCtorEq, Nat.reduceEqDiff, Nat.reduceAdd, Nat.reduceSub, Nat.reduceMul, Nat.reduceLeDiff, Nat.reduceLT]
    try rfl
/-- The step at a number. -/
def ulpS (b : Nat) : Dy := ⟨false, 1, max (fe b : Int) 1 - 1075⟩
theorem ulpS_ok (b : Nat) : (ulpS b).ok := .inr (show 1 % 2 = 1 by decide)
theorem ulpS_fits (b : Nat) : (ulpS b).fits := by
  have := fe_lt b
  constructor
  · show (-1073741824 : Int) ≤ max (fe b : Int) 1 - 1075; omega
  · show max (fe b : Int) 1 - 1075 ≤ 1073741824; omega
theorem mid_sub (b : Nat) (hf0 : fe b < 2047) : addS (mid (fsz b)) (fd (fsz b)).neg = ⟨false, 1, max (fe b : Int) 1 - 1076⟩ := by
  have hfe := fe_lt b
  have hz := fsz_lt b
  have ok1 := mid_ok (fsz b)
  have f1 := mid_fits (fsz b)
  have ok2 := neg_ok (fd_ok' (fsz b))
  have f2 := neg_fits (fd_fits (fsz b))
  have g1 := mid_ge (fsz b)
  have g2 := neg_ge ((fd_ge (fsz b)).mono (k := -1075) (by omega))
  refine eq_of_at (k := -1075) (addS_ok _ _) (.inr rfl) (addS_ge ok1 ok2 f1 f2 g1 g2) (.inr (by dsimp only; omega)) ?_
  rw [addS_at ok1 ok2 f1 f2 g1 g2, neg_at, mid_at, fd_at' hz (by omega), nat_at (d := ⟨false, 1, max (fe b : Int) 1 - 1076⟩) rfl]
  unfold fv
  rw [(fm_fsz b).1, (fm_fsz b).2]
  dsimp only
  rw [show (-1074 - -1075 : Int).toNat = 1 by decide, show (max (fe b : Int) 1 - 1076 - -1075).toNat = max (fe b) 1 - 1 by omega]
  generalize 2 ^ (max (fe b) 1 - 1) = P
  rw [Nat.add_mul, Nat.mul_comm 2 (fm b), Nat.mul_assoc, Nat.mul_assoc, Nat.mul_comm P, Nat.pow_one]
  omega
theorem mid_less (b : Nat) (hf0 : fe b < 2047) : addV (mid (fsz b)) (fd (fsz b)).neg = .tuple [(Dy.mk false 1 (max (fe b : Int) 1 - 1076)).pv, .int .i64 0] := by
  have hfe := fe_lt b
  have f1 := mid_fits (fsz b)
  have f2 := neg_fits (fd_fits (fsz b))
  have he := fd_e (fsz b)
  have hbb := fd_bits (fsz b)
  have hmb := mid_bits (fsz b)
  have e1 : (mid (fsz b)).e = max (fe b : Int) 1 - 1076 := by show max (fe (fsz b) : Int) 1 - 1076 = _; rw [(fm_fsz b).2]
  have e := mid_sub b hf0
  unfold addV
  rw [e]
  refine if_pos ⟨f1, f2, fun h h' => ?_, by rw [e]; constructor <;> dsimp only <;> omega⟩
  rw [top_of h, top_of h', neg_m, e1]
  have : (fd (fsz b)).neg.e = (fd (fsz b)).e := by
    unfold Dy.neg; rw [neg_m] at h'; rw [if_neg h']
  rw [this]
  omega
theorem c_Ulp (b : Nat) (hb : b < W) : PC E 37 [u b] (if fe b < 2047 then .tuple [(ulpS b).pv, .bool true] else .tuple [Dy.zero.pv, .bool false]) := by
  refine PC.of_body follows Tryd.func37 (by decide +kernel) rfl (by kernel_rfl) (Nat.le_of_ble_eq_true rfl) (walk ?_)
  have hfe := fe_lt b
  have hn := n63 hb
  have hzW : fsz b < W := Nat.lt_trans (fsz_lt b) (by decide)
  have k1 := c_Middle (fsz b) hzW
  have hmd : mdS (fsz b) = mid (fsz b) := by unfold mdS; rw [fs_small (fsz_lt b)]; rfl
  rw [(fm_fsz b).2, hmd] at k1
  by_cases hf0 : fe b < 2047
  · rw [if_pos hf0] at k1 ⊢
    have k2 := c_FDyad (fsz b) hzW
    rw [(fm_fsz b).2, if_pos hf0] at k2
    obtain ⟨r, hr, hrf, k3⟩ := r_Minus (RD.fd (fsz b))
    rw [hrf (fd_fits _)] at k3 hr
    have k4 := r_Add (RD.fit (mid_ok (fsz b)) (Nat.le_trans (mid_bits _) (by decide)) (mid_fits _)) hr
    rw [mid_less b hf0] at k4
    have ok5 : Dy.ok ⟨false, 1, max (fe b : Int) 1 - 1076⟩ := .inr rfl
    have f5 : Dy.fits ⟨false, 1, max (fe b : Int) 1 - 1076⟩ := by constructor <;> dsimp only <;> omega
    have k5 := r_Scale (RD.fit ok5 (one_bits _ _) f5) 1
    have e5 : scaleV ⟨false, 1, max (fe b : Int) 1 - 1076⟩ 1 = .tuple [(ulpS b).pv, .int .i64 0] := by
      have e6 : Dy.sc ⟨false, 1, max (fe b : Int) 1 - 1076⟩ (min (max 1 (-4294967296)) 4294967296) = ulpS b := by
        unfold Dy.sc ulpS
        rw [if_neg (show ¬ (1 : Nat) = 0 by decide)]
        show Dy.mk false 1 (max (fe b : Int) 1 - 1076 + min (max 1 (-4294967296)) 4294967296) = _
        rw [show min (max (1 : Int) (-4294967296)) 4294967296 = 1 by decide, show max (fe b : Int) 1 - 1076 + 1 = max (fe b : Int) 1 - 1075 by omega]
      unfold scaleV okD
      rw [if_pos f5, e6, if_pos (ulpS_fits b)]
    rw [e5] at k5
    generalize mid (fsz b) = m at *
    generalize (fd (fsz b)).neg = d1 at *
    generalize fd (fsz b) = d0 at *
    generalize ulpS b = o at *
    simp only [u, Dy.pv, DP, NN, NL] at k1 k2 k3 k4 k5 ⊢
    simp only [Tryd.f37, hn, go_sem, Int.reduceToNat, Int.reduceEq, Int.reduceNe, Int.reduceLT, Int.reduceLE, Int.reduceNeg, Int.reduceAdd, ↓reduceIte, ↓reduceCtorEq, Nat.reduceEqDiff, Nat.reduceAdd, Nat.reduceSub, Nat.reduceMul, Nat.reduceLeDiff, Nat.reduceLT]
    refine qcall_i (k1) ?_; simp only [Tryd.f37, go_sem, Int.reduceToNat, Int.reduceEq, Int.reduceNe, Int.reduceLT, Int.reduceLE, Int.reduceNeg, Int.reduceAdd, ↓reduceIte, ↓reduceCtorEq, Nat.reduceEqDiff, Nat.reduceAdd, Nat.reduceSub, Nat.reduceMul, Nat.reduceLeDiff, Nat.reduceLT]
    refine qcall_i (k2) ?_; simp only [Tryd.f37, go_sem, Int.reduceToNat, Int.reduceEq, Int.reduceNe, Int.reduceLT, Int.reduceLE, Int.reduceNeg, Int.reduceAdd, ↓reduceIte, ↓reduceCtorEq, Nat.reduceEqDiff, Nat.reduceAdd, Nat.reduceSub, Nat.reduceMul, Nat.reduceLeDiff, Nat.reduceLT]
    refine qcall_i (k3) ?_; simp only [Tryd.f37, go_sem, Int.reduceToNat, Int.reduceEq, Int.reduceNe, Int.reduceLT, Int.reduceLE, Int.reduceNeg, Int.reduceAdd, ↓reduceIte, ↓reduceCtorEq, Nat.reduceEqDiff, Nat.reduceAdd, Nat.reduceSub, Nat.reduceMul, Nat.reduceLeDiff, Nat.reduceLT]
    refine qcall_i (k4) ?_; simp only [Tryd.f37, go_sem, Int.reduceToNat, Int.reduceEq, Int.reduceNe, Int.reduceLT, Int.reduceLE, Int.reduceNeg, Int.reduceAdd, ↓reduceIte, ↓reduceCtorEq, Nat.reduceEqDiff, Nat.reduceAdd, Nat.reduceSub, Nat.reduceMul, Nat.reduceLeDiff, Nat.reduceLT]
    refine qcall_i (k5) ?_; simp only [Tryd.f37, go_sem, Int.reduceToNat, Int.reduceEq, Int.reduceNe, Int.reduceLT, Int.reduceLE, Int.reduceNeg, Int.reduceAdd, ↓reduceIte, ↓reduceCtorEq, Nat.reduceEqDiff, Nat.reduceAdd, Nat.reduceSub, Nat.reduceMul, Nat.reduceLeDiff, Nat.reduceLT]
    try rfl
  · rw [if_neg hf0] at k1 ⊢
    simp only [u, Dy.pv, Dy.zero, DP, NN, NL] at k1 ⊢
    simp only [Tryd.f37, hn, go_sem, Int.reduceToNat, Int.reduceEq, Int.reduceNe, Int.reduceLT, Int.reduceLE, Int.reduceNeg, Int.reduceAdd, ↓reduceIte, ↓reduceCtorEq, Nat.reduceEqDiff, Nat.reduceAdd, Nat.reduceSub, Nat.reduceMul, Nat.reduceLeDiff, Nat.reduceLT]
    refine qcall_i (k1) ?_; simp only [Tryd.f37, go_sem, Int.reduceToNat, Int.reduceEq, Int.reduceNe, Int.reduceLT, Int.reduceLE, Int.reduceNeg, Int.reduceAdd, ↓reduceIte, ↓reduceCtorEq, Nat.reduceEqDiff, Nat.reduceAdd, Nat.reduceSub, Nat.reduceMul, Nat.reduceLeDiff, Nat.reduceLT]
    try rfl
theorem c_alive34 : PC E 8 [] (.bool true) := by
  have k1 := c_Distance 4607182418800017408 4607182418800017409 (by decide) (by decide)
  rw [if_pos (by decide), show (plc 4607182418800017408 - plc 4607182418800017409).natAbs = 1 by decide] at k1
  have k2 := c_Distance 9221120237041090560 0 (by decide) (by decide)
  rw [if_neg (by decide)] at k2
  have k3 := c_Ulp 4607182418800017408 (by decide)
  rw [if_pos (by decide), show ulpS 4607182418800017408 = ⟨false, 1, -52⟩ by decide] at k3
  have r1 : RD (Dy.mk false 1 (-52)).pv ⟨false, 1, -52⟩ := RD.fit (.inr rfl) (by decide) (by decide)
  have k4 := r_Cmp r1 r1
  rw [cmp_self] at k4
  have d1 := dg_one (x := 1) (by decide) (by decide)
  simp only [u, Dy.pv, DP, NN, NL, d1] at k1 k2 k3 k4
  simp only [U, List.map_cons, List.map_nil, u, List.length_cons, List.length_nil] at k3 k4
  refine PC.of_body follows Tryd.func8 (by decide +kernel) rfl (by kernel_rfl) (Nat.le_of_ble_eq_true rfl) (walk ?_)
  simp only [Tryd.f8, go_sem, Int.reduceToNat, Int.reduceEq, Int.reduceNe, Int.reduceLT, Int.reduceLE, Int.reduceNeg, Int.reduceAdd, ↓reduceIte, ↓reduceCtorEq, Nat.reduceEqDiff, Nat.reduceAdd, Nat.reduceSub, Nat.reduceMul, Nat.reduceLeDiff, Nat.reduceLT]
  refine qcall_i k1 ?_
  simp only [Tryd.f8, Int.cast_ofNat_Int, go_sem, Int.reduceToNat, Int.reduceEq, Int.reduceNe, Int.reduceLT, Int.reduceLE, Int.reduceNeg, Int.reduceAdd, ↓reduceIte, ↓reduceCtorEq, Nat.reduceEqDiff, Nat.reduceAdd, Nat.reduceSub, Nat.reduceMul, Nat.reduceLeDiff, Nat.reduceLT]
  refine qcall_i k2 ?_
  simp only [Tryd.f8, Int.cast_ofNat_Int, go_sem, Int.reduceToNat, Int.reduceEq, Int.reduceNe, Int.reduceLT, Int.reduceLE, Int.reduceNeg, Int.reduceAdd, ↓reduceIte, ↓reduceCtorEq, Nat.reduceEqDiff, Nat.reduceAdd, Nat.reduceSub, Nat.reduceMul, Nat.reduceLeDiff, Nat.reduceLT]
  refine qcall_i k3 ?_
  simp only [Tryd.f8, Int.cast_ofNat_Int, go_sem, Int.reduceToNat, Int.reduceEq, Int.reduceNe, Int.reduceLT, Int.reduceLE, Int.reduceNeg, Int.reduceAdd, ↓reduceIte, ↓reduceCtorEq, Nat.reduceEqDiff, Nat.reduceAdd, Nat.reduceSub, Nat.reduceMul, Nat.reduceLeDiff, Nat.reduceLT]
  refine qcall_i k4 ?_
  simp only [Tryd.f8, go_sem, Int.reduceToNat, Int.reduceEq, Int.reduceNe, Int.reduceLT, Int.reduceLE, Int.reduceNeg, Int.reduceAdd, ↓reduceIte, ↓reduceCtorEq, Nat.reduceEqDiff, Nat.reduceAdd, Nat.reduceSub, Nat.reduceMul, Nat.reduceLeDiff, Nat.reduceLT]
end Go.Proofs.YtejmlngnpekagaaDoor
