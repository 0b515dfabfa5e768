/- An end with fewer bits: round.Whole, iv.short, iv.Short, and the law's own. -/
import Derived.Test.YtfogjddcagckaaaDoorSh
import Derived.Test.YtfogjddcagckaaaDoorLIvA
open Go PG Go.Proofs
set_option maxRecDepth 100000
set_option linter.unusedSimpArgs false
set_option linter.unusedVariables false
namespace Go.Proofs.YtfogjddcagckaaaDoor
attribute [local go_sem] Lay2 Lay3 Lay4 Lay5 Lay6 Lay7 Lay8 Lay9 Lay10 Lay11 Lay12 Lay13 Lay14 Lay21 Lay22 Lay23 Lay24 Lay27 Lay28 Lay29 Lay35 Lay36 Lay38 Lay39 Lay40 Lay42 Lay43 Lay45 Lay46 Lay67 Lay81 Lay82 Lay83 Lay84 Lay85 Lay86 Lay87 Lay90 Lay93 Lay94 Lay116 Lay132 Lay138 Lay145 Lay162 Lay163 Lay201 qexec_seq qexec_skip qexec_exit qexec_ret qexec_block qexec_loop qexec_range qexec_cond qexec_region qexec_drawn qops_nil qops_none qops_some put_some put_none pblk_exit pblk_other newDsts_nil sget_cons sget_nil qval_some qbool_some qgs_bool qgs_und qfree_some qgrd_true qgrd_false qif_true qif_false qval_ite qval_itn qand_true map_ite map_some' map_none' qdo_move qdo_assign qdo_binOp qdo_pick qdo_unOp qdo_convert qdo_extract qdo_field qdo_fieldAddr qdo_alloc qdo_box qdo_build qdo_buildSlice qdo_load qdo_store qdo_nilCheck qdo_makeFunc qdo_makeSlice qdo_slice qdo_indexAddr qdo_call qcont_val qcont_new qcont_st qcont_app0 qcont_app qcont_inl qcont_call njSV_val njSV_nil njSV_row njSV_ptr njSV_sub binV_val binV_nil binV_nn nilCmp bin_add bin_sub bin_mul bin_quo bin_rem bin_and bin_or bin_xor bin_andNot bin_eql bin_neq bin_lss bin_leq bin_gtr bin_geq bin_shl bin_shr bin_seql bin_sneq bin_sadd bin_beql bin_aeql bin_aneq eqAnd_some eqCells_nil eqCells_cons fieldTypes isStruct eqCell bin_bneq un_not un_neg nj_ite Nat.beq stepA stepR isNew opSV constSV RV.sv allSome E_mu E_own qkeyIn_none qkeyIn_some qkeyAt_none qkeyAt_some Bool.or_false Bool.false_or Bool.or_true Bool.true_or cst setB res resSV pstart startL killL kill1 eraL frzL svPV rvPV rvInt rvSlice frzOf close closeL pconv pbuiltin pmax2 partPV setCells fillPV zrow bound newSV PV.cells Bk.cells Bk.with SV.key pres presL_nil presL_tmp presL_cell presC2_some cellPV_ptr presC List.toList_toArray List.size_toArray List.getElem?_drop Nat.mul_one Int.toNat_natCast Nat.not_lt_zero Nat.lt_irrefl decide_true decide_false Nat.not_lt Option.some.injEq PV.lst.injEq PV.int.injEq PV.bool.injEq PV.tuple.injEq List.cons.injEq Option.map_some Option.map_none Option.bind_some Option.toList List.map_cons List.map_nil List.nil_append List.cons_append List.append_nil List.zip_cons_cons List.zip_nil_left List.zip_nil_right List.getElem?_cons_zero List.getElem?_cons_succ List.drop_zero List.drop_succ_cons List.take_succ_cons List.take_zero List.set_cons_zero List.set_cons_succ List.length_cons List.length_nil List.length_set List.replicate_one List.replicate_zero bne_self_eq_false beq_self_eq_true Nat.zero_add Nat.add_zero Nat.zero_mul Bool.false_eq_true Bool.true_eq_false Bool.not_true Bool.not_false and_true true_and false_and and_false or_false false_or or_true true_or not_true_eq_false not_false_eq_true ne_eq gt_iff_lt List.mem_cons List.not_mem_nil
attribute [local go_sem ↓] pseq_normal pseq_ret pseq_exit pblk_normal pblk_ret newDsts_cons gdst_zero gdst_succ retQ_normal retQ_ret qneed_nil qneed_cons retM_normal retM_ret endR_normal endR_ret endR_exit

theorem shN_bits (d : Dy) (dir t : Int) (h : t ≤ d.e → bitLen d.m + (d.e - t).toNat ≤ 65536) (hb : bitLen d.m ≤ 900000) : bitLen (shN d dir t) ≤ 1000001 := by
  have h1 := flo_le d t h (by omega)
  have h2 := bitLen_add (x := flo d t) (y := 1) h1 (by decide)
  unfold shN
  split <;> omega
theorem c_Whole07 {p : PV} {d : Dy} (h : RD p d) {K : Nat} (hl : Lim K d) (hK : K ≤ 10000) (h0 : d.m ≠ 0) {t dir : Int} (hd : 0 ≤ dir ∧ dir ≤ 3) (ht : -100000 ≤ t ∧ t ≤ 100000) (he : d.e < t) (he2 : t - d.e ≤ 4096) (hf2 : (mkD d.s (shN d dir t) t).fits) :
    PC E 146 [p, .bool false, .int .i64 dir, .int .i64 t] (.tuple [(mkD d.s (shN d dir t) t).pv, .bool (hf d t || (bl d t || false)), .int .i64 0]) := by
  have hfit := hl.fits (by omega)
  have hbits := hl.bits
  have e0 := hl.e0
  have k1 := c_right h false dir
  rw [if_pos hfit, decide_eq_true (show toE d false dir from ⟨hfit, hd.1, hd.2, fun h => by cases h.1⟩)] at k1
  have k2 := c_whole07 (d := d) (by omega) (by omega) (t := t) (by omega) (fun h => absurd h (by omega)) false dir
  have k2 : PC E 116 [d.pv, .bool false, .int .i64 dir, .int .i64 t] (.tuple [NN (shN d dir t), .bool (hf d t || (bl d t || false))]) := k2
  have hfl : bitLen (shN d dir t) ≤ 1000000 := by
    have h1 : flo d t ≤ d.m := by rw [(bl_n he).2.2]; exact Nat.div_le_self _ _
    have h2 : shN d dir t ≤ d.m + 1 := by unfold shN; split <;> omega
    have h3 := bitLen_mono h2
    have h4 := bitLen_add (x := d.m) (y := 1) (n := 20000) (by omega) (by decide)
    omega
  have k3 := r_Make (num_bits hfl) hfl d.s t
  unfold okD at k3
  rw [if_pos hf2] at k3
  have w1 : IntKind.wrap .i64 (t - 4096) = t - 4096 := wrap64 (by omega) (by omega)
  have w2 : IntKind.wrap .i64 (t + 4096) = t + 4096 := wrap64 (by omega) (by omega)
  generalize mkD d.s (shN d dir t) t = s at *
  generalize shN d dir t = n at *
  generalize (hf d t || (bl d t || false)) = ex at *
  obtain ⟨s1, P, x1, e1, rfl, -⟩ := h
  refine PC.of_body follows Tryd.func146 (by decide +kernel) rfl (by kernel_rfl) (Nat.le_of_ble_eq_true rfl) (walk ?_)
  simp only [Dy.pv, DP, NN, NL] at k1 k2 k3 ⊢
  simp only [Tryd.f146, go_sem, Int.reduceToNat, Int.reduceEq, Int.reduceNe, Int.reduceLT, Int.reduceLE, Int.reduceNeg, Int.reduceAdd, ↓reduceIte, ↓reduceCtorEq, Nat.reduceEqDiff, Nat.reduceAdd, Nat.reduceSub, Nat.reduceMul, Nat.reduceLeDiff, Nat.reduceLT]
  refine qcall_i (k1) ?_; simp only [Tryd.f146, go_sem, Int.reduceToNat, Int.reduceEq, Int.reduceNe, Int.reduceLT, Int.reduceLE, Int.reduceNeg, Int.reduceAdd, ↓reduceIte, ↓reduceCtorEq, Nat.reduceEqDiff, Nat.reduceAdd, Nat.reduceSub, Nat.reduceMul, Nat.reduceLeDiff, Nat.reduceLT]
  refine qif_df (by omega) ?_
  simp only [Tryd.f146, go_sem, Int.reduceToNat, Int.reduceEq, Int.reduceNe, Int.reduceLT, Int.reduceLE, Int.reduceNeg, Int.reduceAdd, ↓reduceIte, ↓reduceCtorEq, Nat.reduceEqDiff, Nat.reduceAdd, Nat.reduceSub, Nat.reduceMul, Nat.reduceLeDiff, Nat.reduceLT]
  refine qif_df (by omega) ?_
  simp only [Tryd.f146, go_sem, Int.reduceToNat, Int.reduceEq, Int.reduceNe, Int.reduceLT, Int.reduceLE, Int.reduceNeg, Int.reduceAdd, ↓reduceIte, ↓reduceCtorEq, Nat.reduceEqDiff, Nat.reduceAdd, Nat.reduceSub, Nat.reduceMul, Nat.reduceLeDiff, Nat.reduceLT]
  refine qif_df (fun h => h0 (dg_nil (by omega))) ?_
  simp only [Tryd.f146, w1, w2, go_sem, Int.reduceToNat, Int.reduceEq, Int.reduceNe, Int.reduceLT, Int.reduceLE, Int.reduceNeg, Int.reduceAdd, ↓reduceIte, ↓reduceCtorEq, Nat.reduceEqDiff, Nat.reduceAdd, Nat.reduceSub, Nat.reduceMul, Nat.reduceLeDiff, Nat.reduceLT]
  refine qif_df (by omega) ?_
  simp only [Tryd.f146, w1, w2, go_sem, Int.reduceToNat, Int.reduceEq, Int.reduceNe, Int.reduceLT, Int.reduceLE, Int.reduceNeg, Int.reduceAdd, ↓reduceIte, ↓reduceCtorEq, Nat.reduceEqDiff, Nat.reduceAdd, Nat.reduceSub, Nat.reduceMul, Nat.reduceLeDiff, Nat.reduceLT]
  refine qif_df (by omega) ?_
  simp only [Tryd.f146, go_sem, Int.reduceToNat, Int.reduceEq, Int.reduceNe, Int.reduceLT, Int.reduceLE, Int.reduceNeg, Int.reduceAdd, ↓reduceIte, ↓reduceCtorEq, Nat.reduceEqDiff, Nat.reduceAdd, Nat.reduceSub, Nat.reduceMul, Nat.reduceLeDiff, Nat.reduceLT]
  refine qcall_i (k2) ?_; simp only [Tryd.f146, go_sem, Int.reduceToNat, Int.reduceEq, Int.reduceNe, Int.reduceLT, Int.reduceLE, Int.reduceNeg, Int.reduceAdd, ↓reduceIte, ↓reduceCtorEq, Nat.reduceEqDiff, Nat.reduceAdd, Nat.reduceSub, Nat.reduceMul, Nat.reduceLeDiff, Nat.reduceLT]
  refine qcall_i (k3) ?_; simp only [Tryd.f146, go_sem, Int.reduceToNat, Int.reduceEq, Int.reduceNe, Int.reduceLT, Int.reduceLE, Int.reduceNeg, Int.reduceAdd, ↓reduceIte, ↓reduceCtorEq, Nat.reduceEqDiff, Nat.reduceAdd, Nat.reduceSub, Nat.reduceMul, Nat.reduceLeDiff, Nat.reduceLT]
  try rfl
theorem q_short {p : PV} {d : Dy} (h : RD p d) {K : Nat} (hl : Lim K d) (hK : K ≤ 10000) {b : Int} (hb : 1 ≤ b ∧ b ≤ 4096) (hU : d.m ≠ 0 → shU d b - d.e ≤ 4096) {dir : Int} (hd : dir = 2 ∨ dir = 3) :
    PC E 108 [p, .int .i64 b, .int .i64 dir] (.tuple [(shS d b dir).pv, .int .i64 0]) := by
  have hfit := hl.fits (by omega)
  have e0 := hl.e0
  have k1 := r_Bare h
  unfold okD at k1
  rw [if_pos hfit] at k1
  have rd := hl.RD (by omega)
  have k2 := r_Top rd
  have hsl := shS_lim hl (by omega) hb hd
  obtain ⟨s1, P, x1, e1, rfl, -⟩ := h
  refine PC.of_body follows Tryd.func108 (by decide +kernel) rfl (by kernel_rfl) (Nat.le_of_ble_eq_true rfl) (walk ?_)
  by_cases h0 : d.m = 0
  · have e : shS d b dir = d := by unfold shS; rw [if_pos (.inl h0)]
    have htop : d.top = 0 := if_pos h0
    rw [e]
    rw [decide_eq_false (fun h => h h0), htop] at k2
    have w1 : IntKind.wrap .i64 (0 - b) = -b := by rw [wrap64 (by omega) (by omega)]; omega
    have w2 : IntKind.wrap .i64 (-b + 1) = -b + 1 := wrap64 (by omega) (by omega)
    simp only [Dy.pv, DP, NN, NL] at k1 k2 ⊢
    simp only [Tryd.f108, go_sem, Int.reduceToNat, Int.reduceEq, Int.reduceNe, Int.reduceLT, Int.reduceLE, Int.reduceNeg, Int.reduceAdd, ↓reduceIte, ↓reduceCtorEq, Nat.reduceEqDiff, Nat.reduceAdd, Nat.reduceSub, Nat.reduceMul, Nat.reduceLeDiff, Nat.reduceLT]
    refine qcall_i (k1) ?_; simp only [Tryd.f108, go_sem, Int.reduceToNat, Int.reduceEq, Int.reduceNe, Int.reduceLT, Int.reduceLE, Int.reduceNeg, Int.reduceAdd, ↓reduceIte, ↓reduceCtorEq, Nat.reduceEqDiff, Nat.reduceAdd, Nat.reduceSub, Nat.reduceMul, Nat.reduceLeDiff, Nat.reduceLT]
    refine qcall_i (k2) ?_; simp only [Tryd.f108, w1, w2, go_sem, Int.reduceToNat, Int.reduceEq, Int.reduceNe, Int.reduceLT, Int.reduceLE, Int.reduceNeg, Int.reduceAdd, ↓reduceIte, ↓reduceCtorEq, Nat.reduceEqDiff, Nat.reduceAdd, Nat.reduceSub, Nat.reduceMul, Nat.reduceLeDiff, Nat.reduceLT]
    try rfl
  have htl := hl.top_lt h0
  have htt := top_of h0
  have hbp := bitLen_pos h0
  have hbi := hl.bits
  have hU := hU h0
  have hu : shU d b = d.top - b + 1 := rfl
  rw [decide_eq_true h0] at k2
  have w1 : IntKind.wrap .i64 (d.top - b) = d.top - b := wrap64 (by omega) (by omega)
  have w2 : IntKind.wrap .i64 (d.top - b + 1) = shU d b := by rw [wrap64 (by omega) (by omega)]; rfl
  have w3 : IntKind.wrap .i64 (shU d b - 4096) = shU d b - 4096 := wrap64 (by omega) (by omega)
  by_cases hle : shU d b ≤ d.e
  · have e : shS d b dir = d := by unfold shS; rw [if_pos (.inr hle)]
    rw [e]
    generalize shU d b = t at *
    simp only [Dy.pv, DP, NN, NL] at k1 k2 ⊢
    simp only [Tryd.f108, go_sem, Int.reduceToNat, Int.reduceEq, Int.reduceNe, Int.reduceLT, Int.reduceLE, Int.reduceNeg, Int.reduceAdd, ↓reduceIte, ↓reduceCtorEq, Nat.reduceEqDiff, Nat.reduceAdd, Nat.reduceSub, Nat.reduceMul, Nat.reduceLeDiff, Nat.reduceLT]
    refine qcall_i (k1) ?_; simp only [Tryd.f108, go_sem, Int.reduceToNat, Int.reduceEq, Int.reduceNe, Int.reduceLT, Int.reduceLE, Int.reduceNeg, Int.reduceAdd, ↓reduceIte, ↓reduceCtorEq, Nat.reduceEqDiff, Nat.reduceAdd, Nat.reduceSub, Nat.reduceMul, Nat.reduceLeDiff, Nat.reduceLT]
    refine qcall_i (k2) ?_; simp only [Tryd.f108, w1, w2, go_sem, Int.reduceToNat, Int.reduceEq, Int.reduceNe, Int.reduceLT, Int.reduceLE, Int.reduceNeg, Int.reduceAdd, ↓reduceIte, ↓reduceCtorEq, Nat.reduceEqDiff, Nat.reduceAdd, Nat.reduceSub, Nat.reduceMul, Nat.reduceLeDiff, Nat.reduceLT]
    refine qif_dt (by omega) ?_
    simp only [Tryd.f108, go_sem, Int.reduceToNat, Int.reduceEq, Int.reduceNe, Int.reduceLT, Int.reduceLE, Int.reduceNeg, Int.reduceAdd, ↓reduceIte, ↓reduceCtorEq, Nat.reduceEqDiff, Nat.reduceAdd, Nat.reduceSub, Nat.reduceMul, Nat.reduceLeDiff, Nat.reduceLT]
    try rfl
  · have e : shS d b dir = mkD d.s (shN d dir (shU d b)) (shU d b) := by unfold shS; rw [if_neg (by omega)]
    have k3 := c_Whole07 rd hl hK h0 (t := shU d b) (dir := dir) (by omega) (by omega) (by omega) hU (by rw [← e]; exact hsl.fits (by omega))
    rw [← e] at k3
    generalize shS d b dir = s at *
    generalize (hf d (shU d b) || (bl d (shU d b) || false)) = ex at *
    generalize shU d b = t at *
    simp only [Dy.pv, DP, NN, NL] at k1 k2 k3 ⊢
    simp only [Tryd.f108, go_sem, Int.reduceToNat, Int.reduceEq, Int.reduceNe, Int.reduceLT, Int.reduceLE, Int.reduceNeg, Int.reduceAdd, ↓reduceIte, ↓reduceCtorEq, Nat.reduceEqDiff, Nat.reduceAdd, Nat.reduceSub, Nat.reduceMul, Nat.reduceLeDiff, Nat.reduceLT]
    refine qcall_i (k1) ?_; simp only [Tryd.f108, go_sem, Int.reduceToNat, Int.reduceEq, Int.reduceNe, Int.reduceLT, Int.reduceLE, Int.reduceNeg, Int.reduceAdd, ↓reduceIte, ↓reduceCtorEq, Nat.reduceEqDiff, Nat.reduceAdd, Nat.reduceSub, Nat.reduceMul, Nat.reduceLeDiff, Nat.reduceLT]
    refine qcall_i (k2) ?_; simp only [Tryd.f108, w1, w2, go_sem, Int.reduceToNat, Int.reduceEq, Int.reduceNe, Int.reduceLT, Int.reduceLE, Int.reduceNeg, Int.reduceAdd, ↓reduceIte, ↓reduceCtorEq, Nat.reduceEqDiff, Nat.reduceAdd, Nat.reduceSub, Nat.reduceMul, Nat.reduceLeDiff, Nat.reduceLT]
    refine qif_df (by omega) ?_
    simp only [Tryd.f108, w3, go_sem, Int.reduceToNat, Int.reduceEq, Int.reduceNe, Int.reduceLT, Int.reduceLE, Int.reduceNeg, Int.reduceAdd, ↓reduceIte, ↓reduceCtorEq, Nat.reduceEqDiff, Nat.reduceAdd, Nat.reduceSub, Nat.reduceMul, Nat.reduceLeDiff, Nat.reduceLT]
    refine qif_df (by omega) ?_
    simp only [Tryd.f108, go_sem, Int.reduceToNat, Int.reduceEq, Int.reduceNe, Int.reduceLT, Int.reduceLE, Int.reduceNeg, Int.reduceAdd, ↓reduceIte, ↓reduceCtorEq, Nat.reduceEqDiff, Nat.reduceAdd, Nat.reduceSub, Nat.reduceMul, Nat.reduceLeDiff, Nat.reduceLT]
    refine qcall_i (k3) ?_; simp only [Tryd.f108, go_sem, Int.reduceToNat, Int.reduceEq, Int.reduceNe, Int.reduceLT, Int.reduceLE, Int.reduceNeg, Int.reduceAdd, ↓reduceIte, ↓reduceCtorEq, Nat.reduceEqDiff, Nat.reduceAdd, Nat.reduceSub, Nat.reduceMul, Nat.reduceLeDiff, Nat.reduceLT]
    try rfl
def shI (i : Iv) (b : Int) : Iv := ⟨shS i.lo b 3, shS i.hi b 2⟩
theorem q_Short {p : PV} {i : Iv} (h : RI p i) {K : Nat} (hl : i.lim K) (hK : K ≤ 10000) {b : Int} (hb : 1 ≤ b ∧ b ≤ 4096) (hr : i.right) (hU : (i.lo.m ≠ 0 → shU i.lo b - i.lo.e ≤ 4096) ∧ (i.hi.m ≠ 0 → shU i.hi b - i.hi.e ≤ 4096)) :
    PC E 50 [p, .int .i64 b] (.tuple [(shI i b).pv, .int .i64 0]) := by
  have k1 := q_Right h
  rw [decide_eq_true hr] at k1
  obtain ⟨s1, P1, e1, s2, P2, e2, rfl, h1, h2⟩ := h
  have k2 := q_short h1 hl.1 hK hb hU.1 (dir := 3) (.inr rfl)
  have k3 := q_short h2 hl.2 hK hb hU.2 (dir := 2) (.inl rfl)
  unfold shI
  refine PC.of_body follows Tryd.func50 (by decide +kernel) rfl (by kernel_rfl) (Nat.le_of_ble_eq_true rfl) (walk ?_)
  generalize shS i.lo b 3 = x at *
  generalize shS i.hi b 2 = y at *
  simp only [Iv.pv, Dy.pv, DP] at k1 k2 k3 ⊢
  simp only [Tryd.f50, go_sem, Int.reduceToNat, Int.reduceEq, Int.reduceNe, Int.reduceLT, Int.reduceLE, Int.reduceNeg, Int.reduceAdd, ↓reduceIte, ↓reduceCtorEq, Nat.reduceEqDiff, Nat.reduceAdd, Nat.reduceSub, Nat.reduceMul, Nat.reduceLeDiff, Nat.reduceLT]
  refine qcall_i (k1) ?_; simp only [Tryd.f50, go_sem, Int.reduceToNat, Int.reduceEq, Int.reduceNe, Int.reduceLT, Int.reduceLE, Int.reduceNeg, Int.reduceAdd, ↓reduceIte, ↓reduceCtorEq, Nat.reduceEqDiff, Nat.reduceAdd, Nat.reduceSub, Nat.reduceMul, Nat.reduceLeDiff, Nat.reduceLT]
  refine qif_df (by omega) ?_
  simp only [Tryd.f50, go_sem, Int.reduceToNat, Int.reduceEq, Int.reduceNe, Int.reduceLT, Int.reduceLE, Int.reduceNeg, Int.reduceAdd, ↓reduceIte, ↓reduceCtorEq, Nat.reduceEqDiff, Nat.reduceAdd, Nat.reduceSub, Nat.reduceMul, Nat.reduceLeDiff, Nat.reduceLT]
  refine qif_df (by omega) ?_
  simp only [Tryd.f50, go_sem, Int.reduceToNat, Int.reduceEq, Int.reduceNe, Int.reduceLT, Int.reduceLE, Int.reduceNeg, Int.reduceAdd, ↓reduceIte, ↓reduceCtorEq, Nat.reduceEqDiff, Nat.reduceAdd, Nat.reduceSub, Nat.reduceMul, Nat.reduceLeDiff, Nat.reduceLT]
  refine qcall_i (k2) ?_; simp only [Tryd.f50, go_sem, Int.reduceToNat, Int.reduceEq, Int.reduceNe, Int.reduceLT, Int.reduceLE, Int.reduceNeg, Int.reduceAdd, ↓reduceIte, ↓reduceCtorEq, Nat.reduceEqDiff, Nat.reduceAdd, Nat.reduceSub, Nat.reduceMul, Nat.reduceLeDiff, Nat.reduceLT]
  refine qcall_i (k3) ?_; simp only [Tryd.f50, go_sem, Int.reduceToNat, Int.reduceEq, Int.reduceNe, Int.reduceLT, Int.reduceLE, Int.reduceNeg, Int.reduceAdd, ↓reduceIte, ↓reduceCtorEq, Nat.reduceEqDiff, Nat.reduceAdd, Nat.reduceSub, Nat.reduceMul, Nat.reduceLeDiff, Nat.reduceLT]
  try rfl
theorem q_ShortN {p : PV} {i : Iv} (h : RI p i) {b : Int} (hn : ¬ (i.right ∧ 1 ≤ b ∧ b ≤ 4096)) : PC E 50 [p, .int .i64 b] (.tuple [Iv.zero.pv, .int .i64 1]) := by
  have k1 := q_Right h
  obtain ⟨s1, P1, e1, s2, P2, e2, rfl, h1, h2⟩ := h
  refine PC.of_body follows Tryd.func50 (by decide +kernel) rfl (by kernel_rfl) (Nat.le_of_ble_eq_true rfl) (walk ?_)
  by_cases hr : i.right
  · rw [decide_eq_true hr] at k1
    simp only [Tryd.f50, go_sem, Int.reduceToNat, Int.reduceEq, Int.reduceNe, Int.reduceLT, Int.reduceLE, Int.reduceNeg, Int.reduceAdd, ↓reduceIte, ↓reduceCtorEq, Nat.reduceEqDiff, Nat.reduceAdd, Nat.reduceSub, Nat.reduceMul, Nat.reduceLeDiff, Nat.reduceLT]
    refine qcall_i (k1) ?_; simp only [Tryd.f50, go_sem, Int.reduceToNat, Int.reduceEq, Int.reduceNe, Int.reduceLT, Int.reduceLE, Int.reduceNeg, Int.reduceAdd, ↓reduceIte, ↓reduceCtorEq, Nat.reduceEqDiff, Nat.reduceAdd, Nat.reduceSub, Nat.reduceMul, Nat.reduceLeDiff, Nat.reduceLT]
    by_cases hb1 : b < 1
    · refine qif_dt hb1 ?_
      simp only [Tryd.f50, go_sem, Int.reduceToNat, Int.reduceEq, Int.reduceNe, Int.reduceLT, Int.reduceLE, Int.reduceNeg, Int.reduceAdd, ↓reduceIte, ↓reduceCtorEq, Nat.reduceEqDiff, Nat.reduceAdd, Nat.reduceSub, Nat.reduceMul, Nat.reduceLeDiff, Nat.reduceLT]
      try rfl
    · refine qif_df hb1 ?_
      simp only [Tryd.f50, go_sem, Int.reduceToNat, Int.reduceEq, Int.reduceNe, Int.reduceLT, Int.reduceLE, Int.reduceNeg, Int.reduceAdd, ↓reduceIte, ↓reduceCtorEq, Nat.reduceEqDiff, Nat.reduceAdd, Nat.reduceSub, Nat.reduceMul, Nat.reduceLeDiff, Nat.reduceLT]
      refine qif_dt (Int.not_le.1 fun h => hn ⟨hr, by omega, h⟩) ?_
      simp only [Tryd.f50, go_sem, Int.reduceToNat, Int.reduceEq, Int.reduceNe, Int.reduceLT, Int.reduceLE, Int.reduceNeg, Int.reduceAdd, ↓reduceIte, ↓reduceCtorEq, Nat.reduceEqDiff, Nat.reduceAdd, Nat.reduceSub, Nat.reduceMul, Nat.reduceLeDiff, Nat.reduceLT]
      try rfl
  · rw [decide_eq_false hr] at k1
    simp only [Tryd.f50, go_sem, Int.reduceToNat, Int.reduceEq, Int.reduceNe, Int.reduceLT, Int.reduceLE, Int.reduceNeg, Int.reduceAdd, ↓reduceIte, ↓reduceCtorEq, Nat.reduceEqDiff, Nat.reduceAdd, Nat.reduceSub, Nat.reduceMul, Nat.reduceLeDiff, Nat.reduceLT]
    refine qcall_i (k1) ?_; simp only [Tryd.f50, go_sem, Int.reduceToNat, Int.reduceEq, Int.reduceNe, Int.reduceLT, Int.reduceLE, Int.reduceNeg, Int.reduceAdd, ↓reduceIte, ↓reduceCtorEq, Nat.reduceEqDiff, Nat.reduceAdd, Nat.reduceSub, Nat.reduceMul, Nat.reduceLeDiff, Nat.reduceLT]
    try rfl
theorem LimN.unit {J : Nat} {t : Int} (h : -(J : Int) ≤ t ∧ t < J) : LimN J ⟨false, 1, t⟩ := by
  refine ⟨.inr h.1, ?_, h.1, by show t ≤ _; omega⟩
  have e : (Dy.mk false 1 t).at (-(J : Int)) = ((2 ^ (t + J).toNat : Nat) : Int) := by
    unfold Dy.at
    simp [show t - -(J : Int) = t + J by omega]
  rw [e, Int.natAbs_natCast]
  exact Nat.pow_lt_pow_right (by decide) (by omega)
theorem c_end {d : Dy} {K : Nat} (hl : Lim K d) (hK : K ≤ 10000) {b : Int} (hb : 1 ≤ b ∧ b ≤ 4096) {dir : Int} (hd : dir = 2 ∨ dir = 3) : PC E 51 [d.nv, (shS d b dir).nv, .int .i64 b] (.bool true) := by
  refine PC.of_body follows Tryd.func51 (by decide +kernel) rfl (by kernel_rfl) (Nat.le_of_ble_eq_true rfl) (walk ?_)
  by_cases h0 : d.m = 0
  · have e : shS d b dir = d := by unfold shS; rw [if_pos (.inl h0)]
    have hlen := dgB_len0.2 h0
    rw [e]
    simp only [Dy.nv, DP, VN, VL]
    simp only [Tryd.f51, go_sem, Int.reduceToNat, Int.reduceEq, Int.reduceNe, Int.reduceLT, Int.reduceLE, Int.reduceNeg, Int.reduceAdd, ↓reduceIte, ↓reduceCtorEq, Nat.reduceEqDiff, Nat.reduceAdd, Nat.reduceSub, Nat.reduceMul, Nat.reduceLeDiff, Nat.reduceLT]
    refine qif_dt (by omega) ?_
    simp only [Tryd.f51, go_sem, Int.reduceToNat, Int.reduceEq, Int.reduceNe, Int.reduceLT, Int.reduceLE, Int.reduceNeg, Int.reduceAdd, ↓reduceIte, ↓reduceCtorEq, Nat.reduceEqDiff, Nat.reduceAdd, Nat.reduceSub, Nat.reduceMul, Nat.reduceLeDiff, Nat.reduceLT]
    try exact decide_eq_true (by omega)
  have e0 := hl.e0
  have htl := hl.top_lt h0
  have htt := top_of h0
  have hbp := bitLen_pos h0
  have hbi := hl.bits
  have hu : shU d b = d.top - b + 1 := rfl
  have w1 : IntKind.wrap .i64 (d.top - b) = d.top - b := wrap64 (by omega) (by omega)
  have w2 : IntKind.wrap .i64 (d.top - b + 1) = shU d b := by rw [wrap64 (by omega) (by omega)]; rfl
  obtain ⟨o1, o2, o3⟩ := shS_off hl (by omega) hb hd h0
  have Ls := shS_lim hl (by omega) hb hd
  have k1 := c_5Top d h0 (by omega) (by omega) (by omega)
  have k2 := l_Add (hl.N.mono (J := K + 1) (by omega)) Ls.N.negN (by omega)
  have Lo := ((hl.N.mono (J := K + 1) (by omega)).add Ls.N.negN).absN
  have k3 := l_Cmp (Lo.mono (J := K + 5000) (by omega)) (LimN.unit (J := K + 5000) (t := shU d b) (by omega)) (by omega)
  generalize addD d (shS d b dir).negN = off at *
  generalize shS d b dir = s at *
  generalize shU d b = t at *
  generalize cmpD off.abs ⟨false, 1, t⟩ = c at *
  have hlen0 : ¬ ((dg B d.m).length : Int) = 0 := fun h => h0 (dgB_len0.1 (by omega))
  simp only [Dy.nv, DP, Dy.abs, Dy.negN, VN_one] at k1 k2 k3
  simp only [VN, VL] at k1 k2 k3
  simp only [Dy.nv, DP, VN, VL]
  have q1 : decide (c < 0) = true := decide_eq_true o1
  simp only [Tryd.f51, go_sem, Int.reduceToNat, Int.reduceEq, Int.reduceNe, Int.reduceLT, Int.reduceLE, Int.reduceNeg, Int.reduceAdd, ↓reduceIte, ↓reduceCtorEq, Nat.reduceEqDiff, Nat.reduceAdd, Nat.reduceSub, Nat.reduceMul, Nat.reduceLeDiff, Nat.reduceLT]
  refine qif_df hlen0 ?_
  simp only [Tryd.f51, go_sem, Int.reduceToNat, Int.reduceEq, Int.reduceNe, Int.reduceLT, Int.reduceLE, Int.reduceNeg, Int.reduceAdd, ↓reduceIte, ↓reduceCtorEq, Nat.reduceEqDiff, Nat.reduceAdd, Nat.reduceSub, Nat.reduceMul, Nat.reduceLeDiff, Nat.reduceLT]
  refine qcall_i (k1) ?_; simp only [Tryd.f51, w1, w2, go_sem, Int.reduceToNat, Int.reduceEq, Int.reduceNe, Int.reduceLT, Int.reduceLE, Int.reduceNeg, Int.reduceAdd, ↓reduceIte, ↓reduceCtorEq, Nat.reduceEqDiff, Nat.reduceAdd, Nat.reduceSub, Nat.reduceMul, Nat.reduceLeDiff, Nat.reduceLT]
  refine qcall_i (k2) ?_; simp only [Tryd.f51, go_sem, Int.reduceToNat, Int.reduceEq, Int.reduceNe, Int.reduceLT, Int.reduceLE, Int.reduceNeg, Int.reduceAdd, ↓reduceIte, ↓reduceCtorEq, Nat.reduceEqDiff, Nat.reduceAdd, Nat.reduceSub, Nat.reduceMul, Nat.reduceLeDiff, Nat.reduceLT]
  by_cases hs : s.m = 0
  · have hsl := dgB_len0.2 hs
    refine qif_dt (by omega) ?_
    simp only [Tryd.f51, go_sem, Int.reduceToNat, Int.reduceEq, Int.reduceNe, Int.reduceLT, Int.reduceLE, Int.reduceNeg, Int.reduceAdd, ↓reduceIte, ↓reduceCtorEq, Nat.reduceEqDiff, Nat.reduceAdd, Nat.reduceSub, Nat.reduceMul, Nat.reduceLeDiff, Nat.reduceLT]
    refine qcall_i (k3) ?_; simp only [Tryd.f51, q1, go_sem, Int.reduceToNat, Int.reduceEq, Int.reduceNe, Int.reduceLT, Int.reduceLE, Int.reduceNeg, Int.reduceAdd, ↓reduceIte, ↓reduceCtorEq, Nat.reduceEqDiff, Nat.reduceAdd, Nat.reduceSub, Nat.reduceMul, Nat.reduceLeDiff, Nat.reduceLT]
    refine qif_d (fun h => ?_) (fun h => ?_)
    · simp only [Tryd.f51, go_sem, Int.reduceToNat, Int.reduceEq, Int.reduceNe, Int.reduceLT, Int.reduceLE, Int.reduceNeg, Int.reduceAdd, ↓reduceIte, ↓reduceCtorEq, Nat.reduceEqDiff, Nat.reduceAdd, Nat.reduceSub, Nat.reduceMul, Nat.reduceLeDiff, Nat.reduceLT]
    · simp only [Tryd.f51, go_sem, Int.reduceToNat, Int.reduceEq, Int.reduceNe, Int.reduceLT, Int.reduceLE, Int.reduceNeg, Int.reduceAdd, ↓reduceIte, ↓reduceCtorEq, Nat.reduceEqDiff, Nat.reduceAdd, Nat.reduceSub, Nat.reduceMul, Nat.reduceLeDiff, Nat.reduceLT]
      have := dgB_len0.2 (o2 (by omega))
      try exact decide_eq_true (by omega)
  · have hsl : ¬ ((dg B s.m).length : Int) = 0 := fun h => hs (dgB_len0.1 (by omega))
    refine qif_df hsl ?_
    simp only [Tryd.f51, go_sem, Int.reduceToNat, Int.reduceEq, Int.reduceNe, Int.reduceLT, Int.reduceLE, Int.reduceNeg, Int.reduceAdd, ↓reduceIte, ↓reduceCtorEq, Nat.reduceEqDiff, Nat.reduceAdd, Nat.reduceSub, Nat.reduceMul, Nat.reduceLeDiff, Nat.reduceLT]
    refine qif_dt (by have := o3 hs; omega) ?_
    simp only [Tryd.f51, go_sem, Int.reduceToNat, Int.reduceEq, Int.reduceNe, Int.reduceLT, Int.reduceLE, Int.reduceNeg, Int.reduceAdd, ↓reduceIte, ↓reduceCtorEq, Nat.reduceEqDiff, Nat.reduceAdd, Nat.reduceSub, Nat.reduceMul, Nat.reduceLeDiff, Nat.reduceLT]
    refine qcall_i (k3) ?_; simp only [Tryd.f51, q1, go_sem, Int.reduceToNat, Int.reduceEq, Int.reduceNe, Int.reduceLT, Int.reduceLE, Int.reduceNeg, Int.reduceAdd, ↓reduceIte, ↓reduceCtorEq, Nat.reduceEqDiff, Nat.reduceAdd, Nat.reduceSub, Nat.reduceMul, Nat.reduceLeDiff, Nat.reduceLT]
    refine qif_d (fun h => ?_) (fun h => ?_)
    · simp only [Tryd.f51, go_sem, Int.reduceToNat, Int.reduceEq, Int.reduceNe, Int.reduceLT, Int.reduceLE, Int.reduceNeg, Int.reduceAdd, ↓reduceIte, ↓reduceCtorEq, Nat.reduceEqDiff, Nat.reduceAdd, Nat.reduceSub, Nat.reduceMul, Nat.reduceLeDiff, Nat.reduceLT]
    · simp only [Tryd.f51, go_sem, Int.reduceToNat, Int.reduceEq, Int.reduceNe, Int.reduceLT, Int.reduceLE, Int.reduceNeg, Int.reduceAdd, ↓reduceIte, ↓reduceCtorEq, Nat.reduceEqDiff, Nat.reduceAdd, Nat.reduceSub, Nat.reduceMul, Nat.reduceLeDiff, Nat.reduceLT]
      have := dgB_len0.2 (o2 (by omega))
      try exact decide_eq_true (by omega)
end Go.Proofs.YtfogjddcagckaaaDoor
