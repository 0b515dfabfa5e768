/- poly's functions: values rounded, signs, places; the laws' example. -/
import Derived.Test.YtejmlngnpekagaaGreatDoorPol1
open Go PG Go.Proofs
set_option maxRecDepth 100000
set_option linter.unusedSimpArgs false
set_option linter.unusedVariables false
namespace Go.Proofs.YtejmlngnpekagaaGreatDoor
attribute [local go_sem] Lay2 Lay3 Lay4 Lay5 Lay6 Lay7 Lay8 Lay9 Lay10 Lay11 Lay12 Lay13 Lay14 Lay15 Lay16 Lay17 Lay18 Lay19 Lay21 Lay22 Lay23 Lay25 Lay26 Lay27 Lay30 Lay31 Lay32 Lay33 Lay36 Lay37 Lay41 Lay42 Lay43 Lay47 Lay56 Lay57 Lay59 Lay60 Lay65 Lay66 Lay74 Lay75 Lay105 Lay114 Lay145 Lay146 Lay149 Lay150 Lay151 Lay173 Lay185 Lay189 Lay204 Lay205 Lay208 Lay214 Lay215 Lay216 Lay217 Lay218 Lay220 Lay221 Lay223 Lay224 Lay225 Lay228 qexec_seq qexec_skip qexec_exit qexec_ret qexec_block qexec_loop qexec_range qexec_cond qexec_region qexec_drawn qops_nil qops_none qops_some put_some put_none pblk_exit pblk_other newDsts_nil sget_cons sget_nil qval_some qbool_some qgs_bool qgs_und qfree_some qgrd_true qgrd_false qif_true qif_false qval_ite qval_itn qand_true map_ite map_some' map_none' qdo_move qdo_assign qdo_binOp qdo_pick qdo_unOp qdo_convert qdo_extract qdo_field qdo_fieldAddr qdo_alloc qdo_box qdo_build qdo_buildSlice qdo_load qdo_store qdo_nilCheck qdo_makeFunc qdo_makeSlice qdo_slice qdo_indexAddr qdo_call qcont_val qcont_new qcont_st qcont_app0 qcont_app qcont_inl qcont_call njSV_val njSV_nil njSV_row njSV_ptr njSV_sub binV_val binV_nil binV_nn binV_ptr bin_np bin_nnp nilCmp bin_add bin_sub bin_mul bin_quo bin_rem bin_and bin_or bin_xor bin_andNot bin_eql bin_neq bin_lss bin_leq bin_gtr bin_geq bin_shl bin_shr bin_seql bin_sneq bin_sadd bin_beql bin_aeql bin_aneq eqAnd_some eqCells_nil eqCells_cons fieldTypes isStruct eqCell bin_bneq un_not un_neg nj_ite Nat.beq stepA stepR isNew opSV constSV RV.sv allSome E_mu E_own qkeyIn_none qkeyIn_some qkeyAt_none qkeyAt_some Bool.or_false Bool.false_or Bool.or_true Bool.true_or cst setB res resSV pstart startL killL kill1 eraL frzL svPV rvPV rvInt rvSlice frzOf close closeL pconv pbuiltin pmax2 partPV setCells fillPV zrow bound newSV PV.cells Bk.cells Bk.with SV.key pres presL_nil presL_tmp presL_cell presC2_some cellPV_ptr presC List.toList_toArray List.size_toArray List.getElem?_drop Nat.mul_one Int.toNat_natCast Nat.not_lt_zero Nat.lt_irrefl decide_true decide_false Nat.not_lt Option.some.injEq PV.lst.injEq PV.int.injEq PV.bool.injEq PV.tuple.injEq List.cons.injEq Option.map_some Option.map_none Option.bind_some Option.toList List.map_cons List.map_nil List.nil_append List.cons_append List.append_nil List.zip_cons_cons List.zip_nil_left List.zip_nil_right List.getElem?_cons_zero List.getElem?_cons_succ List.drop_zero List.drop_succ_cons List.take_succ_cons List.take_zero List.set_cons_zero List.set_cons_succ List.length_cons List.length_nil List.length_set List.replicate_one List.replicate_zero bne_self_eq_false beq_self_eq_true Nat.zero_add Nat.add_zero Nat.zero_mul Bool.false_eq_true Bool.true_eq_false Bool.not_true Bool.not_false and_true true_and false_and and_false or_false false_or or_true true_or not_true_eq_false not_false_eq_true ne_eq gt_iff_lt List.mem_cons List.not_mem_nil
attribute [local go_sem ↓] pseq_normal pseq_ret pseq_exit pblk_normal pblk_ret newDsts_cons gdst_zero gdst_succ retQ_normal retQ_ret qneed_nil qneed_cons retM_normal retM_ret endR_normal endR_ret endR_exit

/-- A polynomial's value at a number. -/
def valP (l : List Nat) (x : Nat) : Dy := (hornS l ⟨fd x, fd x⟩).lo
theorem valP_spec {l : List Nat} (hr : rightP l) (x : Nat) : Lim 20000 (valP l x) ∧ (valP l x).val = polyV l (fd x).val := by
  obtain ⟨h, h1, h2, h3⟩ := hornS_pt (fd_lim x) (by decide) l hr.1 hr.2
  unfold valP
  rw [h1]
  have : hB 1153 l.length ≤ 20000 := by
    unfold hB
    have := Nat.mul_le_mul_left (1153 + 1) hr.1
    omega
  exact ⟨h2.mono this, h3⟩
theorem exPol_ok {l : List Nat} {x : Nat} (hx : fe x < 2047) (hr : rightP l) : exPol l x = .tuple [(valP l x).pv, .int .i64 0] := if_pos ⟨hx, hr⟩
theorem exPol_no {l : List Nat} {x : Nat} (h : ¬ (fe x < 2047 ∧ rightP l)) : exPol l x = .tuple [Dy.zero.pv, .int .i64 1] := if_neg h
/-- A value rounded, with an error's number. -/
def atPol (l : List Nat) (x : Nat) (dir : Int) : PV := if (fe x < 2047 ∧ rightP l) ∧ 0 ≤ dir ∧ dir ≤ 3 then .tuple [.agg [u (toS (valP l x) false dir).1, .int .u8 (toS (valP l x) false dir).2, .int .i64 0], .int .i64 0] else .tuple [.agg [.int .u64 0, .int .u8 0, .int .i64 0], .int .i64 1]
theorem p_At {l : List Nat} (ol : Ok W l) (hl : l.length ≤ 1000000) {x : Nat} (hx : x < W) (dir : Int) : PC E 12 [NL l, u x, .int .i64 dir] (atPol l x dir) := by
  have k1 := p_Exact ol hl hx
  unfold atPol
  by_cases h1 : fe x < 2047 ∧ rightP l
  case neg =>
    rw [exPol_no h1] at k1
    rw [if_neg (fun h => h1 h.1)]
    simp only [u, NL, Dy.pv, DP] at k1 ⊢
    refine PC.of_body follows Tryz.func12 (by decide +kernel) rfl (by kernel_rfl) (Nat.le_of_ble_eq_true rfl) (walk ?_)
    simp only [Tryz.f12, go_sem, Int.reduceToNat, Int.reduceEq, Int.reduceNe, Int.reduceLT, Int.reduceLE, Int.reduceNeg, Int.reduceAdd, ↓reduceIte, ↓reduceCtorEq, Nat.reduceEqDiff, Nat.reduceAdd, Nat.reduceSub, Nat.reduceMul, Nat.reduceLeDiff, Nat.reduceLT]
    refine qcall_i (k1) ?_; simp only [Tryz.f12, go_sem, Int.reduceToNat, Int.reduceEq, Int.reduceNe, Int.reduceLT, Int.reduceLE, Int.reduceNeg, Int.reduceAdd, ↓reduceIte, ↓reduceCtorEq, Nat.reduceEqDiff, Nat.reduceAdd, Nat.reduceSub, Nat.reduceMul, Nat.reduceLeDiff, Nat.reduceLT]
    try rfl
  rw [exPol_ok h1.1 h1.2] at k1
  have hl := (valP_spec h1.2 x).1
  have k2 := r_To (hl.RD (by decide)) (by have := hl.bits; omega) false dir
  generalize valP l x = v at *
  by_cases h2 : 0 ≤ dir ∧ dir ≤ 3
  · rw [if_pos ⟨h1, h2⟩]
    rw [if_pos (show toE v false dir from ⟨hl.fits (by decide), h2.1, h2.2, fun h => by cases h.1⟩)] at k2
    generalize toS v false dir = T at *
    simp only [u, NL, Dy.pv, DP] at k1 k2 ⊢
    refine PC.of_body follows Tryz.func12 (by decide +kernel) rfl (by kernel_rfl) (Nat.le_of_ble_eq_true rfl) (walk ?_)
    simp only [Tryz.f12, go_sem, Int.reduceToNat, Int.reduceEq, Int.reduceNe, Int.reduceLT, Int.reduceLE, Int.reduceNeg, Int.reduceAdd, ↓reduceIte, ↓reduceCtorEq, Nat.reduceEqDiff, Nat.reduceAdd, Nat.reduceSub, Nat.reduceMul, Nat.reduceLeDiff, Nat.reduceLT]
    refine qcall_i (k1) ?_; simp only [Tryz.f12, go_sem, Int.reduceToNat, Int.reduceEq, Int.reduceNe, Int.reduceLT, Int.reduceLE, Int.reduceNeg, Int.reduceAdd, ↓reduceIte, ↓reduceCtorEq, Nat.reduceEqDiff, Nat.reduceAdd, Nat.reduceSub, Nat.reduceMul, Nat.reduceLeDiff, Nat.reduceLT]
    refine qif_df (by omega) ?_
    simp only [Tryz.f12, go_sem, Int.reduceToNat, Int.reduceEq, Int.reduceNe, Int.reduceLT, Int.reduceLE, Int.reduceNeg, Int.reduceAdd, ↓reduceIte, ↓reduceCtorEq, Nat.reduceEqDiff, Nat.reduceAdd, Nat.reduceSub, Nat.reduceMul, Nat.reduceLeDiff, Nat.reduceLT]
    refine qif_df (by omega) ?_
    simp only [Tryz.f12, go_sem, Int.reduceToNat, Int.reduceEq, Int.reduceNe, Int.reduceLT, Int.reduceLE, Int.reduceNeg, Int.reduceAdd, ↓reduceIte, ↓reduceCtorEq, Nat.reduceEqDiff, Nat.reduceAdd, Nat.reduceSub, Nat.reduceMul, Nat.reduceLeDiff, Nat.reduceLT]
    refine qcall_i (k2) ?_; simp only [Tryz.f12, go_sem, Int.reduceToNat, Int.reduceEq, Int.reduceNe, Int.reduceLT, Int.reduceLE, Int.reduceNeg, Int.reduceAdd, ↓reduceIte, ↓reduceCtorEq, Nat.reduceEqDiff, Nat.reduceAdd, Nat.reduceSub, Nat.reduceMul, Nat.reduceLeDiff, Nat.reduceLT]
    try rfl
  · rw [if_neg (fun h => h2 h.2)]
    simp only [u, NL, Dy.pv, DP] at k1 ⊢
    refine PC.of_body follows Tryz.func12 (by decide +kernel) rfl (by kernel_rfl) (Nat.le_of_ble_eq_true rfl) (walk ?_)
    simp only [Tryz.f12, go_sem, Int.reduceToNat, Int.reduceEq, Int.reduceNe, Int.reduceLT, Int.reduceLE, Int.reduceNeg, Int.reduceAdd, ↓reduceIte, ↓reduceCtorEq, Nat.reduceEqDiff, Nat.reduceAdd, Nat.reduceSub, Nat.reduceMul, Nat.reduceLeDiff, Nat.reduceLT]
    refine qcall_i (k1) ?_; simp only [Tryz.f12, go_sem, Int.reduceToNat, Int.reduceEq, Int.reduceNe, Int.reduceLT, Int.reduceLE, Int.reduceNeg, Int.reduceAdd, ↓reduceIte, ↓reduceCtorEq, Nat.reduceEqDiff, Nat.reduceAdd, Nat.reduceSub, Nat.reduceMul, Nat.reduceLeDiff, Nat.reduceLT]
    by_cases h3 : dir < 0
    · refine qif_dt h3 ?_
      simp only [Tryz.f12, go_sem, Int.reduceToNat, Int.reduceEq, Int.reduceNe, Int.reduceLT, Int.reduceLE, Int.reduceNeg, Int.reduceAdd, ↓reduceIte, ↓reduceCtorEq, Nat.reduceEqDiff, Nat.reduceAdd, Nat.reduceSub, Nat.reduceMul, Nat.reduceLeDiff, Nat.reduceLT]
      try rfl
    · refine qif_df h3 ?_
      simp only [Tryz.f12, go_sem, Int.reduceToNat, Int.reduceEq, Int.reduceNe, Int.reduceLT, Int.reduceLE, Int.reduceNeg, Int.reduceAdd, ↓reduceIte, ↓reduceCtorEq, Nat.reduceEqDiff, Nat.reduceAdd, Nat.reduceSub, Nat.reduceMul, Nat.reduceLeDiff, Nat.reduceLT]
      refine qif_dt (by omega) ?_
      simp only [Tryz.f12, go_sem, Int.reduceToNat, Int.reduceEq, Int.reduceNe, Int.reduceLT, Int.reduceLE, Int.reduceNeg, Int.reduceAdd, ↓reduceIte, ↓reduceCtorEq, Nat.reduceEqDiff, Nat.reduceAdd, Nat.reduceSub, Nat.reduceMul, Nat.reduceLeDiff, Nat.reduceLT]
      try rfl
/-- The bits at a place. -/
def bitsAt (z : Int) : Nat := withS (decide (z < 0)) z.natAbs
theorem c_alive35 : PC E 10 [] (.bool true) := by
  have k1 := p_At (l := [4607182418800017408, 4611686018427387904, 4613937818241073152]) (by intro d hd; simp at hd; rcases hd with rfl | rfl | rfl <;> decide) (by decide) (x := 4611686018427387904) (by decide) 0
  rw [show atPol [4607182418800017408, 4611686018427387904, 4613937818241073152] 4611686018427387904 0 = .tuple [.agg [.int .u64 4625478292286210048, .int .u8 0, .int .i64 0], .int .i64 0] by
    unfold atPol
    rw [if_pos (by decide), show toS (valP [4607182418800017408, 4611686018427387904, 4613937818241073152] 4611686018427387904) false 0 = (4625478292286210048, 0) by decide +kernel]
    rfl] at k1
  have k2 := p_Exact (l := [9218868437227405312]) (by intro d hd; simp at hd; subst hd; decide) (by decide) (x := 0) (by decide)
  rw [exPol_no (by decide)] at k2
  simp only [NL, U, List.map_cons, List.map_nil, u, List.length_cons, List.length_nil, Nat.reduceAdd, Int.cast_ofNat_Int, Dy.pv, DP] at k1 k2
  refine PC.of_body follows Tryz.func10 (by decide +kernel) rfl (by kernel_rfl) (Nat.le_of_ble_eq_true rfl) (walk ?_)
  simp only [Tryz.f10, List.replicate_succ, go_sem, Int.reduceToNat, Int.reduceEq, Int.reduceNe, Int.reduceLT, Int.reduceLE, Int.reduceNeg, Int.reduceAdd, ↓reduceIte, ↓reduceCtorEq, Nat.reduceEqDiff, Nat.reduceAdd, Nat.reduceSub, Nat.reduceMul, Nat.reduceLeDiff, Nat.reduceLT]
  refine qcall_i k1 ?_
  simp only [Tryz.f10, Int.cast_ofNat_Int, List.replicate_succ, go_sem, Int.reduceToNat, Int.reduceEq, Int.reduceNe, Int.reduceLT, Int.reduceLE, Int.reduceNeg, Int.reduceAdd, ↓reduceIte, ↓reduceCtorEq, Nat.reduceEqDiff, Nat.reduceAdd, Nat.reduceSub, Nat.reduceMul, Nat.reduceLeDiff, Nat.reduceLT]
  refine qcall_i k2 ?_
  simp only [Tryz.f10, Int.cast_ofNat_Int, Bool.and_self, go_sem, Int.reduceToNat, Int.reduceEq, Int.reduceNe, Int.reduceLT, Int.reduceLE, Int.reduceNeg, Int.reduceAdd, ↓reduceIte, ↓reduceCtorEq, Nat.reduceEqDiff, Nat.reduceAdd, Nat.reduceSub, Nat.reduceMul, Nat.reduceLeDiff, Nat.reduceLT]
end Go.Proofs.YtejmlngnpekagaaGreatDoor
