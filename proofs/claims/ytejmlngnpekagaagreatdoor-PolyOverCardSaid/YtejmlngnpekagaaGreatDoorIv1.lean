/- Intervals: what iv's functions hand back. -/
import Derived.Test.YtejmlngnpekagaaGreatDoorLim
open Go PG Go.Proofs
set_option maxRecDepth 100000
set_option linter.unusedSimpArgs false
set_option linter.unusedVariables false
namespace Go.Proofs.YtejmlngnpekagaaGreatDoor
attribute [local go_sem] Lay2 Lay3 Lay4 Lay5 Lay6 Lay7 Lay8 Lay9 Lay10 Lay11 Lay12 Lay13 Lay14 Lay15 Lay16 Lay17 Lay18 Lay19 Lay21 Lay22 Lay23 Lay25 Lay26 Lay27 Lay30 Lay31 Lay32 Lay33 Lay36 Lay37 Lay41 Lay42 Lay43 Lay47 Lay56 Lay57 Lay59 Lay60 Lay65 Lay66 Lay74 Lay75 Lay105 Lay114 Lay145 Lay146 Lay149 Lay150 Lay151 Lay173 Lay185 Lay189 Lay204 Lay205 Lay208 Lay214 Lay215 Lay216 Lay217 Lay218 Lay220 Lay221 Lay223 Lay224 Lay225 Lay228 qexec_seq qexec_skip qexec_exit qexec_ret qexec_block qexec_loop qexec_range qexec_cond qexec_region qexec_drawn qops_nil qops_none qops_some put_some put_none pblk_exit pblk_other newDsts_nil sget_cons sget_nil qval_some qbool_some qgs_bool qgs_und qfree_some qgrd_true qgrd_false qif_true qif_false qval_ite qval_itn qand_true map_ite map_some' map_none' qdo_move qdo_assign qdo_binOp qdo_pick qdo_unOp qdo_convert qdo_extract qdo_field qdo_fieldAddr qdo_alloc qdo_box qdo_build qdo_buildSlice qdo_load qdo_store qdo_nilCheck qdo_makeFunc qdo_makeSlice qdo_slice qdo_indexAddr qdo_call qcont_val qcont_new qcont_st qcont_app0 qcont_app qcont_inl qcont_call njSV_val njSV_nil njSV_row njSV_ptr njSV_sub binV_val binV_nil binV_nn binV_ptr bin_np bin_nnp nilCmp bin_add bin_sub bin_mul bin_quo bin_rem bin_and bin_or bin_xor bin_andNot bin_eql bin_neq bin_lss bin_leq bin_gtr bin_geq bin_shl bin_shr bin_seql bin_sneq bin_sadd bin_beql bin_aeql bin_aneq eqAnd_some eqCells_nil eqCells_cons fieldTypes isStruct eqCell bin_bneq un_not un_neg nj_ite Nat.beq stepA stepR isNew opSV constSV RV.sv allSome E_mu E_own qkeyIn_none qkeyIn_some qkeyAt_none qkeyAt_some Bool.or_false Bool.false_or Bool.or_true Bool.true_or cst setB res resSV pstart startL killL kill1 eraL frzL svPV rvPV rvInt rvSlice frzOf close closeL pconv pbuiltin pmax2 partPV setCells fillPV zrow bound newSV PV.cells Bk.cells Bk.with SV.key pres presL_nil presL_tmp presL_cell presC2_some cellPV_ptr presC List.toList_toArray List.size_toArray List.getElem?_drop Nat.mul_one Int.toNat_natCast Nat.not_lt_zero Nat.lt_irrefl decide_true decide_false Nat.not_lt Option.some.injEq PV.lst.injEq PV.int.injEq PV.bool.injEq PV.tuple.injEq List.cons.injEq Option.map_some Option.map_none Option.bind_some Option.toList List.map_cons List.map_nil List.nil_append List.cons_append List.append_nil List.zip_cons_cons List.zip_nil_left List.zip_nil_right List.getElem?_cons_zero List.getElem?_cons_succ List.drop_zero List.drop_succ_cons List.take_succ_cons List.take_zero List.set_cons_zero List.set_cons_succ List.length_cons List.length_nil List.length_set List.replicate_one List.replicate_zero bne_self_eq_false beq_self_eq_true Nat.zero_add Nat.add_zero Nat.zero_mul Bool.false_eq_true Bool.true_eq_false Bool.not_true Bool.not_false and_true true_and false_and and_false or_false false_or or_true true_or not_true_eq_false not_false_eq_true ne_eq gt_iff_lt List.mem_cons List.not_mem_nil
attribute [local go_sem ↓] pseq_normal pseq_ret pseq_exit pblk_normal pblk_ret newDsts_cons gdst_zero gdst_succ retQ_normal retQ_ret qneed_nil qneed_cons retM_normal retM_ret endR_normal endR_ret endR_exit

/-- It reads as the interval i, its ends bare or not. -/
def RI (p : PV) (i : Iv) : Prop := ∃ (s1 : Bool) (P1 : PV) (e1 : Int) (s2 : Bool) (P2 : PV) (e2 : Int), p = .agg [.bool s1, P1, .int .i64 e1, .bool s2, P2, .int .i64 e2] ∧ RD (DP s1 P1 e1) i.lo ∧ RD (DP s2 P2 e2) i.hi
def Iv.pv (i : Iv) : PV := .agg [.bool i.lo.s, NN i.lo.m, .int .i64 i.lo.e, .bool i.hi.s, NN i.hi.m, .int .i64 i.hi.e]
def Iv.zero : Iv := ⟨.zero, .zero⟩
theorem RI.of {i : Iv} (h1 : RD i.lo.pv i.lo) (h2 : RD i.hi.pv i.hi) : RI i.pv i := ⟨_, _, _, _, _, _, rfl, h1, h2⟩
theorem RI.okI {p : PV} {i : Iv} (h : RI p i) : i.okI := by obtain ⟨_, _, _, _, _, _, _, h1, h2⟩ := h; exact ⟨h1.ok, h2.ok⟩
def Iv.lim (K : Nat) (i : Iv) : Prop := Lim K i.lo ∧ Lim K i.hi
theorem Iv.lim.RI {K : Nat} {i : Iv} (h : i.lim K) (hK : K ≤ 500000) : RI i.pv i := RI.of (h.1.RD hK) (h.2.RD hK)
theorem Iv.lim.mono {K J : Nat} {i : Iv} (h : i.lim K) (hK : K ≤ J) : i.lim J := ⟨h.1.mono hK, h.2.mono hK⟩
theorem Iv.lim.mul {K J : Nat} {i k : Iv} (h1 : i.lim K) (h2 : k.lim J) : (mulI i k).lim (K + J) :=
  mulI_P (P := Lim (K + J)) (h1.1.mul h2.1) (h1.1.mul h2.2) (h1.2.mul h2.1) (h1.2.mul h2.2)
theorem Iv.lim.add {K : Nat} {i k : Iv} (h1 : i.lim K) (h2 : k.lim K) (hK : K ≤ 1000000) : (addI i k).lim (K + 1) := ⟨h1.1.add h2.1 hK, h1.2.add h2.2 hK⟩
theorem Iv.lim.ge {K : Nat} {i : Iv} (h : i.lim K) : i.ge (-(K : Int)) := ⟨h.1.ge, h.2.ge⟩
theorem Iv.lim.okI {K : Nat} {i : Iv} (h : i.lim K) : i.okI := ⟨h.1.ok, h.2.ok⟩
theorem Iv.lim.right {K : Nat} {i : Iv} (h : i.lim K) (hK : K ≤ 1000000) : i.right ↔ cmpD i.lo i.hi ≤ 0 := ⟨fun h => h.2.2, fun hc => ⟨h.1.fits hK, h.2.fits hK, hc⟩⟩

theorem q_can {p : PV} {d : Dy} (h : RD p d) : PC E 79 [p] (.bool (decide d.fits)) := by
  have k1 := r_Bare h
  obtain ⟨s, P, x, e, rfl, -⟩ := h
  refine PC.of_body follows Tryz.func79 (by decide +kernel) rfl (by kernel_rfl) (Nat.le_of_ble_eq_true rfl) (walk ?_)
  unfold okD at k1
  by_cases hf : d.fits
  · rw [if_pos hf] at k1
    rw [decide_eq_true hf]
    simp only [Dy.pv, DP, NN, NL] at k1 ⊢
    simp only [Tryz.f79, go_sem, Int.reduceToNat, Int.reduceEq, Int.reduceNe, Int.reduceLT, Int.reduceLE, Int.reduceNeg, Int.reduceAdd, ↓reduceIte, ↓reduceCtorEq, Nat.reduceEqDiff, Nat.reduceAdd, Nat.reduceSub, Nat.reduceMul, Nat.reduceLeDiff, Nat.reduceLT]
    refine qcall_i (k1) ?_; simp only [Tryz.f79, go_sem, Int.reduceToNat, Int.reduceEq, Int.reduceNe, Int.reduceLT, Int.reduceLE, Int.reduceNeg, Int.reduceAdd, ↓reduceIte, ↓reduceCtorEq, Nat.reduceEqDiff, Nat.reduceAdd, Nat.reduceSub, Nat.reduceMul, Nat.reduceLeDiff, Nat.reduceLT]
  · rw [if_neg hf] at k1
    rw [decide_eq_false hf]
    simp only [Dy.pv, Dy.zero, DP, NN, NL] at k1 ⊢
    simp only [Tryz.f79, go_sem, Int.reduceToNat, Int.reduceEq, Int.reduceNe, Int.reduceLT, Int.reduceLE, Int.reduceNeg, Int.reduceAdd, ↓reduceIte, ↓reduceCtorEq, Nat.reduceEqDiff, Nat.reduceAdd, Nat.reduceSub, Nat.reduceMul, Nat.reduceLeDiff, Nat.reduceLT]
    refine qcall_i (k1) ?_; simp only [Tryz.f79, go_sem, Int.reduceToNat, Int.reduceEq, Int.reduceNe, Int.reduceLT, Int.reduceLE, Int.reduceNeg, Int.reduceAdd, ↓reduceIte, ↓reduceCtorEq, Nat.reduceEqDiff, Nat.reduceAdd, Nat.reduceSub, Nat.reduceMul, Nat.reduceLeDiff, Nat.reduceLT]
theorem q_Right {p : PV} {i : Iv} (h : RI p i) : PC E 26 [p] (.bool (decide i.right)) := by
  obtain ⟨s1, P1, e1, s2, P2, e2, rfl, h1, h2⟩ := h
  have k1 := q_can h1
  have k2 := q_can h2
  have k3 := r_Cmp h1 h2
  refine PC.of_body follows Tryz.func26 (by decide +kernel) rfl (by kernel_rfl) (Nat.le_of_ble_eq_true rfl) (walk ?_)
  simp only [DP] at k1 k2 k3
  by_cases f1 : i.lo.fits
  case neg =>
    rw [decide_eq_false f1] at k1
    rw [decide_eq_false (fun h => f1 h.1)]
    simp only [Tryz.f26, go_sem, Int.reduceToNat, Int.reduceEq, Int.reduceNe, Int.reduceLT, Int.reduceLE, Int.reduceNeg, Int.reduceAdd, ↓reduceIte, ↓reduceCtorEq, Nat.reduceEqDiff, Nat.reduceAdd, Nat.reduceSub, Nat.reduceMul, Nat.reduceLeDiff, Nat.reduceLT]
    refine qcall_i (k1) ?_; simp only [Tryz.f26, go_sem, Int.reduceToNat, Int.reduceEq, Int.reduceNe, Int.reduceLT, Int.reduceLE, Int.reduceNeg, Int.reduceAdd, ↓reduceIte, ↓reduceCtorEq, Nat.reduceEqDiff, Nat.reduceAdd, Nat.reduceSub, Nat.reduceMul, Nat.reduceLeDiff, Nat.reduceLT]
  by_cases f2 : i.hi.fits
  case neg =>
    rw [decide_eq_true f1] at k1
    rw [decide_eq_false f2] at k2
    rw [decide_eq_false (fun h => f2 h.2.1)]
    simp only [Tryz.f26, go_sem, Int.reduceToNat, Int.reduceEq, Int.reduceNe, Int.reduceLT, Int.reduceLE, Int.reduceNeg, Int.reduceAdd, ↓reduceIte, ↓reduceCtorEq, Nat.reduceEqDiff, Nat.reduceAdd, Nat.reduceSub, Nat.reduceMul, Nat.reduceLeDiff, Nat.reduceLT]
    refine qcall_i (k1) ?_; simp only [Tryz.f26, go_sem, Int.reduceToNat, Int.reduceEq, Int.reduceNe, Int.reduceLT, Int.reduceLE, Int.reduceNeg, Int.reduceAdd, ↓reduceIte, ↓reduceCtorEq, Nat.reduceEqDiff, Nat.reduceAdd, Nat.reduceSub, Nat.reduceMul, Nat.reduceLeDiff, Nat.reduceLT]
    refine qcall_i (k2) ?_; simp only [Tryz.f26, go_sem, Int.reduceToNat, Int.reduceEq, Int.reduceNe, Int.reduceLT, Int.reduceLE, Int.reduceNeg, Int.reduceAdd, ↓reduceIte, ↓reduceCtorEq, Nat.reduceEqDiff, Nat.reduceAdd, Nat.reduceSub, Nat.reduceMul, Nat.reduceLeDiff, Nat.reduceLT]
  rw [decide_eq_true f1] at k1
  rw [decide_eq_true f2] at k2
  have e : decide i.right = decide (cmpD i.lo i.hi ≤ 0) := decide_eq_decide.2 ⟨fun h => h.2.2, fun h => ⟨f1, f2, h⟩⟩
  rw [e]
  simp only [Tryz.f26, go_sem, Int.reduceToNat, Int.reduceEq, Int.reduceNe, Int.reduceLT, Int.reduceLE, Int.reduceNeg, Int.reduceAdd, ↓reduceIte, ↓reduceCtorEq, Nat.reduceEqDiff, Nat.reduceAdd, Nat.reduceSub, Nat.reduceMul, Nat.reduceLeDiff, Nat.reduceLT]
  refine qcall_i (k1) ?_; simp only [Tryz.f26, go_sem, Int.reduceToNat, Int.reduceEq, Int.reduceNe, Int.reduceLT, Int.reduceLE, Int.reduceNeg, Int.reduceAdd, ↓reduceIte, ↓reduceCtorEq, Nat.reduceEqDiff, Nat.reduceAdd, Nat.reduceSub, Nat.reduceMul, Nat.reduceLeDiff, Nat.reduceLT]
  refine qcall_i (k2) ?_; simp only [Tryz.f26, go_sem, Int.reduceToNat, Int.reduceEq, Int.reduceNe, Int.reduceLT, Int.reduceLE, Int.reduceNeg, Int.reduceAdd, ↓reduceIte, ↓reduceCtorEq, Nat.reduceEqDiff, Nat.reduceAdd, Nat.reduceSub, Nat.reduceMul, Nat.reduceLeDiff, Nat.reduceLT]
  refine qcall_i (k3) ?_; simp only [Tryz.f26, go_sem, Int.reduceToNat, Int.reduceEq, Int.reduceNe, Int.reduceLT, Int.reduceLE, Int.reduceNeg, Int.reduceAdd, ↓reduceIte, ↓reduceCtorEq, Nat.reduceEqDiff, Nat.reduceAdd, Nat.reduceSub, Nat.reduceMul, Nat.reduceLeDiff, Nat.reduceLT]
theorem q_At {s : Bool} {P : PV} {e : Int} : PC E 64 [.agg [.bool s, P, .int .i64 e]] (.agg [.bool s, P, .int .i64 e, .bool s, P, .int .i64 e]) := by
  refine PC.of_body follows Tryz.func64 (by decide +kernel) rfl (by kernel_rfl) (Nat.le_of_ble_eq_true rfl) (walk ?_)
  simp only [Tryz.f64, go_sem, Int.reduceToNat, Int.reduceEq, Int.reduceNe, Int.reduceLT, Int.reduceLE, Int.reduceNeg, Int.reduceAdd, ↓reduceIte, ↓reduceCtorEq, Nat.reduceEqDiff, Nat.reduceAdd, Nat.reduceSub, Nat.reduceMul, Nat.reduceLeDiff, Nat.reduceLT]

/-- A result, or an empty one with an error's number. -/
def ivV (c : Prop) [Decidable c] (i : Iv) : PV := if c then .tuple [i.pv, .int .i64 0] else .tuple [Iv.zero.pv, .int .i64 1]
theorem q_Wide {p : PV} {i : Iv} {K : Nat} (h : RI p i) (hl : i.lim K) (hK : K ≤ 32767) : PC E 28 [p] (if i.right then .tuple [(addS i.hi i.lo.neg).pv, .int .i64 0] else .tuple [Dy.zero.pv, .int .i64 1]) := by
  have k1 := q_Right h
  obtain ⟨s1, P1, e1, s2, P2, e2, rfl, h1, h2⟩ := h
  obtain ⟨r, hr, hrf, k2⟩ := r_Minus h1
  rw [hrf (hl.1.fits (by omega))] at k2 hr
  have k3 := r_Add h2 hr
  rw [addV_lim hl.2 hl.1.neg hK] at k3
  refine PC.of_body follows Tryz.func28 (by decide +kernel) rfl (by kernel_rfl) (Nat.le_of_ble_eq_true rfl) (walk ?_)
  by_cases f1 : i.right
  · rw [decide_eq_true f1] at k1
    rw [if_pos f1]
    simp only [Dy.pv, DP, NN, NL] at k1 k2 k3 ⊢
    simp only [Tryz.f28, go_sem, Int.reduceToNat, Int.reduceEq, Int.reduceNe, Int.reduceLT, Int.reduceLE, Int.reduceNeg, Int.reduceAdd, ↓reduceIte, ↓reduceCtorEq, Nat.reduceEqDiff, Nat.reduceAdd, Nat.reduceSub, Nat.reduceMul, Nat.reduceLeDiff, Nat.reduceLT]
    refine qcall_i (k1) ?_; simp only [Tryz.f28, go_sem, Int.reduceToNat, Int.reduceEq, Int.reduceNe, Int.reduceLT, Int.reduceLE, Int.reduceNeg, Int.reduceAdd, ↓reduceIte, ↓reduceCtorEq, Nat.reduceEqDiff, Nat.reduceAdd, Nat.reduceSub, Nat.reduceMul, Nat.reduceLeDiff, Nat.reduceLT]
    refine qcall_i (k2) ?_; simp only [Tryz.f28, go_sem, Int.reduceToNat, Int.reduceEq, Int.reduceNe, Int.reduceLT, Int.reduceLE, Int.reduceNeg, Int.reduceAdd, ↓reduceIte, ↓reduceCtorEq, Nat.reduceEqDiff, Nat.reduceAdd, Nat.reduceSub, Nat.reduceMul, Nat.reduceLeDiff, Nat.reduceLT]
    refine qcall_i (k3) ?_; simp only [Tryz.f28, go_sem, Int.reduceToNat, Int.reduceEq, Int.reduceNe, Int.reduceLT, Int.reduceLE, Int.reduceNeg, Int.reduceAdd, ↓reduceIte, ↓reduceCtorEq, Nat.reduceEqDiff, Nat.reduceAdd, Nat.reduceSub, Nat.reduceMul, Nat.reduceLeDiff, Nat.reduceLT]
    try rfl
  · rw [decide_eq_false f1] at k1
    rw [if_neg f1]
    simp only [Tryz.f28, go_sem, Int.reduceToNat, Int.reduceEq, Int.reduceNe, Int.reduceLT, Int.reduceLE, Int.reduceNeg, Int.reduceAdd, ↓reduceIte, ↓reduceCtorEq, Nat.reduceEqDiff, Nat.reduceAdd, Nat.reduceSub, Nat.reduceMul, Nat.reduceLeDiff, Nat.reduceLT]
    refine qcall_i (k1) ?_; simp only [Tryz.f28, go_sem, Int.reduceToNat, Int.reduceEq, Int.reduceNe, Int.reduceLT, Int.reduceLE, Int.reduceNeg, Int.reduceAdd, ↓reduceIte, ↓reduceCtorEq, Nat.reduceEqDiff, Nat.reduceAdd, Nat.reduceSub, Nat.reduceMul, Nat.reduceLeDiff, Nat.reduceLT]
    try rfl
theorem q_Add {p q : PV} {i k : Iv} {K : Nat} (h : RI p i) (hk : RI q k) (hl : i.lim K) (hl' : k.lim K) (hK : K ≤ 32767) : PC E 126 [p, q] (ivV (i.right ∧ k.right) (addI i k)) := by
  have k1 := q_Right h
  have k2 := q_Right hk
  obtain ⟨s1, P1, e1, s2, P2, e2, rfl, h1, h2⟩ := h
  obtain ⟨t1, Q1, g1, t2, Q2, g2, rfl, h3, h4⟩ := hk
  have k3 := r_Add h1 h3
  have k4 := r_Add h2 h4
  rw [addV_lim hl.1 hl'.1 hK] at k3
  rw [addV_lim hl.2 hl'.2 hK] at k4
  refine PC.of_body follows Tryz.func126 (by decide +kernel) rfl (by kernel_rfl) (Nat.le_of_ble_eq_true rfl) (walk ?_)
  unfold ivV
  by_cases f1 : i.right
  case neg =>
    rw [decide_eq_false f1] at k1
    rw [if_neg (fun h => f1 h.1)]
    simp only [Tryz.f126, go_sem, Int.reduceToNat, Int.reduceEq, Int.reduceNe, Int.reduceLT, Int.reduceLE, Int.reduceNeg, Int.reduceAdd, ↓reduceIte, ↓reduceCtorEq, Nat.reduceEqDiff, Nat.reduceAdd, Nat.reduceSub, Nat.reduceMul, Nat.reduceLeDiff, Nat.reduceLT]
    refine qcall_i (k1) ?_; simp only [Tryz.f126, go_sem, Int.reduceToNat, Int.reduceEq, Int.reduceNe, Int.reduceLT, Int.reduceLE, Int.reduceNeg, Int.reduceAdd, ↓reduceIte, ↓reduceCtorEq, Nat.reduceEqDiff, Nat.reduceAdd, Nat.reduceSub, Nat.reduceMul, Nat.reduceLeDiff, Nat.reduceLT]
    try rfl
  rw [decide_eq_true f1] at k1
  by_cases f2 : k.right
  case neg =>
    rw [decide_eq_false f2] at k2
    rw [if_neg (fun h => f2 h.2)]
    simp only [Tryz.f126, go_sem, Int.reduceToNat, Int.reduceEq, Int.reduceNe, Int.reduceLT, Int.reduceLE, Int.reduceNeg, Int.reduceAdd, ↓reduceIte, ↓reduceCtorEq, Nat.reduceEqDiff, Nat.reduceAdd, Nat.reduceSub, Nat.reduceMul, Nat.reduceLeDiff, Nat.reduceLT]
    refine qcall_i (k1) ?_; simp only [Tryz.f126, go_sem, Int.reduceToNat, Int.reduceEq, Int.reduceNe, Int.reduceLT, Int.reduceLE, Int.reduceNeg, Int.reduceAdd, ↓reduceIte, ↓reduceCtorEq, Nat.reduceEqDiff, Nat.reduceAdd, Nat.reduceSub, Nat.reduceMul, Nat.reduceLeDiff, Nat.reduceLT]
    refine qcall_i (k2) ?_; simp only [Tryz.f126, go_sem, Int.reduceToNat, Int.reduceEq, Int.reduceNe, Int.reduceLT, Int.reduceLE, Int.reduceNeg, Int.reduceAdd, ↓reduceIte, ↓reduceCtorEq, Nat.reduceEqDiff, Nat.reduceAdd, Nat.reduceSub, Nat.reduceMul, Nat.reduceLeDiff, Nat.reduceLT]
    try rfl
  rw [decide_eq_true f2] at k2
  rw [if_pos ⟨f1, f2⟩]
  simp only [addI, Iv.pv, Dy.pv, DP, NN, NL] at k1 k2 k3 k4 ⊢
  simp only [Tryz.f126, go_sem, Int.reduceToNat, Int.reduceEq, Int.reduceNe, Int.reduceLT, Int.reduceLE, Int.reduceNeg, Int.reduceAdd, ↓reduceIte, ↓reduceCtorEq, Nat.reduceEqDiff, Nat.reduceAdd, Nat.reduceSub, Nat.reduceMul, Nat.reduceLeDiff, Nat.reduceLT]
  refine qcall_i (k1) ?_; simp only [Tryz.f126, go_sem, Int.reduceToNat, Int.reduceEq, Int.reduceNe, Int.reduceLT, Int.reduceLE, Int.reduceNeg, Int.reduceAdd, ↓reduceIte, ↓reduceCtorEq, Nat.reduceEqDiff, Nat.reduceAdd, Nat.reduceSub, Nat.reduceMul, Nat.reduceLeDiff, Nat.reduceLT]
  refine qcall_i (k2) ?_; simp only [Tryz.f126, go_sem, Int.reduceToNat, Int.reduceEq, Int.reduceNe, Int.reduceLT, Int.reduceLE, Int.reduceNeg, Int.reduceAdd, ↓reduceIte, ↓reduceCtorEq, Nat.reduceEqDiff, Nat.reduceAdd, Nat.reduceSub, Nat.reduceMul, Nat.reduceLeDiff, Nat.reduceLT]
  refine qcall_i (k3) ?_; simp only [Tryz.f126, go_sem, Int.reduceToNat, Int.reduceEq, Int.reduceNe, Int.reduceLT, Int.reduceLE, Int.reduceNeg, Int.reduceAdd, ↓reduceIte, ↓reduceCtorEq, Nat.reduceEqDiff, Nat.reduceAdd, Nat.reduceSub, Nat.reduceMul, Nat.reduceLeDiff, Nat.reduceLT]
  refine qcall_i (k4) ?_; simp only [Tryz.f126, go_sem, Int.reduceToNat, Int.reduceEq, Int.reduceNe, Int.reduceLT, Int.reduceLE, Int.reduceNeg, Int.reduceAdd, ↓reduceIte, ↓reduceCtorEq, Nat.reduceEqDiff, Nat.reduceAdd, Nat.reduceSub, Nat.reduceMul, Nat.reduceLeDiff, Nat.reduceLT]
  try rfl

/-- The state of slices.MinFunc behind so many. -/
def pre4 (f : Dy → Dy → Dy) (p q r s : Dy) : Nat → Dy
  | 0 => p
  | 1 => p
  | 2 => f p q
  | 3 => f (f p q) r
  | _ => f (f (f p q) r) s
def cl4 (p q r s : Dy) : PV := .lst 4 [.bool p.s, NN p.m, .int .i64 p.e, .bool q.s, NN q.m, .int .i64 q.e, .bool r.s, NN r.m, .int .i64 r.e, .bool s.s, NN s.m, .int .i64 s.e]
theorem q_MinFunc {p q r s : Dy} (hp : RD p.pv p) (hq : RD q.pv q) (hr : RD r.pv r) (hs : RD s.pv s) : PC E 168 [cl4 p q r s, .clo 80 []] (min4 p q r s).pv := by
  refine PC.of_body follows Tryz.func168 (by decide +kernel) rfl (by kernel_rfl) (Nat.le_of_ble_eq_true rfl) (walk ?_)
  have h2 : RD (minD p q).pv (minD p q) := minD_P (P := fun d => RD d.pv d) hp hq
  have h3 : RD (minD (minD p q) r).pv (minD (minD p q) r) := minD_P (P := fun d => RD d.pv d) h2 hr
  have k1 := r_Cmp hq hp
  have k2 := r_Cmp hr h2
  have k3 := r_Cmp hs h3
  have d1 : minD p q = if cmpD q p < 0 then q else p := rfl
  have d2 : minD (minD p q) r = if cmpD r (minD p q) < 0 then r else (minD p q) := rfl
  have d3 : minD (minD (minD p q) r) s = if cmpD s (minD (minD p q) r) < 0 then s else (minD (minD p q) r) := rfl
  have v1 : IntKind.wrap .i64 2 = 2 := by decide
  have v2 : IntKind.wrap .i64 3 = 3 := by decide
  have v3 : IntKind.wrap .i64 4 = 4 := by decide
  unfold cl4 min4
  simp only [Dy.pv, DP] at k1 k2 k3 ⊢
  simp only [Tryz.f168, Int.cast_ofNat_Int, go_sem, Int.reduceToNat, Int.reduceEq, Int.reduceNe, Int.reduceLT, Int.reduceLE, Int.reduceNeg, Int.reduceAdd, ↓reduceIte, ↓reduceCtorEq, Nat.reduceEqDiff, Nat.reduceAdd, Nat.reduceSub, Nat.reduceMul, Nat.reduceLeDiff, Nat.reduceLT]
  refine PLoop.intro (fun i : Nat => ⟨[(0, .val (.lst 4 [.bool p.s, NN p.m, .int .i64 p.e, .bool q.s, NN q.m, .int .i64 q.e, .bool r.s, NN r.m, .int .i64 r.e, .bool s.s, NN s.m, .int .i64 s.e])), (1, .val (.clo 80 [])), (4, .ptr 4 0), (5, .ptr 5 0), (6, .val (.int .i64 i))],
    [(4, (.box [.bool false, .lst 0 [], .int .i64 0], false)), (5, (.box [.bool (pre4 minD p q r s i).s, NN (pre4 minD p q r s i).m, .int .i64 (pre4 minD p q r s i).e], false))]⟩) (fun i => 1 ≤ i ∧ i ≤ 4) (fun i => 4 - i) 1 (by decide) ?_ fun i hi => walk ?_
  · simp [Wk, sget, killL, kill1, SV.key, pre4]
  obtain ⟨hi1, hi2⟩ := hi
  rcases i with _ | _ | _ | _ | _ | i
  · omega
  · simp only [pre4]
    simp only [Tryz.f168, Int.cast_ofNat_Int, v1, v2, v3, go_sem, Int.reduceToNat, Int.reduceEq, Int.reduceNe, Int.reduceLT, Int.reduceLE, Int.reduceNeg, Int.reduceAdd, ↓reduceIte, ↓reduceCtorEq, Nat.reduceEqDiff, Nat.reduceAdd, Nat.reduceSub, Nat.reduceMul, Nat.reduceLeDiff, Nat.reduceLT]
    refine qcall_i (k1) ?_; simp only [Tryz.f168, Int.cast_ofNat_Int, v1, v2, v3, go_sem, Int.reduceToNat, Int.reduceEq, Int.reduceNe, Int.reduceLT, Int.reduceLE, Int.reduceNeg, Int.reduceAdd, ↓reduceIte, ↓reduceCtorEq, Nat.reduceEqDiff, Nat.reduceAdd, Nat.reduceSub, Nat.reduceMul, Nat.reduceLeDiff, Nat.reduceLT]
    refine qif_d (fun h => ?_) (fun h => ?_)
    · simp only [Tryz.f168, Int.cast_ofNat_Int, v1, v2, v3, go_sem, Int.reduceToNat, Int.reduceEq, Int.reduceNe, Int.reduceLT, Int.reduceLE, Int.reduceNeg, Int.reduceAdd, ↓reduceIte, ↓reduceCtorEq, Nat.reduceEqDiff, Nat.reduceAdd, Nat.reduceSub, Nat.reduceMul, Nat.reduceLeDiff, Nat.reduceLT]
      refine ⟨2, by omega, by omega, ?_⟩
      simp only [pre4]
      rw [d1, if_pos h]
      simp [Wk, sget, killL, kill1, SV.key, setCells]
    · simp only [Tryz.f168, Int.cast_ofNat_Int, v1, v2, v3, go_sem, Int.reduceToNat, Int.reduceEq, Int.reduceNe, Int.reduceLT, Int.reduceLE, Int.reduceNeg, Int.reduceAdd, ↓reduceIte, ↓reduceCtorEq, Nat.reduceEqDiff, Nat.reduceAdd, Nat.reduceSub, Nat.reduceMul, Nat.reduceLeDiff, Nat.reduceLT]
      refine ⟨2, by omega, by omega, ?_⟩
      simp only [pre4]
      rw [d1, if_neg h]
      simp [Wk, sget, killL, kill1, SV.key]
  · simp only [pre4]
    simp only [Tryz.f168, Int.cast_ofNat_Int, v1, v2, v3, go_sem, Int.reduceToNat, Int.reduceEq, Int.reduceNe, Int.reduceLT, Int.reduceLE, Int.reduceNeg, Int.reduceAdd, ↓reduceIte, ↓reduceCtorEq, Nat.reduceEqDiff, Nat.reduceAdd, Nat.reduceSub, Nat.reduceMul, Nat.reduceLeDiff, Nat.reduceLT]
    refine qcall_i (k2) ?_; simp only [Tryz.f168, Int.cast_ofNat_Int, v1, v2, v3, go_sem, Int.reduceToNat, Int.reduceEq, Int.reduceNe, Int.reduceLT, Int.reduceLE, Int.reduceNeg, Int.reduceAdd, ↓reduceIte, ↓reduceCtorEq, Nat.reduceEqDiff, Nat.reduceAdd, Nat.reduceSub, Nat.reduceMul, Nat.reduceLeDiff, Nat.reduceLT]
    refine qif_d (fun h => ?_) (fun h => ?_)
    · simp only [Tryz.f168, Int.cast_ofNat_Int, v1, v2, v3, go_sem, Int.reduceToNat, Int.reduceEq, Int.reduceNe, Int.reduceLT, Int.reduceLE, Int.reduceNeg, Int.reduceAdd, ↓reduceIte, ↓reduceCtorEq, Nat.reduceEqDiff, Nat.reduceAdd, Nat.reduceSub, Nat.reduceMul, Nat.reduceLeDiff, Nat.reduceLT]
      refine ⟨3, by omega, by omega, ?_⟩
      simp only [pre4]
      rw [d2, if_pos h]
      simp [Wk, sget, killL, kill1, SV.key, setCells]
    · simp only [Tryz.f168, Int.cast_ofNat_Int, v1, v2, v3, go_sem, Int.reduceToNat, Int.reduceEq, Int.reduceNe, Int.reduceLT, Int.reduceLE, Int.reduceNeg, Int.reduceAdd, ↓reduceIte, ↓reduceCtorEq, Nat.reduceEqDiff, Nat.reduceAdd, Nat.reduceSub, Nat.reduceMul, Nat.reduceLeDiff, Nat.reduceLT]
      refine ⟨3, by omega, by omega, ?_⟩
      simp only [pre4]
      rw [d2, if_neg h]
      simp [Wk, sget, killL, kill1, SV.key]
  · simp only [pre4]
    simp only [Tryz.f168, Int.cast_ofNat_Int, v1, v2, v3, go_sem, Int.reduceToNat, Int.reduceEq, Int.reduceNe, Int.reduceLT, Int.reduceLE, Int.reduceNeg, Int.reduceAdd, ↓reduceIte, ↓reduceCtorEq, Nat.reduceEqDiff, Nat.reduceAdd, Nat.reduceSub, Nat.reduceMul, Nat.reduceLeDiff, Nat.reduceLT]
    refine qcall_i (k3) ?_; simp only [Tryz.f168, Int.cast_ofNat_Int, v1, v2, v3, go_sem, Int.reduceToNat, Int.reduceEq, Int.reduceNe, Int.reduceLT, Int.reduceLE, Int.reduceNeg, Int.reduceAdd, ↓reduceIte, ↓reduceCtorEq, Nat.reduceEqDiff, Nat.reduceAdd, Nat.reduceSub, Nat.reduceMul, Nat.reduceLeDiff, Nat.reduceLT]
    refine qif_d (fun h => ?_) (fun h => ?_)
    · simp only [Tryz.f168, Int.cast_ofNat_Int, v1, v2, v3, go_sem, Int.reduceToNat, Int.reduceEq, Int.reduceNe, Int.reduceLT, Int.reduceLE, Int.reduceNeg, Int.reduceAdd, ↓reduceIte, ↓reduceCtorEq, Nat.reduceEqDiff, Nat.reduceAdd, Nat.reduceSub, Nat.reduceMul, Nat.reduceLeDiff, Nat.reduceLT]
      refine ⟨4, by omega, by omega, ?_⟩
      simp only [pre4]
      rw [d3, if_pos h]
      simp [Wk, sget, killL, kill1, SV.key, setCells]
    · simp only [Tryz.f168, Int.cast_ofNat_Int, v1, v2, v3, go_sem, Int.reduceToNat, Int.reduceEq, Int.reduceNe, Int.reduceLT, Int.reduceLE, Int.reduceNeg, Int.reduceAdd, ↓reduceIte, ↓reduceCtorEq, Nat.reduceEqDiff, Nat.reduceAdd, Nat.reduceSub, Nat.reduceMul, Nat.reduceLeDiff, Nat.reduceLT]
      refine ⟨4, by omega, by omega, ?_⟩
      simp only [pre4]
      rw [d3, if_neg h]
      simp [Wk, sget, killL, kill1, SV.key]
  · simp only [pre4]
    simp only [Tryz.f168, Int.cast_ofNat_Int, go_sem, Int.reduceToNat, Int.reduceEq, Int.reduceNe, Int.reduceLT, Int.reduceLE, Int.reduceNeg, Int.reduceAdd, ↓reduceIte, ↓reduceCtorEq, Nat.reduceEqDiff, Nat.reduceAdd, Nat.reduceSub, Nat.reduceMul, Nat.reduceLeDiff, Nat.reduceLT]
    try rfl
  · omega
theorem q_MaxFunc {p q r s : Dy} (hp : RD p.pv p) (hq : RD q.pv q) (hr : RD r.pv r) (hs : RD s.pv s) : PC E 169 [cl4 p q r s, .clo 80 []] (max4 p q r s).pv := by
  refine PC.of_body follows Tryz.func169 (by decide +kernel) rfl (by kernel_rfl) (Nat.le_of_ble_eq_true rfl) (walk ?_)
  have h2 : RD (maxD p q).pv (maxD p q) := maxD_P (P := fun d => RD d.pv d) hp hq
  have h3 : RD (maxD (maxD p q) r).pv (maxD (maxD p q) r) := maxD_P (P := fun d => RD d.pv d) h2 hr
  have k1 := r_Cmp hq hp
  have k2 := r_Cmp hr h2
  have k3 := r_Cmp hs h3
  have d1 : maxD p q = if 0 < cmpD q p then q else p := rfl
  have d2 : maxD (maxD p q) r = if 0 < cmpD r (maxD p q) then r else (maxD p q) := rfl
  have d3 : maxD (maxD (maxD p q) r) s = if 0 < cmpD s (maxD (maxD p q) r) then s else (maxD (maxD p q) r) := rfl
  have v1 : IntKind.wrap .i64 2 = 2 := by decide
  have v2 : IntKind.wrap .i64 3 = 3 := by decide
  have v3 : IntKind.wrap .i64 4 = 4 := by decide
  unfold cl4 max4
  simp only [Dy.pv, DP] at k1 k2 k3 ⊢
  simp only [Tryz.f169, Int.cast_ofNat_Int, go_sem, Int.reduceToNat, Int.reduceEq, Int.reduceNe, Int.reduceLT, Int.reduceLE, Int.reduceNeg, Int.reduceAdd, ↓reduceIte, ↓reduceCtorEq, Nat.reduceEqDiff, Nat.reduceAdd, Nat.reduceSub, Nat.reduceMul, Nat.reduceLeDiff, Nat.reduceLT]
  refine PLoop.intro (fun i : Nat => ⟨[(0, .val (.lst 4 [.bool p.s, NN p.m, .int .i64 p.e, .bool q.s, NN q.m, .int .i64 q.e, .bool r.s, NN r.m, .int .i64 r.e, .bool s.s, NN s.m, .int .i64 s.e])), (1, .val (.clo 80 [])), (4, .ptr 4 0), (5, .ptr 5 0), (6, .val (.int .i64 i))],
    [(4, (.box [.bool false, .lst 0 [], .int .i64 0], false)), (5, (.box [.bool (pre4 maxD p q r s i).s, NN (pre4 maxD p q r s i).m, .int .i64 (pre4 maxD p q r s i).e], false))]⟩) (fun i => 1 ≤ i ∧ i ≤ 4) (fun i => 4 - i) 1 (by decide) ?_ fun i hi => walk ?_
  · simp [Wk, sget, killL, kill1, SV.key, pre4]
  obtain ⟨hi1, hi2⟩ := hi
  rcases i with _ | _ | _ | _ | _ | i
  · omega
  · simp only [pre4]
    simp only [Tryz.f169, Int.cast_ofNat_Int, v1, v2, v3, go_sem, Int.reduceToNat, Int.reduceEq, Int.reduceNe, Int.reduceLT, Int.reduceLE, Int.reduceNeg, Int.reduceAdd, ↓reduceIte, ↓reduceCtorEq, Nat.reduceEqDiff, Nat.reduceAdd, Nat.reduceSub, Nat.reduceMul, Nat.reduceLeDiff, Nat.reduceLT]
    refine qcall_i (k1) ?_; simp only [Tryz.f169, Int.cast_ofNat_Int, v1, v2, v3, go_sem, Int.reduceToNat, Int.reduceEq, Int.reduceNe, Int.reduceLT, Int.reduceLE, Int.reduceNeg, Int.reduceAdd, ↓reduceIte, ↓reduceCtorEq, Nat.reduceEqDiff, Nat.reduceAdd, Nat.reduceSub, Nat.reduceMul, Nat.reduceLeDiff, Nat.reduceLT]
    refine qif_d (fun h => ?_) (fun h => ?_)
    · simp only [Tryz.f169, Int.cast_ofNat_Int, v1, v2, v3, go_sem, Int.reduceToNat, Int.reduceEq, Int.reduceNe, Int.reduceLT, Int.reduceLE, Int.reduceNeg, Int.reduceAdd, ↓reduceIte, ↓reduceCtorEq, Nat.reduceEqDiff, Nat.reduceAdd, Nat.reduceSub, Nat.reduceMul, Nat.reduceLeDiff, Nat.reduceLT]
      refine ⟨2, by omega, by omega, ?_⟩
      simp only [pre4]
      rw [d1, if_pos h]
      simp [Wk, sget, killL, kill1, SV.key, setCells]
    · simp only [Tryz.f169, Int.cast_ofNat_Int, v1, v2, v3, go_sem, Int.reduceToNat, Int.reduceEq, Int.reduceNe, Int.reduceLT, Int.reduceLE, Int.reduceNeg, Int.reduceAdd, ↓reduceIte, ↓reduceCtorEq, Nat.reduceEqDiff, Nat.reduceAdd, Nat.reduceSub, Nat.reduceMul, Nat.reduceLeDiff, Nat.reduceLT]
      refine ⟨2, by omega, by omega, ?_⟩
      simp only [pre4]
      rw [d1, if_neg h]
      simp [Wk, sget, killL, kill1, SV.key]
  · simp only [pre4]
    simp only [Tryz.f169, Int.cast_ofNat_Int, v1, v2, v3, go_sem, Int.reduceToNat, Int.reduceEq, Int.reduceNe, Int.reduceLT, Int.reduceLE, Int.reduceNeg, Int.reduceAdd, ↓reduceIte, ↓reduceCtorEq, Nat.reduceEqDiff, Nat.reduceAdd, Nat.reduceSub, Nat.reduceMul, Nat.reduceLeDiff, Nat.reduceLT]
    refine qcall_i (k2) ?_; simp only [Tryz.f169, Int.cast_ofNat_Int, v1, v2, v3, go_sem, Int.reduceToNat, Int.reduceEq, Int.reduceNe, Int.reduceLT, Int.reduceLE, Int.reduceNeg, Int.reduceAdd, ↓reduceIte, ↓reduceCtorEq, Nat.reduceEqDiff, Nat.reduceAdd, Nat.reduceSub, Nat.reduceMul, Nat.reduceLeDiff, Nat.reduceLT]
    refine qif_d (fun h => ?_) (fun h => ?_)
    · simp only [Tryz.f169, Int.cast_ofNat_Int, v1, v2, v3, go_sem, Int.reduceToNat, Int.reduceEq, Int.reduceNe, Int.reduceLT, Int.reduceLE, Int.reduceNeg, Int.reduceAdd, ↓reduceIte, ↓reduceCtorEq, Nat.reduceEqDiff, Nat.reduceAdd, Nat.reduceSub, Nat.reduceMul, Nat.reduceLeDiff, Nat.reduceLT]
      refine ⟨3, by omega, by omega, ?_⟩
      simp only [pre4]
      rw [d2, if_pos h]
      simp [Wk, sget, killL, kill1, SV.key, setCells]
    · simp only [Tryz.f169, Int.cast_ofNat_Int, v1, v2, v3, go_sem, Int.reduceToNat, Int.reduceEq, Int.reduceNe, Int.reduceLT, Int.reduceLE, Int.reduceNeg, Int.reduceAdd, ↓reduceIte, ↓reduceCtorEq, Nat.reduceEqDiff, Nat.reduceAdd, Nat.reduceSub, Nat.reduceMul, Nat.reduceLeDiff, Nat.reduceLT]
      refine ⟨3, by omega, by omega, ?_⟩
      simp only [pre4]
      rw [d2, if_neg h]
      simp [Wk, sget, killL, kill1, SV.key]
  · simp only [pre4]
    simp only [Tryz.f169, Int.cast_ofNat_Int, v1, v2, v3, go_sem, Int.reduceToNat, Int.reduceEq, Int.reduceNe, Int.reduceLT, Int.reduceLE, Int.reduceNeg, Int.reduceAdd, ↓reduceIte, ↓reduceCtorEq, Nat.reduceEqDiff, Nat.reduceAdd, Nat.reduceSub, Nat.reduceMul, Nat.reduceLeDiff, Nat.reduceLT]
    refine qcall_i (k3) ?_; simp only [Tryz.f169, Int.cast_ofNat_Int, v1, v2, v3, go_sem, Int.reduceToNat, Int.reduceEq, Int.reduceNe, Int.reduceLT, Int.reduceLE, Int.reduceNeg, Int.reduceAdd, ↓reduceIte, ↓reduceCtorEq, Nat.reduceEqDiff, Nat.reduceAdd, Nat.reduceSub, Nat.reduceMul, Nat.reduceLeDiff, Nat.reduceLT]
    refine qif_d (fun h => ?_) (fun h => ?_)
    · simp only [Tryz.f169, Int.cast_ofNat_Int, v1, v2, v3, go_sem, Int.reduceToNat, Int.reduceEq, Int.reduceNe, Int.reduceLT, Int.reduceLE, Int.reduceNeg, Int.reduceAdd, ↓reduceIte, ↓reduceCtorEq, Nat.reduceEqDiff, Nat.reduceAdd, Nat.reduceSub, Nat.reduceMul, Nat.reduceLeDiff, Nat.reduceLT]
      refine ⟨4, by omega, by omega, ?_⟩
      simp only [pre4]
      rw [d3, if_pos h]
      simp [Wk, sget, killL, kill1, SV.key, setCells]
    · simp only [Tryz.f169, Int.cast_ofNat_Int, v1, v2, v3, go_sem, Int.reduceToNat, Int.reduceEq, Int.reduceNe, Int.reduceLT, Int.reduceLE, Int.reduceNeg, Int.reduceAdd, ↓reduceIte, ↓reduceCtorEq, Nat.reduceEqDiff, Nat.reduceAdd, Nat.reduceSub, Nat.reduceMul, Nat.reduceLeDiff, Nat.reduceLT]
      refine ⟨4, by omega, by omega, ?_⟩
      simp only [pre4]
      rw [d3, if_neg h]
      simp [Wk, sget, killL, kill1, SV.key]
  · simp only [pre4]
    simp only [Tryz.f169, Int.cast_ofNat_Int, go_sem, Int.reduceToNat, Int.reduceEq, Int.reduceNe, Int.reduceLT, Int.reduceLE, Int.reduceNeg, Int.reduceAdd, ↓reduceIte, ↓reduceCtorEq, Nat.reduceEqDiff, Nat.reduceAdd, Nat.reduceSub, Nat.reduceMul, Nat.reduceLeDiff, Nat.reduceLT]
    try rfl
  · omega

/-- A product of two intervals. -/
theorem q_Mul {p q : PV} {i k : Iv} {K J : Nat} (h : RI p i) (hk : RI q k) (hl : i.lim K) (hl' : k.lim J) (hK : K + J ≤ 32767) : PC E 125 [p, q] (ivV (i.right ∧ k.right) (mulI i k)) := by
  have k1 := q_Right h
  have k2 := q_Right hk
  obtain ⟨s1, P1, e1, s2, P2, e2, rfl, h1, h2⟩ := h
  obtain ⟨t1, Q1, g1, t2, Q2, g2, rfl, h3, h4⟩ := hk
  refine PC.of_body follows Tryz.func125 (by decide +kernel) rfl (by kernel_rfl) (Nat.le_of_ble_eq_true rfl) (walk ?_)
  unfold ivV
  by_cases f1 : i.right
  case neg =>
    rw [decide_eq_false f1] at k1
    rw [if_neg (fun h => f1 h.1)]
    simp only [Tryz.f125, go_sem, Int.reduceToNat, Int.reduceEq, Int.reduceNe, Int.reduceLT, Int.reduceLE, Int.reduceNeg, Int.reduceAdd, ↓reduceIte, ↓reduceCtorEq, Nat.reduceEqDiff, Nat.reduceAdd, Nat.reduceSub, Nat.reduceMul, Nat.reduceLeDiff, Nat.reduceLT]
    refine qcall_i (k1) ?_; simp only [Tryz.f125, go_sem, Int.reduceToNat, Int.reduceEq, Int.reduceNe, Int.reduceLT, Int.reduceLE, Int.reduceNeg, Int.reduceAdd, ↓reduceIte, ↓reduceCtorEq, Nat.reduceEqDiff, Nat.reduceAdd, Nat.reduceSub, Nat.reduceMul, Nat.reduceLeDiff, Nat.reduceLT]
    try rfl
  rw [decide_eq_true f1] at k1
  by_cases f2 : k.right
  case neg =>
    rw [decide_eq_false f2] at k2
    rw [if_neg (fun h => f2 h.2)]
    simp only [Tryz.f125, go_sem, Int.reduceToNat, Int.reduceEq, Int.reduceNe, Int.reduceLT, Int.reduceLE, Int.reduceNeg, Int.reduceAdd, ↓reduceIte, ↓reduceCtorEq, Nat.reduceEqDiff, Nat.reduceAdd, Nat.reduceSub, Nat.reduceMul, Nat.reduceLeDiff, Nat.reduceLT]
    refine qcall_i (k1) ?_; simp only [Tryz.f125, go_sem, Int.reduceToNat, Int.reduceEq, Int.reduceNe, Int.reduceLT, Int.reduceLE, Int.reduceNeg, Int.reduceAdd, ↓reduceIte, ↓reduceCtorEq, Nat.reduceEqDiff, Nat.reduceAdd, Nat.reduceSub, Nat.reduceMul, Nat.reduceLeDiff, Nat.reduceLT]
    refine qcall_i (k2) ?_; simp only [Tryz.f125, go_sem, Int.reduceToNat, Int.reduceEq, Int.reduceNe, Int.reduceLT, Int.reduceLE, Int.reduceNeg, Int.reduceAdd, ↓reduceIte, ↓reduceCtorEq, Nat.reduceEqDiff, Nat.reduceAdd, Nat.reduceSub, Nat.reduceMul, Nat.reduceLeDiff, Nat.reduceLT]
    try rfl
  rw [decide_eq_true f2] at k2
  rw [if_pos ⟨f1, f2⟩]
  have k3 := r_Mul h1 h3
  have k4 := r_Mul h1 h4
  have k5 := r_Mul h2 h3
  have k6 := r_Mul h2 h4
  rw [mulV_lim hl.1 hl'.1 hK] at k3
  rw [mulV_lim hl.1 hl'.2 hK] at k4
  rw [mulV_lim hl.2 hl'.1 hK] at k5
  rw [mulV_lim hl.2 hl'.2 hK] at k6
  have L3 := (hl.1.mul hl'.1).RD (by omega)
  have L4 := (hl.1.mul hl'.2).RD (by omega)
  have L5 := (hl.2.mul hl'.1).RD (by omega)
  have L6 := (hl.2.mul hl'.2).RD (by omega)
  have k7 := q_MinFunc L3 L4 L5 L6
  have k8 := q_MaxFunc L3 L4 L5 L6
  unfold mulI
  generalize mulS i.lo k.lo = m1 at *
  generalize mulS i.lo k.hi = m2 at *
  generalize mulS i.hi k.lo = m3 at *
  generalize mulS i.hi k.hi = m4 at *
  generalize min4 m1 m2 m3 m4 = mn at *
  generalize max4 m1 m2 m3 m4 = mx at *
  have v1 : IntKind.wrap .i64 1 = 1 := by decide
  have v2 : IntKind.wrap .i64 2 = 2 := by decide
  unfold cl4 at k7 k8
  simp only [Dy.pv, DP] at k3 k4 k5 k6 k7 k8
  simp only [Tryz.f125, go_sem, Int.reduceToNat, Int.reduceEq, Int.reduceNe, Int.reduceLT, Int.reduceLE, Int.reduceNeg, Int.reduceAdd, ↓reduceIte, ↓reduceCtorEq, Nat.reduceEqDiff, Nat.reduceAdd, Nat.reduceSub, Nat.reduceMul, Nat.reduceLeDiff, Nat.reduceLT]
  refine qcall_i (k1) ?_; simp only [Tryz.f125, go_sem, Int.reduceToNat, Int.reduceEq, Int.reduceNe, Int.reduceLT, Int.reduceLE, Int.reduceNeg, Int.reduceAdd, ↓reduceIte, ↓reduceCtorEq, Nat.reduceEqDiff, Nat.reduceAdd, Nat.reduceSub, Nat.reduceMul, Nat.reduceLeDiff, Nat.reduceLT]
  refine qcall_i (k2) ?_; simp only [Tryz.f125, List.range_zero, List.getD_cons_zero, List.getD_cons_succ, Nat.reduceMod, Int.cast_ofNat_Int, go_sem, Int.reduceToNat, Int.reduceEq, Int.reduceNe, Int.reduceLT, Int.reduceLE, Int.reduceNeg, Int.reduceAdd, ↓reduceIte, ↓reduceCtorEq, Nat.reduceEqDiff, Nat.reduceAdd, Nat.reduceSub, Nat.reduceMul, Nat.reduceLeDiff, Nat.reduceLT]
  refine qloop_u 3 ?_
  simp only [Tryz.f125, qunr_succ, Int.cast_ofNat_Int, List.range_zero, List.getD_cons_zero, List.getD_cons_succ, Nat.reduceMod, List.filter_cons, List.filter_nil, v1, v2, go_sem, Int.reduceToNat, Int.reduceEq, Int.reduceNe, Int.reduceLT, Int.reduceLE, Int.reduceNeg, Int.reduceAdd, ↓reduceIte, ↓reduceCtorEq, Nat.reduceEqDiff, Nat.reduceAdd, Nat.reduceSub, Nat.reduceMul, Nat.reduceLeDiff, Nat.reduceLT]
  refine qloop_u 3 ?_
  simp only [Tryz.f125, qunr_succ, Int.cast_ofNat_Int, List.range_zero, List.getD_cons_zero, List.getD_cons_succ, Nat.reduceMod, List.filter_cons, List.filter_nil, v1, v2, go_sem, Int.reduceToNat, Int.reduceEq, Int.reduceNe, Int.reduceLT, Int.reduceLE, Int.reduceNeg, Int.reduceAdd, ↓reduceIte, ↓reduceCtorEq, Nat.reduceEqDiff, Nat.reduceAdd, Nat.reduceSub, Nat.reduceMul, Nat.reduceLeDiff, Nat.reduceLT]
  refine qcall_i (k3) ?_; simp only [Tryz.f125, qunr_succ, Int.cast_ofNat_Int, List.range_zero, List.getD_cons_zero, List.getD_cons_succ, Nat.reduceMod, List.filter_cons, List.filter_nil, v1, v2, go_sem, Int.reduceToNat, Int.reduceEq, Int.reduceNe, Int.reduceLT, Int.reduceLE, Int.reduceNeg, Int.reduceAdd, ↓reduceIte, ↓reduceCtorEq, Nat.reduceEqDiff, Nat.reduceAdd, Nat.reduceSub, Nat.reduceMul, Nat.reduceLeDiff, Nat.reduceLT]
  refine qand_i (by simp [maxLen]) ?_
  simp only [Tryz.f125, qunr_succ, Int.cast_ofNat_Int, List.range_zero, List.getD_cons_zero, List.getD_cons_succ, Nat.reduceMod, List.filter_cons, List.filter_nil, v1, v2, go_sem, Int.reduceToNat, Int.reduceEq, Int.reduceNe, Int.reduceLT, Int.reduceLE, Int.reduceNeg, Int.reduceAdd, ↓reduceIte, ↓reduceCtorEq, Nat.reduceEqDiff, Nat.reduceAdd, Nat.reduceSub, Nat.reduceMul, Nat.reduceLeDiff, Nat.reduceLT]
  refine qcall_i (k4) ?_; simp only [Tryz.f125, qunr_succ, Int.cast_ofNat_Int, List.range_zero, List.getD_cons_zero, List.getD_cons_succ, Nat.reduceMod, List.filter_cons, List.filter_nil, v1, v2, go_sem, Int.reduceToNat, Int.reduceEq, Int.reduceNe, Int.reduceLT, Int.reduceLE, Int.reduceNeg, Int.reduceAdd, ↓reduceIte, ↓reduceCtorEq, Nat.reduceEqDiff, Nat.reduceAdd, Nat.reduceSub, Nat.reduceMul, Nat.reduceLeDiff, Nat.reduceLT]
  refine qand_i (by simp [maxLen]) ?_
  simp only [Tryz.f125, qunr_succ, Int.cast_ofNat_Int, List.range_zero, List.getD_cons_zero, List.getD_cons_succ, Nat.reduceMod, List.filter_cons, List.filter_nil, v1, v2, go_sem, Int.reduceToNat, Int.reduceEq, Int.reduceNe, Int.reduceLT, Int.reduceLE, Int.reduceNeg, Int.reduceAdd, ↓reduceIte, ↓reduceCtorEq, Nat.reduceEqDiff, Nat.reduceAdd, Nat.reduceSub, Nat.reduceMul, Nat.reduceLeDiff, Nat.reduceLT]
  refine qloop_u 3 ?_
  simp only [Tryz.f125, qunr_succ, Int.cast_ofNat_Int, List.range_zero, List.getD_cons_zero, List.getD_cons_succ, Nat.reduceMod, List.filter_cons, List.filter_nil, v1, v2, go_sem, Int.reduceToNat, Int.reduceEq, Int.reduceNe, Int.reduceLT, Int.reduceLE, Int.reduceNeg, Int.reduceAdd, ↓reduceIte, ↓reduceCtorEq, Nat.reduceEqDiff, Nat.reduceAdd, Nat.reduceSub, Nat.reduceMul, Nat.reduceLeDiff, Nat.reduceLT]
  refine qcall_i (k5) ?_; simp only [Tryz.f125, qunr_succ, Int.cast_ofNat_Int, List.range_zero, List.getD_cons_zero, List.getD_cons_succ, Nat.reduceMod, List.filter_cons, List.filter_nil, v1, v2, go_sem, Int.reduceToNat, Int.reduceEq, Int.reduceNe, Int.reduceLT, Int.reduceLE, Int.reduceNeg, Int.reduceAdd, ↓reduceIte, ↓reduceCtorEq, Nat.reduceEqDiff, Nat.reduceAdd, Nat.reduceSub, Nat.reduceMul, Nat.reduceLeDiff, Nat.reduceLT]
  refine qand_i (by simp [maxLen]) ?_
  simp only [Tryz.f125, qunr_succ, Int.cast_ofNat_Int, List.range_zero, List.getD_cons_zero, List.getD_cons_succ, Nat.reduceMod, List.filter_cons, List.filter_nil, v1, v2, go_sem, Int.reduceToNat, Int.reduceEq, Int.reduceNe, Int.reduceLT, Int.reduceLE, Int.reduceNeg, Int.reduceAdd, ↓reduceIte, ↓reduceCtorEq, Nat.reduceEqDiff, Nat.reduceAdd, Nat.reduceSub, Nat.reduceMul, Nat.reduceLeDiff, Nat.reduceLT]
  refine qcall_i (k6) ?_; simp only [Tryz.f125, qunr_succ, Int.cast_ofNat_Int, List.range_zero, List.getD_cons_zero, List.getD_cons_succ, Nat.reduceMod, List.filter_cons, List.filter_nil, v1, v2, go_sem, Int.reduceToNat, Int.reduceEq, Int.reduceNe, Int.reduceLT, Int.reduceLE, Int.reduceNeg, Int.reduceAdd, ↓reduceIte, ↓reduceCtorEq, Nat.reduceEqDiff, Nat.reduceAdd, Nat.reduceSub, Nat.reduceMul, Nat.reduceLeDiff, Nat.reduceLT]
  refine qand_i (by simp [maxLen]) ?_
  simp only [Tryz.f125, qunr_succ, Int.cast_ofNat_Int, List.range_zero, List.getD_cons_zero, List.getD_cons_succ, Nat.reduceMod, List.filter_cons, List.filter_nil, v1, v2, go_sem, Int.reduceToNat, Int.reduceEq, Int.reduceNe, Int.reduceLT, Int.reduceLE, Int.reduceNeg, Int.reduceAdd, ↓reduceIte, ↓reduceCtorEq, Nat.reduceEqDiff, Nat.reduceAdd, Nat.reduceSub, Nat.reduceMul, Nat.reduceLeDiff, Nat.reduceLT]
  refine qcall_i (k7) ?_; simp only [Tryz.f125, go_sem, Int.reduceToNat, Int.reduceEq, Int.reduceNe, Int.reduceLT, Int.reduceLE, Int.reduceNeg, Int.reduceAdd, ↓reduceIte, ↓reduceCtorEq, Nat.reduceEqDiff, Nat.reduceAdd, Nat.reduceSub, Nat.reduceMul, Nat.reduceLeDiff, Nat.reduceLT]
  refine qcall_i (k8) ?_; simp only [Tryz.f125, go_sem, Int.reduceToNat, Int.reduceEq, Int.reduceNe, Int.reduceLT, Int.reduceLE, Int.reduceNeg, Int.reduceAdd, ↓reduceIte, ↓reduceCtorEq, Nat.reduceEqDiff, Nat.reduceAdd, Nat.reduceSub, Nat.reduceMul, Nat.reduceLeDiff, Nat.reduceLT]
  try rfl
end Go.Proofs.YtejmlngnpekagaaGreatDoor
