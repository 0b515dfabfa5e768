/- Totals: sums of all, products of all; the laws' example. -/
import Derived.Test.YtfogjddcagckaaaDoorTot4
import Derived.Test.YtfogjddcagckaaaDoorTotW
open Go PG Go.Proofs
set_option maxRecDepth 100000
set_option linter.unusedSimpArgs false
set_option linter.unusedVariables false
namespace Go.Proofs.YtfogjddcagckaaaDoor
attribute [local go_sem] Lay2 Lay3 Lay4 Lay5 Lay6 Lay7 Lay8 Lay9 Lay10 Lay11 Lay12 Lay13 Lay14 Lay15 Lay16 Lay17 Lay18 Lay19 Lay21 Lay22 Lay23 Lay24 Lay27 Lay28 Lay29 Lay35 Lay36 Lay38 Lay39 Lay40 Lay42 Lay43 Lay45 Lay46 Lay67 Lay81 Lay82 Lay83 Lay84 Lay85 Lay86 Lay87 Lay90 Lay93 Lay94 Lay105 Lay116 Lay132 Lay138 Lay145 Lay162 Lay163 Lay201 qexec_seq qexec_skip qexec_exit qexec_ret qexec_block qexec_loop qexec_range qexec_cond qexec_region qexec_drawn qops_nil qops_none qops_some put_some put_none pblk_exit pblk_other newDsts_nil sget_cons sget_nil qval_some qbool_some qgs_bool qgs_und qfree_some qgrd_true qgrd_false qif_true qif_false qval_ite qval_itn qand_true map_ite map_some' map_none' qdo_move qdo_assign qdo_binOp qdo_pick qdo_unOp qdo_convert qdo_extract qdo_field qdo_fieldAddr qdo_alloc qdo_box qdo_build qdo_buildSlice qdo_load qdo_store qdo_nilCheck qdo_makeFunc qdo_makeSlice qdo_slice qdo_indexAddr qdo_call qcont_val qcont_new qcont_st qcont_app0 qcont_app qcont_inl qcont_call njSV_val njSV_nil njSV_row njSV_ptr njSV_sub binV_val binV_nil binV_nn binV_ptr bin_np bin_nnp nilCmp bin_add bin_sub bin_mul bin_quo bin_rem bin_and bin_or bin_xor bin_andNot bin_eql bin_neq bin_lss bin_leq bin_gtr bin_geq bin_shl bin_shr bin_seql bin_sneq bin_sadd bin_beql bin_aeql bin_aneq eqAnd_some eqCells_nil eqCells_cons fieldTypes isStruct eqCell bin_bneq un_not un_neg nj_ite Nat.beq stepA stepR isNew opSV constSV RV.sv allSome E_mu E_own qkeyIn_none qkeyIn_some qkeyAt_none qkeyAt_some Bool.or_false Bool.false_or Bool.or_true Bool.true_or cst setB res resSV pstart startL killL kill1 eraL frzL svPV rvPV rvInt rvSlice frzOf close closeL pconv pbuiltin pmax2 partPV setCells fillPV zrow bound newSV PV.cells Bk.cells Bk.with SV.key pres presL_nil presL_tmp presL_cell presC2_some cellPV_ptr presC List.toList_toArray List.size_toArray List.getElem?_drop Nat.mul_one Int.toNat_natCast Nat.not_lt_zero Nat.lt_irrefl decide_true decide_false Nat.not_lt Option.some.injEq PV.lst.injEq PV.int.injEq PV.bool.injEq PV.tuple.injEq List.cons.injEq Option.map_some Option.map_none Option.bind_some Option.toList List.map_cons List.map_nil List.nil_append List.cons_append List.append_nil List.zip_cons_cons List.zip_nil_left List.zip_nil_right List.getElem?_cons_zero List.getElem?_cons_succ List.drop_zero List.drop_succ_cons List.take_succ_cons List.take_zero List.set_cons_zero List.set_cons_succ List.length_cons List.length_nil List.length_set List.replicate_one List.replicate_zero bne_self_eq_false beq_self_eq_true Nat.zero_add Nat.add_zero Nat.zero_mul Bool.false_eq_true Bool.true_eq_false Bool.not_true Bool.not_false and_true true_and false_and and_false or_false false_or or_true true_or not_true_eq_false not_false_eq_true ne_eq gt_iff_lt List.mem_cons List.not_mem_nil
attribute [local go_sem ↓] pseq_normal pseq_ret pseq_exit pblk_normal pblk_ret newDsts_cons gdst_zero gdst_succ retQ_normal retQ_ret qneed_nil qneed_cons retM_normal retM_ret endR_normal endR_ret endR_exit

/-- The total of numbers, of products. -/
def sumT (l : List Nat) : Tt := l.foldl addT .zero
def dotT (l : List (Nat × Nat)) : Tt := l.foldl (fun t p => mulT t p.1 p.2) .zero
theorem addT_n (t : Tt) (x : Nat) : (addT t x).n = t.n + 1 := take_n _ _ _ _
theorem mulT_n (t : Tt) (x y : Nat) : (mulT t x y).n = t.n + 1 := take_n _ _ _ _
theorem sumT_snoc (l : List Nat) (x : Nat) : sumT (l ++ [x]) = addT (sumT l) x := by unfold sumT; rw [List.foldl_append]; rfl
theorem dotT_snoc (l : List (Nat × Nat)) (p : Nat × Nat) : dotT (l ++ [p]) = mulT (dotT l) p.1 p.2 := by unfold dotT; rw [List.foldl_append]; rfl
theorem sumT_take {l : List Nat} (h : l.length ≤ 65536) : ∀ i, i ≤ l.length → (sumT (l.take i)).ok ∧ (sumT (l.take i)).n = i
  | 0, _ => ⟨Tt.zero_ok, rfl⟩
  | i + 1, hi => by
    obtain ⟨h1, h2⟩ := sumT_take h i (by omega)
    rw [List.take_succ_eq_append_getElem (by omega), sumT_snoc]
    exact ⟨addT_ok h1 (by omega) _, by rw [addT_n, h2]⟩
theorem dotT_take {l : List (Nat × Nat)} (h : l.length ≤ 65536) : ∀ i, i ≤ l.length → (dotT (l.take i)).ok ∧ (dotT (l.take i)).n = i
  | 0, _ => ⟨Tt.zero_ok, rfl⟩
  | i + 1, hi => by
    obtain ⟨h1, h2⟩ := dotT_take h i (by omega)
    rw [List.take_succ_eq_append_getElem (by omega), dotT_snoc]
    exact ⟨mulT_ok h1 (by omega) _ _, by rw [mulT_n, h2]⟩
theorem bk_box (t : Tt) : ∃ cs, t.bk = .box cs := ⟨_, rfl⟩
theorem c_Sum {l : List Nat} (ol : Ok W l) (hl : l.length ≤ 65536) {dir : Int} (hd : 0 ≤ dir ∧ dir ≤ 3) : PC E 53 [NL l, .int .i64 dir] (resPV2 (worthS (sumT l) dir) 0) := by
  have k0 := T_Worth (t := .zero) Tt.zero_ok hd
  have hlast := sumT_take hl l.length (Nat.le_refl _)
  rw [List.take_length] at hlast
  have kw := T_Worth hlast.1 hd
  have hfun : ∀ i, i < l.length → PCM E 66 [.ptr 0 0, .val (.int .u64 (l.getD i 0 : Nat))] [(sumT (l.take i)).bk] (.val (.int .i64 0)) [(sumT (l.take (i + 1))).bk] := fun i hi => by
    obtain ⟨h1, h2⟩ := sumT_take hl i (by omega)
    have hx : l[i] < W := ol _ (List.getElem_mem _)
    have := T_Add h1 hx
    rw [if_pos (by omega), if_pos (by omega), ← sumT_snoc, ← List.take_succ_eq_append_getElem hi] at this
    rwa [show l.getD i 0 = l[i] by rw [List.getD_eq_getElem?_getD, List.getElem?_eq_getElem hi]; rfl]
  have e0 : sumT (l.take 0) = .zero := rfl
  have eL : sumT (l.take l.length) = sumT l := by rw [List.take_length]
  obtain ⟨B, hB⟩ : ∃ B : Nat → Bk, ∀ i, (sumT (l.take i)).bk = B i := ⟨_, fun _ => rfl⟩
  have hget : ∀ i, i < l.length → (U l)[i]? = some (.int .u64 (l.getD i 0 : Nat)) := fun i hi => U_getD hi
  generalize worthS (sumT l) dir = R at *
  refine PC.of_body follows Tryd.func53 (by decide +kernel) rfl (by kernel_rfl) (Nat.le_of_ble_eq_true rfl) (walk ?_)
  unfold resPV2 at k0 kw ⊢
  have hz : Tt.zero.bk = B 0 := by rw [← hB, e0]
  have hz2 : (sumT l).bk = B l.length := by rw [← hB, eL]
  simp only [hB] at hfun
  rw [hz] at k0
  rw [hz2] at kw
  have kn := T_New
  rw [hz] at kn
  simp only [NL]
  simp only [Tryd.f53, go_sem, Int.reduceToNat, Int.reduceEq, Int.reduceNe, Int.reduceLT, Int.reduceLE, Int.reduceNeg, Int.reduceAdd, ↓reduceIte, ↓reduceCtorEq, Nat.reduceEqDiff, Nat.reduceAdd, Nat.reduceSub, Nat.reduceMul, Nat.reduceLeDiff, Nat.reduceLT]
  refine qinl_i [] kn rfl (by decide) rfl (fun i b k hb => by simp at hb) (by intro d h; simp) (by intro h; cases h) ?_
  simp only [Tryd.f53, ren, eraO, eraL, List.getD_cons_zero, List.filter_cons, List.filter_nil, go_sem, Int.reduceToNat, Int.reduceEq, Int.reduceNe, Int.reduceLT, Int.reduceLE, Int.reduceNeg, Int.reduceAdd, ↓reduceIte, ↓reduceCtorEq, Nat.reduceEqDiff, Nat.reduceAdd, Nat.reduceSub, Nat.reduceMul, Nat.reduceLeDiff, Nat.reduceLT]
  refine qinl_i [12] (k0) rfl (by decide) rfl (one_blk rfl) (by intro d h; first | (cases h; decide) | cases h) (by intro h; first | rfl | cases h) ?_; simp only [Tryd.f53, ren, eraO, eraL, List.getD_cons_zero, List.getD_cons_succ, List.filter_cons, List.filter_nil, go_sem, Int.reduceToNat, Int.reduceEq, Int.reduceNe, Int.reduceLT, Int.reduceLE, Int.reduceNeg, Int.reduceAdd, ↓reduceIte, ↓reduceCtorEq, Nat.reduceEqDiff, Nat.reduceAdd, Nat.reduceSub, Nat.reduceMul, Nat.reduceLeDiff, Nat.reduceLT]
  refine PLoop.intro (fun i : Nat => ⟨[(1, .val (.int .i64 dir)), (4, .ptr 4 0), (6, .ptr 12 0), (23, .val (.lst l.length (U l))), (24, .val (.int .i64 l.length)), (25, .val (.int .i64 i))],
    [(4, (.box [.int .u64 0, .int .u8 0, .int .i64 0], false)), (12, (B i, false))]⟩) (fun i => i ≤ l.length) (fun i => l.length - i) 0 (Nat.zero_le _) ?_ fun i hi => walk ?_
  · simp [Wk, sget, killL, kill1, SV.key]
  have wi : IntKind.wrap .i64 ((i : Int) + 1) = ((i + 1 : Nat) : Int) := by rw [wrap64 (by omega) (by omega)]; omega
  simp only [Tryd.f53, go_sem, Int.reduceToNat, Int.reduceEq, Int.reduceNe, Int.reduceLT, Int.reduceLE, Int.reduceNeg, Int.reduceAdd, ↓reduceIte, ↓reduceCtorEq, Nat.reduceEqDiff, Nat.reduceAdd, Nat.reduceSub, Nat.reduceMul, Nat.reduceLeDiff, Nat.reduceLT]
  refine qif_d (fun h => ?_) (fun h => ?_)
  · have kf := hfun i (by omega)
    simp only [Tryd.f53, go_sem, Int.reduceToNat, Int.reduceEq, Int.reduceNe, Int.reduceLT, Int.reduceLE, Int.reduceNeg, Int.reduceAdd, ↓reduceIte, ↓reduceCtorEq, Nat.reduceEqDiff, Nat.reduceAdd, Nat.reduceSub, Nat.reduceMul, Nat.reduceLeDiff, Nat.reduceLT]
    refine qand_i (by first | omega | (simp [V_length, U_length, tab_length, maxLen]; done) | (simp [V_length, U_length, tab_length, maxLen]; omega) | (refine ⟨?_, ?_⟩ <;> first | omega | (simp [V_length, U_length, tab_length, maxLen]; done) | (simp [V_length, U_length, tab_length, maxLen]; omega))) ?_; simp only [Tryd.f53, go_sem, Int.reduceToNat, Int.reduceEq, Int.reduceNe, Int.reduceLT, Int.reduceLE, Int.reduceNeg, Int.reduceAdd, ↓reduceIte, ↓reduceCtorEq, Nat.reduceEqDiff, Nat.reduceAdd, Nat.reduceSub, Nat.reduceMul, Nat.reduceLeDiff, Nat.reduceLT]
    refine qval_i (congrArg (Option.map _) (hget i (by omega))) ?_
    simp only [Tryd.f53, go_sem, Int.reduceToNat, Int.reduceEq, Int.reduceNe, Int.reduceLT, Int.reduceLE, Int.reduceNeg, Int.reduceAdd, ↓reduceIte, ↓reduceCtorEq, Nat.reduceEqDiff, Nat.reduceAdd, Nat.reduceSub, Nat.reduceMul, Nat.reduceLeDiff, Nat.reduceLT]
    refine qinl_i [12] (kf) rfl (by decide) rfl (one_blk rfl) (by intro d h; first | (cases h; decide) | cases h) (by intro h; first | rfl | cases h) ?_; simp only [Tryd.f53, ren, eraO, eraL, List.getD_cons_zero, List.getD_cons_succ, List.filter_cons, List.filter_nil, go_sem, Int.reduceToNat, Int.reduceEq, Int.reduceNe, Int.reduceLT, Int.reduceLE, Int.reduceNeg, Int.reduceAdd, ↓reduceIte, ↓reduceCtorEq, Nat.reduceEqDiff, Nat.reduceAdd, Nat.reduceSub, Nat.reduceMul, Nat.reduceLeDiff, Nat.reduceLT]
    simp only [Tryd.f53, wi, go_sem, Int.reduceToNat, Int.reduceEq, Int.reduceNe, Int.reduceLT, Int.reduceLE, Int.reduceNeg, Int.reduceAdd, ↓reduceIte, ↓reduceCtorEq, Nat.reduceEqDiff, Nat.reduceAdd, Nat.reduceSub, Nat.reduceMul, Nat.reduceLeDiff, Nat.reduceLT]
    refine ⟨i + 1, by omega, by omega, ?_⟩
    simp [Wk, sget, killL, kill1, SV.key]
  · have hil : i = l.length := by omega
    subst hil
    simp only [Tryd.f53, go_sem, Int.reduceToNat, Int.reduceEq, Int.reduceNe, Int.reduceLT, Int.reduceLE, Int.reduceNeg, Int.reduceAdd, ↓reduceIte, ↓reduceCtorEq, Nat.reduceEqDiff, Nat.reduceAdd, Nat.reduceSub, Nat.reduceMul, Nat.reduceLeDiff, Nat.reduceLT]
    refine qinl_i [12] (kw) rfl (by decide) rfl (one_blk rfl) (by intro d h; first | (cases h; decide) | cases h) (by intro h; first | rfl | cases h) ?_; simp only [Tryd.f53, ren, eraO, eraL, List.getD_cons_zero, List.getD_cons_succ, List.filter_cons, List.filter_nil, go_sem, Int.reduceToNat, Int.reduceEq, Int.reduceNe, Int.reduceLT, Int.reduceLE, Int.reduceNeg, Int.reduceAdd, ↓reduceIte, ↓reduceCtorEq, Nat.reduceEqDiff, Nat.reduceAdd, Nat.reduceSub, Nat.reduceMul, Nat.reduceLeDiff, Nat.reduceLT]
    try rfl
end Go.Proofs.YtfogjddcagckaaaDoor
