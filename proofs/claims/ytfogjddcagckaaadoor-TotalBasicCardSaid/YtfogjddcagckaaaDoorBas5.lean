/- basic and total: a product; the worst kind. -/
import Derived.Test.YtfogjddcagckaaaDoorBas4
open Go PG Go.Proofs
set_option maxRecDepth 100000
set_option linter.unusedSimpArgs false
set_option linter.unusedVariables false
namespace Go.Proofs.YtfogjddcagckaaaDoor
attribute [local go_sem] Lay2 Lay3 Lay4 Lay5 Lay6 Lay7 Lay8 Lay9 Lay10 Lay11 Lay12 Lay13 Lay14 Lay15 Lay16 Lay17 Lay18 Lay19 Lay21 Lay22 Lay23 Lay24 Lay27 Lay28 Lay29 Lay35 Lay36 Lay38 Lay39 Lay40 Lay42 Lay43 Lay45 Lay46 Lay67 Lay81 Lay82 Lay83 Lay84 Lay85 Lay86 Lay87 Lay90 Lay93 Lay94 Lay105 Lay116 Lay132 Lay138 Lay145 Lay162 Lay163 Lay201 qexec_seq qexec_skip qexec_exit qexec_ret qexec_block qexec_loop qexec_range qexec_cond qexec_region qexec_drawn qops_nil qops_none qops_some put_some put_none pblk_exit pblk_other newDsts_nil sget_cons sget_nil qval_some qbool_some qgs_bool qgs_und qfree_some qgrd_true qgrd_false qif_true qif_false qval_ite qval_itn qand_true map_ite map_some' map_none' qdo_move qdo_assign qdo_binOp qdo_pick qdo_unOp qdo_convert qdo_extract qdo_field qdo_fieldAddr qdo_alloc qdo_box qdo_build qdo_buildSlice qdo_load qdo_store qdo_nilCheck qdo_makeFunc qdo_makeSlice qdo_slice qdo_indexAddr qdo_call qcont_val qcont_new qcont_st qcont_app0 qcont_app qcont_inl qcont_call njSV_val njSV_nil njSV_row njSV_ptr njSV_sub binV_val binV_nil binV_nn binV_ptr bin_np bin_nnp nilCmp bin_add bin_sub bin_mul bin_quo bin_rem bin_and bin_or bin_xor bin_andNot bin_eql bin_neq bin_lss bin_leq bin_gtr bin_geq bin_shl bin_shr bin_seql bin_sneq bin_sadd bin_beql bin_aeql bin_aneq eqAnd_some eqCells_nil eqCells_cons fieldTypes isStruct eqCell bin_bneq un_not un_neg nj_ite Nat.beq stepA stepR isNew opSV constSV RV.sv allSome E_mu E_own qkeyIn_none qkeyIn_some qkeyAt_none qkeyAt_some Bool.or_false Bool.false_or Bool.or_true Bool.true_or cst setB res resSV pstart startL killL kill1 eraL frzL svPV rvPV rvInt rvSlice frzOf close closeL pconv pbuiltin pmax2 partPV setCells fillPV zrow bound newSV PV.cells Bk.cells Bk.with SV.key pres presL_nil presL_tmp presL_cell presC2_some cellPV_ptr presC List.toList_toArray List.size_toArray List.getElem?_drop Nat.mul_one Int.toNat_natCast Nat.not_lt_zero Nat.lt_irrefl decide_true decide_false Nat.not_lt Option.some.injEq PV.lst.injEq PV.int.injEq PV.bool.injEq PV.tuple.injEq List.cons.injEq Option.map_some Option.map_none Option.bind_some Option.toList List.map_cons List.map_nil List.nil_append List.cons_append List.append_nil List.zip_cons_cons List.zip_nil_left List.zip_nil_right List.getElem?_cons_zero List.getElem?_cons_succ List.drop_zero List.drop_succ_cons List.take_succ_cons List.take_zero List.set_cons_zero List.set_cons_succ List.length_cons List.length_nil List.length_set List.replicate_one List.replicate_zero bne_self_eq_false beq_self_eq_true Nat.zero_add Nat.add_zero Nat.zero_mul Bool.false_eq_true Bool.true_eq_false Bool.not_true Bool.not_false and_true true_and false_and and_false or_false false_or or_true true_or not_true_eq_false not_false_eq_true ne_eq gt_iff_lt List.mem_cons List.not_mem_nil
attribute [local go_sem ↓] pseq_normal pseq_ret pseq_exit pblk_normal pblk_ret newDsts_cons gdst_zero gdst_succ retQ_normal retQ_ret qneed_nil qneed_cons retM_normal retM_ret endR_normal endR_ret endR_exit

set_option maxHeartbeats 4000000 in
theorem worth_mul {x y : Nat} (dir : Int) : worthS (mulT .zero x y) dir = fmaS x y (sgB x y) dir := by
  have hlp := prod_limK x y
  have hPm : (mulS (fd0 x) (fd0 y)).m = 0 ↔ (kind x = 0 ∨ 3 ≤ kind x) ∨ (kind y = 0 ∨ 3 ≤ kind y) := by
    rw [← fd0_m, ← fd0_m]
    unfold mulS
    split
    · simp [*, Dy.zero]
    · rename_i h
      simp only [not_or] at h
      simp [h.1, h.2]
      exact Nat.mul_ne_zero h.1 h.2
  have fP := hlp.fits (by rw [K0_eq]; decide)
  have s0 : addS .zero (mulS (fd0 x) (fd0 y)) = mulS (fd0 x) (fd0 y) := addS_zl hlp.ok Dy.zero_fits fP rfl
  have kz : kind (sgB x y) = 0 := by unfold sgB; split <;> decide
  have hz0 : (fd0 (sgB x y)).m = 0 := (fd0_m _).2 (.inl kz)
  have s2 : addS (mulS (fd0 x) (fd0 y)) (fd0 (sgB x y)) = mulS (fd0 x) (fd0 y) := addS_zr hlp.ok fP ((fd0_lim _).fits (by decide)) hz0
  have hzt : sgB x y &&& 9223372036854775808 = sgB x y := by unfold sgB; split <;> decide
  have hsg : sgB x y = if (fs x != fs y) = true then 9223372036854775808 else 0 := rfl
  have hx5 := kind_le x
  have hy5 := kind_le y
  have o1 : (9218868437227405312 ||| 9223372036854775808 : Nat) = 18442240474082181120 := by decide
  have o2 : (9218868437227405312 ||| 0 : Nat) = 9218868437227405312 := by decide
  rw [fmaS_eq x y (sgB x y) dir rfl rfl kz rfl rfl hsg hzt]
  rw [s2]
  unfold mulT
  rw [hsg]
  clear hsg hzt hlp fP hz0 s2 kz
  generalize kind x = a at *
  generalize kind y = b at *
  generalize mulS (fd0 x) (fd0 y) = P at *
  generalize (fs x != fs y) = n1 at *
  have ha : a = 0 ∨ a = 1 ∨ a = 2 ∨ a = 3 ∨ a = 4 ∨ a = 5 := by omega
  have hb : b = 0 ∨ b = 1 ∨ b = 2 ∨ b = 3 ∨ b = 4 ∨ b = 5 := by omega
  clear hx5 hy5
  have z0 : Dy.zero.m = 0 := rfl
  rcases ha with rfl | rfl | rfl | rfl | rfl | rfl <;> rcases hb with rfl | rfl | rfl | rfl | rfl | rfl
  all_goals
    simp at hPm
    cases n1 <;> simp_all [Tt.take, kindT, worthS, Tt.zero]
def worstS (l : List Nat) : Nat := l.foldl (fun w x => if 3 < kind x ∧ w < kind x then kind x else w) 0
theorem worstS_snoc (l : List Nat) (x : Nat) : worstS (l ++ [x]) = if 3 < kind x ∧ worstS l < kind x then kind x else worstS l := by unfold worstS; rw [List.foldl_append]; rfl
theorem worst_pos {x y z : Nat} (h : ¬ (kind x ≤ 3 ∧ kind y ≤ 3 ∧ kind z ≤ 3)) : 0 < worstS [x, y, z] := by
  unfold worstS
  simp only [List.foldl_cons, List.foldl_nil]
  generalize kind x = a at *
  generalize kind y = b at *
  generalize kind z = c at *
  (repeat' split) <;> omega
theorem b_Worst {l : List Nat} (ol : Ok W l) (hl : l.length ≤ 1000) : PC E 70 [NL l] (.int .i64 (worstS l)) := by
  have hg : ∀ i, i < l.length → (U l)[i]? = some (.int .u64 (l.getD i 0 : Nat)) := fun i hi => U_getD hi
  have hk : ∀ i, i < l.length → PC E 44 [.int .u64 (l.getD i 0 : Nat)] (.int .i64 (kind (l.getD i 0))) := fun i hi =>
    c_rKind _ (by rw [List.getD_eq_getElem?_getD, List.getElem?_eq_getElem hi]; exact ol _ (List.getElem_mem _))
  obtain ⟨w, hw⟩ : ∃ w : Nat → Nat, ∀ i, worstS (l.take i) = w i := ⟨_, fun _ => rfl⟩
  have hs : ∀ i, i < l.length → w (i + 1) = if 3 < kind (l.getD i 0) ∧ w i < kind (l.getD i 0) then kind (l.getD i 0) else w i := fun i hi => by
    rw [← hw, ← hw, List.take_succ_eq_append_getElem hi, worstS_snoc, show l.getD i 0 = l[i] by rw [List.getD_eq_getElem?_getD, List.getElem?_eq_getElem hi]; rfl]
  have h0 : w 0 = 0 := (hw 0).symm
  have hn : worstS l = w l.length := by rw [← hw, List.take_length]
  rw [hn]
  obtain ⟨X, hX⟩ : ∃ X : Nat → Nat, ∀ i, l.getD i 0 = X i := ⟨_, fun _ => rfl⟩
  simp only [hX] at hg hk hs
  simp only [NL]
  clear hX ol hw hn
  generalize U l = U1 at *
  generalize l.length = n at *
  refine PC.of_body follows Tryd.func70 (by decide +kernel) rfl (by kernel_rfl) (Nat.le_of_ble_eq_true rfl) (walk ?_)
  simp only [Tryd.f70, go_sem, Int.reduceToNat, Int.reduceEq, Int.reduceNe, Int.reduceLT, Int.reduceLE, Int.reduceNeg, Int.reduceAdd, ↓reduceIte, ↓reduceCtorEq, Nat.reduceEqDiff, Nat.reduceAdd, Nat.reduceSub, Nat.reduceMul, Nat.reduceLeDiff, Nat.reduceLT]
  refine PLoop.intro (fun i : Nat => ⟨[(0, .val (.lst n U1)), (3, .val (.int .i64 (w i))), (4, .val (.int .i64 i))], []⟩) (fun i => i ≤ n) (fun i => n - i) 0 (Nat.zero_le _) ?_ fun i hi => walk ?_
  · simp [Wk, sget, killL, kill1, SV.key, h0]
  have wi : IntKind.wrap .i64 ((i : Int) + 1) = ((i + 1 : Nat) : Int) := by rw [wrap64 (by omega) (by omega)]; omega
  simp only [Tryd.f70, go_sem, Int.reduceToNat, Int.reduceEq, Int.reduceNe, Int.reduceLT, Int.reduceLE, Int.reduceNeg, Int.reduceAdd, ↓reduceIte, ↓reduceCtorEq, Nat.reduceEqDiff, Nat.reduceAdd, Nat.reduceSub, Nat.reduceMul, Nat.reduceLeDiff, Nat.reduceLT]
  refine qif_d (fun h => ?_) (fun h => ?_)
  · have hin : i < n := by omega
    have x1 := hg i hin
    have k1 := hk i hin
    have e1 := hs i hin
    generalize kind (X i) = a at *
    simp only [Tryd.f70, go_sem, Int.reduceToNat, Int.reduceEq, Int.reduceNe, Int.reduceLT, Int.reduceLE, Int.reduceNeg, Int.reduceAdd, ↓reduceIte, ↓reduceCtorEq, Nat.reduceEqDiff, Nat.reduceAdd, Nat.reduceSub, Nat.reduceMul, Nat.reduceLeDiff, Nat.reduceLT]
    refine qand_i (by first | omega | (simp [V_length, U_length, tab_length, maxLen]; done) | (simp [V_length, U_length, tab_length, maxLen]; omega) | (refine ⟨?_, ?_⟩ <;> first | omega | (simp [V_length, U_length, tab_length, maxLen]; done) | (simp [V_length, U_length, tab_length, maxLen]; omega))) ?_; simp only [Tryd.f70, go_sem, Int.reduceToNat, Int.reduceEq, Int.reduceNe, Int.reduceLT, Int.reduceLE, Int.reduceNeg, Int.reduceAdd, ↓reduceIte, ↓reduceCtorEq, Nat.reduceEqDiff, Nat.reduceAdd, Nat.reduceSub, Nat.reduceMul, Nat.reduceLeDiff, Nat.reduceLT]
    refine qval_i (congrArg (Option.map _) x1) ?_
    simp only [Tryd.f70, go_sem, Int.reduceToNat, Int.reduceEq, Int.reduceNe, Int.reduceLT, Int.reduceLE, Int.reduceNeg, Int.reduceAdd, ↓reduceIte, ↓reduceCtorEq, Nat.reduceEqDiff, Nat.reduceAdd, Nat.reduceSub, Nat.reduceMul, Nat.reduceLeDiff, Nat.reduceLT]
    refine qcall_i (k1) ?_; simp only [Tryd.f70, go_sem, Int.reduceToNat, Int.reduceEq, Int.reduceNe, Int.reduceLT, Int.reduceLE, Int.reduceNeg, Int.reduceAdd, ↓reduceIte, ↓reduceCtorEq, Nat.reduceEqDiff, Nat.reduceAdd, Nat.reduceSub, Nat.reduceMul, Nat.reduceLeDiff, Nat.reduceLT]
    refine qif_d (fun h1 => ?_) (fun h1 => ?_)
    · simp only [Tryd.f70, go_sem, Int.reduceToNat, Int.reduceEq, Int.reduceNe, Int.reduceLT, Int.reduceLE, Int.reduceNeg, Int.reduceAdd, ↓reduceIte, ↓reduceCtorEq, Nat.reduceEqDiff, Nat.reduceAdd, Nat.reduceSub, Nat.reduceMul, Nat.reduceLeDiff, Nat.reduceLT]
      refine qif_d (fun h2 => ?_) (fun h2 => ?_)
      · rw [if_pos ⟨by omega, by omega⟩] at e1
        simp only [Tryd.f70, wi, go_sem, Int.reduceToNat, Int.reduceEq, Int.reduceNe, Int.reduceLT, Int.reduceLE, Int.reduceNeg, Int.reduceAdd, ↓reduceIte, ↓reduceCtorEq, Nat.reduceEqDiff, Nat.reduceAdd, Nat.reduceSub, Nat.reduceMul, Nat.reduceLeDiff, Nat.reduceLT]
        refine ⟨i + 1, by omega, by omega, ?_⟩
        simp [Wk, sget, killL, kill1, SV.key, e1]
      · rw [if_neg (by omega)] at e1
        simp only [Tryd.f70, wi, go_sem, Int.reduceToNat, Int.reduceEq, Int.reduceNe, Int.reduceLT, Int.reduceLE, Int.reduceNeg, Int.reduceAdd, ↓reduceIte, ↓reduceCtorEq, Nat.reduceEqDiff, Nat.reduceAdd, Nat.reduceSub, Nat.reduceMul, Nat.reduceLeDiff, Nat.reduceLT]
        refine ⟨i + 1, by omega, by omega, ?_⟩
        simp [Wk, sget, killL, kill1, SV.key, e1]
    · rw [if_neg (by omega)] at e1
      simp only [Tryd.f70, wi, go_sem, Int.reduceToNat, Int.reduceEq, Int.reduceNe, Int.reduceLT, Int.reduceLE, Int.reduceNeg, Int.reduceAdd, ↓reduceIte, ↓reduceCtorEq, Nat.reduceEqDiff, Nat.reduceAdd, Nat.reduceSub, Nat.reduceMul, Nat.reduceLeDiff, Nat.reduceLT]
      refine ⟨i + 1, by omega, by omega, ?_⟩
      simp [Wk, sget, killL, kill1, SV.key, e1]
  · have hin : i = n := by omega
    subst hin
    simp only [Tryd.f70, go_sem, Int.reduceToNat, Int.reduceEq, Int.reduceNe, Int.reduceLT, Int.reduceLE, Int.reduceNeg, Int.reduceAdd, ↓reduceIte, ↓reduceCtorEq, Nat.reduceEqDiff, Nat.reduceAdd, Nat.reduceSub, Nat.reduceMul, Nat.reduceLeDiff, Nat.reduceLT]
    try rfl
end Go.Proofs.YtfogjddcagckaaaDoor
