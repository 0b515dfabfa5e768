/- Products: prod.product, prod.Mul, dyad.Mul. -/
import Derived.Test.YtejmlngnpekagaaDoorMul3
open Go PG Go.Proofs
set_option maxRecDepth 100000
set_option linter.unusedSimpArgs false
set_option linter.unusedVariables false
namespace Go.Proofs.YtejmlngnpekagaaDoor
attribute [local go_sem] Lay2 Lay3 Lay4 Lay5 Lay6 Lay7 Lay8 Lay9 Lay10 Lay11 Lay12 Lay13 Lay14 Lay15 Lay16 Lay17 Lay18 Lay19 Lay21 Lay22 Lay23 Lay24 Lay25 Lay30 Lay33 Lay36 Lay37 Lay46 Lay47 Lay48 Lay53 Lay54 Lay55 Lay59 Lay100 Lay101 Lay127 Lay146 Lay162 Lay168 Lay169 Lay173 Lay185 Lay186 Lay187 Lay188 Lay189 Lay191 Lay192 Lay194 Lay195 Lay196 Lay199 qexec_seq qexec_skip qexec_exit qexec_ret qexec_block qexec_loop qexec_range qexec_cond qexec_region qexec_drawn qops_nil qops_none qops_some put_some put_none pblk_exit pblk_other newDsts_nil inlDsts_nil isInl sget_cons sget_nil qval_some qbool_some qgs_bool qgs_und qfree_some qgrd_true qgrd_false qif_true qif_false qval_ite qval_itn qand_true map_ite map_some' map_none' qdo_move qdo_assign qdo_binOp qdo_pick qdo_unOp qdo_convert qdo_extract qdo_field qdo_fieldAddr qdo_alloc qdo_box qdo_build qdo_buildSlice qdo_load qdo_store qdo_nilCheck qdo_makeFunc qdo_makeSlice qdo_slice qdo_indexAddr qdo_call qcont_val qcont_new qcont_st qcont_app0 qcont_app qcont_inl qcont_call njSV_val njSV_nil njSV_row njSV_ptr njSV_sub binV_val binV_nil binV_nn binV_ptr bin_np bin_nnp nilCmp bin_add bin_sub bin_mul bin_quo bin_rem bin_and bin_or bin_xor bin_andNot bin_eql bin_neq bin_lss bin_leq bin_gtr bin_geq bin_shl bin_shr bin_seql bin_sneq bin_sadd bin_beql bin_aeql bin_aneq eqAnd_some eqCells_nil eqCells_cons fieldTypes isStruct eqCell bin_bneq un_not un_neg nj_ite Nat.beq stepA stepR isNew opSV constSV RV.sv allSome E_mu E_own qkeyIn_none qkeyIn_some qkeyAt_none qkeyAt_some Bool.or_false Bool.false_or Bool.or_true Bool.true_or cst setB res resSV pstart startL killL kill1 eraL frzL svPV rvPV rvInt rvSlice frzOf close closeL pconv pbuiltin pmax2 partPV setCells fillPV zrow bound newSV PV.cells Bk.cells Bk.with SV.key pres presL_nil presL_tmp presL_cell presC2_some cellPV_ptr presC List.toList_toArray List.size_toArray List.getElem?_drop Nat.mul_one Int.toNat_natCast Nat.not_lt_zero Nat.lt_irrefl decide_true decide_false Nat.not_lt Option.some.injEq PV.lst.injEq PV.int.injEq PV.bool.injEq PV.tuple.injEq List.cons.injEq Option.map_some Option.map_none Option.bind_some Option.toList List.map_cons List.map_nil List.nil_append List.cons_append List.append_nil List.zip_cons_cons List.zip_nil_left List.zip_nil_right List.getElem?_cons_zero List.getElem?_cons_succ List.drop_zero List.drop_succ_cons List.take_succ_cons List.take_zero List.set_cons_zero List.set_cons_succ List.length_cons List.length_nil List.length_set List.replicate_one List.replicate_zero bne_self_eq_false beq_self_eq_true Nat.zero_add Nat.add_zero Nat.zero_mul Bool.false_eq_true Bool.true_eq_false Bool.not_true Bool.not_false and_true true_and false_and and_false or_false false_or or_true true_or not_true_eq_false not_false_eq_true ne_eq gt_iff_lt List.mem_cons List.not_mem_nil
attribute [local go_sem ↓] pseq_normal pseq_ret pseq_exit pblk_normal pblk_ret newDsts_cons inlDsts_cons gdst_zero gdst_succ retQ_normal retQ_ret qneed_nil qneed_cons retM_normal retM_ret endR_normal endR_ret endR_exit
attribute [local go_sem] Int.reduceToNat Int.reduceEq Int.reduceNe Int.reduceLT Int.reduceLE Int.reduceNeg Int.reduceAdd Nat.reduceEqDiff Nat.reduceAdd Nat.reduceSub Nat.reduceMul Nat.reduceLeDiff Nat.reduceLT
attribute [local go_sem ↓] reduceIte reduceCtorEq

/-- The row behind so many steps, and a step's digit. -/
def pR (a b : List Nat) (i : Nat) : List PV := U (tab W (vl a * (vl b % W ^ i)) (a.length + b.length + 1))
def pD (b : List Nat) (i : Nat) : Nat := vl b / W ^ i % W
theorem pR_zero (a b : List Nat) : pR a b 0 = List.replicate (a.length + b.length + 1) (.int .u64 0) := by
  unfold pR
  rw [Nat.pow_zero, Nat.mod_one, Nat.mul_zero]
  have e0 : tab W 0 (a.length + b.length + 1) = List.replicate (a.length + b.length + 1) 0 := by
    unfold tab
    simp [List.map_const']
  rw [e0, U_replicate]
theorem pD_get {b : List Nat} (hb : Ok W b) (i : Nat) (hi : i < b.length) : (U b)[i]? = some (.int .u64 (pD b i : Int)) := by
  unfold pD
  rw [U_get, ← dv_get W0 _ hb i, List.getD_eq_getElem?_getD, List.getElem?_eq_getElem hi]; rfl
theorem pR_row {a b : List Nat} (ha : Ok W a) (hb : Ok W b) (la : a.length ≤ 100000) (lb : b.length ≤ 100000) (i : Nat) (hi : i < b.length) :
    PCM E 153 [.sub 0 i (a.length + b.length + 1 - i), .val (NL a), .val (.int .u64 (pD b i : Int))] [.row 22 1 (a.length + b.length + 1) (pR a b i)] (.val (.tuple [])) [.row 22 1 (a.length + b.length + 1) (pR a b (i + 1))] := by
  have hA : vl a < W ^ a.length := dv_lt a ha
  have hP : vl a * (vl b % W ^ i) < W ^ (a.length + i) := by
    rw [Nat.pow_add]
    exact Nat.mul_lt_mul'' hA (Nat.mod_lt _ (Nat.pow_pos W0))
  have hxW : vl b / W ^ i % W < W := Nat.mod_lt _ W0
  have hnext : vl a * (vl b % W ^ i) + W ^ i * (vl a * (vl b / W ^ i % W)) = vl a * (vl b % W ^ (i + 1)) := by
    rw [Nat.pow_succ, Nat.mod_mul, Nat.mul_add, Nat.mul_left_comm]
  have hrow := rowL_tab (m := a.length + b.length + 1) ha hP (by omega) hxW
  rw [hnext] at hrow
  have krow := c_row (tab W (vl a * (vl b % W ^ i)) (a.length + b.length + 1)) a i (vl b / W ^ i % W) (ok_tab W0 _ _) ha hxW (by rw [tab_length]; omega) (by rw [tab_length]; omega)
  rw [hrow] at krow
  simp only [tab_length] at krow
  exact krow
theorem pR_bare {a b : List Nat} (ha : Ok W a) (hb : Ok W b) (la : a.length ≤ 100000) (lb : b.length ≤ 100000) : PC E 76 [.lst (a.length + b.length + 1) (pR a b b.length)] (NN (vl a * vl b)) := by
  have hA : vl a < W ^ a.length := dv_lt a ha
  have hBB : vl b % W ^ b.length = vl b := Nat.mod_eq_of_lt (dv_lt b hb)
  have hP : vl a * vl b < W ^ (a.length + b.length + 1) := by
    refine Nat.lt_of_lt_of_le ?_ (Nat.pow_le_pow_right W0 (Nat.le_succ _))
    rw [Nat.pow_add]
    exact Nat.mul_lt_mul'' hA (dv_lt b hb)
  unfold pR
  rw [hBB]
  exact PC.at_list (n_Bare (tab W (vl a * vl b) (a.length + b.length + 1)) (by rw [tab_length]; omega) (ok_tab W0 _ _)) (tab_length _ _ _) ((dv_tab _ _).trans (Nat.mod_eq_of_lt hP))

theorem c_product (a b : List Nat) (ha : Ok W a) (hb : Ok W b) (la : a.length ≤ 100000) (lb : b.length ≤ 100000) : PC E 134 [NL a, NL b] (NN (vl a * vl b)) := by
  refine PC.of_body follows Tryd.func134 (by decide +kernel) rfl (by kernel_rfl) (Nat.le_of_ble_eq_true rfl) (walk ?_)
  have w1 : IntKind.wrap .i64 ((a.length : Int) + (b.length : Int)) = ((a.length + b.length : Nat) : Int) := by rw [wrap64 (by omega) (by omega)]; omega
  have w2 : IntKind.wrap .i64 (((a.length + b.length : Nat) : Int) + 1) = ((a.length + b.length + 1 : Nat) : Int) := by rw [wrap64 (by omega) (by omega)]; omega
  have r0 := pR_zero a b
  have rrow := pR_row ha hb la lb
  have rbare := pR_bare ha hb la lb
  have rget := pD_get hb
  simp only [NL, NN] at rrow rbare ⊢
  generalize pR a b = R at *
  generalize pD b = D at *
  generalize vl a * vl b = AB at *
  generalize hm : a.length + b.length + 1 = m at *
  simp only [Tryd.f134, w1, w2, go_sem]
  refine qand_i (by omega) ?_
  simp only [Tryd.f134, w1, w2, go_sem]
  refine PLoop.intro (fun i : Nat => ⟨[(0, .val (.lst a.length (U a))), (5, .row 14), (15, .val (.lst b.length (U b))), (16, .val (.int .i64 b.length)), (17, .val (.int .i64 i))],
    [(14, (.row 22 1 m (R i), false))]⟩) (fun i => i ≤ b.length) (fun i => b.length - i) 0 (Nat.zero_le _) ?_ fun i hi => walk ?_
  · rw [r0]
    simp [Wk, sget, killL, kill1, SV.key]
  have wi : IntKind.wrap .i64 ((i : Int) + 1) = ((i + 1 : Nat) : Int) := by rw [wrap64 (by omega) (by omega)]; omega
  simp only [Tryd.f134, go_sem]
  refine qif_d (fun h1 => ?_) (fun h1 => ?_)
  · have kr := rrow i (by omega)
    simp only [Tryd.f134, go_sem]
    refine qand_i (by first | omega | (simp [V_length, U_length, tab_length, maxLen]; done) | (simp [V_length, U_length, tab_length, maxLen]; omega) | (refine ⟨?_, ?_⟩ <;> first | omega | (simp [V_length, U_length, tab_length, maxLen]; done) | (simp [V_length, U_length, tab_length, maxLen]; omega))) ?_; simp only [Tryd.f134, go_sem]
    refine qval_i (congrArg (Option.map _) (rget i (by omega))) ?_
    simp only [Tryd.f134, go_sem]
    refine qand_i (by omega) ?_
    simp only [Tryd.f134, go_sem]
    refine qinl_i [14] kr rfl (by decide) rfl (fun j bb k hb hk => ?_) (fun d h => by cases h; decide) (fun h => by cases h) ?_
    · match j, hb, hk with
      | 0, hb, hk =>
        simp only [List.getElem?_cons_zero, Option.some.injEq] at hb hk
        subst hb hk
        simp [sget]
      | j + 1, hb, hk => simp at hb
    simp only [Tryd.f134, wi, go_sem]
    simp only [ren, SV.key, eraO, eraL]
    simp only [Tryd.f134, wi, go_sem]
    refine ⟨i + 1, by omega, by omega, ?_⟩
    simp [Wk, sget, killL, kill1, SV.key]
  · have hil : i = b.length := by omega
    subst hil
    simp only [Tryd.f134, go_sem]
    refine qcall_i rbare ?_
    simp only [Tryd.f134, go_sem]
    try rfl
end Go.Proofs.YtejmlngnpekagaaDoor
