/- law 25: the chapter's example. -/
import Derived.Test.YtmnojbkakgfinaaDoorJp
open Go PG Go.Proofs
set_option maxRecDepth 100000
set_option linter.unusedSimpArgs false
set_option linter.unusedVariables false
namespace Go.Proofs.YtmnojbkakgfinaaDoor
attribute [local go_sem] Lay2 Lay3 Lay4 Lay5 Lay6 Lay7 Lay8 Lay9 Lay10 Lay11 Lay12 Lay13 Lay14 Lay15 Lay16 Lay17 Lay18 Lay19 Lay21 Lay23 Lay24 Lay30 Lay31 Lay32 Lay33 Lay34 Lay36 Lay37 Lay49 Lay50 Lay51 Lay52 Lay59 Lay75 Lay77 Lay85 Lay87 Lay89 Lay96 Lay101 Lay112 Lay113 Lay118 Lay119 Lay120 Lay122 Lay123 Lay124 Lay125 Lay126 Lay127 Lay128 Lay129 Lay130 Lay132 Lay133 qexec_seq qexec_skip qexec_exit qexec_ret qexec_block qexec_loop qexec_range qexec_cond qexec_region qexec_drawn qops_nil qops_none qops_some put_some put_none pblk_exit pblk_other newDsts_nil inlDsts_nil isInl sget_cons sget_nil qval_some qbool_some qgs_bool qgs_und qfree_some qgrd_true qgrd_false qif_true qif_false qval_ite qval_itn qand_true map_ite map_some' map_none' qdo_move qdo_assign qdo_binOp qdo_pick qdo_unOp qdo_convert qdo_extract qdo_makeInterface qdo_field qdo_fieldAddr qdo_alloc qdo_box qdo_build qdo_buildSlice qdo_load qdo_store qdo_nilCheck qdo_makeFunc qdo_makeSlice qdo_slice qdo_indexAddr qdo_call qcont_val qcont_new qcont_st qcont_app0 qcont_app qcont_inl qcont_call njSV_val njSV_nil njSV_row njSV_ptr njSV_sub binV_val binV_nil binV_nn binV_ptr bin_np bin_nnp nilCmp bin_add bin_sub bin_mul bin_quo bin_rem bin_and bin_or bin_xor bin_andNot bin_eql bin_neq bin_lss bin_leq bin_gtr bin_geq bin_shl bin_shr bin_seql bin_sneq bin_sadd bin_beql bin_aeql bin_aneq eqAnd_some eqCells_nil eqCells_cons fieldTypes isStruct eqCell bin_bneq un_not un_neg nj_ite Nat.beq stepA stepR isNew opSV constSV RV.sv allSome E_mu E_own qkeyIn_none qkeyIn_some qkeyAt_none qkeyAt_some Bool.or_false Bool.false_or Bool.or_true Bool.true_or cst setB res resSV pstart startL killL kill1 eraL frzL svPV rvPV rvInt rvSlice rvBytes frzOf close closeL pconv pbuiltin pmax2 partPV setCells fillPV zrow bound newSV PV.cells Bk.cells Bk.with SV.key pres presL_nil presL_tmp presL_cell presC2_some cellPV_ptr presC List.toList_toArray List.size_toArray List.getElem?_drop Nat.mul_one Int.toNat_natCast Nat.not_lt_zero Nat.lt_irrefl decide_true decide_false Nat.not_lt Option.some.injEq PV.lst.injEq PV.int.injEq PV.bool.injEq PV.tuple.injEq List.cons.injEq Option.map_some Option.map_none Option.bind_some Option.toList List.map_cons List.map_nil List.nil_append List.cons_append List.append_nil List.zip_cons_cons List.zip_nil_left List.zip_nil_right List.getElem?_cons_zero List.getElem?_cons_succ List.drop_zero List.drop_succ_cons List.take_succ_cons List.take_zero List.set_cons_zero List.set_cons_succ List.length_cons List.length_nil List.length_set List.replicate_one List.replicate_zero bne_self_eq_false beq_self_eq_true Nat.zero_add Nat.add_zero Nat.zero_mul Bool.false_eq_true Bool.true_eq_false Bool.not_true Bool.not_false and_true true_and false_and and_false or_false false_or or_true true_or not_true_eq_false not_false_eq_true ne_eq gt_iff_lt List.mem_cons List.not_mem_nil
attribute [local go_sem ↓] pseq_normal pseq_ret pseq_exit pblk_normal pblk_ret newDsts_cons inlDsts_cons gdst_zero gdst_succ retQ_normal retQ_ret qneed_nil qneed_cons retM_normal retM_ret endR_normal endR_ret endR_exit
attribute [local go_sem] Int.reduceToNat Int.reduceEq Int.reduceNe Int.reduceLT Int.reduceLE Int.reduceNeg Int.reduceAdd Nat.reduceEqDiff Nat.reduceAdd Nat.reduceSub Nat.reduceMul Nat.reduceLeDiff Nat.reduceLT
attribute [local go_sem ↓] reduceIte reduceCtorEq

def jEx : Jb := ⟨2, 4625196817309499392, 0, 4, 0, true⟩
def tEx : List UInt8 := [33, 32, 114, 111, 111, 116, 110, 32, 52, 48, 51, 48, 48, 48, 48, 48, 48, 48, 48, 48, 48, 48, 48, 48, 32, 52, 32, 110, 101, 97, 114, 10]
def tEw : List UInt8 := [112, 111, 119, 32, 48, 32, 48, 32, 110, 101, 97, 114, 10]
theorem ex_line : jEx.line = tEx := by
  have h : Lib.itoa 4 = [52] := by
    unfold Lib.itoa
    rw [if_neg (by decide), show (4 : Int).toNat = 4 from rfl, Lib.decDigits_one (by decide)]
    rfl
  have h2 : hz 16 4625196817309499392 = [52, 48, 51, 48, 48, 48, 48, 48, 48, 48, 48, 48, 48, 48, 48, 48] := by decide +kernel
  unfold Jb.line Jb.row jEx
  dsimp only
  rw [h, h2]
  rfl
theorem ex_ok : jEx.wf ∧ jEx.ok = true := by
  refine ⟨⟨?_, ?_, ?_, ?_, ?_, ?_, ?_, ?_⟩, ?_⟩ <;> decide
theorem ex_ps : psF [] tEx = ([jEx], 0, 0) := by
  have h := psF_lines [jEx] [] [] (fun j hj => by rw [List.mem_singleton] at hj; subst hj; exact ex_ok)
  rw [psF_nil] at h
  have e : [jEx].flatMap Jb.line ++ [] = tEx := by simp [ex_line]
  rw [e] at h
  exact h
theorem line_ge (j : Jb) : 20 ≤ j.line.length := by
  have h3 := hz_len 16 j.x
  have h1 : 3 ≤ (nmJ j.op).length := by unfold nmJ; (repeat' split) <;> decide
  unfold Jb.line Jb.row
  simp only [List.length_append, List.length_cons, List.length_nil]
  omega
theorem ex_pw : psF [] tEw = ([], 1, 4) := by
  refine psF_wrong (by decide) fun h => ?_
  have h1 := h.1
  unfold rdOk at h1
  rw [Bool.and_eq_true, decide_eq_true_eq] at h1
  have h2 := line_ge (rdJ (cutA 10 tEw))
  rw [h1.2] at h2
  have h3 := cutA_len 10 tEw
  rw [List.length_append] at h2
  have h4 : tEw.length = 13 := rfl
  have h5 : ([10] : List UInt8).length = 1 := rfl
  omega
theorem l_25alive : PC E 6 [] (.bool true) := by
  have k1 := j_Parse (s := tEx) (by decide)
  have k2 := j_Parse (s := tEw) (by decide)
  rw [ex_ps] at k1
  rw [ex_pw] at k2
  have z0 : ((0 : Nat) : Int) = 0 := rfl
  have z1 : ((1 : Nat) : Int) = 1 := rfl
  have zx : ((4625196817309499392 : Nat) : Int) = 4625196817309499392 := rfl
  simp only [z0, z1, zx, TX, tEx, tEw, List.length_cons, List.length_nil, JC, List.flatMap_cons, List.flatMap_nil, List.append_nil, Jb.cs, jEx, Nat.zero_add] at k1 k2
  refine PC.of_body follows Tryd.func6 (by decide +kernel) rfl (by kernel_rfl) (Nat.le_of_ble_eq_true rfl) (walk ?_)
  simp only [Tryd.f6, B8_size, B8_cut, B8_eq, B8_mk, B8_app, Int.toNat_natCast, List.range_zero, List.getD_cons_zero, List.getD_cons_succ, Nat.reduceMod, go_sem]
  refine qcall_i (k1) ?_; simp only [Tryd.f6, B8_size, B8_cut, B8_eq, B8_mk, B8_app, Int.toNat_natCast, List.range_zero, List.getD_cons_zero, List.getD_cons_succ, Nat.reduceMod, go_sem]
  refine qcall_i (k2) ?_; simp only [Tryd.f6, B8_size, B8_cut, B8_eq, B8_mk, B8_app, Int.toNat_natCast, List.range_zero, List.getD_cons_zero, List.getD_cons_succ, Nat.reduceMod, go_sem]
  refine qif_dt (by decide) ?_
  simp only [Tryd.f6, B8_size, B8_cut, B8_eq, B8_mk, B8_app, Int.toNat_natCast, List.range_zero, List.getD_cons_zero, List.getD_cons_succ, Nat.reduceMod, go_sem]
  try (refine qand_i (by decide) ?_; simp only [Tryd.f6, B8_size, B8_cut, B8_eq, B8_mk, B8_app, Int.toNat_natCast, List.range_zero, List.getD_cons_zero, List.getD_cons_succ, Nat.reduceMod, go_sem])
  refine qif_t rfl ?_
  simp only [Tryd.f6, B8_size, B8_cut, B8_eq, B8_mk, B8_app, Int.toNat_natCast, List.range_zero, List.getD_cons_zero, List.getD_cons_succ, Nat.reduceMod, go_sem]
  try rfl
end Go.Proofs.YtmnojbkakgfinaaDoor
