/- basic: kinds of operands, signs, results. -/
import Derived.Test.YtejmlngnpekagaaDoorFd0
import Derived.Test.YtejmlngnpekagaaDoorIdx
import Derived.Test.YtejmlngnpekagaaDoorTo3
open Go PG Go.Proofs
set_option maxRecDepth 100000
set_option linter.unusedSimpArgs false
set_option linter.unusedVariables false
namespace Go.Proofs.YtejmlngnpekagaaDoor
attribute [local go_sem] Lay2 Lay3 Lay4 Lay5 Lay6 Lay7 Lay8 Lay9 Lay10 Lay11 Lay12 Lay13 Lay14 Lay15 Lay16 Lay17 Lay18 Lay19 Lay21 Lay22 Lay23 Lay24 Lay25 Lay30 Lay33 Lay36 Lay37 Lay46 Lay47 Lay48 Lay53 Lay54 Lay55 Lay59 Lay100 Lay101 Lay127 Lay146 Lay162 Lay168 Lay169 Lay173 Lay185 Lay186 Lay187 Lay188 Lay189 Lay191 Lay192 Lay194 Lay195 Lay196 Lay199 qexec_seq qexec_skip qexec_exit qexec_ret qexec_block qexec_loop qexec_range qexec_cond qexec_region qexec_drawn qops_nil qops_none qops_some put_some put_none pblk_exit pblk_other newDsts_nil inlDsts_nil isInl sget_cons sget_nil qval_some qbool_some qgs_bool qgs_und qfree_some qgrd_true qgrd_false qif_true qif_false qval_ite qval_itn qand_true map_ite map_some' map_none' qdo_move qdo_assign qdo_binOp qdo_pick qdo_unOp qdo_convert qdo_extract qdo_field qdo_fieldAddr qdo_alloc qdo_box qdo_build qdo_buildSlice qdo_load qdo_store qdo_nilCheck qdo_makeFunc qdo_makeSlice qdo_slice qdo_indexAddr qdo_call qcont_val qcont_new qcont_st qcont_app0 qcont_app qcont_inl qcont_call njSV_val njSV_nil njSV_row njSV_ptr njSV_sub binV_val binV_nil binV_nn binV_ptr bin_np bin_nnp nilCmp bin_add bin_sub bin_mul bin_quo bin_rem bin_and bin_or bin_xor bin_andNot bin_eql bin_neq bin_lss bin_leq bin_gtr bin_geq bin_shl bin_shr bin_seql bin_sneq bin_sadd bin_beql bin_aeql bin_aneq eqAnd_some eqCells_nil eqCells_cons fieldTypes isStruct eqCell bin_bneq un_not un_neg nj_ite Nat.beq stepA stepR isNew opSV constSV RV.sv allSome E_mu E_own qkeyIn_none qkeyIn_some qkeyAt_none qkeyAt_some Bool.or_false Bool.false_or Bool.or_true Bool.true_or cst setB res resSV pstart startL killL kill1 eraL frzL svPV rvPV rvInt rvSlice frzOf close closeL pconv pbuiltin pmax2 partPV setCells fillPV zrow bound newSV PV.cells Bk.cells Bk.with SV.key pres presL_nil presL_tmp presL_cell presC2_some cellPV_ptr presC List.toList_toArray List.size_toArray List.getElem?_drop Nat.mul_one Int.toNat_natCast Nat.not_lt_zero Nat.lt_irrefl decide_true decide_false Nat.not_lt Option.some.injEq PV.lst.injEq PV.int.injEq PV.bool.injEq PV.tuple.injEq List.cons.injEq Option.map_some Option.map_none Option.bind_some Option.toList List.map_cons List.map_nil List.nil_append List.cons_append List.append_nil List.zip_cons_cons List.zip_nil_left List.zip_nil_right List.getElem?_cons_zero List.getElem?_cons_succ List.drop_zero List.drop_succ_cons List.take_succ_cons List.take_zero List.set_cons_zero List.set_cons_succ List.length_cons List.length_nil List.length_set List.replicate_one List.replicate_zero bne_self_eq_false beq_self_eq_true Nat.zero_add Nat.add_zero Nat.zero_mul Bool.false_eq_true Bool.true_eq_false Bool.not_true Bool.not_false and_true true_and false_and and_false or_false false_or or_true true_or not_true_eq_false not_false_eq_true ne_eq gt_iff_lt List.mem_cons List.not_mem_nil
attribute [local go_sem ↓] pseq_normal pseq_ret pseq_exit pblk_normal pblk_ret newDsts_cons inlDsts_cons gdst_zero gdst_succ retQ_normal retQ_ret qneed_nil qneed_cons retM_normal retM_ret endR_normal endR_ret endR_exit
attribute [local go_sem] Int.reduceToNat Int.reduceEq Int.reduceNe Int.reduceLT Int.reduceLE Int.reduceNeg Int.reduceAdd Nat.reduceEqDiff Nat.reduceAdd Nat.reduceSub Nat.reduceMul Nat.reduceLeDiff Nat.reduceLT
attribute [local go_sem ↓] reduceIte reduceCtorEq

theorem b_is (x : Nat) : PC E 65 [u x] (.tuple [.agg [u x, .int .u8 0, .int .i64 0], .int .i64 0]) := by
  refine PC.of_body follows Tryd.func65 (by decide +kernel) rfl (by kernel_rfl) (Nat.le_of_ble_eq_true rfl) (walk ?_)
  simp only [u]
  simp only [Tryd.f65, go_sem]
  try rfl
theorem b_invalid : PC E 64 [] (.tuple [.agg [.int .u64 9221120237041090560, .int .u8 16, .int .i64 0], .int .i64 0]) := by
  refine PC.of_body follows Tryd.func64 (by decide +kernel) rfl (by kernel_rfl) (Nat.le_of_ble_eq_true rfl) (walk ?_)
  simp only [Tryd.f64, go_sem]
  try rfl
theorem b_right (dir : Int) : PC E 109 [.int .i64 dir] (.bool (decide (0 ≤ dir ∧ dir ≤ 3))) := by
  refine PC.of_body follows Tryd.func109 (by decide +kernel) rfl (by kernel_rfl) (Nat.le_of_ble_eq_true rfl) (walk ?_)
  simp only [Tryd.f109, go_sem]
  refine qif_d (fun h => ?_) (fun h => ?_)
  · simp only [Tryd.f109, go_sem]
    exact decide_eq_decide.2 (by omega)
  · simp only [Tryd.f109, go_sem]
    exact (decide_eq_false (by omega)).symm
/-- The sign of a product. -/
def sgB (x y : Nat) : Nat := if (fs x != fs y) = true then 9223372036854775808 else 0
theorem sgB_eq {x y : Nat} (hx : x < W) (hy : y < W) : (x ^^^ y) &&& 9223372036854775808 = sgB x y := by
  rw [Nat.and_xor_distrib_right, and_top hx, and_top hy]
  unfold sgB fs
  by_cases h1 : 9223372036854775808 ≤ x <;> by_cases h2 : 9223372036854775808 ≤ y <;> simp [h1, h2]
theorem b_sign {x y : Nat} (hx : x < W) (hy : y < W) : PC E 62 [u x, u y] (u (sgB x y)) := by
  have hxy : x ^^^ y < W := by
    have : W = 2 ^ 64 := by decide
    rw [this] at *
    exact Nat.xor_lt_two_pow hx hy
  have e1 : bits .xor .u64 (x : Int) (y : Int) = ((x ^^^ y : Nat) : Int) := b_xor hx hy
  have e2 : bits .and .u64 ((x ^^^ y : Nat) : Int) 9223372036854775808 = ((sgB x y : Nat) : Int) := by
    rw [← sgB_eq hx hy]
    exact b_and hxy (by decide)
  refine PC.of_body follows Tryd.func62 (by decide +kernel) rfl (by kernel_rfl) (Nat.le_of_ble_eq_true rfl) (walk ?_)
  simp only [u]
  generalize sgB x y = s at *
  generalize x ^^^ y = z at *
  simp only [Tryd.f62, e1, e2, go_sem]
  try rfl
theorem b_kind1 {x : Nat} (hx : x < W) (k : Int) : PC E 110 [u x, .ref [.int .i64 k]] (.bool (decide ((kind x : Int) = k))) := by
  have k1 := c_Kind x hx
  simp only [u] at k1 ⊢
  generalize kind x = a at *
  refine PC.of_body follows Tryd.func110 (by decide +kernel) rfl (by kernel_rfl) (Nat.le_of_ble_eq_true rfl) (walk ?_)
  simp only [Tryd.f110, go_sem]
  refine qcall_i (k1) ?_; simp only [Tryd.f110, go_sem]
  try rfl
theorem b_kind {l : List Nat} (ol : Ok W l) (hl : l.length ≤ 1000) (k : Int) : PC E 63 [.int .i64 k, NL l] (.bool (l.any fun x => decide ((kind x : Int) = k))) := by
  have k2 := g_Contains (f := 110) (by kernel_rfl) (cs := [.ref [.int .i64 k]]) (p := fun x => decide ((kind x : Int) = k)) (l := l) (by omega) (fun x hx => b_kind1 (ol x hx) k)
  generalize (l.any fun x => decide ((kind x : Int) = k)) = A at *
  refine PC.of_body follows Tryd.func63 (by decide +kernel) rfl (by kernel_rfl) (Nat.le_of_ble_eq_true rfl) (walk ?_)
  simp only [NL] at k2 ⊢
  simp only [Tryd.f63, go_sem]
  refine qcall_i (k2) ?_; simp only [Tryd.f63, go_sem]
  try rfl
end Go.Proofs.YtejmlngnpekagaaDoor
