/- Several parts in one text. -/
import Derived.Test.YtmnojbkakgfinaaGreatDoorG8
import Derived.Test.YtmnojbkakgfinaaGreatDoorI3
import Derived.Test.YtmnojbkakgfinaaGreatDoorI1
import Derived.Test.YtmnojbkakgfinaaGreatDoorI2
open Go PG Go.Proofs
namespace Go.Proofs.YtmnojbkakgfinaaGreatDoor
attribute [local go_sem] Lay2 Lay3 Lay4 Lay5 Lay6 Lay7 Lay8 Lay9 Lay10 Lay11 Lay12 Lay13 Lay14 Lay15 Lay16 Lay17 Lay18 Lay19 Lay21 Lay23 Lay24 Lay25 Lay26 Lay27 Lay28 Lay31 Lay32 Lay33 Lay40 Lay43 Lay44 Lay49 Lay50 Lay57 Lay58 Lay61 Lay68 Lay69 Lay72 Lay77 Lay125 Lay133 Lay134 Lay150 Lay167 Lay168 Lay169 Lay170 Lay180 Lay181 Lay185 Lay186 Lay189 Lay205 Lay208 Lay223 Lay227 Lay228 Lay231 Lay232 Lay233 Lay234 Lay235 Lay236 Lay237 Lay238 Lay240 Lay241 Lay242 Lay243 Lay244 Lay245 Lay246 Lay247 Lay249 Lay250 qexec_seq qexec_skip qexec_exit qexec_ret qexec_block qexec_loop qexec_range qexec_cond qexec_region qexec_drawn qops_nil qops_none qops_some put_some put_none pblk_exit pblk_other newDsts_nil inlDsts_nil isInl sget_cons sget_nil qval_some qbool_some qgs_bool qgs_und qfree_some qgrd_true qgrd_false qif_true qif_false qval_ite qval_itn qand_true map_ite map_some' map_none' qdo_move qdo_assign qdo_binOp qdo_pick qdo_unOp qdo_convert qdo_extract qdo_field qdo_fieldAddr qdo_alloc qdo_box qdo_build qdo_buildSlice qdo_load qdo_store qdo_nilCheck qdo_makeFunc qdo_makeSlice qdo_slice qdo_indexAddr qdo_call qcont_val qcont_new qcont_st qcont_app0 qcont_app qcont_inl qcont_call njSV_val njSV_nil njSV_row njSV_ptr njSV_sub binV_val binV_nil binV_nn binV_ptr bin_np bin_nnp nilCmp bin_add bin_sub bin_mul bin_quo bin_rem bin_and bin_or bin_xor bin_andNot bin_eql bin_neq bin_lss bin_leq bin_gtr bin_geq bin_shl bin_shr bin_seql bin_sneq bin_sadd bin_beql bin_aeql bin_aneq eqAnd_some eqCells_nil eqCells_cons fieldTypes isStruct eqCell bin_bneq un_not un_neg nj_ite Nat.beq stepA stepR isNew opSV constSV RV.sv allSome E_mu E_own qkeyIn_none qkeyIn_some qkeyAt_none qkeyAt_some Bool.or_false Bool.false_or Bool.or_true Bool.true_or cst setB res resSV pstart startL killL kill1 eraL frzL svPV rvPV rvInt rvSlice rvBytes frzOf close closeL pconv pbuiltin pmax2 partPV setCells fillPV zrow bound newSV PV.cells Bk.cells Bk.with SV.key pres presL_nil presL_tmp presL_cell presC2_some cellPV_ptr presC List.toList_toArray List.size_toArray List.getElem?_drop Nat.mul_one Int.toNat_natCast Nat.not_lt_zero Nat.lt_irrefl decide_true decide_false Nat.not_lt Option.some.injEq PV.lst.injEq PV.int.injEq PV.bool.injEq PV.tuple.injEq List.cons.injEq Option.map_some Option.map_none Option.bind_some Option.toList List.map_cons List.map_nil List.nil_append List.cons_append List.append_nil List.zip_cons_cons List.zip_nil_left List.zip_nil_right List.getElem?_cons_zero List.getElem?_cons_succ List.drop_zero List.drop_succ_cons List.take_succ_cons List.take_zero List.set_cons_zero List.set_cons_succ List.length_cons List.length_nil List.length_set List.replicate_one List.replicate_zero bne_self_eq_false beq_self_eq_true Nat.zero_add Nat.add_zero Nat.zero_mul Bool.false_eq_true Bool.true_eq_false Bool.not_true Bool.not_false and_true true_and false_and and_false or_false false_or or_true true_or not_true_eq_false not_false_eq_true ne_eq gt_iff_lt List.mem_cons List.not_mem_nil
attribute [local go_sem ↓] pseq_normal pseq_ret pseq_exit pblk_normal pblk_ret newDsts_cons inlDsts_cons gdst_zero gdst_succ retQ_normal retQ_ret qneed_nil qneed_cons retM_normal retM_ret endR_normal endR_ret endR_exit
attribute [local go_sem] Int.reduceToNat Int.reduceEq Int.reduceNe Int.reduceLT Int.reduceLE Int.reduceNeg Int.reduceAdd Nat.reduceEqDiff Nat.reduceAdd Nat.reduceSub Nat.reduceMul Nat.reduceLeDiff Nat.reduceLT
attribute [local go_sem ↓] reduceIte reduceCtorEq
/- slices.IndexFunc and ContainsFunc over numbers, whatever the question is. -/
section
open Go PG Go.Proofs
set_option maxRecDepth 100000
set_option linter.unusedSimpArgs false
set_option linter.unusedVariables false

end

/- basic: kinds of operands, signs, results. -/
section
open Go PG Go.Proofs
set_option maxRecDepth 100000
set_option linter.unusedSimpArgs false
set_option linter.unusedVariables false

theorem b_right (dir : Int) : PC E 108 [.int .i64 dir] (.bool (decide (0 ≤ dir ∧ dir ≤ 3))) := by
  refine PC.of_body follows Tryz.func108 (by decide +kernel) rfl (by kernel_rfl) (Nat.le_of_ble_eq_true rfl) (walk ?_)
  simp only [Tryz.f108, go_sem]
  refine qif_d (fun h => ?_) (fun h => ?_)
  · simp only [Tryz.f108, go_sem]
    exact decide_eq_decide.2 (by omega)
  · simp only [Tryz.f108, go_sem]
    exact (decide_eq_false (by omega)).symm
/-- The sign of a product. -/
def sgB (x y : Nat) : Nat := if (fs x != fs y) = true then 9223372036854775808 else 0
theorem sgB_eq {x y : Nat} (hx : x < W) (hy : y < W) : (x ^^^ y) &&& 9223372036854775808 = sgB x y := by
  rw [Nat.and_xor_distrib_right, and_top hx, and_top hy]
  unfold sgB fs
  by_cases h1 : 9223372036854775808 ≤ x <;> by_cases h2 : 9223372036854775808 ≤ y <;> simp [h1, h2]
end

/- basic: what NaNs tell, roundings, a product and a sum. -/
section
open Go PG Go.Proofs
set_option maxRecDepth 100000
set_option linter.unusedSimpArgs false
set_option linter.unusedVariables false

/-- Bits and flags as a result. -/
def resB (r : Nat × Nat) (e : Int) : PV := .tuple [.agg [.int .u64 (r.1 : Int), .int .u8 (r.2 : Int), .int .i64 0], .int .i64 e]
def resE (r : Nat × Nat) (e : Int) (ok : Bool) : PV := .tuple [.agg [.int .u64 (r.1 : Int), .int .u8 (r.2 : Int), .int .i64 0], .int .i64 e, .bool ok]
/-- A product and a sum, rounded once: bits and flags. -/
def fmaS (x y z : Nat) (dir : Int) : Nat × Nat :=
  if kind x = 5 ∨ kind y = 5 ∨ kind z = 5 then (9221120237041090560, 16)
  else if kind x = 4 ∨ kind y = 4 ∨ kind z = 4 then (9221120237041090560, 0)
  else if (kind x = 3 ∨ kind y = 3) ∧ (kind x = 0 ∨ kind y = 0) then (9221120237041090560, 16)
  else if (kind x = 3 ∨ kind y = 3) ∧ kind z = 3 ∧ z &&& 9223372036854775808 ≠ sgB x y then (9221120237041090560, 16)
  else if kind x = 3 ∨ kind y = 3 then (9218868437227405312 ||| sgB x y, 0)
  else if kind z = 3 then (z, 0)
  else if (addS (mulS (fd0 x) (fd0 y)) (fd0 z)).m ≠ 0 then toS (addS (mulS (fd0 x) (fd0 y)) (fd0 z)) false dir
  else if (mulS (fd0 x) (fd0 y)).m = 0 ∧ z &&& 9223372036854775808 = sgB x y then (sgB x y, 0)
  else if dir = 3 then (9223372036854775808, 0) else (0, 0)
theorem any3 (x y z : Nat) (k : Nat) : ([x, y, z].any fun x => decide ((kind x : Int) = (k : Int))) = decide (kind x = k ∨ kind y = k ∨ kind z = k) := by
  simp only [List.any_cons, List.any_nil, Bool.or_false]
  rw [Bool.decide_or, Bool.decide_or]
  congr 1
  · exact decide_eq_decide.2 (by omega)
  · congr 1 <;> exact decide_eq_decide.2 (by omega)
theorem any2 (x y : Nat) (k : Nat) : ([x, y].any fun x => decide ((kind x : Int) = (k : Int))) = decide (kind x = k ∨ kind y = k) := by
  simp only [List.any_cons, List.any_nil, Bool.or_false]
  rw [Bool.decide_or]
  congr 1 <;> exact decide_eq_decide.2 (by omega)
theorem any1 (x : Nat) (k : Nat) : ([x].any fun x => decide ((kind x : Int) = (k : Int))) = decide (kind x = k) := by
  simp only [List.any_cons, List.any_nil, Bool.or_false]
  exact decide_eq_decide.2 (by omega)
end

/- basic: a product and a sum. -/
section
open Go PG Go.Proofs
set_option maxRecDepth 100000
set_option linter.unusedSimpArgs false
set_option linter.unusedVariables false

theorem sum_limB (x y z : Nat) : Lim (K0 + 1) (addS (mulS (fd0 x) (fd0 y)) (fd0 z)) := (prod_limK x y).add ((fd0_lim z).mono (by rw [K0_eq]; decide)) (by rw [K0_eq]; decide)
end

/- basic: a sum, a product. -/
section
open Go PG Go.Proofs
set_option maxRecDepth 100000
set_option linter.unusedSimpArgs false
set_option linter.unusedVariables false

theorem sgB_lt (x y : Nat) : sgB x y < W := by unfold sgB; split <;> decide
/-- Numbers that are 0 or none are worth 0, others are not. -/
theorem fd0_m (b : Nat) : (fd0 b).m = 0 ↔ kind b = 0 ∨ 3 ≤ kind b := by
  have hfe := fe_lt b
  unfold fd0
  by_cases h : fe b < 2047
  · rw [if_pos h]
    have hk : kind b < 3 := by unfold kind; (repeat' split) <;> omega
    have : (fd b).m = 0 ↔ fe b = 0 ∧ ff b = 0 := by
      unfold fd
      rw [mkD_m0]
      unfold fm
      split <;> omega
    rw [this]
    unfold kind
    (repeat' split) <;> omega
  · rw [if_neg h]
    have : 3 ≤ kind b := by unfold kind; (repeat' split) <;> omega
    simp [Dy.zero, this]
end

/- planimeterref28: the worst kind. -/
section
open Go PG Go.Proofs
set_option maxRecDepth 100000
set_option linter.unusedSimpArgs false
set_option linter.unusedVariables false

def worstS (l : List Nat) : Nat := l.foldl (fun w x => if 3 < kind x ∧ w < kind x then kind x else w) 0
theorem worstS_snoc (l : List Nat) (x : Nat) : worstS (l ++ [x]) = if 3 < kind x ∧ worstS l < kind x then kind x else worstS l := by unfold worstS; rw [List.foldl_append]; rfl
theorem worst_pos {x y z : Nat} (h : ¬ (kind x ≤ 3 ∧ kind y ≤ 3 ∧ kind z ≤ 3)) : 0 < worstS [x, y, z] := by
  unfold worstS
  simp only [List.foldl_cons, List.foldl_nil]
  generalize kind x = a at *
  generalize kind y = b at *
  generalize kind z = c at *
  (repeat' split) <;> omega
end
end Go.Proofs.YtmnojbkakgfinaaGreatDoor
