/- basic: what NaNs tell, roundings, a product and a sum. -/
import Derived.Test.YtejmlngnpekagaaDoorBas1
open Go PG Go.Proofs
set_option maxRecDepth 100000
set_option linter.unusedSimpArgs false
set_option linter.unusedVariables false
namespace Go.Proofs.YtejmlngnpekagaaDoor
attribute [local go_sem] Lay2 Lay3 Lay4 Lay5 Lay6 Lay7 Lay8 Lay9 Lay10 Lay11 Lay12 Lay13 Lay14 Lay15 Lay16 Lay17 Lay18 Lay19 Lay21 Lay22 Lay23 Lay24 Lay25 Lay30 Lay33 Lay36 Lay37 Lay46 Lay47 Lay48 Lay53 Lay54 Lay55 Lay59 Lay100 Lay101 Lay127 Lay146 Lay162 Lay168 Lay169 Lay173 Lay185 Lay186 Lay187 Lay188 Lay189 Lay191 Lay192 Lay194 Lay195 Lay196 Lay199 qexec_seq qexec_skip qexec_exit qexec_ret qexec_block qexec_loop qexec_range qexec_cond qexec_region qexec_drawn qops_nil qops_none qops_some put_some put_none pblk_exit pblk_other newDsts_nil inlDsts_nil isInl sget_cons sget_nil qval_some qbool_some qgs_bool qgs_und qfree_some qgrd_true qgrd_false qif_true qif_false qval_ite qval_itn qand_true map_ite map_some' map_none' qdo_move qdo_assign qdo_binOp qdo_pick qdo_unOp qdo_convert qdo_extract qdo_field qdo_fieldAddr qdo_alloc qdo_box qdo_build qdo_buildSlice qdo_load qdo_store qdo_nilCheck qdo_makeFunc qdo_makeSlice qdo_slice qdo_indexAddr qdo_call qcont_val qcont_new qcont_st qcont_app0 qcont_app qcont_inl qcont_call njSV_val njSV_nil njSV_row njSV_ptr njSV_sub binV_val binV_nil binV_nn binV_ptr bin_np bin_nnp nilCmp bin_add bin_sub bin_mul bin_quo bin_rem bin_and bin_or bin_xor bin_andNot bin_eql bin_neq bin_lss bin_leq bin_gtr bin_geq bin_shl bin_shr bin_seql bin_sneq bin_sadd bin_beql bin_aeql bin_aneq eqAnd_some eqCells_nil eqCells_cons fieldTypes isStruct eqCell bin_bneq un_not un_neg nj_ite Nat.beq stepA stepR isNew opSV constSV RV.sv allSome E_mu E_own qkeyIn_none qkeyIn_some qkeyAt_none qkeyAt_some Bool.or_false Bool.false_or Bool.or_true Bool.true_or cst setB res resSV pstart startL killL kill1 eraL frzL svPV rvPV rvInt rvSlice frzOf close closeL pconv pbuiltin pmax2 partPV setCells fillPV zrow bound newSV PV.cells Bk.cells Bk.with SV.key pres presL_nil presL_tmp presL_cell presC2_some cellPV_ptr presC List.toList_toArray List.size_toArray List.getElem?_drop Nat.mul_one Int.toNat_natCast Nat.not_lt_zero Nat.lt_irrefl decide_true decide_false Nat.not_lt Option.some.injEq PV.lst.injEq PV.int.injEq PV.bool.injEq PV.tuple.injEq List.cons.injEq Option.map_some Option.map_none Option.bind_some Option.toList List.map_cons List.map_nil List.nil_append List.cons_append List.append_nil List.zip_cons_cons List.zip_nil_left List.zip_nil_right List.getElem?_cons_zero List.getElem?_cons_succ List.drop_zero List.drop_succ_cons List.take_succ_cons List.take_zero List.set_cons_zero List.set_cons_succ List.length_cons List.length_nil List.length_set List.replicate_one List.replicate_zero bne_self_eq_false beq_self_eq_true Nat.zero_add Nat.add_zero Nat.zero_mul Bool.false_eq_true Bool.true_eq_false Bool.not_true Bool.not_false and_true true_and false_and and_false or_false false_or or_true true_or not_true_eq_false not_false_eq_true ne_eq gt_iff_lt List.mem_cons List.not_mem_nil
attribute [local go_sem ↓] pseq_normal pseq_ret pseq_exit pblk_normal pblk_ret newDsts_cons inlDsts_cons gdst_zero gdst_succ retQ_normal retQ_ret qneed_nil qneed_cons retM_normal retM_ret endR_normal endR_ret endR_exit
attribute [local go_sem] Int.reduceToNat Int.reduceEq Int.reduceNe Int.reduceLT Int.reduceLE Int.reduceNeg Int.reduceAdd Nat.reduceEqDiff Nat.reduceAdd Nat.reduceSub Nat.reduceMul Nat.reduceLeDiff Nat.reduceLT
attribute [local go_sem ↓] reduceIte reduceCtorEq

/-- Bits and flags as a result. -/
def resB (r : Nat × Nat) (e : Int) : PV := .tuple [.agg [.int .u64 (r.1 : Int), .int .u8 (r.2 : Int), .int .i64 0], .int .i64 e]
def resE (r : Nat × Nat) (e : Int) (ok : Bool) : PV := .tuple [.agg [.int .u64 (r.1 : Int), .int .u8 (r.2 : Int), .int .i64 0], .int .i64 e, .bool ok]
theorem b_early {l : List Nat} (ol : Ok W l) (hl : l.length ≤ 1000) {dir : Int} (hd : 0 ≤ dir ∧ dir ≤ 3) : PC E 61 [.int .i64 dir, NL l]
    (if (l.any fun x => decide ((kind x : Int) = 5)) = true then resE (9221120237041090560, 16) 0 true else if (l.any fun x => decide ((kind x : Int) = 4)) = true then resE (9221120237041090560, 0) 0 true else resE (0, 0) 0 false) := by
  have k5 := b_kind ol hl 5
  have k4 := b_kind ol hl 4
  have kr := b_right dir
  rw [decide_eq_true hd] at kr
  have ki := b_invalid
  have ks := b_is 9221120237041090560
  simp only [u] at ks
  rw [show ((9221120237041090560 : Nat) : Int) = 9221120237041090560 from rfl] at ks
  generalize (l.any fun x => decide ((kind x : Int) = 5)) = A at *
  generalize (l.any fun x => decide ((kind x : Int) = 4)) = B at *
  simp only [NL, resE] at k4 k5 ⊢
  refine PC.of_body follows Tryd.func61 (by decide +kernel) rfl (by kernel_rfl) (Nat.le_of_ble_eq_true rfl) (walk ?_)
  cases A
  · cases B
    · simp only [Tryd.f61, go_sem]
      refine qcall_i (kr) ?_; simp only [Tryd.f61, go_sem]
      refine qcall_i (k5) ?_; simp only [Tryd.f61, go_sem]
      refine qcall_i (k4) ?_; simp only [Tryd.f61, go_sem]
      try rfl
    · simp only [Tryd.f61, go_sem]
      refine qcall_i (kr) ?_; simp only [Tryd.f61, go_sem]
      refine qcall_i (k5) ?_; simp only [Tryd.f61, go_sem]
      refine qcall_i (k4) ?_; simp only [Tryd.f61, go_sem]
      refine qcall_i (ks) ?_; simp only [Tryd.f61, go_sem]
      try rfl
  · simp only [Tryd.f61, go_sem]
    refine qcall_i (kr) ?_; simp only [Tryd.f61, go_sem]
    refine qcall_i (k5) ?_; simp only [Tryd.f61, go_sem]
    refine qcall_i (ki) ?_; simp only [Tryd.f61, go_sem]
    try rfl
theorem b_rounded {K : Nat} {d : Dy} (h : Lim K d) (hK : K ≤ 100000) {dir : Int} (hd : 0 ≤ dir ∧ dir ≤ 3) : PC E 69 [d.pv, .int .i64 dir] (resB (toS d false dir) 0) := by
  have k2 := r_To (h.RD (by omega)) (by have := h.bits; omega) false dir
  rw [if_pos ⟨h.fits (by omega), hd.1, hd.2, fun h => by cases h.1⟩] at k2
  unfold resB
  simp only [u, Dy.pv, DP] at k2 ⊢
  generalize toS d false dir = To at *
  refine PC.of_body follows Tryd.func69 (by decide +kernel) rfl (by kernel_rfl) (Nat.le_of_ble_eq_true rfl) (walk ?_)
  simp only [Tryd.f69, go_sem]
  refine qcall_i (k2) ?_; simp only [Tryd.f69, go_sem]
  try rfl
/-- A product and a sum, rounded once: bits and flags. -/
def fmaS (x y z : Nat) (dir : Int) : Nat × Nat :=
  if kind x = 5 ∨ kind y = 5 ∨ kind z = 5 then (9221120237041090560, 16)
  else if kind x = 4 ∨ kind y = 4 ∨ kind z = 4 then (9221120237041090560, 0)
  else if (kind x = 3 ∨ kind y = 3) ∧ (kind x = 0 ∨ kind y = 0) then (9221120237041090560, 16)
  else if (kind x = 3 ∨ kind y = 3) ∧ kind z = 3 ∧ z &&& 9223372036854775808 ≠ sgB x y then (9221120237041090560, 16)
  else if kind x = 3 ∨ kind y = 3 then (9218868437227405312 ||| sgB x y, 0)
  else if kind z = 3 then (z, 0)
  else if (addS (mulS (fd0 x) (fd0 y)) (fd0 z)).m ≠ 0 then toS (addS (mulS (fd0 x) (fd0 y)) (fd0 z)) false dir
  else if (mulS (fd0 x) (fd0 y)).m = 0 ∧ z &&& 9223372036854775808 = sgB x y then (sgB x y, 0)
  else if dir = 3 then (9223372036854775808, 0) else (0, 0)
theorem any3 (x y z : Nat) (k : Nat) : ([x, y, z].any fun x => decide ((kind x : Int) = (k : Int))) = decide (kind x = k ∨ kind y = k ∨ kind z = k) := by
  simp only [List.any_cons, List.any_nil, Bool.or_false]
  rw [Bool.decide_or, Bool.decide_or]
  congr 1
  · exact decide_eq_decide.2 (by omega)
  · congr 1 <;> exact decide_eq_decide.2 (by omega)
theorem any2 (x y : Nat) (k : Nat) : ([x, y].any fun x => decide ((kind x : Int) = (k : Int))) = decide (kind x = k ∨ kind y = k) := by
  simp only [List.any_cons, List.any_nil, Bool.or_false]
  rw [Bool.decide_or]
  congr 1 <;> exact decide_eq_decide.2 (by omega)
theorem any1 (x : Nat) (k : Nat) : ([x].any fun x => decide ((kind x : Int) = (k : Int))) = decide (kind x = k) := by
  simp only [List.any_cons, List.any_nil, Bool.or_false]
  exact decide_eq_decide.2 (by omega)
end Go.Proofs.YtejmlngnpekagaaDoor
