/- root: square roots by Newton's steps. -/
import Derived.Test.YtejmlngnpekagaaDoorRt1
open Go PG Go.Proofs
set_option maxRecDepth 100000
set_option linter.unusedSimpArgs false
set_option linter.unusedVariables false
namespace Go.Proofs.YtejmlngnpekagaaDoor
attribute [local go_sem] Lay2 Lay3 Lay4 Lay5 Lay6 Lay7 Lay8 Lay9 Lay10 Lay11 Lay12 Lay13 Lay14 Lay15 Lay16 Lay17 Lay18 Lay19 Lay21 Lay22 Lay23 Lay24 Lay25 Lay30 Lay33 Lay36 Lay37 Lay46 Lay47 Lay48 Lay53 Lay54 Lay55 Lay59 Lay100 Lay101 Lay127 Lay146 Lay162 Lay168 Lay169 Lay173 Lay185 Lay186 Lay187 Lay188 Lay189 Lay191 Lay192 Lay194 Lay195 Lay196 Lay199 qexec_seq qexec_skip qexec_exit qexec_ret qexec_block qexec_loop qexec_range qexec_cond qexec_region qexec_drawn qops_nil qops_none qops_some put_some put_none pblk_exit pblk_other newDsts_nil inlDsts_nil isInl sget_cons sget_nil qval_some qbool_some qgs_bool qgs_und qfree_some qgrd_true qgrd_false qif_true qif_false qval_ite qval_itn qand_true map_ite map_some' map_none' qdo_move qdo_assign qdo_binOp qdo_pick qdo_unOp qdo_convert qdo_extract qdo_field qdo_fieldAddr qdo_alloc qdo_box qdo_build qdo_buildSlice qdo_load qdo_store qdo_nilCheck qdo_makeFunc qdo_makeSlice qdo_slice qdo_indexAddr qdo_call qcont_val qcont_new qcont_st qcont_app0 qcont_app qcont_inl qcont_call njSV_val njSV_nil njSV_row njSV_ptr njSV_sub binV_val binV_nil binV_nn binV_ptr bin_np bin_nnp nilCmp bin_add bin_sub bin_mul bin_quo bin_rem bin_and bin_or bin_xor bin_andNot bin_eql bin_neq bin_lss bin_leq bin_gtr bin_geq bin_shl bin_shr bin_seql bin_sneq bin_sadd bin_beql bin_aeql bin_aneq eqAnd_some eqCells_nil eqCells_cons fieldTypes isStruct eqCell bin_bneq un_not un_neg nj_ite Nat.beq stepA stepR isNew opSV constSV RV.sv allSome E_mu E_own qkeyIn_none qkeyIn_some qkeyAt_none qkeyAt_some Bool.or_false Bool.false_or Bool.or_true Bool.true_or cst setB res resSV pstart startL killL kill1 eraL frzL svPV rvPV rvInt rvSlice frzOf close closeL pconv pbuiltin pmax2 partPV setCells fillPV zrow bound newSV PV.cells Bk.cells Bk.with SV.key pres presL_nil presL_tmp presL_cell presC2_some cellPV_ptr presC List.toList_toArray List.size_toArray List.getElem?_drop Nat.mul_one Int.toNat_natCast Nat.not_lt_zero Nat.lt_irrefl decide_true decide_false Nat.not_lt Option.some.injEq PV.lst.injEq PV.int.injEq PV.bool.injEq PV.tuple.injEq List.cons.injEq Option.map_some Option.map_none Option.bind_some Option.toList List.map_cons List.map_nil List.nil_append List.cons_append List.append_nil List.zip_cons_cons List.zip_nil_left List.zip_nil_right List.getElem?_cons_zero List.getElem?_cons_succ List.drop_zero List.drop_succ_cons List.take_succ_cons List.take_zero List.set_cons_zero List.set_cons_succ List.length_cons List.length_nil List.length_set List.replicate_one List.replicate_zero bne_self_eq_false beq_self_eq_true Nat.zero_add Nat.add_zero Nat.zero_mul Bool.false_eq_true Bool.true_eq_false Bool.not_true Bool.not_false and_true true_and false_and and_false or_false false_or or_true true_or not_true_eq_false not_false_eq_true ne_eq gt_iff_lt List.mem_cons List.not_mem_nil
attribute [local go_sem ↓] pseq_normal pseq_ret pseq_exit pblk_normal pblk_ret newDsts_cons inlDsts_cons gdst_zero gdst_succ retQ_normal retQ_ret qneed_nil qneed_cons retM_normal retM_ret endR_normal endR_ret endR_exit
attribute [local go_sem] Int.reduceToNat Int.reduceEq Int.reduceNe Int.reduceLT Int.reduceLE Int.reduceNeg Int.reduceAdd Nat.reduceEqDiff Nat.reduceAdd Nat.reduceSub Nat.reduceMul Nat.reduceLeDiff Nat.reduceLT
attribute [local go_sem ↓] reduceIte reduceCtorEq

/-- The whole part of a square root. -/
def Isq (a r : Nat) : Prop := r * r ≤ a ∧ a < (r + 1) * (r + 1)
theorem isq_ex (a : Nat) : ∃ r, Isq a r := by
  induction a with
  | zero => exact ⟨0, by decide, by decide⟩
  | succ a ih =>
    obtain ⟨r, h1, h2⟩ := ih
    by_cases h : a + 1 < (r + 1) * (r + 1)
    · exact ⟨r, by omega, h⟩
    · refine ⟨r + 1, by omega, ?_⟩
      have : (r + 1 + 1) * (r + 1 + 1) = (r + 1) * (r + 1) + 2 * r + 3 := by grind
      omega
def newton (a x : Nat) : Nat := (x + a / x) / 2
theorem newton_ge {a r x : Nat} (h : Isq a r) (hx : 0 < x) : r ≤ newton a x := by
  unfold newton
  rw [Nat.le_div_iff_mul_le (by decide)]
  -- 2 r ≤ x + a / x
  refine Nat.not_lt.1 fun hlt => ?_
  have h1 : a / x < r * 2 - x := Nat.lt_sub_of_add_lt (by rw [Nat.add_comm]; exact hlt)
  have hxr : x < r * 2 := Nat.lt_of_sub_pos (Nat.lt_of_le_of_lt (Nat.zero_le _) h1)
  have h2 := (Nat.div_lt_iff_lt_mul hx).1 h1
  clear h1
  have h3 : (r * 2 - x) * x ≤ r * r := by
    obtain ⟨d, hd⟩ : ∃ d, r * 2 = x + d := ⟨r * 2 - x, by omega⟩
    rw [show r * 2 - x = d by omega]
    -- d * x ≤ ((d + x) / 2)^2
    have h4 : (d * x) * 4 ≤ (r * 2) * (r * 2) := by
      rw [hd]
      obtain ⟨t, ht⟩ | ⟨t, ht⟩ : (∃ t, d = x + t) ∨ (∃ t, x = d + t) := by
        by_cases hc : x ≤ d
        · exact .inl ⟨d - x, by omega⟩
        · exact .inr ⟨x - d, by omega⟩
      · subst ht; grind
      · subst ht; grind
    have h5 : (r * 2) * (r * 2) = 4 * (r * r) := by grind
    omega
  have := h.1
  omega
theorem newton_lt {a r x : Nat} (h : Isq a r) (hx : r < x) : newton a x < x := by
  unfold newton
  rw [Nat.div_lt_iff_lt_mul (by decide)]
  have h1 : a < x * x := Nat.lt_of_lt_of_le h.2 (Nat.mul_le_mul hx hx)
  have h2 : a / x < x := (Nat.div_lt_iff_lt_mul (by omega)).2 h1
  generalize a / x = q at *
  omega
theorem newton_bits {a x n : Nat} (h1 : bitLen a ≤ n) (h2 : bitLen x ≤ n) : bitLen (newton a x) ≤ n := by
  rw [bitLen_le] at *
  have := Nat.div_le_self a x
  unfold newton
  generalize a / x = q at *
  omega
theorem k_step {a x : Nat} (ha : bitLen a ≤ 20000) (hx : bitLen x ≤ 20000) (h0 : x ≠ 0) : PC E 162 [NN a, NN x, .int .i64 2] (NN (newton a x)) := by
  have k1 := k_Pow hx (k := 1) (.inl rfl)
  rw [Nat.pow_one, show ((1 : Nat) : Int) = 1 from rfl] at k1
  have k2 := k_Div (num_bits (x := a) (by omega)) (num_bits (x := x) (by omega)) (by omega) (by omega) h0
  have k3 := k_Times1 (x := x) (by omega)
  have bd : bitLen (a / x) ≤ 20000 := Nat.le_trans (bitLen_mono (Nat.div_le_self a x)) ha
  have k4 := k_Add (num_bits (x := x) (by omega)) (num_bits (x := a / x) (by omega))
  have bs := bitLen_add hx bd
  have k5 := d_Small (l := dg W (x + a / x)) (ok_dg W2 _) (by have := w_of_bits (x := x + a / x) (n := 1000) (by omega); omega) (n := 2) (by decide) (by decide)
  rw [show vl (dg W (x + a / x)) = x + a / x from dv_dg W2 _] at k5
  rw [show (x + a / x) / 2 = newton a x from rfl] at k5
  generalize newton a x = nw at *
  generalize (x + a / x) % 2 = rm at *
  generalize x + a / x = sm at *
  generalize a % x = am at *
  generalize a / x = ad at *
  simp only [u, NN, NL] at k1 k2 k3 k4 k5 ⊢
  rw [show ((2 : Nat) : Int) = 2 from rfl] at k5
  refine PC.of_body follows Tryd.func162 (by decide +kernel) rfl (by kernel_rfl) (Nat.le_of_ble_eq_true rfl) (walk ?_)
  simp only [Tryd.f162, go_sem]
  refine qcall_i (k1) ?_; simp only [Tryd.f162, go_sem]
  refine qcall_i (k2) ?_; simp only [Tryd.f162, go_sem]
  refine qcall_i (k3) ?_; simp only [Tryd.f162, go_sem]
  refine qcall_i (k4) ?_; simp only [Tryd.f162, go_sem]
  refine qcall_i (k5) ?_; simp only [Tryd.f162, go_sem]
  try exact ⟨rfl, rfl⟩
  try rfl
end Go.Proofs.YtejmlngnpekagaaDoor
