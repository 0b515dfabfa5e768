/- The fields of a binary64's bits: what float's plain functions and the document's answer for them hand back. -/
import Derived.Test.YtflpcgcgeffolaaDoorNum
import Derived.Laws.BitsAllLaws
open Go PG Go.Proofs
set_option maxRecDepth 100000
set_option linter.unusedSimpArgs false
set_option linter.unusedVariables false
namespace Go.Proofs.YtflpcgcgeffolaaDoor
attribute [local go_sem] Lay2 Lay3 Lay4 Lay5 Lay6 Lay7 Lay8 Lay9 Lay10 Lay11 Lay12 Lay13 Lay14 Lay21 Lay22 Lay24 Lay25 Lay26 Lay27 Lay36 Lay37 Lay38 Lay39 Lay40 Lay41 Lay43 Lay46 Lay47 Lay66 Lay103 Lay105 Lay159 Lay164 Lay165 Lay166 Lay168 Lay169 Lay172 Lay173 qexec_seq qexec_skip qexec_exit qexec_ret qexec_block qexec_loop qexec_range qexec_cond qexec_region qops_nil qops_none qops_some put_some put_none pblk_exit pblk_other newDsts_nil sget_cons qval_some qbool_some qgs_bool qgs_und qfree_some qgrd_true qgrd_false qif_true qif_false qval_ite qval_itn qand_true map_ite map_some' map_none' qdo_move qdo_assign qdo_binOp qdo_pick qdo_unOp qdo_convert qdo_extract qdo_field qdo_fieldAddr qdo_alloc qdo_box qdo_build qdo_buildSlice qdo_load qdo_store qdo_nilCheck qdo_makeFunc qdo_makeSlice qdo_slice qdo_indexAddr qdo_call qcont_val qcont_new qcont_st qcont_app0 qcont_app qcont_inl qcont_call njSV_val njSV_nil njSV_row njSV_ptr njSV_sub binV_val binV_nil binV_nn nilCmp bin_add bin_sub bin_mul bin_quo bin_rem bin_and bin_or bin_xor bin_andNot bin_eql bin_neq bin_lss bin_leq bin_gtr bin_geq bin_shl bin_shr bin_seql bin_sneq bin_sadd bin_beql bin_aeql bin_aneq eqAnd_some eqCells_nil eqCells_cons fieldTypes isStruct eqCell bin_bneq un_not un_neg nj_ite Nat.beq stepA stepR isNew opSV constSV RV.sv allSome E_mu Bool.or_false Bool.false_or Bool.or_true Bool.true_or cst setB res resSV pstart startL killL kill1 eraL frzL svPV rvPV rvInt rvSlice frzOf close closeL pconv pbuiltin pmax2 partPV setCells fillPV zrow bound newSV PV.cells Bk.cells Bk.with SV.key pres presL_nil presL_tmp presL_cell presC2_some cellPV_ptr presC List.toList_toArray List.size_toArray List.getElem?_drop Nat.mul_one Int.toNat_natCast Nat.not_lt_zero Nat.lt_irrefl decide_true decide_false Nat.not_lt Option.some.injEq PV.lst.injEq PV.int.injEq PV.bool.injEq PV.tuple.injEq List.cons.injEq Option.map_some Option.map_none Option.bind_some Option.toList List.map_cons List.map_nil List.nil_append List.cons_append List.append_nil List.zip_cons_cons List.zip_nil_left List.zip_nil_right List.getElem?_cons_zero List.getElem?_cons_succ List.drop_zero List.drop_succ_cons List.take_succ_cons List.take_zero List.set_cons_zero List.set_cons_succ List.length_cons List.length_nil List.length_set List.replicate_one List.replicate_zero bne_self_eq_false beq_self_eq_true Nat.zero_add Nat.add_zero Nat.zero_mul Bool.false_eq_true Bool.true_eq_false Bool.not_true Bool.not_false and_true true_and false_and and_false or_false false_or or_true true_or not_true_eq_false not_false_eq_true ne_eq gt_iff_lt List.mem_cons List.not_mem_nil
attribute [local go_sem ↓] pseq_normal pseq_ret pseq_exit pblk_normal pblk_ret newDsts_cons gdst_zero gdst_succ retQ_normal retQ_ret retM_normal retM_ret endR_normal endR_ret endR_exit

/-- The fields: the exponent's, the fraction's; the sign. -/
def fe (b : Nat) : Nat := b / 4503599627370496 % 2048
def ff (b : Nat) : Nat := b % 4503599627370496
def fs (b : Nat) : Bool := decide (9223372036854775808 ≤ b)
def fsz (b : Nat) : Nat := b % 9223372036854775808
def kind (b : Nat) : Nat := if fe b = 0 ∧ ff b = 0 then 0 else if fe b = 0 then 1 else if fe b < 2047 then 2 else if ff b = 0 then 3 else if 2251799813685248 ≤ ff b then 4 else 5

theorem m_and (x k m : Nat) (hx : x < W) (hm : m = 2 ^ k - 1) (hk : m < W) : bits .and .u64 (x : Int) (m : Int) = ((x % 2 ^ k : Nat) : Int) := by
  rw [b_and hx hk, hm, Nat.and_two_pow_sub_one_eq_mod]
theorem a52 {x : Nat} (hx : x < W) : bits .and .u64 (x : Int) 4503599627370495 = ((ff x : Nat) : Int) := m_and x 52 4503599627370495 hx (by decide) (by decide)
theorem a11 {x : Nat} (hx : x < W) : bits .and .u64 (x : Int) 2047 = ((x % 2048 : Nat) : Int) := m_and x 11 2047 hx (by decide) (by decide)
theorem and_top {x : Nat} (hx : x < W) : x &&& 9223372036854775808 = if 9223372036854775808 ≤ x then 9223372036854775808 else 0 := by
  apply Nat.eq_of_testBit_eq
  intro i
  rw [Nat.testBit_and, show (9223372036854775808 : Nat) = 2 ^ 63 by decide, Nat.testBit_two_pow]
  by_cases hi : 63 = i
  · subst hi
    rw [decide_eq_true rfl, Bool.and_true]
    split
    · rename_i h
      rw [Nat.testBit_two_pow_self, Nat.testBit_eq_decide_div_mod_eq]
      have : x < 18446744073709551616 := hx
      simp only [decide_eq_true_eq]
      omega
    · rename_i h
      rw [Nat.zero_testBit]
      exact Nat.testBit_lt_two_pow (by omega)
  · rw [decide_eq_false hi, Bool.and_false]
    split
    · exact (Nat.testBit_two_pow_of_ne hi).symm
    · exact (Nat.zero_testBit i).symm
theorem a63 {x : Nat} (hx : x < W) : bits .and .u64 (x : Int) 9223372036854775808 = ((if 9223372036854775808 ≤ x then 9223372036854775808 else 0 : Nat) : Int) := by
  rw [← and_top hx]; exact b_and hx (by decide)
theorem n63 {x : Nat} (hx : x < W) : bits .andNot .u64 (x : Int) 9223372036854775808 = ((fsz x : Nat) : Int) := by
  have h := u64_andNot_nat x 9223372036854775808 hx (by decide)
  refine h.trans ?_
  rw [show (18446744073709551615 - 9223372036854775808 : Nat) = 2 ^ 63 - 1 by decide, Nat.and_two_pow_sub_one_eq_mod]; rfl
theorem o52 {f : Nat} (hf : f < 4503599627370496) : bits .or .u64 (f : Int) 4503599627370496 = ((f + 4503599627370496 : Nat) : Int) := by
  have h := b_or (a := f) (b := 4503599627370496) (Nat.lt_trans hf (by decide)) (by decide)
  refine h.trans ?_
  have := Nat.two_pow_add_eq_or_of_lt (i := 52) (b := f) hf 1
  rw [Nat.mul_one] at this
  rw [Nat.or_comm, show (4503599627370496 : Nat) = 2 ^ 52 by decide, ← this, Nat.add_comm]
theorem o63 {f : Nat} (hf : f < 9223372036854775808) : bits .or .u64 (f : Int) 9223372036854775808 = ((f + 9223372036854775808 : Nat) : Int) := by
  have h := b_or (a := f) (b := 9223372036854775808) (Nat.lt_trans hf (by decide)) (by decide)
  refine h.trans ?_
  have := Nat.two_pow_add_eq_or_of_lt (i := 63) (b := f) hf 1
  rw [Nat.mul_one] at this
  rw [Nat.or_comm, show (9223372036854775808 : Nat) = 2 ^ 63 by decide, ← this, Nat.add_comm]
theorem fe_lt (b : Nat) : fe b < 2048 := Nat.mod_lt _ (by decide)
theorem ff_lt (b : Nat) : ff b < 4503599627370496 := Nat.mod_lt _ (by decide)
theorem fsz_lt (b : Nat) : fsz b < 9223372036854775808 := Nat.mod_lt _ (by decide)

theorem c_field (b : Nat) (hb : b < W) : PC E 79 [u b] (.int .i64 (fe b)) := by
  refine PC.of_body follows Tryd.func79 (by decide +kernel) rfl (by kernel_rfl) (Nat.le_of_ble_eq_true rfl) (walk ?_)
  have e1 := b_shr hb 52
  have e2 := a11 (x := b / 2 ^ 52) (Nat.lt_of_le_of_lt (Nat.div_le_self _ _) hb)
  have e3 : IntKind.wrap .i64 ((b / 2 ^ 52 % 2048 : Nat) : Int) = ((fe b : Nat) : Int) := wrap64 (by omega) (by omega)
  simp only [Tryd.f79, u, e1, e2, e3, go_sem, Int.reduceToNat, Int.reduceEq, Int.reduceNe, Int.reduceLT, Int.reduceLE, Int.reduceNeg, Int.reduceAdd, ↓reduceIte, ↓reduceCtorEq, Nat.reduceEqDiff, Nat.reduceAdd, Nat.reduceSub, Nat.reduceMul, Nat.reduceLeDiff, Nat.reduceLT]

theorem c_Kind (b : Nat) (hb : b < W) : PC E 20 [u b] (.int .i64 (kind b)) := by
  refine PC.of_body follows Tryd.func20 (by decide +kernel) rfl (by kernel_rfl) (Nat.le_of_ble_eq_true rfl) (walk ?_)
  have e1 := a52 hb
  simp only [Tryd.f20, u, e1, go_sem, Int.reduceToNat, Int.reduceEq, Int.reduceNe, Int.reduceLT, Int.reduceLE, Int.reduceNeg, Int.reduceAdd, ↓reduceIte, ↓reduceCtorEq, Nat.reduceEqDiff, Nat.reduceAdd, Nat.reduceSub, Nat.reduceMul, Nat.reduceLeDiff, Nat.reduceLT]
  refine qcall_i (c_field b hb) ?_; simp only [Tryd.f20, u, e1, go_sem, Int.reduceToNat, Int.reduceEq, Int.reduceNe, Int.reduceLT, Int.reduceLE, Int.reduceNeg, Int.reduceAdd, ↓reduceIte, ↓reduceCtorEq, Nat.reduceEqDiff, Nat.reduceAdd, Nat.reduceSub, Nat.reduceMul, Nat.reduceLeDiff, Nat.reduceLT]
  unfold kind
  generalize fe b = e
  generalize ff b = f
  refine qif_d (fun h => ?_) (fun h => ?_)
  all_goals simp only [Tryd.f20, u, go_sem, Int.reduceToNat, Int.reduceEq, Int.reduceNe, Int.reduceLT, Int.reduceLE, Int.reduceNeg, Int.reduceAdd, ↓reduceIte, ↓reduceCtorEq, Nat.reduceEqDiff, Nat.reduceAdd, Nat.reduceSub, Nat.reduceMul, Nat.reduceLeDiff, Nat.reduceLT]
  · refine qif_d (fun h1 => ?_) (fun h1 => ?_)
    all_goals simp only [Tryd.f20, u, go_sem, Int.reduceToNat, Int.reduceEq, Int.reduceNe, Int.reduceLT, Int.reduceLE, Int.reduceNeg, Int.reduceAdd, ↓reduceIte, ↓reduceCtorEq, Nat.reduceEqDiff, Nat.reduceAdd, Nat.reduceSub, Nat.reduceMul, Nat.reduceLeDiff, Nat.reduceLT]
    · rw [if_pos (by omega)]; rfl
    · refine qif_dt (by omega) ?_
      simp only [Tryd.f20, u, go_sem, Int.reduceToNat, Int.reduceEq, Int.reduceNe, Int.reduceLT, Int.reduceLE, Int.reduceNeg, Int.reduceAdd, ↓reduceIte, ↓reduceCtorEq, Nat.reduceEqDiff, Nat.reduceAdd, Nat.reduceSub, Nat.reduceMul, Nat.reduceLeDiff, Nat.reduceLT]
      rw [if_neg (by omega), if_pos (by omega)]; rfl
  · refine qif_df (by omega) ?_
    simp only [Tryd.f20, u, go_sem, Int.reduceToNat, Int.reduceEq, Int.reduceNe, Int.reduceLT, Int.reduceLE, Int.reduceNeg, Int.reduceAdd, ↓reduceIte, ↓reduceCtorEq, Nat.reduceEqDiff, Nat.reduceAdd, Nat.reduceSub, Nat.reduceMul, Nat.reduceLeDiff, Nat.reduceLT]
    rw [if_neg (by omega), if_neg (by omega)]
    refine qif_d (fun h1 => ?_) (fun h1 => ?_)
    all_goals simp only [Tryd.f20, u, go_sem, Int.reduceToNat, Int.reduceEq, Int.reduceNe, Int.reduceLT, Int.reduceLE, Int.reduceNeg, Int.reduceAdd, ↓reduceIte, ↓reduceCtorEq, Nat.reduceEqDiff, Nat.reduceAdd, Nat.reduceSub, Nat.reduceMul, Nat.reduceLeDiff, Nat.reduceLT]
    · rw [if_pos (by omega)]; rfl
    · rw [if_neg (by omega)]
      refine qif_d (fun h2 => ?_) (fun h2 => ?_)
      all_goals simp only [Tryd.f20, u, go_sem, Int.reduceToNat, Int.reduceEq, Int.reduceNe, Int.reduceLT, Int.reduceLE, Int.reduceNeg, Int.reduceAdd, ↓reduceIte, ↓reduceCtorEq, Nat.reduceEqDiff, Nat.reduceAdd, Nat.reduceSub, Nat.reduceMul, Nat.reduceLeDiff, Nat.reduceLT]
      · rw [if_pos (by omega)]; rfl
      · rw [if_neg (by omega)]
        refine qif_d (fun h3 => ?_) (fun h3 => ?_)
        all_goals simp only [Tryd.f20, u, go_sem, Int.reduceToNat, Int.reduceEq, Int.reduceNe, Int.reduceLT, Int.reduceLE, Int.reduceNeg, Int.reduceAdd, ↓reduceIte, ↓reduceCtorEq, Nat.reduceEqDiff, Nat.reduceAdd, Nat.reduceSub, Nat.reduceMul, Nat.reduceLeDiff, Nat.reduceLT]
        · rw [if_pos (by omega)]; rfl
        · rw [if_neg (by omega)]; rfl

theorem c_Neg (b : Nat) (hb : b < W) : PC E 19 [u b] (.bool (fs b)) := by
  refine PC.of_body follows Tryd.func19 (by decide +kernel) rfl (by kernel_rfl) (Nat.le_of_ble_eq_true rfl) (walk ?_)
  have e1 := a63 hb
  simp only [Tryd.f19, u, e1, go_sem, Int.reduceToNat, Int.reduceEq, Int.reduceNe, Int.reduceLT, Int.reduceLE, Int.reduceNeg, Int.reduceAdd, ↓reduceIte, ↓reduceCtorEq, Nat.reduceEqDiff, Nat.reduceAdd, Nat.reduceSub, Nat.reduceMul, Nat.reduceLeDiff, Nat.reduceLT]
  unfold fs
  by_cases h : 9223372036854775808 ≤ b
  · rw [if_pos h, decide_eq_true h]; rfl
  · rw [if_neg h, decide_eq_false h]; rfl

theorem c_Finite (b : Nat) (hb : b < W) : PC E 18 [u b] (.bool (decide (fe b < 2047))) := by
  refine PC.of_body follows Tryd.func18 (by decide +kernel) rfl (by kernel_rfl) (Nat.le_of_ble_eq_true rfl) (walk ?_)
  simp only [Tryd.f18, go_sem, Int.reduceToNat, Int.reduceEq, Int.reduceNe, Int.reduceLT, Int.reduceLE, Int.reduceNeg, Int.reduceAdd, ↓reduceIte, ↓reduceCtorEq, Nat.reduceEqDiff, Nat.reduceAdd, Nat.reduceSub, Nat.reduceMul, Nat.reduceLeDiff, Nat.reduceLT]
  refine qcall_i (c_field b hb) ?_; simp only [Tryd.f18, go_sem, Int.reduceToNat, Int.reduceEq, Int.reduceNe, Int.reduceLT, Int.reduceLE, Int.reduceNeg, Int.reduceAdd, ↓reduceIte, ↓reduceCtorEq, Nat.reduceEqDiff, Nat.reduceAdd, Nat.reduceSub, Nat.reduceMul, Nat.reduceLeDiff, Nat.reduceLT]
  exact decide_eq_decide.2 (by omega)

theorem t52 (b : Nat) : Int.tdiv (b : Int) 4503599627370496 = ((b / 4503599627370496 : Nat) : Int) := n_tdiv b 4503599627370496
theorem m52 (b : Nat) : Int.tmod (b : Int) 4503599627370496 = ((ff b : Nat) : Int) := n_tmod b 4503599627370496
theorem m63 (b : Nat) : Int.tmod (b : Int) 9223372036854775808 = ((fsz b : Nat) : Int) := n_tmod b 9223372036854775808
theorem m11 (b : Nat) : Int.tmod ((b / 4503599627370496 : Nat) : Int) 2048 = ((fe b : Nat) : Int) := n_tmod (b / 4503599627370496) 2048
theorem w52 {b : Nat} (hb : b < W) : IntKind.wrap .u64 ((b / 4503599627370496 : Nat) : Int) = ((b / 4503599627370496 : Nat) : Int) := wrap_nat64 (Nat.lt_of_le_of_lt (Nat.div_le_self _ _) hb)

theorem c_rKind (b : Nat) (hb : b < W) : PC E 37 [u b] (.int .i64 (kind b)) := by
  refine PC.of_body follows Tryd.func37 (by decide +kernel) rfl (by kernel_rfl) (Nat.le_of_ble_eq_true rfl) (walk ?_)
  simp only [Tryd.f37, u, t52, w52 hb, m11, m52, go_sem, Int.reduceToNat, Int.reduceEq, Int.reduceNe, Int.reduceLT, Int.reduceLE, Int.reduceNeg, Int.reduceAdd, ↓reduceIte, ↓reduceCtorEq, Nat.reduceEqDiff, Nat.reduceAdd, Nat.reduceSub, Nat.reduceMul, Nat.reduceLeDiff, Nat.reduceLT]
  unfold kind
  generalize fe b = e
  generalize ff b = f
  refine qif_d (fun h => ?_) (fun h => ?_)
  all_goals simp only [Tryd.f37, u, go_sem, Int.reduceToNat, Int.reduceEq, Int.reduceNe, Int.reduceLT, Int.reduceLE, Int.reduceNeg, Int.reduceAdd, ↓reduceIte, ↓reduceCtorEq, Nat.reduceEqDiff, Nat.reduceAdd, Nat.reduceSub, Nat.reduceMul, Nat.reduceLeDiff, Nat.reduceLT]
  · refine qif_d (fun h1 => ?_) (fun h1 => ?_)
    all_goals simp only [Tryd.f37, u, go_sem, Int.reduceToNat, Int.reduceEq, Int.reduceNe, Int.reduceLT, Int.reduceLE, Int.reduceNeg, Int.reduceAdd, ↓reduceIte, ↓reduceCtorEq, Nat.reduceEqDiff, Nat.reduceAdd, Nat.reduceSub, Nat.reduceMul, Nat.reduceLeDiff, Nat.reduceLT]
    · rw [if_pos (by omega)]; rfl
    · refine qif_dt (by omega) ?_
      simp only [Tryd.f37, u, go_sem, Int.reduceToNat, Int.reduceEq, Int.reduceNe, Int.reduceLT, Int.reduceLE, Int.reduceNeg, Int.reduceAdd, ↓reduceIte, ↓reduceCtorEq, Nat.reduceEqDiff, Nat.reduceAdd, Nat.reduceSub, Nat.reduceMul, Nat.reduceLeDiff, Nat.reduceLT]
      rw [if_neg (by omega), if_pos (by omega)]; rfl
  · refine qif_df (by omega) ?_
    simp only [Tryd.f37, u, go_sem, Int.reduceToNat, Int.reduceEq, Int.reduceNe, Int.reduceLT, Int.reduceLE, Int.reduceNeg, Int.reduceAdd, ↓reduceIte, ↓reduceCtorEq, Nat.reduceEqDiff, Nat.reduceAdd, Nat.reduceSub, Nat.reduceMul, Nat.reduceLeDiff, Nat.reduceLT]
    rw [if_neg (by omega), if_neg (by omega)]
    refine qif_d (fun h1 => ?_) (fun h1 => ?_)
    all_goals simp only [Tryd.f37, u, go_sem, Int.reduceToNat, Int.reduceEq, Int.reduceNe, Int.reduceLT, Int.reduceLE, Int.reduceNeg, Int.reduceAdd, ↓reduceIte, ↓reduceCtorEq, Nat.reduceEqDiff, Nat.reduceAdd, Nat.reduceSub, Nat.reduceMul, Nat.reduceLeDiff, Nat.reduceLT]
    · rw [if_pos (by omega)]; rfl
    · rw [if_neg (by omega)]
      refine qif_d (fun h2 => ?_) (fun h2 => ?_)
      all_goals simp only [Tryd.f37, u, go_sem, Int.reduceToNat, Int.reduceEq, Int.reduceNe, Int.reduceLT, Int.reduceLE, Int.reduceNeg, Int.reduceAdd, ↓reduceIte, ↓reduceCtorEq, Nat.reduceEqDiff, Nat.reduceAdd, Nat.reduceSub, Nat.reduceMul, Nat.reduceLeDiff, Nat.reduceLT]
      · rw [if_pos (by omega)]; rfl
      · rw [if_neg (by omega)]
        refine qif_d (fun h3 => ?_) (fun h3 => ?_)
        all_goals simp only [Tryd.f37, u, go_sem, Int.reduceToNat, Int.reduceEq, Int.reduceNe, Int.reduceLT, Int.reduceLE, Int.reduceNeg, Int.reduceAdd, ↓reduceIte, ↓reduceCtorEq, Nat.reduceEqDiff, Nat.reduceAdd, Nat.reduceSub, Nat.reduceMul, Nat.reduceLeDiff, Nat.reduceLT]
        · rw [if_pos (by omega)]; rfl
        · rw [if_neg (by omega)]; rfl

theorem c_rSize (b : Nat) (hb : b < W) : PC E 30 [u b] (u (fsz b)) := by
  refine PC.of_body follows Tryd.func30 (by decide +kernel) rfl (by kernel_rfl) (Nat.le_of_ble_eq_true rfl) (walk ?_)
  simp only [Tryd.f30, u, m63, go_sem, Int.reduceToNat, Int.reduceEq, Int.reduceNe, Int.reduceLT, Int.reduceLE, Int.reduceNeg, Int.reduceAdd, ↓reduceIte, ↓reduceCtorEq, Nat.reduceEqDiff, Nat.reduceAdd, Nat.reduceSub, Nat.reduceMul, Nat.reduceLeDiff, Nat.reduceLT]
end Go.Proofs.YtflpcgcgeffolaaDoor
