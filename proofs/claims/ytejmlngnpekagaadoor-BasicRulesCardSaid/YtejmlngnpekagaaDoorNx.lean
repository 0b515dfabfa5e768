/- Neighbours, middles and breakpoints: next's functions. -/
import Derived.Test.YtejmlngnpekagaaDoorRd7
open Go PG Go.Proofs
set_option maxRecDepth 100000
set_option linter.unusedSimpArgs false
set_option linter.unusedVariables false
namespace Go.Proofs.YtejmlngnpekagaaDoor
attribute [local go_sem] Lay2 Lay3 Lay4 Lay5 Lay6 Lay7 Lay8 Lay9 Lay10 Lay11 Lay12 Lay13 Lay14 Lay15 Lay16 Lay17 Lay18 Lay19 Lay21 Lay22 Lay23 Lay24 Lay25 Lay30 Lay33 Lay36 Lay37 Lay46 Lay47 Lay48 Lay53 Lay54 Lay55 Lay59 Lay100 Lay101 Lay127 Lay146 Lay162 Lay168 Lay169 Lay173 Lay185 Lay186 Lay187 Lay188 Lay189 Lay191 Lay192 Lay194 Lay195 Lay196 Lay199 qexec_seq qexec_skip qexec_exit qexec_ret qexec_block qexec_loop qexec_range qexec_cond qexec_region qexec_drawn qops_nil qops_none qops_some put_some put_none pblk_exit pblk_other newDsts_nil inlDsts_nil isInl sget_cons sget_nil qval_some qbool_some qgs_bool qgs_und qfree_some qgrd_true qgrd_false qif_true qif_false qval_ite qval_itn qand_true map_ite map_some' map_none' qdo_move qdo_assign qdo_binOp qdo_pick qdo_unOp qdo_convert qdo_extract qdo_field qdo_fieldAddr qdo_alloc qdo_box qdo_build qdo_buildSlice qdo_load qdo_store qdo_nilCheck qdo_makeFunc qdo_makeSlice qdo_slice qdo_indexAddr qdo_call qcont_val qcont_new qcont_st qcont_app0 qcont_app qcont_inl qcont_call njSV_val njSV_nil njSV_row njSV_ptr njSV_sub binV_val binV_nil binV_nn binV_ptr bin_np bin_nnp nilCmp bin_add bin_sub bin_mul bin_quo bin_rem bin_and bin_or bin_xor bin_andNot bin_eql bin_neq bin_lss bin_leq bin_gtr bin_geq bin_shl bin_shr bin_seql bin_sneq bin_sadd bin_beql bin_aeql bin_aneq eqAnd_some eqCells_nil eqCells_cons fieldTypes isStruct eqCell bin_bneq un_not un_neg nj_ite Nat.beq stepA stepR isNew opSV constSV RV.sv allSome E_mu E_own qkeyIn_none qkeyIn_some qkeyAt_none qkeyAt_some Bool.or_false Bool.false_or Bool.or_true Bool.true_or cst setB res resSV pstart startL killL kill1 eraL frzL svPV rvPV rvInt rvSlice frzOf close closeL pconv pbuiltin pmax2 partPV setCells fillPV zrow bound newSV PV.cells Bk.cells Bk.with SV.key pres presL_nil presL_tmp presL_cell presC2_some cellPV_ptr presC List.toList_toArray List.size_toArray List.getElem?_drop Nat.mul_one Int.toNat_natCast Nat.not_lt_zero Nat.lt_irrefl decide_true decide_false Nat.not_lt Option.some.injEq PV.lst.injEq PV.int.injEq PV.bool.injEq PV.tuple.injEq List.cons.injEq Option.map_some Option.map_none Option.bind_some Option.toList List.map_cons List.map_nil List.nil_append List.cons_append List.append_nil List.zip_cons_cons List.zip_nil_left List.zip_nil_right List.getElem?_cons_zero List.getElem?_cons_succ List.drop_zero List.drop_succ_cons List.take_succ_cons List.take_zero List.set_cons_zero List.set_cons_succ List.length_cons List.length_nil List.length_set List.replicate_one List.replicate_zero bne_self_eq_false beq_self_eq_true Nat.zero_add Nat.add_zero Nat.zero_mul Bool.false_eq_true Bool.true_eq_false Bool.not_true Bool.not_false and_true true_and false_and and_false or_false false_or or_true true_or not_true_eq_false not_false_eq_true ne_eq gt_iff_lt List.mem_cons List.not_mem_nil
attribute [local go_sem ↓] pseq_normal pseq_ret pseq_exit pblk_normal pblk_ret newDsts_cons inlDsts_cons gdst_zero gdst_succ retQ_normal retQ_ret qneed_nil qneed_cons retM_normal retM_ret endR_normal endR_ret endR_exit
attribute [local go_sem] Int.reduceToNat Int.reduceEq Int.reduceNe Int.reduceLT Int.reduceLE Int.reduceNeg Int.reduceAdd Nat.reduceEqDiff Nat.reduceAdd Nat.reduceSub Nat.reduceMul Nat.reduceLeDiff Nat.reduceLT
attribute [local go_sem ↓] reduceIte reduceCtorEq

def upS (b : Nat) : Nat := if fe b < 2047 then (if b = 9223372036854775808 then 1 else if fs b = true then b - 1 else b + 1) else 0
def downS (b : Nat) : Nat := if fe b < 2047 then (if b = 0 then 9223372036854775809 else if fs b = true then b + 1 else b - 1) else 0
theorem b_lt {b : Nat} (hb : b < W) : b < 18446744073709551616 := hb
theorem wrapu {x : Int} {n : Nat} (h : x = (n : Int)) (hn : n < W) : IntKind.wrap .u64 x = (n : Int) := by rw [h]; exact wrap_nat64 hn
theorem fe_top {b : Nat} (hb : b < W) (hf : fe b < 2047) : b + 1 < W := by
  have := b_lt hb
  show _ < 18446744073709551616
  unfold fe at hf; omega
theorem c_unit (b : Nat) (hb : b < W) : PC E 130 [u b] (.int .i64 (max (fe b : Int) 1 - 1075)) := by
  refine PC.of_body follows Tryd.func130 (by decide +kernel) rfl (by kernel_rfl) (Nat.le_of_ble_eq_true rfl) (walk ?_)
  have h1 := fe_lt b
  have e1 := b_shr hb 52
  have e2 := a11 (x := b / 2 ^ 52) (Nat.lt_of_le_of_lt (Nat.div_le_self _ _) hb)
  have e3 : IntKind.wrap .i64 ((b / 2 ^ 52 % 2048 : Nat) : Int) = ((fe b : Nat) : Int) := wrap64 (by omega) (by omega)
  have e4 : IntKind.wrap .i64 (max (fe b : Int) 1 - 1075) = max (fe b : Int) 1 - 1075 := wrap64 (by omega) (by omega)
  simp only [Tryd.f130, u, e1, e2, e3, e4, go_sem]
theorem c_worth (b : Nat) (hb : b < W) (hf : fe b < 2047) : PC E 129 [u b] (fd (fsz b)).pv := by
  refine PC.of_body follows Tryd.func129 (by decide +kernel) rfl (by kernel_rfl) (Nat.le_of_ble_eq_true rfl) (walk ?_)
  have e1 := n63 hb
  have k1 := c_FDyad (fsz b) (Nat.lt_trans (fsz_lt b) (by decide))
  rw [(fm_fsz b).2, if_pos hf] at k1
  generalize fd (fsz b) = d at *
  simp only [u, Dy.pv, DP, NN, NL] at k1 ⊢
  simp only [Tryd.f129, e1, go_sem]
  refine qcall_i (k1) ?_; simp only [Tryd.f129, go_sem]
  rfl
theorem one_top (s : Bool) (e : Int) : Dy.top ⟨s, 1, e⟩ = e := by
  unfold Dy.top
  dsimp only
  rw [if_neg (by decide), show bitLen 1 = 1 by decide]
  omega
theorem one_bits (s : Bool) (e : Int) : bitLen (Dy.mk s 1 e).m ≤ 1000000 := by show bitLen 1 ≤ 1000000; decide
/-- The middle, with the bits' sign. -/
def mdS (b : Nat) : Dy := ⟨fs b, (mid b).m, (mid b).e⟩
theorem mid_add (b : Nat) (hf : fe b < 2047) : addV (fd (fsz b)) ⟨false, 1, max (fe b : Int) 1 - 1075 - 1⟩ = .tuple [(mid b).pv, .int .i64 0] := by
  have hfe := fe_lt b
  have he := fd_e (fsz b)
  have hb := fd_bits (fsz b)
  have ok1 := fd_ok' (fsz b)
  have f1 := fd_fits (fsz b)
  have ok2 : Dy.ok ⟨false, 1, max (fe b : Int) 1 - 1075 - 1⟩ := .inr rfl
  have f2 : Dy.fits ⟨false, 1, max (fe b : Int) 1 - 1075 - 1⟩ := by constructor <;> dsimp only <;> omega
  have g1 : (fd (fsz b)).ge (-1075) := .inr (by omega)
  have g2 : Dy.ge ⟨false, 1, max (fe b : Int) 1 - 1075 - 1⟩ (-1075) := .inr (by dsimp only; omega)
  have e : addS (fd (fsz b)) ⟨false, 1, max (fe b : Int) 1 - 1075 - 1⟩ = mid b := by
    refine eq_of_at (k := -1075) (addS_ok _ _) (mid_ok b) (addS_ge ok1 ok2 f1 f2 g1 g2) (mid_ge b) ?_
    rw [addS_at ok1 ok2 f1 f2 g1 g2, mid_at, fd_at' (fsz_lt b) (by omega), nat_at rfl]
    unfold fv
    rw [(fm_fsz b).1, (fm_fsz b).2]
    dsimp only
    rw [show (-1074 - -1075 : Int).toNat = 1 by decide, show (max (fe b : Int) 1 - 1075 - 1 - -1075).toNat = max (fe b) 1 - 1 by omega]
    generalize 2 ^ (max (fe b) 1 - 1) = P
    rw [Nat.add_mul, Nat.mul_comm 2 (fm b), Nat.mul_assoc, Nat.mul_assoc, Nat.mul_comm P, Nat.pow_one]
    omega
  unfold addV
  rw [e]
  refine if_pos ⟨f1, f2, fun h _ => ?_, by rw [e]; exact mid_fits b⟩
  rw [top_of h]
  rw [one_top]
  dsimp only
  omega
theorem c_Middle (b : Nat) (hb : b < W) : PC E 86 [u b] (if fe b < 2047 then .tuple [(mdS b).pv, .bool true] else .tuple [Dy.zero.pv, .bool false]) := by
  refine PC.of_body follows Tryd.func86 (by decide +kernel) rfl (by kernel_rfl) (Nat.le_of_ble_eq_true rfl) (walk ?_)
  have k1 := c_Finite b hb
  have hfe := fe_lt b
  by_cases hf : fe b < 2047
  · rw [if_pos hf]
    rw [decide_eq_true hf] at k1
    have k2 := c_worth b hb hf
    have k3 := c_unit b hb
    have k4 := c_Neg b hb
    have ok2 : Dy.ok ⟨false, 1, max (fe b : Int) 1 - 1075 - 1⟩ := .inr rfl
    have f2 : Dy.fits ⟨false, 1, max (fe b : Int) 1 - 1075 - 1⟩ := by constructor <;> dsimp only <;> omega
    have k5 := r_Add (RD.fd (fsz b)) (RD.fit ok2 (one_bits _ _) f2)
    rw [mid_add b hf] at k5
    have w1 : IntKind.wrap .i64 (max (fe b : Int) 1 - 1075 - 1) = max (fe b : Int) 1 - 1075 - 1 := wrap64 (by omega) (by omega)
    have d1 := dg_one (x := 1) (by decide) (by decide)
    unfold mdS
    generalize fd (fsz b) = d at *
    generalize mid b = m at *
    simp only [u, Dy.pv, DP, NN, NL, d1] at k1 k2 k3 k4 k5 ⊢
    simp only [U, List.map_cons, List.map_nil, u, List.length_cons, List.length_nil] at k5
    simp only [Tryd.f86, go_sem]
    refine qcall_i (k1) ?_; simp only [Tryd.f86, go_sem]
    refine qcall_i (k2) ?_; simp only [Tryd.f86, go_sem]
    refine qcall_i (k3) ?_; simp only [Tryd.f86, w1, go_sem]
    refine qcall_i (k5) ?_; simp only [Tryd.f86, go_sem]
    refine qcall_i (k4) ?_; simp only [Tryd.f86, go_sem]
    rfl
  · rw [if_neg hf]
    rw [decide_eq_false hf] at k1
    simp only [u] at k1 ⊢
    simp only [Tryd.f86, go_sem]
    refine qcall_i (k1) ?_; simp only [Tryd.f86, go_sem]
    rfl
end Go.Proofs.YtejmlngnpekagaaDoor
