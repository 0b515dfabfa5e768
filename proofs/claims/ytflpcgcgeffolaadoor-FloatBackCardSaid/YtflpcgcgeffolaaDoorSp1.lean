/- What needs no reckoning: the functions of special. -/
import Derived.Test.YtflpcgcgeffolaaDoorFl2
open Go PG Go.Proofs
set_option maxRecDepth 100000
set_option linter.unusedSimpArgs false
set_option linter.unusedVariables false
namespace Go.Proofs.YtflpcgcgeffolaaDoor
attribute [local go_sem] Lay2 Lay3 Lay4 Lay5 Lay6 Lay7 Lay8 Lay9 Lay10 Lay11 Lay12 Lay13 Lay14 Lay21 Lay22 Lay24 Lay25 Lay26 Lay27 Lay36 Lay37 Lay38 Lay39 Lay40 Lay41 Lay43 Lay46 Lay47 Lay66 Lay103 Lay105 Lay159 Lay164 Lay165 Lay166 Lay168 Lay169 Lay172 Lay173 qexec_seq qexec_skip qexec_exit qexec_ret qexec_block qexec_loop qexec_range qexec_cond qexec_region qops_nil qops_none qops_some put_some put_none pblk_exit pblk_other newDsts_nil sget_cons qval_some qbool_some qgs_bool qgs_und qfree_some qgrd_true qgrd_false qif_true qif_false qval_ite qval_itn qand_true map_ite map_some' map_none' qdo_move qdo_assign qdo_binOp qdo_pick qdo_unOp qdo_convert qdo_extract qdo_field qdo_fieldAddr qdo_alloc qdo_box qdo_build qdo_buildSlice qdo_load qdo_store qdo_nilCheck qdo_makeFunc qdo_makeSlice qdo_slice qdo_indexAddr qdo_call qcont_val qcont_new qcont_st qcont_app0 qcont_app qcont_inl qcont_call njSV_val njSV_nil njSV_row njSV_ptr njSV_sub binV_val binV_nil binV_nn nilCmp bin_add bin_sub bin_mul bin_quo bin_rem bin_and bin_or bin_xor bin_andNot bin_eql bin_neq bin_lss bin_leq bin_gtr bin_geq bin_shl bin_shr bin_seql bin_sneq bin_sadd bin_beql bin_aeql bin_aneq eqAnd_some eqCells_nil eqCells_cons fieldTypes isStruct eqCell bin_bneq un_not un_neg nj_ite Nat.beq stepA stepR isNew opSV constSV RV.sv allSome E_mu Bool.or_false Bool.false_or Bool.or_true Bool.true_or cst setB res resSV pstart startL killL kill1 eraL frzL svPV rvPV rvInt rvSlice frzOf close closeL pconv pbuiltin pmax2 partPV setCells fillPV zrow bound newSV PV.cells Bk.cells Bk.with SV.key pres presL_nil presL_tmp presL_cell presC2_some cellPV_ptr presC List.toList_toArray List.size_toArray List.getElem?_drop Nat.mul_one Int.toNat_natCast Nat.not_lt_zero Nat.lt_irrefl decide_true decide_false Nat.not_lt Option.some.injEq PV.lst.injEq PV.int.injEq PV.bool.injEq PV.tuple.injEq List.cons.injEq Option.map_some Option.map_none Option.bind_some Option.toList List.map_cons List.map_nil List.nil_append List.cons_append List.append_nil List.zip_cons_cons List.zip_nil_left List.zip_nil_right List.getElem?_cons_zero List.getElem?_cons_succ List.drop_zero List.drop_succ_cons List.take_succ_cons List.take_zero List.set_cons_zero List.set_cons_succ List.length_cons List.length_nil List.length_set List.replicate_one List.replicate_zero bne_self_eq_false beq_self_eq_true Nat.zero_add Nat.add_zero Nat.zero_mul Bool.false_eq_true Bool.true_eq_false Bool.not_true Bool.not_false and_true true_and false_and and_false or_false false_or or_true true_or not_true_eq_false not_false_eq_true ne_eq gt_iff_lt List.mem_cons List.not_mem_nil
attribute [local go_sem ↓] pseq_normal pseq_ret pseq_exit pblk_normal pblk_ret newDsts_cons gdst_zero gdst_succ retQ_normal retQ_ret retM_normal retM_ret endR_normal endR_ret endR_exit

theorem qif_b {b : Bool} {X Y : PT} (h1 : b = true → X.p) (h2 : b = false → Y.p) : @qif b X Y := ⟨h1, h2⟩

def bNaN : Nat := 9221120237041090560
def bInf : Nat := 9218868437227405312
def bOne : Nat := 4607182418800017408
def bTop : Nat := 9223372036854775808
def bMinusOne : Nat := 13830554455654793216
/-- With x's sign, if it is odd. -/
def sgd (b x : Nat) (odd : Bool) : Nat := if odd = true ∧ fs x = true then b + 9223372036854775808 else b
/-- Bits and flags, if there is an answer, as the program tells them. -/
def resPV (o : Option (Nat × Nat)) : PV := match o with
  | some (b, f) => .tuple [.agg [.int .u64 b, .int .u8 f, .int .i64 0], .bool true]
  | none => .tuple [.agg [.int .u64 0, .int .u8 0, .int .i64 0], .bool false]
/-- Is it a whole number, and odd? -/
def wh (b : Nat) : Bool := decide (fe b < 2047 ∧ 0 ≤ (fd b).e)
def od (b : Nat) : Bool := decide (fe b < 2047 ∧ (fd b).e = 0 ∧ (fd b).m % 2 = 1)

theorem kind_le (b : Nat) : kind b ≤ 5 := by unfold kind; repeat' split
                                             all_goals omega
theorem c_signals (x : Nat) (hx : x < W) : PC E 70 [u x] (.bool (decide (kind x = 5))) := by
  refine PC.of_body follows Tryd.func70 (by decide +kernel) rfl (by kernel_rfl) (Nat.le_of_ble_eq_true rfl) (walk ?_)
  simp only [Tryd.f70, go_sem, Int.reduceToNat, Int.reduceEq, Int.reduceNe, Int.reduceLT, Int.reduceLE, Int.reduceNeg, Int.reduceAdd, ↓reduceIte, ↓reduceCtorEq, Nat.reduceEqDiff, Nat.reduceAdd, Nat.reduceSub, Nat.reduceMul, Nat.reduceLeDiff, Nat.reduceLT]
  refine qcall_i (c_Kind x hx) ?_; simp only [Tryd.f70, go_sem, Int.reduceToNat, Int.reduceEq, Int.reduceNe, Int.reduceLT, Int.reduceLE, Int.reduceNeg, Int.reduceAdd, ↓reduceIte, ↓reduceCtorEq, Nat.reduceEqDiff, Nat.reduceAdd, Nat.reduceSub, Nat.reduceMul, Nat.reduceLeDiff, Nat.reduceLT]
  exact decide_eq_decide.2 (by omega)
theorem c_nought (x : Nat) (hx : x < W) : PC E 72 [u x] (.bool (decide (kind x = 0))) := by
  refine PC.of_body follows Tryd.func72 (by decide +kernel) rfl (by kernel_rfl) (Nat.le_of_ble_eq_true rfl) (walk ?_)
  simp only [Tryd.f72, go_sem, Int.reduceToNat, Int.reduceEq, Int.reduceNe, Int.reduceLT, Int.reduceLE, Int.reduceNeg, Int.reduceAdd, ↓reduceIte, ↓reduceCtorEq, Nat.reduceEqDiff, Nat.reduceAdd, Nat.reduceSub, Nat.reduceMul, Nat.reduceLeDiff, Nat.reduceLT]
  refine qcall_i (c_Kind x hx) ?_; simp only [Tryd.f72, go_sem, Int.reduceToNat, Int.reduceEq, Int.reduceNe, Int.reduceLT, Int.reduceLE, Int.reduceNeg, Int.reduceAdd, ↓reduceIte, ↓reduceCtorEq, Nat.reduceEqDiff, Nat.reduceAdd, Nat.reduceSub, Nat.reduceMul, Nat.reduceLeDiff, Nat.reduceLT]
  exact decide_eq_decide.2 (by omega)
theorem c_infinite (x : Nat) (hx : x < W) : PC E 75 [u x] (.bool (decide (kind x = 3))) := by
  refine PC.of_body follows Tryd.func75 (by decide +kernel) rfl (by kernel_rfl) (Nat.le_of_ble_eq_true rfl) (walk ?_)
  simp only [Tryd.f75, go_sem, Int.reduceToNat, Int.reduceEq, Int.reduceNe, Int.reduceLT, Int.reduceLE, Int.reduceNeg, Int.reduceAdd, ↓reduceIte, ↓reduceCtorEq, Nat.reduceEqDiff, Nat.reduceAdd, Nat.reduceSub, Nat.reduceMul, Nat.reduceLeDiff, Nat.reduceLT]
  refine qcall_i (c_Kind x hx) ?_; simp only [Tryd.f75, go_sem, Int.reduceToNat, Int.reduceEq, Int.reduceNe, Int.reduceLT, Int.reduceLE, Int.reduceNeg, Int.reduceAdd, ↓reduceIte, ↓reduceCtorEq, Nat.reduceEqDiff, Nat.reduceAdd, Nat.reduceSub, Nat.reduceMul, Nat.reduceLeDiff, Nat.reduceLT]
  exact decide_eq_decide.2 (by omega)
theorem c_nan (x : Nat) (hx : x < W) : PC E 74 [u x] (.bool (decide (kind x = 4 ∨ kind x = 5))) := by
  refine PC.of_body follows Tryd.func74 (by decide +kernel) rfl (by kernel_rfl) (Nat.le_of_ble_eq_true rfl) (walk ?_)
  simp only [Tryd.f74, go_sem, Int.reduceToNat, Int.reduceEq, Int.reduceNe, Int.reduceLT, Int.reduceLE, Int.reduceNeg, Int.reduceAdd, ↓reduceIte, ↓reduceCtorEq, Nat.reduceEqDiff, Nat.reduceAdd, Nat.reduceSub, Nat.reduceMul, Nat.reduceLeDiff, Nat.reduceLT]
  refine qcall_i (c_Kind x hx) ?_; simp only [Tryd.f74, go_sem, Int.reduceToNat, Int.reduceEq, Int.reduceNe, Int.reduceLT, Int.reduceLE, Int.reduceNeg, Int.reduceAdd, ↓reduceIte, ↓reduceCtorEq, Nat.reduceEqDiff, Nat.reduceAdd, Nat.reduceSub, Nat.reduceMul, Nat.reduceLeDiff, Nat.reduceLT]
  have := kind_le x
  exact decide_eq_decide.2 (by omega)
theorem c_is (b : Nat) : PC E 73 [u b] (resPV (some (b, 0))) := by
  refine PC.of_body follows Tryd.func73 (by decide +kernel) rfl (by kernel_rfl) (Nat.le_of_ble_eq_true rfl) (walk ?_)
  simp only [Tryd.f73, u, go_sem, Int.reduceToNat, Int.reduceEq, Int.reduceNe, Int.reduceLT, Int.reduceLE, Int.reduceNeg, Int.reduceAdd, ↓reduceIte, ↓reduceCtorEq, Nat.reduceEqDiff, Nat.reduceAdd, Nat.reduceSub, Nat.reduceMul, Nat.reduceLeDiff, Nat.reduceLT]
  rfl
theorem c_flagged (b f : Nat) : PC E 76 [u b, .int .u8 f] (resPV (some (b, f))) := by
  refine PC.of_body follows Tryd.func76 (by decide +kernel) rfl (by kernel_rfl) (Nat.le_of_ble_eq_true rfl) (walk ?_)
  simp only [Tryd.f76, u, go_sem, Int.reduceToNat, Int.reduceEq, Int.reduceNe, Int.reduceLT, Int.reduceLE, Int.reduceNeg, Int.reduceAdd, ↓reduceIte, ↓reduceCtorEq, Nat.reduceEqDiff, Nat.reduceAdd, Nat.reduceSub, Nat.reduceMul, Nat.reduceLeDiff, Nat.reduceLT]
  rfl
theorem c_invalid : PC E 71 [] (resPV (some (bNaN, 16))) := by
  refine PC.of_body follows Tryd.func71 (by decide +kernel) rfl (by kernel_rfl) (Nat.le_of_ble_eq_true rfl) (walk ?_)
  simp only [Tryd.f71, go_sem, Int.reduceToNat, Int.reduceEq, Int.reduceNe, Int.reduceLT, Int.reduceLE, Int.reduceNeg, Int.reduceAdd, ↓reduceIte, ↓reduceCtorEq, Nat.reduceEqDiff, Nat.reduceAdd, Nat.reduceSub, Nat.reduceMul, Nat.reduceLeDiff, Nat.reduceLT]
  refine qcall_i (c_flagged bNaN 16) ?_; simp only [Tryd.f71, resPV, go_sem, Int.reduceToNat, Int.reduceEq, Int.reduceNe, Int.reduceLT, Int.reduceLE, Int.reduceNeg, Int.reduceAdd, ↓reduceIte, ↓reduceCtorEq, Nat.reduceEqDiff, Nat.reduceAdd, Nat.reduceSub, Nat.reduceMul, Nat.reduceLeDiff, Nat.reduceLT]
theorem c_signed (b x : Nat) (hb : b < 9223372036854775808) (hx : x < W) (odd : Bool) : PC E 77 [u b, u x, .bool odd] (u (sgd b x odd)) := by
  refine PC.of_body follows Tryd.func77 (by decide +kernel) rfl (by kernel_rfl) (Nat.le_of_ble_eq_true rfl) (walk ?_)
  have e1 := a63 hx
  have e2 := o63 hb
  have e3 : bits .or .u64 (b : Int) ((0 : Nat) : Int) = (b : Int) := (b_or (b := 0) (Nat.lt_trans hb (by decide)) (by decide)).trans (by rw [Nat.or_zero])
  unfold sgd fs
  cases odd
  · simp only [Tryd.f77, u, go_sem, Int.reduceToNat, Int.reduceEq, Int.reduceNe, Int.reduceLT, Int.reduceLE, Int.reduceNeg, Int.reduceAdd, ↓reduceIte, ↓reduceCtorEq, Nat.reduceEqDiff, Nat.reduceAdd, Nat.reduceSub, Nat.reduceMul, Nat.reduceLeDiff, Nat.reduceLT]
  · by_cases h : 9223372036854775808 ≤ x
    · rw [if_pos h] at e1
      simp only [Tryd.f77, u, e1, Int.cast_ofNat_Int, e2, go_sem, Int.reduceToNat, Int.reduceEq, Int.reduceNe, Int.reduceLT, Int.reduceLE, Int.reduceNeg, Int.reduceAdd, ↓reduceIte, ↓reduceCtorEq, Nat.reduceEqDiff, Nat.reduceAdd, Nat.reduceSub, Nat.reduceMul, Nat.reduceLeDiff, Nat.reduceLT]
      simp [h]
    · rw [if_neg h] at e1
      simp only [Tryd.f77, u, e1, e3, go_sem, Int.reduceToNat, Int.reduceEq, Int.reduceNe, Int.reduceLT, Int.reduceLE, Int.reduceNeg, Int.reduceAdd, ↓reduceIte, ↓reduceCtorEq, Nat.reduceEqDiff, Nat.reduceAdd, Nat.reduceSub, Nat.reduceMul, Nat.reduceLeDiff, Nat.reduceLT]
      simp [h]
/-- Pow of any bits. -/
def powS (x y : Nat) : Option (Nat × Nat) :=
  if kind x = 5 ∨ kind y = 5 then some (bNaN, 16)
  else if kind y = 0 ∨ x = 4607182418800017408 then some (bOne, 0)
  else if kind x = 4 ∨ kind y = 4 then some (bNaN, 0)
  else if kind x = 0 then
    if fs y = true then (if kind y = 3 then some (bInf, 0) else some (sgd bInf x (od y), 8))
    else some (sgd 0 x (od y), 0)
  else if kind y = 3 then
    if x = 13830554455654793216 then some (bOne, 0) else if (decide (4607182418800017408 < fsz x) != fs y) = true then some (bInf, 0) else some (0, 0)
  else if kind x = 3 then if fs y = true then some (sgd 0 x (od y), 0) else some (sgd bInf x (od y), 0)
  else if fs x = true ∧ wh y = false then some (bNaN, 16) else none

theorem c_Whole' (b : Nat) (hb : b < W) : PC E 69 [u b] (.tuple [.bool (wh b), .bool (od b)]) := c_Whole b hb

theorem nat_eq (a b : Nat) : ((a : Int) = (b : Int)) = (a = b) := by rw [Int.ofNat_inj]

set_option maxHeartbeats 600000 in
theorem c_Pow (x y : Nat) (hx : x < W) (hy : y < W) : PC E 16 [u x, u y] (resPV (powS x y)) := by
  obtain ⟨R, hR⟩ : ∃ R, R = resPV (powS x y) := ⟨_, rfl⟩
  rw [← hR]
  refine PC.of_body follows Tryd.func16 (by decide +kernel) rfl (by kernel_rfl) (Nat.le_of_ble_eq_true rfl) (walk ?_)
  have e1 := n63 hx
  have q1 : ((x : Int) = 4607182418800017408) = (x = 4607182418800017408) := by rw [← Int.ofNat_inj]; rfl
  have q2 : ((x : Int) = 13830554455654793216) = (x = 13830554455654793216) := by rw [← Int.ofNat_inj]; rfl
  have q3 : ((fsz x : Int) > 4607182418800017408) = (4607182418800017408 < fsz x) := by rw [← Int.ofNat_lt]; rfl
  have k1 := c_signals x hx
  have k2 := c_signals y hy
  have k3 := c_nought x hx
  have k4 := c_nought y hy
  have k5 := c_nan x hx
  have k6 := c_nan y hy
  have k7 := c_infinite x hx
  have k8 := c_infinite y hy
  have k9 := c_Neg x hx
  have k10 := c_signed bInf x (by decide) hx (od y)
  have k11 := c_signed 0 x (by decide) hx (od y)
  have k12 := c_flagged (sgd bInf x (od y)) 8
  have k13 := c_is (sgd bInf x (od y))
  have k14 := c_is (sgd 0 x (od y))
  have k15 : PC E 73 [.int .u64 4607182418800017408] (resPV (some (bOne, 0))) := c_is bOne
  have k16 : PC E 73 [.int .u64 9221120237041090560] (resPV (some (bNaN, 0))) := c_is bNaN
  have k17 : PC E 73 [.int .u64 9218868437227405312] (resPV (some (bInf, 0))) := c_is bInf
  have k18 : PC E 73 [.int .u64 0] (resPV (some (0, 0))) := c_is 0
  have k19 := c_invalid
  replace k10 : PC E 77 [.int .u64 9218868437227405312, .int .u64 x, .bool (od y)] (.int .u64 (sgd bInf x (od y) : Nat)) := k10
  replace k11 : PC E 77 [.int .u64 0, .int .u64 x, .bool (od y)] (.int .u64 (sgd 0 x (od y) : Nat)) := k11
  replace k12 : PC E 76 [.int .u64 (sgd bInf x (od y) : Nat), .int .u8 8] (resPV (some (sgd bInf x (od y), 8))) := k12
  simp only [u] at k1 k2 k3 k4 k5 k6 k7 k8 k9 k13 k14
  simp only [Tryd.f16, u, go_sem, Int.reduceToNat, Int.reduceEq, Int.reduceNe, Int.reduceLT, Int.reduceLE, Int.reduceNeg, Int.reduceAdd, ↓reduceIte, ↓reduceCtorEq, Nat.reduceEqDiff, Nat.reduceAdd, Nat.reduceSub, Nat.reduceMul, Nat.reduceLeDiff, Nat.reduceLT]
  refine qcall_i (c_Whole' y hy) ?_; simp only [Tryd.f16, u, e1, go_sem, Int.reduceToNat, Int.reduceEq, Int.reduceNe, Int.reduceLT, Int.reduceLE, Int.reduceNeg, Int.reduceAdd, ↓reduceIte, ↓reduceCtorEq, Nat.reduceEqDiff, Nat.reduceAdd, Nat.reduceSub, Nat.reduceMul, Nat.reduceLeDiff, Nat.reduceLT]
  refine qcall_i (c_Neg y hy) ?_; simp only [Tryd.f16, u, go_sem, Int.reduceToNat, Int.reduceEq, Int.reduceNe, Int.reduceLT, Int.reduceLE, Int.reduceNeg, Int.reduceAdd, ↓reduceIte, ↓reduceCtorEq, Nat.reduceEqDiff, Nat.reduceAdd, Nat.reduceSub, Nat.reduceMul, Nat.reduceLeDiff, Nat.reduceLT]
  unfold powS at hR
  generalize kind x = a at *
  generalize kind y = b at *
  generalize wh y = w at *
  generalize od y = o at *
  generalize fs y = s at *
  generalize sgd bInf x o = g1 at *
  generalize sgd 0 x o = g2 at *
  clear e1
  clear hx hy
  repeat' first
    | (with_reducible refine qif_b (fun h => ?_) (fun h => ?_) <;> (try simp only [h] at k1 k2 k3 k4 k5 k6 k7 k8 k9) <;> simp only [Tryd.f16, h, u, resPV, q1, q2, q3, go_sem, Int.reduceToNat, Int.reduceEq, Int.reduceNe, Int.reduceLT, Int.reduceLE, Int.reduceNeg, Int.reduceAdd, ↓reduceIte, ↓reduceCtorEq, Nat.reduceEqDiff, Nat.reduceAdd, Nat.reduceSub, Nat.reduceMul, Nat.reduceLeDiff, Nat.reduceLT])
    | (with_reducible refine qcall_i k1 ?_; simp only [Tryd.f16, u, resPV, q1, q2, q3, go_sem, Int.reduceToNat, Int.reduceEq, Int.reduceNe, Int.reduceLT, Int.reduceLE, Int.reduceNeg, Int.reduceAdd, ↓reduceIte, ↓reduceCtorEq, Nat.reduceEqDiff, Nat.reduceAdd, Nat.reduceSub, Nat.reduceMul, Nat.reduceLeDiff, Nat.reduceLT])
    | (with_reducible refine qcall_i k2 ?_; simp only [Tryd.f16, u, resPV, q1, q2, q3, go_sem, Int.reduceToNat, Int.reduceEq, Int.reduceNe, Int.reduceLT, Int.reduceLE, Int.reduceNeg, Int.reduceAdd, ↓reduceIte, ↓reduceCtorEq, Nat.reduceEqDiff, Nat.reduceAdd, Nat.reduceSub, Nat.reduceMul, Nat.reduceLeDiff, Nat.reduceLT])
    | (with_reducible refine qcall_i k3 ?_; simp only [Tryd.f16, u, resPV, q1, q2, q3, go_sem, Int.reduceToNat, Int.reduceEq, Int.reduceNe, Int.reduceLT, Int.reduceLE, Int.reduceNeg, Int.reduceAdd, ↓reduceIte, ↓reduceCtorEq, Nat.reduceEqDiff, Nat.reduceAdd, Nat.reduceSub, Nat.reduceMul, Nat.reduceLeDiff, Nat.reduceLT])
    | (with_reducible refine qcall_i k4 ?_; simp only [Tryd.f16, u, resPV, q1, q2, q3, go_sem, Int.reduceToNat, Int.reduceEq, Int.reduceNe, Int.reduceLT, Int.reduceLE, Int.reduceNeg, Int.reduceAdd, ↓reduceIte, ↓reduceCtorEq, Nat.reduceEqDiff, Nat.reduceAdd, Nat.reduceSub, Nat.reduceMul, Nat.reduceLeDiff, Nat.reduceLT])
    | (with_reducible refine qcall_i k5 ?_; simp only [Tryd.f16, u, resPV, q1, q2, q3, go_sem, Int.reduceToNat, Int.reduceEq, Int.reduceNe, Int.reduceLT, Int.reduceLE, Int.reduceNeg, Int.reduceAdd, ↓reduceIte, ↓reduceCtorEq, Nat.reduceEqDiff, Nat.reduceAdd, Nat.reduceSub, Nat.reduceMul, Nat.reduceLeDiff, Nat.reduceLT])
    | (with_reducible refine qcall_i k6 ?_; simp only [Tryd.f16, u, resPV, q1, q2, q3, go_sem, Int.reduceToNat, Int.reduceEq, Int.reduceNe, Int.reduceLT, Int.reduceLE, Int.reduceNeg, Int.reduceAdd, ↓reduceIte, ↓reduceCtorEq, Nat.reduceEqDiff, Nat.reduceAdd, Nat.reduceSub, Nat.reduceMul, Nat.reduceLeDiff, Nat.reduceLT])
    | (with_reducible refine qcall_i k7 ?_; simp only [Tryd.f16, u, resPV, q1, q2, q3, go_sem, Int.reduceToNat, Int.reduceEq, Int.reduceNe, Int.reduceLT, Int.reduceLE, Int.reduceNeg, Int.reduceAdd, ↓reduceIte, ↓reduceCtorEq, Nat.reduceEqDiff, Nat.reduceAdd, Nat.reduceSub, Nat.reduceMul, Nat.reduceLeDiff, Nat.reduceLT])
    | (with_reducible refine qcall_i k8 ?_; simp only [Tryd.f16, u, resPV, q1, q2, q3, go_sem, Int.reduceToNat, Int.reduceEq, Int.reduceNe, Int.reduceLT, Int.reduceLE, Int.reduceNeg, Int.reduceAdd, ↓reduceIte, ↓reduceCtorEq, Nat.reduceEqDiff, Nat.reduceAdd, Nat.reduceSub, Nat.reduceMul, Nat.reduceLeDiff, Nat.reduceLT])
    | (with_reducible refine qcall_i k9 ?_; simp only [Tryd.f16, u, resPV, q1, q2, q3, go_sem, Int.reduceToNat, Int.reduceEq, Int.reduceNe, Int.reduceLT, Int.reduceLE, Int.reduceNeg, Int.reduceAdd, ↓reduceIte, ↓reduceCtorEq, Nat.reduceEqDiff, Nat.reduceAdd, Nat.reduceSub, Nat.reduceMul, Nat.reduceLeDiff, Nat.reduceLT])
    | (with_reducible refine qcall_i k10 ?_; simp only [Tryd.f16, u, resPV, q1, q2, q3, go_sem, Int.reduceToNat, Int.reduceEq, Int.reduceNe, Int.reduceLT, Int.reduceLE, Int.reduceNeg, Int.reduceAdd, ↓reduceIte, ↓reduceCtorEq, Nat.reduceEqDiff, Nat.reduceAdd, Nat.reduceSub, Nat.reduceMul, Nat.reduceLeDiff, Nat.reduceLT])
    | (with_reducible refine qcall_i k11 ?_; simp only [Tryd.f16, u, resPV, q1, q2, q3, go_sem, Int.reduceToNat, Int.reduceEq, Int.reduceNe, Int.reduceLT, Int.reduceLE, Int.reduceNeg, Int.reduceAdd, ↓reduceIte, ↓reduceCtorEq, Nat.reduceEqDiff, Nat.reduceAdd, Nat.reduceSub, Nat.reduceMul, Nat.reduceLeDiff, Nat.reduceLT])
    | (with_reducible refine qcall_i k12 ?_; simp only [Tryd.f16, u, resPV, q1, q2, q3, go_sem, Int.reduceToNat, Int.reduceEq, Int.reduceNe, Int.reduceLT, Int.reduceLE, Int.reduceNeg, Int.reduceAdd, ↓reduceIte, ↓reduceCtorEq, Nat.reduceEqDiff, Nat.reduceAdd, Nat.reduceSub, Nat.reduceMul, Nat.reduceLeDiff, Nat.reduceLT])
    | (with_reducible refine qcall_i k13 ?_; simp only [Tryd.f16, u, resPV, q1, q2, q3, go_sem, Int.reduceToNat, Int.reduceEq, Int.reduceNe, Int.reduceLT, Int.reduceLE, Int.reduceNeg, Int.reduceAdd, ↓reduceIte, ↓reduceCtorEq, Nat.reduceEqDiff, Nat.reduceAdd, Nat.reduceSub, Nat.reduceMul, Nat.reduceLeDiff, Nat.reduceLT])
    | (with_reducible refine qcall_i k14 ?_; simp only [Tryd.f16, u, resPV, q1, q2, q3, go_sem, Int.reduceToNat, Int.reduceEq, Int.reduceNe, Int.reduceLT, Int.reduceLE, Int.reduceNeg, Int.reduceAdd, ↓reduceIte, ↓reduceCtorEq, Nat.reduceEqDiff, Nat.reduceAdd, Nat.reduceSub, Nat.reduceMul, Nat.reduceLeDiff, Nat.reduceLT])
    | (with_reducible refine qcall_i k15 ?_; simp only [Tryd.f16, u, resPV, q1, q2, q3, go_sem, Int.reduceToNat, Int.reduceEq, Int.reduceNe, Int.reduceLT, Int.reduceLE, Int.reduceNeg, Int.reduceAdd, ↓reduceIte, ↓reduceCtorEq, Nat.reduceEqDiff, Nat.reduceAdd, Nat.reduceSub, Nat.reduceMul, Nat.reduceLeDiff, Nat.reduceLT])
    | (with_reducible refine qcall_i k16 ?_; simp only [Tryd.f16, u, resPV, q1, q2, q3, go_sem, Int.reduceToNat, Int.reduceEq, Int.reduceNe, Int.reduceLT, Int.reduceLE, Int.reduceNeg, Int.reduceAdd, ↓reduceIte, ↓reduceCtorEq, Nat.reduceEqDiff, Nat.reduceAdd, Nat.reduceSub, Nat.reduceMul, Nat.reduceLeDiff, Nat.reduceLT])
    | (with_reducible refine qcall_i k17 ?_; simp only [Tryd.f16, u, resPV, q1, q2, q3, go_sem, Int.reduceToNat, Int.reduceEq, Int.reduceNe, Int.reduceLT, Int.reduceLE, Int.reduceNeg, Int.reduceAdd, ↓reduceIte, ↓reduceCtorEq, Nat.reduceEqDiff, Nat.reduceAdd, Nat.reduceSub, Nat.reduceMul, Nat.reduceLeDiff, Nat.reduceLT])
    | (with_reducible refine qcall_i k18 ?_; simp only [Tryd.f16, u, resPV, q1, q2, q3, go_sem, Int.reduceToNat, Int.reduceEq, Int.reduceNe, Int.reduceLT, Int.reduceLE, Int.reduceNeg, Int.reduceAdd, ↓reduceIte, ↓reduceCtorEq, Nat.reduceEqDiff, Nat.reduceAdd, Nat.reduceSub, Nat.reduceMul, Nat.reduceLeDiff, Nat.reduceLT])
    | (with_reducible refine qcall_i k19 ?_; simp only [Tryd.f16, u, resPV, q1, q2, q3, go_sem, Int.reduceToNat, Int.reduceEq, Int.reduceNe, Int.reduceLT, Int.reduceLE, Int.reduceNeg, Int.reduceAdd, ↓reduceIte, ↓reduceCtorEq, Nat.reduceEqDiff, Nat.reduceAdd, Nat.reduceSub, Nat.reduceMul, Nat.reduceLeDiff, Nat.reduceLT])
    | (with_reducible refine Eq.trans ?_ hR.symm; clear k1 k2 k3 k4 k5 k6 k7 k8 k9 k10 k11 k12 k13 k14 k15 k16 k17 k18 k19 q1 q2 q3 hR; simp_all [resPV]; done)
end Go.Proofs.YtflpcgcgeffolaaDoor
