/- The document's answers for what needs no reckoning: planimeterref20. -/
import Derived.Test.YtkddalmjhmgbeaaDoorFl3
import Derived.Test.YtkddalmjhmgbeaaDoorSp1
open Go PG Go.Proofs
set_option maxRecDepth 100000
set_option linter.unusedSimpArgs false
set_option linter.unusedVariables false
namespace Go.Proofs.YtkddalmjhmgbeaaDoor
attribute [local go_sem] Lay2 Lay3 Lay4 Lay5 Lay6 Lay7 Lay8 Lay9 Lay10 Lay11 Lay12 Lay13 Lay14 Lay21 Lay22 Lay24 Lay27 Lay36 Lay47 Lay53 Lay55 Lay56 Lay57 Lay58 Lay62 Lay63 Lay66 Lay67 Lay68 Lay69 Lay72 Lay95 Lay121 Lay129 Lay144 Lay145 Lay146 Lay148 Lay149 Lay152 Lay153 qexec_seq qexec_skip qexec_exit qexec_ret qexec_block qexec_loop qexec_range qexec_cond qexec_region qops_nil qops_none qops_some put_some put_none pblk_exit pblk_other newDsts_nil sget_cons qval_some qbool_some qgs_bool qgs_und qfree_some qgrd_true qgrd_false qif_true qif_false qval_ite qval_itn qand_true map_ite map_some' map_none' qdo_move qdo_assign qdo_binOp qdo_pick qdo_unOp qdo_convert qdo_extract qdo_field qdo_fieldAddr qdo_alloc qdo_box qdo_build qdo_buildSlice qdo_load qdo_store qdo_nilCheck qdo_makeFunc qdo_makeSlice qdo_slice qdo_indexAddr qdo_call qcont_val qcont_new qcont_st qcont_app0 qcont_app qcont_inl qcont_call njSV_val njSV_nil njSV_row njSV_ptr njSV_sub binV_val binV_nil binV_nn nilCmp bin_add bin_sub bin_mul bin_quo bin_rem bin_and bin_or bin_xor bin_andNot bin_eql bin_neq bin_lss bin_leq bin_gtr bin_geq bin_shl bin_shr bin_seql bin_sneq bin_sadd bin_beql bin_aeql bin_aneq eqAnd_some eqCells_nil eqCells_cons fieldTypes isStruct eqCell bin_bneq un_not un_neg nj_ite Nat.beq stepA stepR isNew opSV constSV RV.sv allSome E_mu Bool.or_false Bool.false_or Bool.or_true Bool.true_or cst setB res resSV pstart startL killL kill1 eraL frzL svPV rvPV rvInt rvSlice frzOf close closeL pconv pbuiltin pmax2 partPV setCells fillPV zrow bound newSV PV.cells Bk.cells Bk.with SV.key pres presL_nil presL_tmp presL_cell presC2_some cellPV_ptr presC List.toList_toArray List.size_toArray List.getElem?_drop Nat.mul_one Int.toNat_natCast Nat.not_lt_zero Nat.lt_irrefl decide_true decide_false Nat.not_lt Option.some.injEq PV.lst.injEq PV.int.injEq PV.bool.injEq PV.tuple.injEq List.cons.injEq Option.map_some Option.map_none Option.bind_some Option.toList List.map_cons List.map_nil List.nil_append List.cons_append List.append_nil List.zip_cons_cons List.zip_nil_left List.zip_nil_right List.getElem?_cons_zero List.getElem?_cons_succ List.drop_zero List.drop_succ_cons List.take_succ_cons List.take_zero List.set_cons_zero List.set_cons_succ List.length_cons List.length_nil List.length_set List.replicate_one List.replicate_zero bne_self_eq_false beq_self_eq_true Nat.zero_add Nat.add_zero Nat.zero_mul Bool.false_eq_true Bool.true_eq_false Bool.not_true Bool.not_false and_true true_and false_and and_false or_false false_or or_true true_or not_true_eq_false not_false_eq_true ne_eq gt_iff_lt List.mem_cons List.not_mem_nil
attribute [local go_sem ↓] pseq_normal pseq_ret pseq_exit pblk_normal pblk_ret newDsts_cons gdst_zero gdst_succ retQ_normal retQ_ret retM_normal retM_ret endR_normal endR_ret endR_exit

/-- Bits and flags, if there is an answer, as the document tells them. -/
def ansPV (o : Option (Nat × Nat)) : PV := match o with
  | some (b, f) => .agg [.int .u64 b, .int .i64 f, .bool true]
  | none => .agg [.int .u64 0, .int .i64 0, .bool false]

theorem kind_num (b : Nat) : 2 < kind b ↔ ¬ fe b < 2047 := by
  unfold kind
  repeat' split
  all_goals omega

theorem c_rOdd (b : Nat) (hb : b < W) : PC E 86 [u b] (.tuple [.bool (od b), .bool (wh b)]) := by
  refine PC.of_body follows Tryd.func86 (by decide +kernel) rfl (by kernel_rfl) (Nat.le_of_ble_eq_true rfl) (walk ?_)
  have h := c_Worth b hb
  have hk := kind_num b
  have ho := fd_ok b
  simp only [Tryd.f86, go_sem, Int.reduceToNat, Int.reduceEq, Int.reduceNe, Int.reduceLT, Int.reduceLE, Int.reduceNeg, Int.reduceAdd, ↓reduceIte, ↓reduceCtorEq, Nat.reduceEqDiff, Nat.reduceAdd, Nat.reduceSub, Nat.reduceMul, Nat.reduceLeDiff, Nat.reduceLT]
  refine qcall_i (c_rKind b hb) ?_; simp only [Tryd.f86, go_sem, Int.reduceToNat, Int.reduceEq, Int.reduceNe, Int.reduceLT, Int.reduceLE, Int.reduceNeg, Int.reduceAdd, ↓reduceIte, ↓reduceCtorEq, Nat.reduceEqDiff, Nat.reduceAdd, Nat.reduceSub, Nat.reduceMul, Nat.reduceLeDiff, Nat.reduceLT]
  unfold od wh
  by_cases hf : fe b < 2047
  · refine qif_df (by omega) ?_
    simp only [Tryd.f86, go_sem, Int.reduceToNat, Int.reduceEq, Int.reduceNe, Int.reduceLT, Int.reduceLE, Int.reduceNeg, Int.reduceAdd, ↓reduceIte, ↓reduceCtorEq, Nat.reduceEqDiff, Nat.reduceAdd, Nat.reduceSub, Nat.reduceMul, Nat.reduceLeDiff, Nat.reduceLT]
    generalize fd b = d at *
    refine qcall_i (h) ?_; simp only [Tryd.f86, Dy.nv, DP, VN, VL, go_sem, Int.reduceToNat, Int.reduceEq, Int.reduceNe, Int.reduceLT, Int.reduceLE, Int.reduceNeg, Int.reduceAdd, ↓reduceIte, ↓reduceCtorEq, Nat.reduceEqDiff, Nat.reduceAdd, Nat.reduceSub, Nat.reduceMul, Nat.reduceLeDiff, Nat.reduceLT]
    refine qif_d (fun h0 => ?_) (fun h0 => ?_)
    · simp only [Tryd.f86, go_sem, Int.reduceToNat, Int.reduceEq, Int.reduceNe, Int.reduceLT, Int.reduceLE, Int.reduceNeg, Int.reduceAdd, ↓reduceIte, ↓reduceCtorEq, Nat.reduceEqDiff, Nat.reduceAdd, Nat.reduceSub, Nat.reduceMul, Nat.reduceLeDiff, Nat.reduceLT]
      have hm : (0 < (dg B d.m).length) ↔ d.m % 2 = 1 := by
        constructor
        · intro h1
          rcases ho with h2 | h2
          · rw [h2] at h1; exact absurd h1 (by decide)
          · exact h2
        · intro h1
          rcases Nat.eq_zero_or_pos (dg B d.m).length with h2 | h2
          · have := dgB_nil h2; omega
          · exact h2
      refine ⟨decide_eq_decide.2 ?_, decide_eq_decide.2 ?_⟩
      · exact ⟨fun h1 => ⟨hf, h0, hm.1 (by omega)⟩, fun h1 => by have := hm.2 h1.2.2; omega⟩
      · exact ⟨fun h1 => ⟨hf, by omega⟩, fun h1 => by omega⟩
    · simp only [Tryd.f86, go_sem, Int.reduceToNat, Int.reduceEq, Int.reduceNe, Int.reduceLT, Int.reduceLE, Int.reduceNeg, Int.reduceAdd, ↓reduceIte, ↓reduceCtorEq, Nat.reduceEqDiff, Nat.reduceAdd, Nat.reduceSub, Nat.reduceMul, Nat.reduceLeDiff, Nat.reduceLT]
      refine ⟨(decide_eq_false (fun h1 => h0 h1.2.1)).symm, decide_eq_decide.2 ?_⟩
      exact ⟨fun h1 => ⟨hf, by omega⟩, fun h1 => by omega⟩
  · refine qif_dt (by omega) ?_
    simp only [Tryd.f86, go_sem, Int.reduceToNat, Int.reduceEq, Int.reduceNe, Int.reduceLT, Int.reduceLE, Int.reduceNeg, Int.reduceAdd, ↓reduceIte, ↓reduceCtorEq, Nat.reduceEqDiff, Nat.reduceAdd, Nat.reduceSub, Nat.reduceMul, Nat.reduceLeDiff, Nat.reduceLT]
    exact ⟨(decide_eq_false (fun h1 => hf h1.1)).symm, (decide_eq_false (fun h1 => hf h1.1)).symm⟩

theorem fsz_W (b : Nat) : fsz b < W := Nat.lt_trans (fsz_lt b) (by decide)

theorem c_less (b : Nat) (hb : b < W) (hk : kind b ≤ 3) : PC E 88 [u b] (.int .i64 (sgn (fsz b) 4607182418800017408)) := by
  refine PC.of_body follows Tryd.func88 (by decide +kernel) rfl (by kernel_rfl) (Nat.le_of_ble_eq_true rfl) (walk ?_)
  have hl := fsz_lt b
  simp only [Tryd.f88, go_sem, Int.reduceToNat, Int.reduceEq, Int.reduceNe, Int.reduceLT, Int.reduceLE, Int.reduceNeg, Int.reduceAdd, ↓reduceIte, ↓reduceCtorEq, Nat.reduceEqDiff, Nat.reduceAdd, Nat.reduceSub, Nat.reduceMul, Nat.reduceLeDiff, Nat.reduceLT]
  refine qcall_i (c_rSize b hb) ?_; simp only [Tryd.f88, u, go_sem, Int.reduceToNat, Int.reduceEq, Int.reduceNe, Int.reduceLT, Int.reduceLE, Int.reduceNeg, Int.reduceAdd, ↓reduceIte, ↓reduceCtorEq, Nat.reduceEqDiff, Nat.reduceAdd, Nat.reduceSub, Nat.reduceMul, Nat.reduceLeDiff, Nat.reduceLT]
  refine qif_d (fun h => ?_) (fun h => ?_)
  · simp only [Tryd.f88, go_sem, Int.reduceToNat, Int.reduceEq, Int.reduceNe, Int.reduceLT, Int.reduceLE, Int.reduceNeg, Int.reduceAdd, ↓reduceIte, ↓reduceCtorEq, Nat.reduceEqDiff, Nat.reduceAdd, Nat.reduceSub, Nat.reduceMul, Nat.reduceLeDiff, Nat.reduceLT]
    unfold sgn
    rw [if_neg (by omega), if_pos (by omega)]
  · have k1 := c_Worth (fsz b) (fsz_W b)
    have e := fd_e (fsz b)
    have b1 := fd_bits (fsz b)
    have k2 := c_5Cmp (fd (fsz b)) (fd 4607182418800017408) (by omega) (by rw [fd_one]; decide) (by omega) (by rw [fd_one]; decide) (fun _ _ _ => by rw [fd_one]; show (fd (fsz b)).e - 0 ≤ 1000000 ∧ 0 - (fd (fsz b)).e ≤ 1000000; omega)
    rw [fd_cmp hl (by decide), fd_one] at k2
    have hd1 : dg B 1 = [1] := by rw [dg_eq B2, if_neg (by decide)]; rfl
    simp only [Dy.nv, DP, VN, VL, hd1] at k1 k2
    simp only [Tryd.f88, go_sem, Int.reduceToNat, Int.reduceEq, Int.reduceNe, Int.reduceLT, Int.reduceLE, Int.reduceNeg, Int.reduceAdd, ↓reduceIte, ↓reduceCtorEq, Nat.reduceEqDiff, Nat.reduceAdd, Nat.reduceSub, Nat.reduceMul, Nat.reduceLeDiff, Nat.reduceLT]
    refine qcall_i (k1) ?_; simp only [Tryd.f88, go_sem, Int.reduceToNat, Int.reduceEq, Int.reduceNe, Int.reduceLT, Int.reduceLE, Int.reduceNeg, Int.reduceAdd, ↓reduceIte, ↓reduceCtorEq, Nat.reduceEqDiff, Nat.reduceAdd, Nat.reduceSub, Nat.reduceMul, Nat.reduceLeDiff, Nat.reduceLT]
    refine qcall_i (k2) ?_; simp only [Tryd.f88, go_sem, Int.reduceToNat, Int.reduceEq, Int.reduceNe, Int.reduceLT, Int.reduceLE, Int.reduceNeg, Int.reduceAdd, ↓reduceIte, ↓reduceCtorEq, Nat.reduceEqDiff, Nat.reduceAdd, Nat.reduceSub, Nat.reduceMul, Nat.reduceLeDiff, Nat.reduceLT]
    rfl

theorem c_rsign (x : Nat) (odd : Bool) : PC E 87 [u x, .bool odd] (.int .u64 (sgd 0 x odd : Nat)) := by
  refine PC.of_body follows Tryd.func87 (by decide +kernel) rfl (by kernel_rfl) (Nat.le_of_ble_eq_true rfl) (walk ?_)
  unfold sgd fs
  cases odd
  · simp only [Tryd.f87, u, go_sem, Int.reduceToNat, Int.reduceEq, Int.reduceNe, Int.reduceLT, Int.reduceLE, Int.reduceNeg, Int.reduceAdd, ↓reduceIte, ↓reduceCtorEq, Nat.reduceEqDiff, Nat.reduceAdd, Nat.reduceSub, Nat.reduceMul, Nat.reduceLeDiff, Nat.reduceLT]
    rfl
  · simp only [Tryd.f87, u, go_sem, Int.reduceToNat, Int.reduceEq, Int.reduceNe, Int.reduceLT, Int.reduceLE, Int.reduceNeg, Int.reduceAdd, ↓reduceIte, ↓reduceCtorEq, Nat.reduceEqDiff, Nat.reduceAdd, Nat.reduceSub, Nat.reduceMul, Nat.reduceLeDiff, Nat.reduceLT]
    refine qif_d (fun h => ?_) (fun h => ?_)
    · simp only [Tryd.f87, go_sem, Int.reduceToNat, Int.reduceEq, Int.reduceNe, Int.reduceLT, Int.reduceLE, Int.reduceNeg, Int.reduceAdd, ↓reduceIte, ↓reduceCtorEq, Nat.reduceEqDiff, Nat.reduceAdd, Nat.reduceSub, Nat.reduceMul, Nat.reduceLeDiff, Nat.reduceLT]
      rw [if_pos (by simp; omega)]; rfl
    · simp only [Tryd.f87, go_sem, Int.reduceToNat, Int.reduceEq, Int.reduceNe, Int.reduceLT, Int.reduceLE, Int.reduceNeg, Int.reduceAdd, ↓reduceIte, ↓reduceCtorEq, Nat.reduceEqDiff, Nat.reduceAdd, Nat.reduceSub, Nat.reduceMul, Nat.reduceLeDiff, Nat.reduceLT]
      rw [if_neg (by simp; omega)]; rfl

theorem sgd_add (x : Nat) (o : Bool) : IntKind.wrap .u64 (9218868437227405312 + (sgd 0 x o : Int)) = (sgd bInf x o : Int) := by
  unfold sgd
  split
  · decide
  · decide

theorem powS_alt (x y : Nat) (hx : x < W) : powS x y =
  if kind x = 5 ∨ kind y = 5 then some (bNaN, 16)
  else if kind y = 0 ∨ x = 4607182418800017408 then some (bOne, 0)
  else if kind x = 4 ∨ kind y = 4 then some (bNaN, 0)
  else if kind x = 0 then
    if fs y = true then (if kind y = 3 then some (bInf, 0) else some (sgd bInf x (od y), 8))
    else some (sgd 0 x (od y), 0)
  else if kind y = 3 then
    if fsz x = 4607182418800017408 then some (bOne, 0) else if (decide (4607182418800017408 < fsz x) != fs y) = true then some (bInf, 0) else some (0, 0)
  else if kind x = 3 then if fs y = true then some (sgd 0 x (od y), 0) else some (sgd bInf x (od y), 0)
  else if fs x = true ∧ wh y = false then some (bNaN, 16) else none := by
  unfold powS
  by_cases h1 : x = 4607182418800017408
  · simp [h1]
  · have h2 : (x = 13830554455654793216) = (fsz x = 4607182418800017408) := by
      have : x < 18446744073709551616 := hx
      unfold fsz
      exact propext ⟨fun h => by omega, fun h => by omega⟩
    simp only [h2]

set_option maxHeartbeats 1000000 in
theorem c_rPow (x y : Nat) (hx : x < W) (hy : y < W) : PC E 39 [u x, u y] (ansPV (powS x y)) := by
  obtain ⟨R, hR⟩ : ∃ R, R = ansPV (powS x y) := ⟨_, rfl⟩
  rw [← hR]
  refine PC.of_body follows Tryd.func39 (by decide +kernel) rfl (by kernel_rfl) (Nat.le_of_ble_eq_true rfl) (walk ?_)
  have q1 : ((x : Int) = 4607182418800017408) = (x = 4607182418800017408) := by rw [← Int.ofNat_inj]; rfl
  have q2 : (sgn (fsz x) 4607182418800017408 = 0) = (fsz x = 4607182418800017408) := by rw [sgn_zero, ← Int.ofNat_inj]; rfl
  have q3 : (0 < sgn (fsz x) 4607182418800017408) = (4607182418800017408 < fsz x) := by rw [sgn_pos, ← Int.ofNat_lt]; rfl
  have q4 : (sgn (fsz x) 4607182418800017408 < 0) = (fsz x < 4607182418800017408) := by rw [sgn_neg, ← Int.ofNat_lt]; rfl
  have q5 : decide ((x : Int) ≥ 9223372036854775808) = fs x := decide_eq_decide.2 (by omega)
  have q6 : decide ((y : Int) ≥ 9223372036854775808) = fs y := decide_eq_decide.2 (by omega)
  have q7 := sgd_add x (od y)
  have k1 := c_rsign x (od y)
  have k2 := fun h => c_less x hx h
  have ha := kind_le x
  simp only [u] at k1 k2
  simp only [Tryd.f39, go_sem, Int.reduceToNat, Int.reduceEq, Int.reduceNe, Int.reduceLT, Int.reduceLE, Int.reduceNeg, Int.reduceAdd, ↓reduceIte, ↓reduceCtorEq, Nat.reduceEqDiff, Nat.reduceAdd, Nat.reduceSub, Nat.reduceMul, Nat.reduceLeDiff, Nat.reduceLT]
  refine qcall_i (c_rKind x hx) ?_; simp only [Tryd.f39, u, go_sem, Int.reduceToNat, Int.reduceEq, Int.reduceNe, Int.reduceLT, Int.reduceLE, Int.reduceNeg, Int.reduceAdd, ↓reduceIte, ↓reduceCtorEq, Nat.reduceEqDiff, Nat.reduceAdd, Nat.reduceSub, Nat.reduceMul, Nat.reduceLeDiff, Nat.reduceLT]
  refine qcall_i (c_rKind y hy) ?_; simp only [Tryd.f39, u, go_sem, Int.reduceToNat, Int.reduceEq, Int.reduceNe, Int.reduceLT, Int.reduceLE, Int.reduceNeg, Int.reduceAdd, ↓reduceIte, ↓reduceCtorEq, Nat.reduceEqDiff, Nat.reduceAdd, Nat.reduceSub, Nat.reduceMul, Nat.reduceLeDiff, Nat.reduceLT]
  refine qcall_i (c_rOdd y hy) ?_; simp only [Tryd.f39, u, q6, go_sem, Int.reduceToNat, Int.reduceEq, Int.reduceNe, Int.reduceLT, Int.reduceLE, Int.reduceNeg, Int.reduceAdd, ↓reduceIte, ↓reduceCtorEq, Nat.reduceEqDiff, Nat.reduceAdd, Nat.reduceSub, Nat.reduceMul, Nat.reduceLeDiff, Nat.reduceLT]
  rw [powS_alt x y hx] at hR
  generalize wh y = w at *
  generalize od y = o at *
  generalize fs y = s at *
  generalize fs x = t at *
  generalize sgd bInf x o = g1 at *
  generalize sgd 0 x o = g2 at *
  generalize fsz x = z at *
  have e5 : ∀ n : Nat, ((kind x : Int) = n) = (kind x = n) := fun n => by rw [Int.ofNat_inj]
  have e6 : ∀ n : Nat, ((kind y : Int) = n) = (kind y = n) := fun n => by rw [Int.ofNat_inj]
  have c5 := e5 5
  have c4 := e5 4
  have c3 := e5 3
  have c0 := e5 0
  have d5 := e6 5
  have d4 := e6 4
  have d3 := e6 3
  have d0 := e6 0
  simp only [Int.cast_ofNat_Int] at c5 c4 c3 c0 d5 d4 d3 d0
  clear e5 e6 q6 hx hy
  simp only [c5]
  repeat' first
    | (with_reducible refine qif_b (fun h => ?_) (fun h => ?_) <;> simp only [Tryd.f39, h, u, ansPV, resPV, q1, q2, q3, q4, q5, q7, c5, c4, c3, c0, d5, d4, d3, d0, go_sem, Int.reduceToNat, Int.reduceEq, Int.reduceNe, Int.reduceLT, Int.reduceLE, Int.reduceNeg, Int.reduceAdd, ↓reduceIte, ↓reduceCtorEq, Nat.reduceEqDiff, Nat.reduceAdd, Nat.reduceSub, Nat.reduceMul, Nat.reduceLeDiff, Nat.reduceLT])
    | (with_reducible refine qcall_i k1 ?_; simp only [Tryd.f39, u, ansPV, resPV, q1, q2, q3, q4, q5, q7, c5, c4, c3, c0, d5, d4, d3, d0, go_sem, Int.reduceToNat, Int.reduceEq, Int.reduceNe, Int.reduceLT, Int.reduceLE, Int.reduceNeg, Int.reduceAdd, ↓reduceIte, ↓reduceCtorEq, Nat.reduceEqDiff, Nat.reduceAdd, Nat.reduceSub, Nat.reduceMul, Nat.reduceLeDiff, Nat.reduceLT])
    | (with_reducible refine qcall_i (k2 (by simp only [decide_eq_true_eq, decide_eq_false_iff_not] at *; omega)) ?_; simp only [Tryd.f39, u, ansPV, resPV, q1, q2, q3, q4, q5, q7, c5, c4, c3, c0, d5, d4, d3, d0, go_sem, Int.reduceToNat, Int.reduceEq, Int.reduceNe, Int.reduceLT, Int.reduceLE, Int.reduceNeg, Int.reduceAdd, ↓reduceIte, ↓reduceCtorEq, Nat.reduceEqDiff, Nat.reduceAdd, Nat.reduceSub, Nat.reduceMul, Nat.reduceLeDiff, Nat.reduceLT])
    | (with_reducible refine Eq.trans ?_ hR.symm; clear k1 k2 q1 q2 q3 q4 q5 q7 c5 c4 c3 c0 d5 d4 d3 d0 hR; first | (simp_all [ansPV, resPV, bNaN, bInf, bOne]; done) | (rw [show decide (4607182418800017408 < z) = false from by assumption]; simp_all [ansPV, resPV, bNaN, bInf, bOne]; done) | (exfalso; simp_all; omega))
end Go.Proofs.YtkddalmjhmgbeaaDoor
