/- Compound; the document's answers for whole powers, roots, compound. -/
import Derived.Test.YtkddalmjhmgbeaaDoorSp2
open Go PG Go.Proofs
set_option maxRecDepth 100000
set_option linter.unusedSimpArgs false
set_option linter.unusedVariables false
namespace Go.Proofs.YtkddalmjhmgbeaaDoor
attribute [local go_sem] Lay2 Lay3 Lay4 Lay5 Lay6 Lay7 Lay8 Lay9 Lay10 Lay11 Lay12 Lay13 Lay14 Lay21 Lay22 Lay24 Lay27 Lay36 Lay47 Lay53 Lay55 Lay56 Lay57 Lay58 Lay62 Lay63 Lay66 Lay67 Lay68 Lay69 Lay72 Lay95 Lay121 Lay129 Lay144 Lay145 Lay146 Lay148 Lay149 Lay152 Lay153 qexec_seq qexec_skip qexec_exit qexec_ret qexec_block qexec_loop qexec_range qexec_cond qexec_region qops_nil qops_none qops_some put_some put_none pblk_exit pblk_other newDsts_nil sget_cons qval_some qbool_some qgs_bool qgs_und qfree_some qgrd_true qgrd_false qif_true qif_false qval_ite qval_itn qand_true map_ite map_some' map_none' qdo_move qdo_assign qdo_binOp qdo_pick qdo_unOp qdo_convert qdo_extract qdo_field qdo_fieldAddr qdo_alloc qdo_box qdo_build qdo_buildSlice qdo_load qdo_store qdo_nilCheck qdo_makeFunc qdo_makeSlice qdo_slice qdo_indexAddr qdo_call qcont_val qcont_new qcont_st qcont_app0 qcont_app qcont_inl qcont_call njSV_val njSV_nil njSV_row njSV_ptr njSV_sub binV_val binV_nil binV_nn nilCmp bin_add bin_sub bin_mul bin_quo bin_rem bin_and bin_or bin_xor bin_andNot bin_eql bin_neq bin_lss bin_leq bin_gtr bin_geq bin_shl bin_shr bin_seql bin_sneq bin_sadd bin_beql bin_aeql bin_aneq eqAnd_some eqCells_nil eqCells_cons fieldTypes isStruct eqCell bin_bneq un_not un_neg nj_ite Nat.beq stepA stepR isNew opSV constSV RV.sv allSome E_mu Bool.or_false Bool.false_or Bool.or_true Bool.true_or cst setB res resSV pstart startL killL kill1 eraL frzL svPV rvPV rvInt rvSlice frzOf close closeL pconv pbuiltin pmax2 partPV setCells fillPV zrow bound newSV PV.cells Bk.cells Bk.with SV.key pres presL_nil presL_tmp presL_cell presC2_some cellPV_ptr presC List.toList_toArray List.size_toArray List.getElem?_drop Nat.mul_one Int.toNat_natCast Nat.not_lt_zero Nat.lt_irrefl decide_true decide_false Nat.not_lt Option.some.injEq PV.lst.injEq PV.int.injEq PV.bool.injEq PV.tuple.injEq List.cons.injEq Option.map_some Option.map_none Option.bind_some Option.toList List.map_cons List.map_nil List.nil_append List.cons_append List.append_nil List.zip_cons_cons List.zip_nil_left List.zip_nil_right List.getElem?_cons_zero List.getElem?_cons_succ List.drop_zero List.drop_succ_cons List.take_succ_cons List.take_zero List.set_cons_zero List.set_cons_succ List.length_cons List.length_nil List.length_set List.replicate_one List.replicate_zero bne_self_eq_false beq_self_eq_true Nat.zero_add Nat.add_zero Nat.zero_mul Bool.false_eq_true Bool.true_eq_false Bool.not_true Bool.not_false and_true true_and false_and and_false or_false false_or or_true true_or not_true_eq_false not_false_eq_true ne_eq gt_iff_lt List.mem_cons List.not_mem_nil
attribute [local go_sem ↓] pseq_normal pseq_ret pseq_exit pblk_normal pblk_ret newDsts_cons gdst_zero gdst_succ retQ_normal retQ_ret retM_normal retM_ret endR_normal endR_ret endR_exit

theorem ansPV_ex (o : Option (Nat × Nat)) : ∃ (B F : Int) (I : Bool), ansPV o = .agg [.int .u64 B, .int .i64 F, .bool I] := by
  cases o with
  | none => exact ⟨0, 0, false, rfl⟩
  | some p => exact ⟨_, _, true, rfl⟩
theorem kind3 (x : Nat) : kind x = 3 ↔ fsz x = 9218868437227405312 := by
  unfold kind fe ff fsz
  repeat' split
  all_goals omega
theorem kind0 (x : Nat) : kind x = 0 ↔ fsz x = 0 := by
  unfold kind fe ff fsz
  repeat' split
  all_goals omega
theorem x_of (x : Nat) (hx : x < W) : (fs x = true ∧ x = fsz x + 9223372036854775808) ∨ (fs x = false ∧ x = fsz x) := by
  have : x < 18446744073709551616 := hx
  unfold fs fsz
  by_cases h : 9223372036854775808 ≤ x
  · left; exact ⟨decide_eq_true h, by omega⟩
  · right; exact ⟨decide_eq_false h, by omega⟩

set_option maxHeartbeats 1000000 in
theorem c_Compound (x : Nat) (hx : x < W) (n : Int) : PC E 58 [u x, .int .i64 n] (resPV (compS x n)) := by
  obtain ⟨R, hR⟩ : ∃ R, R = resPV (compS x n) := ⟨_, rfl⟩
  rw [← hR]
  refine PC.of_body follows Tryd.func58 (by decide +kernel) rfl (by kernel_rfl) (Nat.le_of_ble_eq_true rfl) (walk ?_)
  have hl := fsz_lt x
  have q1 : ((x : Int) > 13830554455654793216) = (fs x = true ∧ 4607182418800017408 < fsz x) := propext (by
    rcases x_of x hx with ⟨h1, h2⟩ | ⟨h1, h2⟩
    · rw [h1]; exact ⟨fun h => ⟨rfl, by omega⟩, fun h => by have := h.2; omega⟩
    · rw [h1]; exact ⟨fun h => by omega, fun h => by cases h.1⟩)
  have q2 : ((x : Int) = 13830554455654793216) = (fs x = true ∧ fsz x = 4607182418800017408) := propext (by
    rcases x_of x hx with ⟨h1, h2⟩ | ⟨h1, h2⟩
    · rw [h1]; exact ⟨fun h => ⟨rfl, by omega⟩, fun h => by have := h.2; omega⟩
    · rw [h1]; exact ⟨fun h => by omega, fun h => by cases h.1⟩)
  have q3 : ((x : Int) = 9218868437227405312) = (fs x = false ∧ fsz x = 9218868437227405312) := propext (by
    rcases x_of x hx with ⟨h1, h2⟩ | ⟨h1, h2⟩
    · rw [h1]; exact ⟨fun h => by omega, fun h => by cases h.1⟩
    · rw [h1]; exact ⟨fun h => ⟨rfl, by omega⟩, fun h => by have := h.2; omega⟩)
  have f3 := kind3 x
  have f0 := kind0 x
  have f5 := kind_le x
  have k1 := c_signals x hx
  have k2 := c_nought x hx
  have k4 := c_nan x hx
  have k5 := c_below x hx
  have k8 : PC E 84 [.int .u64 9218868437227405312, .int .u8 8] (resPV (some (bInf, 8))) := c_flagged bInf 8
  have k9 : PC E 81 [.int .u64 9218868437227405312] (resPV (some (bInf, 0))) := c_is bInf
  have k10 : PC E 81 [.int .u64 4607182418800017408] (resPV (some (bOne, 0))) := c_is bOne
  have k11 : PC E 81 [.int .u64 9221120237041090560] (resPV (some (bNaN, 0))) := c_is bNaN
  have k12 : PC E 81 [.int .u64 0] (resPV (some (0, 0))) := c_is 0
  have k13 := c_invalid
  unfold compS at hR
  simp only [u] at k1 k2 k4 k5
  generalize fs x = t at *
  generalize fsz x = z at *
  generalize kind x = a at *
  simp only [Tryd.f58, u, go_sem, Int.reduceToNat, Int.reduceEq, Int.reduceNe, Int.reduceLT, Int.reduceLE, Int.reduceNeg, Int.reduceAdd, ↓reduceIte, ↓reduceCtorEq, Nat.reduceEqDiff, Nat.reduceAdd, Nat.reduceSub, Nat.reduceMul, Nat.reduceLeDiff, Nat.reduceLT]
  clear hx
  repeat' first
    | ((with_reducible refine qif_b (fun h => ?_) (fun h => ?_)) <;> (try simp only [h] at k2 k4) <;> simp only [Tryd.f58, h, u, ansPV, resPV, q1, q2, q3, go_sem, Int.reduceToNat, Int.reduceEq, Int.reduceNe, Int.reduceLT, Int.reduceLE, Int.reduceNeg, Int.reduceAdd, ↓reduceIte, ↓reduceCtorEq, Nat.reduceEqDiff, Nat.reduceAdd, Nat.reduceSub, Nat.reduceMul, Nat.reduceLeDiff, Nat.reduceLT])
    | ((with_reducible refine qcall_i k1 ?_); simp only [Tryd.f58, u, ansPV, resPV, q1, q2, q3, go_sem, Int.reduceToNat, Int.reduceEq, Int.reduceNe, Int.reduceLT, Int.reduceLE, Int.reduceNeg, Int.reduceAdd, ↓reduceIte, ↓reduceCtorEq, Nat.reduceEqDiff, Nat.reduceAdd, Nat.reduceSub, Nat.reduceMul, Nat.reduceLeDiff, Nat.reduceLT])
    | ((with_reducible refine qcall_i k2 ?_); simp only [Tryd.f58, u, ansPV, resPV, q1, q2, q3, go_sem, Int.reduceToNat, Int.reduceEq, Int.reduceNe, Int.reduceLT, Int.reduceLE, Int.reduceNeg, Int.reduceAdd, ↓reduceIte, ↓reduceCtorEq, Nat.reduceEqDiff, Nat.reduceAdd, Nat.reduceSub, Nat.reduceMul, Nat.reduceLeDiff, Nat.reduceLT])
    | ((with_reducible refine qcall_i k4 ?_); simp only [Tryd.f58, u, ansPV, resPV, q1, q2, q3, go_sem, Int.reduceToNat, Int.reduceEq, Int.reduceNe, Int.reduceLT, Int.reduceLE, Int.reduceNeg, Int.reduceAdd, ↓reduceIte, ↓reduceCtorEq, Nat.reduceEqDiff, Nat.reduceAdd, Nat.reduceSub, Nat.reduceMul, Nat.reduceLeDiff, Nat.reduceLT])
    | ((with_reducible refine qcall_i k5 ?_); simp only [Tryd.f58, u, ansPV, resPV, q1, q2, q3, go_sem, Int.reduceToNat, Int.reduceEq, Int.reduceNe, Int.reduceLT, Int.reduceLE, Int.reduceNeg, Int.reduceAdd, ↓reduceIte, ↓reduceCtorEq, Nat.reduceEqDiff, Nat.reduceAdd, Nat.reduceSub, Nat.reduceMul, Nat.reduceLeDiff, Nat.reduceLT])
    | ((with_reducible refine qcall_i k8 ?_); simp only [Tryd.f58, u, ansPV, resPV, q1, q2, q3, go_sem, Int.reduceToNat, Int.reduceEq, Int.reduceNe, Int.reduceLT, Int.reduceLE, Int.reduceNeg, Int.reduceAdd, ↓reduceIte, ↓reduceCtorEq, Nat.reduceEqDiff, Nat.reduceAdd, Nat.reduceSub, Nat.reduceMul, Nat.reduceLeDiff, Nat.reduceLT])
    | ((with_reducible refine qcall_i k9 ?_); simp only [Tryd.f58, u, ansPV, resPV, q1, q2, q3, go_sem, Int.reduceToNat, Int.reduceEq, Int.reduceNe, Int.reduceLT, Int.reduceLE, Int.reduceNeg, Int.reduceAdd, ↓reduceIte, ↓reduceCtorEq, Nat.reduceEqDiff, Nat.reduceAdd, Nat.reduceSub, Nat.reduceMul, Nat.reduceLeDiff, Nat.reduceLT])
    | ((with_reducible refine qcall_i k10 ?_); simp only [Tryd.f58, u, ansPV, resPV, q1, q2, q3, go_sem, Int.reduceToNat, Int.reduceEq, Int.reduceNe, Int.reduceLT, Int.reduceLE, Int.reduceNeg, Int.reduceAdd, ↓reduceIte, ↓reduceCtorEq, Nat.reduceEqDiff, Nat.reduceAdd, Nat.reduceSub, Nat.reduceMul, Nat.reduceLeDiff, Nat.reduceLT])
    | ((with_reducible refine qcall_i k11 ?_); simp only [Tryd.f58, u, ansPV, resPV, q1, q2, q3, go_sem, Int.reduceToNat, Int.reduceEq, Int.reduceNe, Int.reduceLT, Int.reduceLE, Int.reduceNeg, Int.reduceAdd, ↓reduceIte, ↓reduceCtorEq, Nat.reduceEqDiff, Nat.reduceAdd, Nat.reduceSub, Nat.reduceMul, Nat.reduceLeDiff, Nat.reduceLT])
    | ((with_reducible refine qcall_i k12 ?_); simp only [Tryd.f58, u, ansPV, resPV, q1, q2, q3, go_sem, Int.reduceToNat, Int.reduceEq, Int.reduceNe, Int.reduceLT, Int.reduceLE, Int.reduceNeg, Int.reduceAdd, ↓reduceIte, ↓reduceCtorEq, Nat.reduceEqDiff, Nat.reduceAdd, Nat.reduceSub, Nat.reduceMul, Nat.reduceLeDiff, Nat.reduceLT])
    | ((with_reducible refine qcall_i k13 ?_); simp only [Tryd.f58, u, ansPV, resPV, q1, q2, q3, go_sem, Int.reduceToNat, Int.reduceEq, Int.reduceNe, Int.reduceLT, Int.reduceLE, Int.reduceNeg, Int.reduceAdd, ↓reduceIte, ↓reduceCtorEq, Nat.reduceEqDiff, Nat.reduceAdd, Nat.reduceSub, Nat.reduceMul, Nat.reduceLeDiff, Nat.reduceLT])
    | ((with_reducible refine Eq.trans ?_ hR.symm); clear k1 k2 k4 k5 k8 k9 k10 k11 k12 k13 q1 q2 q3 hR; first | (simp_all [ansPV, resPV, bNaN, bInf, bOne]; done) | ((repeat' split) <;> first | rfl | exact hE.symm | (exfalso; simp_all; done) | (exfalso; simp_all; omega)))

set_option maxHeartbeats 1000000 in
theorem c_rEnd (x : Nat) (hx : x < W) (n : Int) (hn : n ≠ 0) : PC E 96 [u x, .int .i64 n] (ansPV (endsS x n)) := by
  obtain ⟨R, hR⟩ : ∃ R, R = ansPV (endsS x n) := ⟨_, rfl⟩
  rw [← hR]
  refine PC.of_body follows Tryd.func96 (by decide +kernel) rfl (by kernel_rfl) (Nat.le_of_ble_eq_true rfl) (walk ?_)
  have q1 := tmod2 n
  have q2 := sgd_add x (podd n)
  have k1 := c_rsign x (podd n)
  have e5 : ∀ m : Nat, ((kind x : Int) = m) = (kind x = m) := fun m => by rw [Int.ofNat_inj]
  have q3 := e5 3
  have q4 := e5 0
  simp only [Int.cast_ofNat_Int] at q3 q4
  clear e5
  simp only [u] at k1
  simp only [Tryd.f96, q1, go_sem, Int.reduceToNat, Int.reduceEq, Int.reduceNe, Int.reduceLT, Int.reduceLE, Int.reduceNeg, Int.reduceAdd, ↓reduceIte, ↓reduceCtorEq, Nat.reduceEqDiff, Nat.reduceAdd, Nat.reduceSub, Nat.reduceMul, Nat.reduceLeDiff, Nat.reduceLT]
  refine qcall_i (c_rKind x hx) ?_; simp only [Tryd.f96, u, q1, q3, q4, go_sem, Int.reduceToNat, Int.reduceEq, Int.reduceNe, Int.reduceLT, Int.reduceLE, Int.reduceNeg, Int.reduceAdd, ↓reduceIte, ↓reduceCtorEq, Nat.reduceEqDiff, Nat.reduceAdd, Nat.reduceSub, Nat.reduceMul, Nat.reduceLeDiff, Nat.reduceLT]
  unfold endsS at hR
  generalize podd n = o at *
  generalize sgd bInf x o = g1 at *
  generalize sgd 0 x o = g2 at *
  generalize kind x = a at *
  clear hx
  repeat' first
    | ((with_reducible refine qif_b (fun h => ?_) (fun h => ?_)) <;> simp only [Tryd.f96, h, u, ansPV, resPV, q1, q2, q3, q4, go_sem, Int.reduceToNat, Int.reduceEq, Int.reduceNe, Int.reduceLT, Int.reduceLE, Int.reduceNeg, Int.reduceAdd, ↓reduceIte, ↓reduceCtorEq, Nat.reduceEqDiff, Nat.reduceAdd, Nat.reduceSub, Nat.reduceMul, Nat.reduceLeDiff, Nat.reduceLT])
    | ((with_reducible refine qcall_i k1 ?_); simp only [Tryd.f96, u, ansPV, resPV, q1, q2, q3, q4, go_sem, Int.reduceToNat, Int.reduceEq, Int.reduceNe, Int.reduceLT, Int.reduceLE, Int.reduceNeg, Int.reduceAdd, ↓reduceIte, ↓reduceCtorEq, Nat.reduceEqDiff, Nat.reduceAdd, Nat.reduceSub, Nat.reduceMul, Nat.reduceLeDiff, Nat.reduceLT])
    | ((with_reducible refine Eq.trans ?_ hR.symm); clear k1 q1 q2 q3 q4 hR; first | (simp_all [ansPV, resPV, bNaN, bInf, bOne]; done) | ((repeat' split) <;> first | rfl | exact hE.symm | (exfalso; simp_all; done) | (exfalso; simp_all; omega)))

set_option maxHeartbeats 1000000 in
theorem c_rPown (x : Nat) (hx : x < W) (n : Int) : PC E 59 [u x, .int .i64 n] (ansPV (pownS x n)) := by
  obtain ⟨R, hR⟩ : ∃ R, R = ansPV (pownS x n) := ⟨_, rfl⟩
  rw [← hR]
  refine PC.of_body follows Tryd.func59 (by decide +kernel) rfl (by kernel_rfl) (Nat.le_of_ble_eq_true rfl) (walk ?_)
  have k1 := fun h => c_rEnd x hx n h
  have e5 : ∀ m : Nat, ((kind x : Int) = m) = (kind x = m) := fun m => by rw [Int.ofNat_inj]
  have q3 := e5 5
  have q4 := e5 4
  simp only [Int.cast_ofNat_Int] at q3 q4
  clear e5
  have hE := ansPV_ex (endsS x n)
  obtain ⟨rB, rF, rI, hr⟩ := hE
  simp only [u, hr] at k1
  simp only [Tryd.f59, go_sem, Int.reduceToNat, Int.reduceEq, Int.reduceNe, Int.reduceLT, Int.reduceLE, Int.reduceNeg, Int.reduceAdd, ↓reduceIte, ↓reduceCtorEq, Nat.reduceEqDiff, Nat.reduceAdd, Nat.reduceSub, Nat.reduceMul, Nat.reduceLeDiff, Nat.reduceLT]
  refine qcall_i (c_rKind x hx) ?_; simp only [Tryd.f59, u, q3, q4, go_sem, Int.reduceToNat, Int.reduceEq, Int.reduceNe, Int.reduceLT, Int.reduceLE, Int.reduceNeg, Int.reduceAdd, ↓reduceIte, ↓reduceCtorEq, Nat.reduceEqDiff, Nat.reduceAdd, Nat.reduceSub, Nat.reduceMul, Nat.reduceLeDiff, Nat.reduceLT]
  unfold pownS at hR
  generalize kind x = a at *
  have hE := hr
  generalize endsS x n = z at *
  clear hx
  repeat' first
    | ((with_reducible refine qif_b (fun h => ?_) (fun h => ?_)) <;> simp only [Tryd.f59, h, u, ansPV, resPV, q3, q4, go_sem, Int.reduceToNat, Int.reduceEq, Int.reduceNe, Int.reduceLT, Int.reduceLE, Int.reduceNeg, Int.reduceAdd, ↓reduceIte, ↓reduceCtorEq, Nat.reduceEqDiff, Nat.reduceAdd, Nat.reduceSub, Nat.reduceMul, Nat.reduceLeDiff, Nat.reduceLT])
    | ((with_reducible refine qcall_i (k1 (by simp only [decide_eq_true_eq, decide_eq_false_iff_not] at *; omega)) ?_); simp only [Tryd.f59, u, ansPV, resPV, q3, q4, go_sem, Int.reduceToNat, Int.reduceEq, Int.reduceNe, Int.reduceLT, Int.reduceLE, Int.reduceNeg, Int.reduceAdd, ↓reduceIte, ↓reduceCtorEq, Nat.reduceEqDiff, Nat.reduceAdd, Nat.reduceSub, Nat.reduceMul, Nat.reduceLeDiff, Nat.reduceLT])
    | ((with_reducible refine Eq.trans ?_ hR.symm); clear k1 q3 q4 hR; first | (simp_all [ansPV, resPV, bNaN, bInf, bOne]; done) | ((repeat' split) <;> first | rfl | exact hE.symm | (exfalso; simp_all; done) | (exfalso; simp_all; omega)))

set_option maxHeartbeats 1000000 in
theorem c_rRootn (x : Nat) (hx : x < W) (n : Int) : PC E 60 [u x, .int .i64 n] (ansPV (rootnS x n)) := by
  obtain ⟨R, hR⟩ : ∃ R, R = ansPV (rootnS x n) := ⟨_, rfl⟩
  rw [← hR]
  refine PC.of_body follows Tryd.func60 (by decide +kernel) rfl (by kernel_rfl) (Nat.le_of_ble_eq_true rfl) (walk ?_)
  have k1 := fun h => c_rEnd x hx n h
  have q1 := tmod2' n
  have q5 : decide ((x : Int) ≥ 9223372036854775808) = fs x := decide_eq_decide.2 (by omega)
  have e5 : ∀ m : Nat, ((kind x : Int) = m) = (kind x = m) := fun m => by rw [Int.ofNat_inj]
  have q3 := e5 5
  have q4 := e5 4
  have q6 := e5 0
  simp only [Int.cast_ofNat_Int] at q3 q4 q6
  clear e5
  have hE := ansPV_ex (endsS x n)
  obtain ⟨rB, rF, rI, hr⟩ := hE
  simp only [u, hr] at k1
  simp only [Tryd.f60, go_sem, Int.reduceToNat, Int.reduceEq, Int.reduceNe, Int.reduceLT, Int.reduceLE, Int.reduceNeg, Int.reduceAdd, ↓reduceIte, ↓reduceCtorEq, Nat.reduceEqDiff, Nat.reduceAdd, Nat.reduceSub, Nat.reduceMul, Nat.reduceLeDiff, Nat.reduceLT]
  refine qcall_i (c_rKind x hx) ?_; simp only [Tryd.f60, u, q3, q4, go_sem, Int.reduceToNat, Int.reduceEq, Int.reduceNe, Int.reduceLT, Int.reduceLE, Int.reduceNeg, Int.reduceAdd, ↓reduceIte, ↓reduceCtorEq, Nat.reduceEqDiff, Nat.reduceAdd, Nat.reduceSub, Nat.reduceMul, Nat.reduceLeDiff, Nat.reduceLT]
  unfold rootnS at hR
  generalize kind x = a at *
  have hE := hr
  generalize endsS x n = z at *
  generalize fs x = t at *
  generalize podd n = o at *
  clear hx
  repeat' first
    | ((with_reducible refine qif_b (fun h => ?_) (fun h => ?_)) <;> simp only [Tryd.f60, h, u, ansPV, resPV, q1, q3, q4, q5, q6, go_sem, Int.reduceToNat, Int.reduceEq, Int.reduceNe, Int.reduceLT, Int.reduceLE, Int.reduceNeg, Int.reduceAdd, ↓reduceIte, ↓reduceCtorEq, Nat.reduceEqDiff, Nat.reduceAdd, Nat.reduceSub, Nat.reduceMul, Nat.reduceLeDiff, Nat.reduceLT])
    | ((with_reducible refine qcall_i (k1 (by simp only [decide_eq_true_eq, decide_eq_false_iff_not] at *; omega)) ?_); simp only [Tryd.f60, u, ansPV, resPV, q1, q3, q4, q5, q6, go_sem, Int.reduceToNat, Int.reduceEq, Int.reduceNe, Int.reduceLT, Int.reduceLE, Int.reduceNeg, Int.reduceAdd, ↓reduceIte, ↓reduceCtorEq, Nat.reduceEqDiff, Nat.reduceAdd, Nat.reduceSub, Nat.reduceMul, Nat.reduceLeDiff, Nat.reduceLT])
    | ((with_reducible refine Eq.trans ?_ hR.symm); clear k1 q1 q3 q4 q5 q6 hR; first | (simp_all [ansPV, resPV, bNaN, bInf, bOne]; done) | ((repeat' split) <;> first | rfl | exact hE.symm | (exfalso; simp_all; done) | (exfalso; simp_all; omega)))

set_option maxHeartbeats 1000000 in
theorem c_rCompound (x : Nat) (hx : x < W) (n : Int) : PC E 61 [u x, .int .i64 n] (ansPV (compS x n)) := by
  obtain ⟨R, hR⟩ : ∃ R, R = ansPV (compS x n) := ⟨_, rfl⟩
  rw [← hR]
  refine PC.of_body follows Tryd.func61 (by decide +kernel) rfl (by kernel_rfl) (Nat.le_of_ble_eq_true rfl) (walk ?_)
  have k1 := fun h => c_less x hx h
  have q2 : (sgn (fsz x) 4607182418800017408 = 0) = (fsz x = 4607182418800017408) := by rw [sgn_zero, ← Int.ofNat_inj]; rfl
  have q3 : (0 < sgn (fsz x) 4607182418800017408) = (4607182418800017408 < fsz x) := by rw [sgn_pos, ← Int.ofNat_lt]; rfl
  have q5 : decide ((x : Int) ≥ 9223372036854775808) = fs x := decide_eq_decide.2 (by omega)
  have e5 : ∀ m : Nat, ((kind x : Int) = m) = (kind x = m) := fun m => by rw [Int.ofNat_inj]
  have q6 := e5 5
  have q7 := e5 4
  have q8 := e5 3
  have q9 := e5 0
  have q10 : ((kind x : Int) ≤ 3) = (kind x ≤ 3) := propext (by omega)
  simp only [Int.cast_ofNat_Int] at q6 q7 q8 q9
  clear e5
  have f5 := kind_le x
  simp only [u] at k1
  simp only [Tryd.f61, go_sem, Int.reduceToNat, Int.reduceEq, Int.reduceNe, Int.reduceLT, Int.reduceLE, Int.reduceNeg, Int.reduceAdd, ↓reduceIte, ↓reduceCtorEq, Nat.reduceEqDiff, Nat.reduceAdd, Nat.reduceSub, Nat.reduceMul, Nat.reduceLeDiff, Nat.reduceLT]
  refine qcall_i (c_rKind x hx) ?_; simp only [Tryd.f61, u, q6, q10, go_sem, Int.reduceToNat, Int.reduceEq, Int.reduceNe, Int.reduceLT, Int.reduceLE, Int.reduceNeg, Int.reduceAdd, ↓reduceIte, ↓reduceCtorEq, Nat.reduceEqDiff, Nat.reduceAdd, Nat.reduceSub, Nat.reduceMul, Nat.reduceLeDiff, Nat.reduceLT]
  unfold compS at hR
  generalize kind x = a at *
  generalize fs x = t at *
  generalize fsz x = z at *
  clear hx
  repeat' first
    | ((with_reducible refine qif_b (fun h => ?_) (fun h => ?_)) <;> simp only [Tryd.f61, h, u, ansPV, resPV, q2, q3, q5, q6, q7, q8, q9, q10, go_sem, Int.reduceToNat, Int.reduceEq, Int.reduceNe, Int.reduceLT, Int.reduceLE, Int.reduceNeg, Int.reduceAdd, ↓reduceIte, ↓reduceCtorEq, Nat.reduceEqDiff, Nat.reduceAdd, Nat.reduceSub, Nat.reduceMul, Nat.reduceLeDiff, Nat.reduceLT])
    | ((with_reducible refine qcall_i (k1 (by simp only [decide_eq_true_eq, decide_eq_false_iff_not] at *; omega)) ?_); simp only [Tryd.f61, u, ansPV, resPV, q2, q3, q5, q6, q7, q8, q9, q10, go_sem, Int.reduceToNat, Int.reduceEq, Int.reduceNe, Int.reduceLT, Int.reduceLE, Int.reduceNeg, Int.reduceAdd, ↓reduceIte, ↓reduceCtorEq, Nat.reduceEqDiff, Nat.reduceAdd, Nat.reduceSub, Nat.reduceMul, Nat.reduceLeDiff, Nat.reduceLT])
    | ((with_reducible refine Eq.trans ?_ hR.symm); clear k1 q2 q3 q5 q6 q7 q8 q9 q10 hR; first | (simp_all [ansPV, resPV, bNaN, bInf, bOne]; done) | ((repeat' split) <;> first | rfl | exact hE.symm | (exfalso; simp_all; done) | (exfalso; simp_all; omega)))

end Go.Proofs.YtkddalmjhmgbeaaDoor
