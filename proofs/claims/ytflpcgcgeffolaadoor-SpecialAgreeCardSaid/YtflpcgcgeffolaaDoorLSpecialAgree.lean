/- The contract of the law SpecialAgree: at whatever reads as its arguments it returns true. -/
import Derived.Test.YtflpcgcgeffolaaDoorSpL
import Derived.Test.YtflpcgcgeffolaaDoorCut
open Go PG Go.Proofs
set_option maxRecDepth 100000
set_option linter.unusedSimpArgs false
set_option linter.unusedVariables false
namespace Go.Proofs.YtflpcgcgeffolaaDoor
attribute [local go_sem] Lay2 Lay3 Lay4 Lay5 Lay6 Lay7 Lay8 Lay9 Lay10 Lay11 Lay12 Lay13 Lay14 Lay21 Lay22 Lay24 Lay25 Lay26 Lay27 Lay36 Lay37 Lay38 Lay39 Lay40 Lay41 Lay43 Lay46 Lay47 Lay66 Lay103 Lay105 Lay159 Lay164 Lay165 Lay166 Lay168 Lay169 Lay172 Lay173 qexec_seq qexec_skip qexec_exit qexec_ret qexec_block qexec_loop qexec_range qexec_cond qexec_region qexec_drawn qops_nil qops_none qops_some put_some put_none pblk_exit pblk_other newDsts_nil sget_cons sget_nil qval_some qbool_some qgs_bool qgs_und qfree_some qgrd_true qgrd_false qif_true qif_false qval_ite qval_itn qand_true map_ite map_some' map_none' qdo_move qdo_assign qdo_binOp qdo_pick qdo_unOp qdo_convert qdo_extract qdo_field qdo_fieldAddr qdo_alloc qdo_box qdo_build qdo_buildSlice qdo_load qdo_store qdo_nilCheck qdo_makeFunc qdo_makeSlice qdo_slice qdo_indexAddr qdo_call qcont_val qcont_new qcont_st qcont_app0 qcont_app qcont_inl qcont_call njSV_val njSV_nil njSV_row njSV_ptr njSV_sub binV_val binV_nil binV_nn nilCmp bin_add bin_sub bin_mul bin_quo bin_rem bin_and bin_or bin_xor bin_andNot bin_eql bin_neq bin_lss bin_leq bin_gtr bin_geq bin_shl bin_shr bin_seql bin_sneq bin_sadd bin_beql bin_aeql bin_aneq eqAnd_some eqCells_nil eqCells_cons fieldTypes isStruct eqCell bin_bneq un_not un_neg nj_ite Nat.beq stepA stepR isNew opSV constSV RV.sv allSome E_mu E_own qkeyIn_none qkeyIn_some qkeyAt_none qkeyAt_some Bool.or_false Bool.false_or Bool.or_true Bool.true_or cst setB res resSV pstart startL killL kill1 eraL frzL svPV rvPV rvInt rvSlice frzOf close closeL pconv pbuiltin pmax2 partPV setCells fillPV zrow bound newSV PV.cells Bk.cells Bk.with SV.key pres presL_nil presL_tmp presL_cell presC2_some cellPV_ptr presC List.toList_toArray List.size_toArray List.getElem?_drop Nat.mul_one Int.toNat_natCast Nat.not_lt_zero Nat.lt_irrefl decide_true decide_false Nat.not_lt Option.some.injEq PV.lst.injEq PV.int.injEq PV.bool.injEq PV.tuple.injEq List.cons.injEq Option.map_some Option.map_none Option.bind_some Option.toList List.map_cons List.map_nil List.nil_append List.cons_append List.append_nil List.zip_cons_cons List.zip_nil_left List.zip_nil_right List.getElem?_cons_zero List.getElem?_cons_succ List.drop_zero List.drop_succ_cons List.take_succ_cons List.take_zero List.set_cons_zero List.set_cons_succ List.length_cons List.length_nil List.length_set List.replicate_one List.replicate_zero bne_self_eq_false beq_self_eq_true Nat.zero_add Nat.add_zero Nat.zero_mul Bool.false_eq_true Bool.true_eq_false Bool.not_true Bool.not_false and_true true_and false_and and_false or_false false_or or_true true_or not_true_eq_false not_false_eq_true ne_eq gt_iff_lt List.mem_cons List.not_mem_nil
attribute [local go_sem ↓] pseq_normal pseq_ret pseq_exit pblk_normal pblk_ret newDsts_cons gdst_zero gdst_succ retQ_normal retQ_ret qneed_nil qneed_cons retM_normal retM_ret endR_normal endR_ret endR_exit

theorem tmod_1000 (n : Int) : -1000 < Int.tmod n 1000 ∧ Int.tmod n 1000 < 1000 := by
  rcases Int.le_total 0 n with h | h
  · rw [Int.tmod_eq_emod_of_nonneg h]; omega
  · have e : Int.tmod n 1000 = -(Int.tmod (-n) 1000) := by rw [Int.neg_tmod, Int.neg_neg]
    rw [e, Int.tmod_eq_emod_of_nonneg (by omega)]; omega
/-- A result as it reads, by its cases. -/
theorem res_cases {o : Option (Nat × Nat)} (h : ∀ b f, o = some (b, f) → (f = 0 ∨ f = 8 ∨ f = 16 ∧ b = bNaN)) :
    (resPV o = .tuple [.agg [.int .u64 0, .int .u8 0, .int .i64 0], .bool false] ∧ o.isSome = false) ∨
    ∃ B F : Int, resPV o = .tuple [.agg [.int .u64 B, .int .u8 F, .int .i64 0], .bool true] ∧ o.isSome = true ∧ (bits .and .u8 F 16 = 0 ∨ bits .and .u8 F 16 = 16 ∧ B = 9221120237041090560) := by
  cases o with
  | none => exact .inl ⟨rfl, rfl⟩
  | some p =>
    obtain ⟨b, f⟩ := p
    refine .inr ⟨b, f, rfl, rfl, ?_⟩
    rcases h b f rfl with rfl | rfl | ⟨rfl, rfl⟩
    · exact .inl (by decide)
    · exact .inl (by decide)
    · exact .inr ⟨by decide, rfl⟩

theorem law_SpecialAgree (pvs : List PV) (h : Fits [qU64, qU64, qInt] pvs) : PC E 3 pvs (.bool true) := by
  obtain ⟨_, _, _, rfl, ⟨x, rfl, hx⟩, ⟨y, rfl, hy⟩, ⟨n, rfl, hn0, hn1⟩⟩ := fits3 h
  refine PC.of_sem Tryd.func3 (by decide +kernel) rfl (Nat.le_of_ble_eq_true rfl) ?_
  refine PSem.cut follows (by kernel_rfl) 5 (fun _ : Unit => ⟨[(0, .val (.int .u64 x)), (1, .val (.int .u64 y)), (2, .val (.int .i64 n)), (8, .val (.bool (powS x y).isSome))], []⟩) (fun _ => True) ?_ (fun _ _ => ?_)
  · have k1 := c_Pow x y hx hy
    have k2 := c_Pown x hx n
    have z : ∀ a : Int, decide (¬ a = a) = false := fun a => by simp
    rcases res_cases (pow_inv x y) with ⟨p1, p2⟩ | ⟨B1, F1, p1, p2, p3⟩ <;> rcases res_cases (pown_inv x n) with ⟨q1, q2⟩ | ⟨B2, F2, q1, q2, q3⟩
    · rw [p1] at k1
      rw [q1] at k2
      rw [p2]
      simp only [u] at k1 k2
      simp only [Tryd.f3, u, z, qfirst_succ, qfirst_zero, after_succ, after_zero, go_sem, Int.reduceToNat, Int.reduceEq, Int.reduceNe, Int.reduceLT, Int.reduceLE, Int.reduceNeg, Int.reduceAdd, ↓reduceIte, ↓reduceCtorEq, Nat.reduceEqDiff, Nat.reduceAdd, Nat.reduceSub, Nat.reduceMul, Nat.reduceLeDiff, Nat.reduceLT]
      refine qcall_i (c_alive20) ?_; simp only [Tryd.f3, u, z, qfirst_succ, qfirst_zero, after_succ, after_zero, go_sem, Int.reduceToNat, Int.reduceEq, Int.reduceNe, Int.reduceLT, Int.reduceLE, Int.reduceNeg, Int.reduceAdd, ↓reduceIte, ↓reduceCtorEq, Nat.reduceEqDiff, Nat.reduceAdd, Nat.reduceSub, Nat.reduceMul, Nat.reduceLeDiff, Nat.reduceLT]
      refine qcall_i (k1) ?_; simp only [Tryd.f3, u, z, qfirst_succ, qfirst_zero, after_succ, after_zero, go_sem, Int.reduceToNat, Int.reduceEq, Int.reduceNe, Int.reduceLT, Int.reduceLE, Int.reduceNeg, Int.reduceAdd, ↓reduceIte, ↓reduceCtorEq, Nat.reduceEqDiff, Nat.reduceAdd, Nat.reduceSub, Nat.reduceMul, Nat.reduceLeDiff, Nat.reduceLT]
      refine qcall_i (k2) ?_; simp only [Tryd.f3, u, z, qfirst_succ, qfirst_zero, after_succ, after_zero, go_sem, Int.reduceToNat, Int.reduceEq, Int.reduceNe, Int.reduceLT, Int.reduceLE, Int.reduceNeg, Int.reduceAdd, ↓reduceIte, ↓reduceCtorEq, Nat.reduceEqDiff, Nat.reduceAdd, Nat.reduceSub, Nat.reduceMul, Nat.reduceLeDiff, Nat.reduceLT]
      refine ⟨(), ?_⟩
      simp [Wk, sget, killL, kill1, SV.key]
    · rw [p1] at k1
      rw [q1] at k2
      rw [p2]
      simp only [u] at k1 k2
      rcases q3 with q3 | ⟨q3, rfl⟩
      all_goals
        simp only [Tryd.f3, u, z, qfirst_succ, qfirst_zero, after_succ, after_zero, go_sem, Int.reduceToNat, Int.reduceEq, Int.reduceNe, Int.reduceLT, Int.reduceLE, Int.reduceNeg, Int.reduceAdd, ↓reduceIte, ↓reduceCtorEq, Nat.reduceEqDiff, Nat.reduceAdd, Nat.reduceSub, Nat.reduceMul, Nat.reduceLeDiff, Nat.reduceLT]
        refine qcall_i (c_alive20) ?_; simp only [Tryd.f3, u, z, qfirst_succ, qfirst_zero, after_succ, after_zero, go_sem, Int.reduceToNat, Int.reduceEq, Int.reduceNe, Int.reduceLT, Int.reduceLE, Int.reduceNeg, Int.reduceAdd, ↓reduceIte, ↓reduceCtorEq, Nat.reduceEqDiff, Nat.reduceAdd, Nat.reduceSub, Nat.reduceMul, Nat.reduceLeDiff, Nat.reduceLT]
        refine qcall_i (k1) ?_; simp only [Tryd.f3, u, z, qfirst_succ, qfirst_zero, after_succ, after_zero, go_sem, Int.reduceToNat, Int.reduceEq, Int.reduceNe, Int.reduceLT, Int.reduceLE, Int.reduceNeg, Int.reduceAdd, ↓reduceIte, ↓reduceCtorEq, Nat.reduceEqDiff, Nat.reduceAdd, Nat.reduceSub, Nat.reduceMul, Nat.reduceLeDiff, Nat.reduceLT]
        refine qcall_i (k2) ?_; simp only [Tryd.f3, u, z, qfirst_succ, qfirst_zero, after_succ, after_zero, q3, go_sem, Int.reduceToNat, Int.reduceEq, Int.reduceNe, Int.reduceLT, Int.reduceLE, Int.reduceNeg, Int.reduceAdd, ↓reduceIte, ↓reduceCtorEq, Nat.reduceEqDiff, Nat.reduceAdd, Nat.reduceSub, Nat.reduceMul, Nat.reduceLeDiff, Nat.reduceLT]
        refine ⟨(), ?_⟩
        simp [Wk, sget, killL, kill1, SV.key]
    · rw [p1] at k1
      rw [q1] at k2
      rw [p2]
      simp only [u] at k1 k2
      rcases p3 with p3 | ⟨p3, rfl⟩
      all_goals
        simp only [Tryd.f3, u, z, qfirst_succ, qfirst_zero, after_succ, after_zero, go_sem, Int.reduceToNat, Int.reduceEq, Int.reduceNe, Int.reduceLT, Int.reduceLE, Int.reduceNeg, Int.reduceAdd, ↓reduceIte, ↓reduceCtorEq, Nat.reduceEqDiff, Nat.reduceAdd, Nat.reduceSub, Nat.reduceMul, Nat.reduceLeDiff, Nat.reduceLT]
        refine qcall_i (c_alive20) ?_; simp only [Tryd.f3, u, z, qfirst_succ, qfirst_zero, after_succ, after_zero, go_sem, Int.reduceToNat, Int.reduceEq, Int.reduceNe, Int.reduceLT, Int.reduceLE, Int.reduceNeg, Int.reduceAdd, ↓reduceIte, ↓reduceCtorEq, Nat.reduceEqDiff, Nat.reduceAdd, Nat.reduceSub, Nat.reduceMul, Nat.reduceLeDiff, Nat.reduceLT]
        refine qcall_i (k1) ?_; simp only [Tryd.f3, u, z, qfirst_succ, qfirst_zero, after_succ, after_zero, go_sem, Int.reduceToNat, Int.reduceEq, Int.reduceNe, Int.reduceLT, Int.reduceLE, Int.reduceNeg, Int.reduceAdd, ↓reduceIte, ↓reduceCtorEq, Nat.reduceEqDiff, Nat.reduceAdd, Nat.reduceSub, Nat.reduceMul, Nat.reduceLeDiff, Nat.reduceLT]
        refine qcall_i (k2) ?_; simp only [Tryd.f3, u, z, qfirst_succ, qfirst_zero, after_succ, after_zero, p3, go_sem, Int.reduceToNat, Int.reduceEq, Int.reduceNe, Int.reduceLT, Int.reduceLE, Int.reduceNeg, Int.reduceAdd, ↓reduceIte, ↓reduceCtorEq, Nat.reduceEqDiff, Nat.reduceAdd, Nat.reduceSub, Nat.reduceMul, Nat.reduceLeDiff, Nat.reduceLT]
        refine ⟨(), ?_⟩
        simp [Wk, sget, killL, kill1, SV.key]
    · rw [p1] at k1
      rw [q1] at k2
      rw [p2]
      simp only [u] at k1 k2
      rcases p3 with p3 | ⟨p3, rfl⟩ <;> rcases q3 with q3 | ⟨q3, rfl⟩
      all_goals
        simp only [Tryd.f3, u, z, qfirst_succ, qfirst_zero, after_succ, after_zero, go_sem, Int.reduceToNat, Int.reduceEq, Int.reduceNe, Int.reduceLT, Int.reduceLE, Int.reduceNeg, Int.reduceAdd, ↓reduceIte, ↓reduceCtorEq, Nat.reduceEqDiff, Nat.reduceAdd, Nat.reduceSub, Nat.reduceMul, Nat.reduceLeDiff, Nat.reduceLT]
        refine qcall_i (c_alive20) ?_; simp only [Tryd.f3, u, z, qfirst_succ, qfirst_zero, after_succ, after_zero, go_sem, Int.reduceToNat, Int.reduceEq, Int.reduceNe, Int.reduceLT, Int.reduceLE, Int.reduceNeg, Int.reduceAdd, ↓reduceIte, ↓reduceCtorEq, Nat.reduceEqDiff, Nat.reduceAdd, Nat.reduceSub, Nat.reduceMul, Nat.reduceLeDiff, Nat.reduceLT]
        refine qcall_i (k1) ?_; simp only [Tryd.f3, u, z, qfirst_succ, qfirst_zero, after_succ, after_zero, go_sem, Int.reduceToNat, Int.reduceEq, Int.reduceNe, Int.reduceLT, Int.reduceLE, Int.reduceNeg, Int.reduceAdd, ↓reduceIte, ↓reduceCtorEq, Nat.reduceEqDiff, Nat.reduceAdd, Nat.reduceSub, Nat.reduceMul, Nat.reduceLeDiff, Nat.reduceLT]
        refine qcall_i (k2) ?_; simp only [Tryd.f3, u, z, qfirst_succ, qfirst_zero, after_succ, after_zero, p3, q3, go_sem, Int.reduceToNat, Int.reduceEq, Int.reduceNe, Int.reduceLT, Int.reduceLE, Int.reduceNeg, Int.reduceAdd, ↓reduceIte, ↓reduceCtorEq, Nat.reduceEqDiff, Nat.reduceAdd, Nat.reduceSub, Nat.reduceMul, Nat.reduceLeDiff, Nat.reduceLT]
        refine ⟨(), ?_⟩
        simp [Wk, sget, killL, kill1, SV.key]
  refine PSem.cut follows (by kernel_rfl) 1 (fun _ : Unit => ⟨[(0, .val (.int .u64 x)), (2, .val (.int .i64 n))], []⟩) (fun _ => True) ?_ (fun _ _ => ?_)
  · have k3 := c_Finite x hx
    have k4 := c_Finite y hy
    have k5 := c_Neg x hx
    have k6 := c_Kind x hx
    have k7 := c_Kind y hy
    have hneed := fun a b c d e => pow_need (x := x) (y := y) a b c d e
    generalize (powS x y).isSome = p at *
    simp only [u] at k3 k4 k5 k6 k7
    have q1 : decide ((x : Int) = 4607182418800017408) = decide (x = 4607182418800017408) := decide_eq_decide.2 (by omega)
    by_cases hfx : fe x < 2047
    case neg =>
      rw [decide_eq_false hfx] at k3
      simp only [Tryd.f3, u, qfirst_succ, qfirst_zero, after_succ, after_zero, go_sem, Int.reduceToNat, Int.reduceEq, Int.reduceNe, Int.reduceLT, Int.reduceLE, Int.reduceNeg, Int.reduceAdd, ↓reduceIte, ↓reduceCtorEq, Nat.reduceEqDiff, Nat.reduceAdd, Nat.reduceSub, Nat.reduceMul, Nat.reduceLeDiff, Nat.reduceLT]
      refine qcall_i (k3) ?_; simp only [Tryd.f3, u, qfirst_succ, qfirst_zero, after_succ, after_zero, go_sem, Int.reduceToNat, Int.reduceEq, Int.reduceNe, Int.reduceLT, Int.reduceLE, Int.reduceNeg, Int.reduceAdd, ↓reduceIte, ↓reduceCtorEq, Nat.reduceEqDiff, Nat.reduceAdd, Nat.reduceSub, Nat.reduceMul, Nat.reduceLeDiff, Nat.reduceLT]
      refine ⟨(), ?_⟩
      simp [Wk, sget, killL, kill1, SV.key]
    rw [decide_eq_true hfx] at k3
    by_cases hfy : fe y < 2047
    case neg =>
      rw [decide_eq_false hfy] at k4
      simp only [Tryd.f3, u, qfirst_succ, qfirst_zero, after_succ, after_zero, go_sem, Int.reduceToNat, Int.reduceEq, Int.reduceNe, Int.reduceLT, Int.reduceLE, Int.reduceNeg, Int.reduceAdd, ↓reduceIte, ↓reduceCtorEq, Nat.reduceEqDiff, Nat.reduceAdd, Nat.reduceSub, Nat.reduceMul, Nat.reduceLeDiff, Nat.reduceLT]
      refine qcall_i (k3) ?_; simp only [Tryd.f3, u, qfirst_succ, qfirst_zero, after_succ, after_zero, go_sem, Int.reduceToNat, Int.reduceEq, Int.reduceNe, Int.reduceLT, Int.reduceLE, Int.reduceNeg, Int.reduceAdd, ↓reduceIte, ↓reduceCtorEq, Nat.reduceEqDiff, Nat.reduceAdd, Nat.reduceSub, Nat.reduceMul, Nat.reduceLeDiff, Nat.reduceLT]
      refine qcall_i (k4) ?_; simp only [Tryd.f3, u, qfirst_succ, qfirst_zero, after_succ, after_zero, go_sem, Int.reduceToNat, Int.reduceEq, Int.reduceNe, Int.reduceLT, Int.reduceLE, Int.reduceNeg, Int.reduceAdd, ↓reduceIte, ↓reduceCtorEq, Nat.reduceEqDiff, Nat.reduceAdd, Nat.reduceSub, Nat.reduceMul, Nat.reduceLeDiff, Nat.reduceLT]
      refine ⟨(), ?_⟩
      simp [Wk, sget, killL, kill1, SV.key]
    rw [decide_eq_true hfy] at k4
    cases hs : fs x
    case true =>
      rw [hs] at k5
      simp only [Tryd.f3, u, qfirst_succ, qfirst_zero, after_succ, after_zero, go_sem, Int.reduceToNat, Int.reduceEq, Int.reduceNe, Int.reduceLT, Int.reduceLE, Int.reduceNeg, Int.reduceAdd, ↓reduceIte, ↓reduceCtorEq, Nat.reduceEqDiff, Nat.reduceAdd, Nat.reduceSub, Nat.reduceMul, Nat.reduceLeDiff, Nat.reduceLT]
      refine qcall_i (k3) ?_; simp only [Tryd.f3, u, qfirst_succ, qfirst_zero, after_succ, after_zero, go_sem, Int.reduceToNat, Int.reduceEq, Int.reduceNe, Int.reduceLT, Int.reduceLE, Int.reduceNeg, Int.reduceAdd, ↓reduceIte, ↓reduceCtorEq, Nat.reduceEqDiff, Nat.reduceAdd, Nat.reduceSub, Nat.reduceMul, Nat.reduceLeDiff, Nat.reduceLT]
      refine qcall_i (k4) ?_; simp only [Tryd.f3, u, qfirst_succ, qfirst_zero, after_succ, after_zero, go_sem, Int.reduceToNat, Int.reduceEq, Int.reduceNe, Int.reduceLT, Int.reduceLE, Int.reduceNeg, Int.reduceAdd, ↓reduceIte, ↓reduceCtorEq, Nat.reduceEqDiff, Nat.reduceAdd, Nat.reduceSub, Nat.reduceMul, Nat.reduceLeDiff, Nat.reduceLT]
      refine qcall_i (k5) ?_; simp only [Tryd.f3, u, qfirst_succ, qfirst_zero, after_succ, after_zero, go_sem, Int.reduceToNat, Int.reduceEq, Int.reduceNe, Int.reduceLT, Int.reduceLE, Int.reduceNeg, Int.reduceAdd, ↓reduceIte, ↓reduceCtorEq, Nat.reduceEqDiff, Nat.reduceAdd, Nat.reduceSub, Nat.reduceMul, Nat.reduceLeDiff, Nat.reduceLT]
      refine ⟨(), ?_⟩
      simp [Wk, sget, killL, kill1, SV.key]
    rw [hs] at k5
    by_cases hkx : kind x = 0
    · have hkx' : decide (¬ (kind x : Int) = 0) = false := decide_eq_false (by omega)
      simp only [Tryd.f3, u, qfirst_succ, qfirst_zero, after_succ, after_zero, go_sem, Int.reduceToNat, Int.reduceEq, Int.reduceNe, Int.reduceLT, Int.reduceLE, Int.reduceNeg, Int.reduceAdd, ↓reduceIte, ↓reduceCtorEq, Nat.reduceEqDiff, Nat.reduceAdd, Nat.reduceSub, Nat.reduceMul, Nat.reduceLeDiff, Nat.reduceLT]
      refine qcall_i (k3) ?_; simp only [Tryd.f3, u, qfirst_succ, qfirst_zero, after_succ, after_zero, go_sem, Int.reduceToNat, Int.reduceEq, Int.reduceNe, Int.reduceLT, Int.reduceLE, Int.reduceNeg, Int.reduceAdd, ↓reduceIte, ↓reduceCtorEq, Nat.reduceEqDiff, Nat.reduceAdd, Nat.reduceSub, Nat.reduceMul, Nat.reduceLeDiff, Nat.reduceLT]
      refine qcall_i (k4) ?_; simp only [Tryd.f3, u, qfirst_succ, qfirst_zero, after_succ, after_zero, go_sem, Int.reduceToNat, Int.reduceEq, Int.reduceNe, Int.reduceLT, Int.reduceLE, Int.reduceNeg, Int.reduceAdd, ↓reduceIte, ↓reduceCtorEq, Nat.reduceEqDiff, Nat.reduceAdd, Nat.reduceSub, Nat.reduceMul, Nat.reduceLeDiff, Nat.reduceLT]
      refine qcall_i (k5) ?_; simp only [Tryd.f3, u, qfirst_succ, qfirst_zero, after_succ, after_zero, go_sem, Int.reduceToNat, Int.reduceEq, Int.reduceNe, Int.reduceLT, Int.reduceLE, Int.reduceNeg, Int.reduceAdd, ↓reduceIte, ↓reduceCtorEq, Nat.reduceEqDiff, Nat.reduceAdd, Nat.reduceSub, Nat.reduceMul, Nat.reduceLeDiff, Nat.reduceLT]
      refine qcall_i (k6) ?_; simp only [Tryd.f3, u, qfirst_succ, qfirst_zero, after_succ, after_zero, hkx', go_sem, Int.reduceToNat, Int.reduceEq, Int.reduceNe, Int.reduceLT, Int.reduceLE, Int.reduceNeg, Int.reduceAdd, ↓reduceIte, ↓reduceCtorEq, Nat.reduceEqDiff, Nat.reduceAdd, Nat.reduceSub, Nat.reduceMul, Nat.reduceLeDiff, Nat.reduceLT]
      refine ⟨(), ?_⟩
      simp [Wk, sget, killL, kill1, SV.key]
    · have hkx' : decide (¬ (kind x : Int) = 0) = true := decide_eq_true (by omega)
      by_cases hky : kind y = 0
      · have hky' : decide (¬ (kind y : Int) = 0) = false := decide_eq_false (by omega)
        simp only [Tryd.f3, u, qfirst_succ, qfirst_zero, after_succ, after_zero, go_sem, Int.reduceToNat, Int.reduceEq, Int.reduceNe, Int.reduceLT, Int.reduceLE, Int.reduceNeg, Int.reduceAdd, ↓reduceIte, ↓reduceCtorEq, Nat.reduceEqDiff, Nat.reduceAdd, Nat.reduceSub, Nat.reduceMul, Nat.reduceLeDiff, Nat.reduceLT]
        refine qcall_i (k3) ?_; simp only [Tryd.f3, u, qfirst_succ, qfirst_zero, after_succ, after_zero, go_sem, Int.reduceToNat, Int.reduceEq, Int.reduceNe, Int.reduceLT, Int.reduceLE, Int.reduceNeg, Int.reduceAdd, ↓reduceIte, ↓reduceCtorEq, Nat.reduceEqDiff, Nat.reduceAdd, Nat.reduceSub, Nat.reduceMul, Nat.reduceLeDiff, Nat.reduceLT]
        refine qcall_i (k4) ?_; simp only [Tryd.f3, u, qfirst_succ, qfirst_zero, after_succ, after_zero, go_sem, Int.reduceToNat, Int.reduceEq, Int.reduceNe, Int.reduceLT, Int.reduceLE, Int.reduceNeg, Int.reduceAdd, ↓reduceIte, ↓reduceCtorEq, Nat.reduceEqDiff, Nat.reduceAdd, Nat.reduceSub, Nat.reduceMul, Nat.reduceLeDiff, Nat.reduceLT]
        refine qcall_i (k5) ?_; simp only [Tryd.f3, u, qfirst_succ, qfirst_zero, after_succ, after_zero, go_sem, Int.reduceToNat, Int.reduceEq, Int.reduceNe, Int.reduceLT, Int.reduceLE, Int.reduceNeg, Int.reduceAdd, ↓reduceIte, ↓reduceCtorEq, Nat.reduceEqDiff, Nat.reduceAdd, Nat.reduceSub, Nat.reduceMul, Nat.reduceLeDiff, Nat.reduceLT]
        refine qcall_i (k6) ?_; simp only [Tryd.f3, u, qfirst_succ, qfirst_zero, after_succ, after_zero, hkx', go_sem, Int.reduceToNat, Int.reduceEq, Int.reduceNe, Int.reduceLT, Int.reduceLE, Int.reduceNeg, Int.reduceAdd, ↓reduceIte, ↓reduceCtorEq, Nat.reduceEqDiff, Nat.reduceAdd, Nat.reduceSub, Nat.reduceMul, Nat.reduceLeDiff, Nat.reduceLT]
        refine qcall_i (k7) ?_; simp only [Tryd.f3, u, qfirst_succ, qfirst_zero, after_succ, after_zero, hky', go_sem, Int.reduceToNat, Int.reduceEq, Int.reduceNe, Int.reduceLT, Int.reduceLE, Int.reduceNeg, Int.reduceAdd, ↓reduceIte, ↓reduceCtorEq, Nat.reduceEqDiff, Nat.reduceAdd, Nat.reduceSub, Nat.reduceMul, Nat.reduceLeDiff, Nat.reduceLT]
        refine ⟨(), ?_⟩
        simp [Wk, sget, killL, kill1, SV.key]
      · have hky' : decide (¬ (kind y : Int) = 0) = true := decide_eq_true (by omega)
        rw [hneed hfx hfy hs hkx hky]
        simp only [Tryd.f3, u, qfirst_succ, qfirst_zero, after_succ, after_zero, q1, go_sem, Int.reduceToNat, Int.reduceEq, Int.reduceNe, Int.reduceLT, Int.reduceLE, Int.reduceNeg, Int.reduceAdd, ↓reduceIte, ↓reduceCtorEq, Nat.reduceEqDiff, Nat.reduceAdd, Nat.reduceSub, Nat.reduceMul, Nat.reduceLeDiff, Nat.reduceLT]
        refine qcall_i (k3) ?_; simp only [Tryd.f3, u, qfirst_succ, qfirst_zero, after_succ, after_zero, q1, go_sem, Int.reduceToNat, Int.reduceEq, Int.reduceNe, Int.reduceLT, Int.reduceLE, Int.reduceNeg, Int.reduceAdd, ↓reduceIte, ↓reduceCtorEq, Nat.reduceEqDiff, Nat.reduceAdd, Nat.reduceSub, Nat.reduceMul, Nat.reduceLeDiff, Nat.reduceLT]
        refine qcall_i (k4) ?_; simp only [Tryd.f3, u, qfirst_succ, qfirst_zero, after_succ, after_zero, q1, go_sem, Int.reduceToNat, Int.reduceEq, Int.reduceNe, Int.reduceLT, Int.reduceLE, Int.reduceNeg, Int.reduceAdd, ↓reduceIte, ↓reduceCtorEq, Nat.reduceEqDiff, Nat.reduceAdd, Nat.reduceSub, Nat.reduceMul, Nat.reduceLeDiff, Nat.reduceLT]
        refine qcall_i (k5) ?_; simp only [Tryd.f3, u, qfirst_succ, qfirst_zero, after_succ, after_zero, q1, go_sem, Int.reduceToNat, Int.reduceEq, Int.reduceNe, Int.reduceLT, Int.reduceLE, Int.reduceNeg, Int.reduceAdd, ↓reduceIte, ↓reduceCtorEq, Nat.reduceEqDiff, Nat.reduceAdd, Nat.reduceSub, Nat.reduceMul, Nat.reduceLeDiff, Nat.reduceLT]
        refine qcall_i (k6) ?_; simp only [Tryd.f3, u, qfirst_succ, qfirst_zero, after_succ, after_zero, hkx', q1, go_sem, Int.reduceToNat, Int.reduceEq, Int.reduceNe, Int.reduceLT, Int.reduceLE, Int.reduceNeg, Int.reduceAdd, ↓reduceIte, ↓reduceCtorEq, Nat.reduceEqDiff, Nat.reduceAdd, Nat.reduceSub, Nat.reduceMul, Nat.reduceLeDiff, Nat.reduceLT]
        refine qcall_i (k7) ?_; simp only [Tryd.f3, u, qfirst_succ, qfirst_zero, after_succ, after_zero, hky', q1, go_sem, Int.reduceToNat, Int.reduceEq, Int.reduceNe, Int.reduceLT, Int.reduceLE, Int.reduceNeg, Int.reduceAdd, ↓reduceIte, ↓reduceCtorEq, Nat.reduceEqDiff, Nat.reduceAdd, Nat.reduceSub, Nat.reduceMul, Nat.reduceLeDiff, Nat.reduceLT]
        refine ⟨(), ?_⟩
        simp [Wk, sget, killL, kill1, SV.key]
  obtain ⟨hk0, hk1⟩ := tmod_1000 n
  refine PSem.cut follows (by kernel_rfl) 3 (fun _ : Unit => ⟨[(0, .val (.int .u64 x)), (11, .val (.int .i64 (Int.tmod n 1000))), (12, .val (.int .u64 (wz (Int.tmod n 1000))))], []⟩) (fun _ => True) ?_ (fun _ _ => ?_)
  · generalize hkk : Int.tmod n 1000 = k at *
    simp only [Tryd.f3, u, qfirst_succ, qfirst_zero, after_succ, after_zero, hkk, go_sem, Int.reduceToNat, Int.reduceEq, Int.reduceNe, Int.reduceLT, Int.reduceLE, Int.reduceNeg, Int.reduceAdd, ↓reduceIte, ↓reduceCtorEq, Nat.reduceEqDiff, Nat.reduceAdd, Nat.reduceSub, Nat.reduceMul, Nat.reduceLeDiff, Nat.reduceLT]
    refine PLoop.intro (fun i : Nat => ⟨[(0, .val (.int .u64 x)), (11, .val (.int .i64 k)), (12, .val (.int .u64 ((if k ≠ 0 ∧ 1022 + bitLen k.natAbs < i then wbits k else 0 : Nat) : Int))), (13, .val (.int .u64 i))], []⟩) (fun i => i ≤ 2047) (fun i => 2047 - i) 0 (by decide) ?_ fun i hi => walk ?_
    · rw [if_neg (fun h => absurd h.2 (Nat.not_lt_zero _))]
      simp [Wk, sget, killL, kill1, SV.key, u]
    have wi : IntKind.wrap .u64 ((i : Int) + 1) = ((i + 1 : Nat) : Int) := by
      rw [show (i : Int) + 1 = ((i + 1 : Nat) : Int) by omega]; exact wrap_nat64 (by show _ < 18446744073709551616; omega)
    simp only [Tryd.f3, u, go_sem, Int.reduceToNat, Int.reduceEq, Int.reduceNe, Int.reduceLT, Int.reduceLE, Int.reduceNeg, Int.reduceAdd, ↓reduceIte, ↓reduceCtorEq, Nat.reduceEqDiff, Nat.reduceAdd, Nat.reduceSub, Nat.reduceMul, Nat.reduceLeDiff, Nat.reduceLT]
    refine qif_d (fun h1 => ?_) (fun h1 => ?_)
    · by_cases h0 : k = 0
      · subst h0
        have k8 := c_whole0 i (by omega)
        by_cases hi0 : i = 0
        · rw [decide_eq_true hi0] at k8
          simp only [u] at k8
          simp only [Tryd.f3, u, go_sem, Int.reduceToNat, Int.reduceEq, Int.reduceNe, Int.reduceLT, Int.reduceLE, Int.reduceNeg, Int.reduceAdd, ↓reduceIte, ↓reduceCtorEq, Nat.reduceEqDiff, Nat.reduceAdd, Nat.reduceSub, Nat.reduceMul, Nat.reduceLeDiff, Nat.reduceLT]
          refine qcall_i (k8) ?_; simp only [Tryd.f3, wi, go_sem, Int.reduceToNat, Int.reduceEq, Int.reduceNe, Int.reduceLT, Int.reduceLE, Int.reduceNeg, Int.reduceAdd, ↓reduceIte, ↓reduceCtorEq, Nat.reduceEqDiff, Nat.reduceAdd, Nat.reduceSub, Nat.reduceMul, Nat.reduceLeDiff, Nat.reduceLT]
          refine ⟨i + 1, by omega, by omega, ?_⟩
          (try rw [if_neg (fun h => h.1 rfl)])
          simp [Wk, sget, killL, kill1, SV.key, u]
        · rw [decide_eq_false hi0] at k8
          simp only [u] at k8
          simp only [Tryd.f3, u, go_sem, Int.reduceToNat, Int.reduceEq, Int.reduceNe, Int.reduceLT, Int.reduceLE, Int.reduceNeg, Int.reduceAdd, ↓reduceIte, ↓reduceCtorEq, Nat.reduceEqDiff, Nat.reduceAdd, Nat.reduceSub, Nat.reduceMul, Nat.reduceLeDiff, Nat.reduceLT]
          refine qcall_i (k8) ?_; simp only [Tryd.f3, wi, go_sem, Int.reduceToNat, Int.reduceEq, Int.reduceNe, Int.reduceLT, Int.reduceLE, Int.reduceNeg, Int.reduceAdd, ↓reduceIte, ↓reduceCtorEq, Nat.reduceEqDiff, Nat.reduceAdd, Nat.reduceSub, Nat.reduceMul, Nat.reduceLeDiff, Nat.reduceLT]
          refine ⟨i + 1, by omega, by omega, ?_⟩
          (try rw [if_neg (fun h => h.1 rfl)])
          simp [Wk, sget, killL, kill1, SV.key, u]
      · have k8 := c_whole k h0 hk0 hk1 i (by omega)
        by_cases he : i + 1 = 1023 + bitLen k.natAbs
        · rw [if_pos he] at k8
          simp only [u] at k8
          simp only [Tryd.f3, u, go_sem, Int.reduceToNat, Int.reduceEq, Int.reduceNe, Int.reduceLT, Int.reduceLE, Int.reduceNeg, Int.reduceAdd, ↓reduceIte, ↓reduceCtorEq, Nat.reduceEqDiff, Nat.reduceAdd, Nat.reduceSub, Nat.reduceMul, Nat.reduceLeDiff, Nat.reduceLT]
          refine qcall_i (k8) ?_; simp only [Tryd.f3, wi, go_sem, Int.reduceToNat, Int.reduceEq, Int.reduceNe, Int.reduceLT, Int.reduceLE, Int.reduceNeg, Int.reduceAdd, ↓reduceIte, ↓reduceCtorEq, Nat.reduceEqDiff, Nat.reduceAdd, Nat.reduceSub, Nat.reduceMul, Nat.reduceLeDiff, Nat.reduceLT]
          refine ⟨i + 1, by omega, by omega, ?_⟩
          have e2 : (if k ≠ 0 ∧ 1022 + bitLen k.natAbs < i + 1 then wbits k else 0) = wbits k := if_pos ⟨h0, by omega⟩
          rw [e2]
          simp [Wk, sget, killL, kill1, SV.key, u]
        · rw [if_neg he] at k8
          simp only [u] at k8
          simp only [Tryd.f3, u, go_sem, Int.reduceToNat, Int.reduceEq, Int.reduceNe, Int.reduceLT, Int.reduceLE, Int.reduceNeg, Int.reduceAdd, ↓reduceIte, ↓reduceCtorEq, Nat.reduceEqDiff, Nat.reduceAdd, Nat.reduceSub, Nat.reduceMul, Nat.reduceLeDiff, Nat.reduceLT]
          refine qcall_i (k8) ?_; simp only [Tryd.f3, wi, go_sem, Int.reduceToNat, Int.reduceEq, Int.reduceNe, Int.reduceLT, Int.reduceLE, Int.reduceNeg, Int.reduceAdd, ↓reduceIte, ↓reduceCtorEq, Nat.reduceEqDiff, Nat.reduceAdd, Nat.reduceSub, Nat.reduceMul, Nat.reduceLeDiff, Nat.reduceLT]
          refine ⟨i + 1, by omega, by omega, ?_⟩
          have e : (if k ≠ 0 ∧ 1022 + bitLen k.natAbs < i + 1 then wbits k else 0) = (if k ≠ 0 ∧ 1022 + bitLen k.natAbs < i then wbits k else 0) := by
            by_cases hh : 1022 + bitLen k.natAbs < i
            · rw [if_pos (show k ≠ 0 ∧ 1022 + bitLen k.natAbs < i + 1 from ⟨h0, by omega⟩), if_pos (show k ≠ 0 ∧ 1022 + bitLen k.natAbs < i from ⟨h0, hh⟩)]
            · rw [if_neg (show ¬ (k ≠ 0 ∧ 1022 + bitLen k.natAbs < i + 1) from fun h => by have := h.2; omega), if_neg (show ¬ (k ≠ 0 ∧ 1022 + bitLen k.natAbs < i) from fun h => hh h.2)]
          rw [e]
          simp [Wk, sget, killL, kill1, SV.key, u]
    · simp only [Tryd.f3, u, qfirst_succ, qfirst_zero, after_succ, after_zero, go_sem, Int.reduceToNat, Int.reduceEq, Int.reduceNe, Int.reduceLT, Int.reduceLE, Int.reduceNeg, Int.reduceAdd, ↓reduceIte, ↓reduceCtorEq, Nat.reduceEqDiff, Nat.reduceAdd, Nat.reduceSub, Nat.reduceMul, Nat.reduceLeDiff, Nat.reduceLT]
      have hb10 : bitLen k.natAbs ≤ 10 := (bitLen_le _ 10).2 (by omega)
      have e : wz k = if k ≠ 0 ∧ 1022 + bitLen k.natAbs < i then wbits k else 0 := by
        unfold wz
        by_cases h0 : k = 0
        · rw [if_pos h0, if_neg (fun h => h.1 h0)]
        · rw [if_neg h0, if_pos ⟨h0, by omega⟩]
      rw [e]
      refine ⟨(), ?_⟩
      simp [Wk, sget, killL, kill1, SV.key]
  · refine PSem.last follows (by kernel_rfl) ?_
    generalize Int.tmod n 1000 = k at *
    have hwz : wz k < W := by
      unfold wz
      by_cases h0 : k = 0
      · rw [if_pos h0]; decide
      · rw [if_neg h0]; exact (wbits_facts h0 hk0 hk1).1
    have k1 := c_Pow x (wz k) hx hwz
    have k2 := c_Pown x hx k
    have hag := agree x hk0 hk1
    cases hc : powS x (wz k) with
    | none =>
      rw [hc] at k1
      rw [resPV_eq] at k2
      obtain ⟨B2, F2, r2⟩ := resA_ex (pownS x k)
      rw [r2] at k2
      generalize (pownS x k).isSome = q at *
      simp only [u, resPV] at k1 k2
      simp only [Tryd.f3, u, after_succ, after_zero, go_sem, Int.reduceToNat, Int.reduceEq, Int.reduceNe, Int.reduceLT, Int.reduceLE, Int.reduceNeg, Int.reduceAdd, ↓reduceIte, ↓reduceCtorEq, Nat.reduceEqDiff, Nat.reduceAdd, Nat.reduceSub, Nat.reduceMul, Nat.reduceLeDiff, Nat.reduceLT]
      refine qcall_i (k1) ?_; simp only [Tryd.f3, u, after_succ, after_zero, go_sem, Int.reduceToNat, Int.reduceEq, Int.reduceNe, Int.reduceLT, Int.reduceLE, Int.reduceNeg, Int.reduceAdd, ↓reduceIte, ↓reduceCtorEq, Nat.reduceEqDiff, Nat.reduceAdd, Nat.reduceSub, Nat.reduceMul, Nat.reduceLeDiff, Nat.reduceLT]
      refine qcall_i (k2) ?_; simp only [Tryd.f3, u, after_succ, after_zero, go_sem, Int.reduceToNat, Int.reduceEq, Int.reduceNe, Int.reduceLT, Int.reduceLE, Int.reduceNeg, Int.reduceAdd, ↓reduceIte, ↓reduceCtorEq, Nat.reduceEqDiff, Nat.reduceAdd, Nat.reduceSub, Nat.reduceMul, Nat.reduceLeDiff, Nat.reduceLT]
    | some c =>
      obtain ⟨cb, cf⟩ := c
      rw [hc] at k1
      cases hd : pownS x k with
      | none =>
        rw [hd] at k2
        simp only [u, resPV] at k1 k2
        simp only [Tryd.f3, u, after_succ, after_zero, go_sem, Int.reduceToNat, Int.reduceEq, Int.reduceNe, Int.reduceLT, Int.reduceLE, Int.reduceNeg, Int.reduceAdd, ↓reduceIte, ↓reduceCtorEq, Nat.reduceEqDiff, Nat.reduceAdd, Nat.reduceSub, Nat.reduceMul, Nat.reduceLeDiff, Nat.reduceLT]
        refine qcall_i (k1) ?_; simp only [Tryd.f3, u, after_succ, after_zero, go_sem, Int.reduceToNat, Int.reduceEq, Int.reduceNe, Int.reduceLT, Int.reduceLE, Int.reduceNeg, Int.reduceAdd, ↓reduceIte, ↓reduceCtorEq, Nat.reduceEqDiff, Nat.reduceAdd, Nat.reduceSub, Nat.reduceMul, Nat.reduceLeDiff, Nat.reduceLT]
        refine qcall_i (k2) ?_; simp only [Tryd.f3, u, after_succ, after_zero, go_sem, Int.reduceToNat, Int.reduceEq, Int.reduceNe, Int.reduceLT, Int.reduceLE, Int.reduceNeg, Int.reduceAdd, ↓reduceIte, ↓reduceCtorEq, Nat.reduceEqDiff, Nat.reduceAdd, Nat.reduceSub, Nat.reduceMul, Nat.reduceLeDiff, Nat.reduceLT]
      | some d =>
        have e := hag _ _ hc hd
        subst e
        rw [hd] at k2
        simp only [u, resPV] at k1 k2
        simp only [Tryd.f3, u, after_succ, after_zero, go_sem, Int.reduceToNat, Int.reduceEq, Int.reduceNe, Int.reduceLT, Int.reduceLE, Int.reduceNeg, Int.reduceAdd, ↓reduceIte, ↓reduceCtorEq, Nat.reduceEqDiff, Nat.reduceAdd, Nat.reduceSub, Nat.reduceMul, Nat.reduceLeDiff, Nat.reduceLT]
        refine qcall_i (k1) ?_; simp only [Tryd.f3, u, after_succ, after_zero, go_sem, Int.reduceToNat, Int.reduceEq, Int.reduceNe, Int.reduceLT, Int.reduceLE, Int.reduceNeg, Int.reduceAdd, ↓reduceIte, ↓reduceCtorEq, Nat.reduceEqDiff, Nat.reduceAdd, Nat.reduceSub, Nat.reduceMul, Nat.reduceLeDiff, Nat.reduceLT]
        refine qcall_i (k2) ?_; simp only [Tryd.f3, u, after_succ, after_zero, go_sem, Int.reduceToNat, Int.reduceEq, Int.reduceNe, Int.reduceLT, Int.reduceLE, Int.reduceNeg, Int.reduceAdd, ↓reduceIte, ↓reduceCtorEq, Nat.reduceEqDiff, Nat.reduceAdd, Nat.reduceSub, Nat.reduceMul, Nat.reduceLeDiff, Nat.reduceLT]
        try rfl
end Go.Proofs.YtflpcgcgeffolaaDoor
