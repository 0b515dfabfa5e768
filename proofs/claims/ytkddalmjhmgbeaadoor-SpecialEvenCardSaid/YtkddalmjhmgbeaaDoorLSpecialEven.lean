/- The contract of the law SpecialEven: at whatever reads as its arguments it returns true. -/
import Derived.Test.YtkddalmjhmgbeaaDoorRd21
open Go PG Go.Proofs
set_option maxRecDepth 100000
set_option linter.unusedSimpArgs false
set_option linter.unusedVariables false
namespace Go.Proofs.YtkddalmjhmgbeaaDoor
attribute [local go_sem] Lay2 Lay3 Lay4 Lay5 Lay6 Lay7 Lay8 Lay9 Lay10 Lay11 Lay12 Lay13 Lay14 Lay21 Lay22 Lay24 Lay27 Lay36 Lay47 Lay53 Lay55 Lay56 Lay57 Lay58 Lay62 Lay63 Lay66 Lay67 Lay68 Lay69 Lay72 Lay95 Lay121 Lay129 Lay144 Lay145 Lay146 Lay148 Lay149 Lay152 Lay153 qexec_seq qexec_skip qexec_exit qexec_ret qexec_block qexec_loop qexec_range qexec_cond qexec_region qops_nil qops_none qops_some put_some put_none pblk_exit pblk_other newDsts_nil sget_cons qval_some qbool_some qgs_bool qgs_und qfree_some qgrd_true qgrd_false qif_true qif_false qval_ite qval_itn qand_true map_ite map_some' map_none' qdo_move qdo_assign qdo_binOp qdo_pick qdo_unOp qdo_convert qdo_extract qdo_field qdo_fieldAddr qdo_alloc qdo_box qdo_build qdo_buildSlice qdo_load qdo_store qdo_nilCheck qdo_makeFunc qdo_makeSlice qdo_slice qdo_indexAddr qdo_call qcont_val qcont_new qcont_st qcont_app0 qcont_app qcont_inl qcont_call njSV_val njSV_nil njSV_row njSV_ptr njSV_sub binV_val binV_nil binV_nn nilCmp bin_add bin_sub bin_mul bin_quo bin_rem bin_and bin_or bin_xor bin_andNot bin_eql bin_neq bin_lss bin_leq bin_gtr bin_geq bin_shl bin_shr bin_seql bin_sneq bin_sadd bin_beql bin_aeql bin_aneq eqAnd_some eqCells_nil eqCells_cons fieldTypes isStruct eqCell bin_bneq un_not un_neg nj_ite Nat.beq stepA stepR isNew opSV constSV RV.sv allSome E_mu Bool.or_false Bool.false_or Bool.or_true Bool.true_or cst setB res resSV pstart startL killL kill1 eraL frzL svPV rvPV rvInt rvSlice frzOf close closeL pconv pbuiltin pmax2 partPV setCells fillPV zrow bound newSV PV.cells Bk.cells Bk.with SV.key pres presL_nil presL_tmp presL_cell presC2_some cellPV_ptr presC List.toList_toArray List.size_toArray List.getElem?_drop Nat.mul_one Int.toNat_natCast Nat.not_lt_zero Nat.lt_irrefl decide_true decide_false Nat.not_lt Option.some.injEq PV.lst.injEq PV.int.injEq PV.bool.injEq PV.tuple.injEq List.cons.injEq Option.map_some Option.map_none Option.bind_some Option.toList List.map_cons List.map_nil List.nil_append List.cons_append List.append_nil List.zip_cons_cons List.zip_nil_left List.zip_nil_right List.getElem?_cons_zero List.getElem?_cons_succ List.drop_zero List.drop_succ_cons List.take_succ_cons List.take_zero List.set_cons_zero List.set_cons_succ List.length_cons List.length_nil List.length_set List.replicate_one List.replicate_zero bne_self_eq_false beq_self_eq_true Nat.zero_add Nat.add_zero Nat.zero_mul Bool.false_eq_true Bool.true_eq_false Bool.not_true Bool.not_false and_true true_and false_and and_false or_false false_or or_true true_or not_true_eq_false not_false_eq_true ne_eq gt_iff_lt List.mem_cons List.not_mem_nil
attribute [local go_sem ↓] pseq_normal pseq_ret pseq_exit pblk_normal pblk_ret newDsts_cons gdst_zero gdst_succ retQ_normal retQ_ret retM_normal retM_ret endR_normal endR_ret endR_exit

/-- The same bits with the other sign. -/
def flipS (x : Nat) : Nat := if 9223372036854775808 ≤ x then x - 9223372036854775808 else x + 9223372036854775808
theorem flip_lt {x : Nat} (hx : x < W) : flipS x < W := by
  have : x < 18446744073709551616 := hx
  show flipS x < 18446744073709551616
  unfold flipS; split <;> omega
theorem flip_fsz {x : Nat} (hx : x < W) : fsz (flipS x) = fsz x := by
  have : x < 18446744073709551616 := hx
  unfold flipS fsz; split <;> omega
theorem flip_fs {x : Nat} (hx : x < W) : fs (flipS x) = !fs x := by
  have : x < 18446744073709551616 := hx
  unfold fs
  rw [← decide_not, decide_eq_decide]
  unfold flipS; split <;> omega
theorem flip_kind {x : Nat} (hx : x < W) : kind (flipS x) = kind x := by
  have : x < 18446744073709551616 := hx
  have h1 : fe (flipS x) = fe x := by unfold fe flipS; split <;> omega
  have h2 : ff (flipS x) = ff x := by unfold ff flipS; split <;> omega
  unfold kind
  rw [h1, h2]
theorem xor_top {x : Nat} (hx : x < W) : bits .xor .u64 (x : Int) 9223372036854775808 = (flipS x : Int) := by
  have h := b_xor (b := 9223372036854775808) hx (by decide)
  refine h.trans (congrArg _ ?_)
  apply Nat.eq_of_testBit_eq
  intro i
  have hx' : x < 2 ^ 64 := hx
  have h2 : ∀ f : Nat, f < 2 ^ 63 → 2 ^ 63 + f = 2 ^ 63 ^^^ f := fun f hf => by
    apply Nat.eq_of_testBit_eq
    intro j
    have e := Nat.two_pow_add_eq_or_of_lt hf 1
    rw [Nat.mul_one] at e
    rw [e, Nat.testBit_or, Nat.testBit_xor, Nat.testBit_two_pow]
    by_cases hj : 63 = j
    · subst hj
      rw [decide_eq_true rfl, Nat.testBit_lt_two_pow hf]; rfl
    · rw [decide_eq_false hj]; simp
  unfold flipS
  split
  · rename_i hle
    have e := h2 (x - 2 ^ 63) (by omega)
    have e2 : x = 2 ^ 63 ^^^ (x - 2 ^ 63) := by rw [← e]; omega
    rw [show (9223372036854775808 : Nat) = 2 ^ 63 by decide]
    rw [show x ^^^ 2 ^ 63 = x - 2 ^ 63 by
      calc x ^^^ 2 ^ 63 = (2 ^ 63 ^^^ (x - 2 ^ 63)) ^^^ 2 ^ 63 := by rw [← e2]
        _ = x - 2 ^ 63 := by rw [Nat.xor_comm, ← Nat.xor_assoc, Nat.xor_self, Nat.zero_xor]]
  · rename_i hle
    have e := h2 x (by omega)
    rw [show (9223372036854775808 : Nat) = 2 ^ 63 by decide, Nat.xor_comm, ← e, Nat.add_comm]

theorem sgd_flip {x : Nat} (hx : x < W) (b : Nat) (hb : b = 0 ∨ b = bInf) : bits .xor .u64 (sgd b x true : Int) (sgd b (flipS x) true : Int) = 9223372036854775808 := by
  unfold sgd
  rw [flip_fs hx]
  rcases hb with rfl | rfl <;> cases fs x <;> decide +kernel

/-- Its answer for the other sign too: the same, but the sign of an odd power. -/
theorem pown_flip {x : Nat} (hx : x < W) (n : Int) :
    (pownS x n = none ∧ pownS (flipS x) n = none) ∨
    (∃ b f, pownS x n = some (b, f) ∧ pownS (flipS x) n = some (b, f) ∧ (4 ≤ kind x ∨ n = 0)) ∨
    (∃ b f, (b = 0 ∨ b = bInf) ∧ pownS x n = some (sgd b x (podd n), f) ∧ pownS (flipS x) n = some (sgd b (flipS x) (podd n), f) ∧ kind x < 4 ∧ n ≠ 0 ∧ (fs x = false → rootnS x n = some (sgd b x (podd n), f))) := by
  unfold pownS rootnS endsS
  rw [flip_kind hx]
  by_cases h5 : kind x = 5
  · exact .inr (.inl ⟨bNaN, 16, by simp [h5], by simp [h5], .inl (by omega)⟩)
  by_cases hn : n = 0
  · exact .inr (.inl ⟨bOne, 0, by simp [h5, hn], by simp [h5, hn], .inr hn⟩)
  by_cases h4 : kind x = 4
  · exact .inr (.inl ⟨bNaN, 0, by simp [h4, hn], by simp [h4, hn], .inl (by omega)⟩)
  have hk := kind_le x
  by_cases h0 : kind x = 0
  · by_cases hneg : n < 0
    · exact .inr (.inr ⟨bInf, 8, .inr rfl, by simp [h0, hn, hneg], by simp [h0, hn, hneg], by omega, hn, fun hs => by simp [h0, hn, hneg, hs]⟩)
    · have hneg' : 0 ≤ n := by omega
      exact .inr (.inr ⟨0, 0, .inl rfl, by simp [h0, hn, hneg, hneg'], by simp [h0, hn, hneg, hneg'], by omega, hn, fun hs => by simp [h0, hn, hneg, hneg', hs]⟩)
  by_cases h3 : kind x = 3
  · by_cases hneg : n < 0
    · exact .inr (.inr ⟨0, 0, .inl rfl, by simp [h3, hn, hneg], by simp [h3, hn, hneg], by omega, hn, fun hs => by simp [h3, hn, hneg, hs]⟩)
    · exact .inr (.inr ⟨bInf, 0, .inr rfl, by simp [h3, hn, hneg], by simp [h3, hn, hneg], by omega, hn, fun hs => by simp [h3, hn, hneg, hs]⟩)
  exact .inl ⟨by simp [h5, hn, h4, h0, h3], by simp [h5, hn, h4, h0, h3]⟩

theorem law_SpecialEven (pvs : List PV) (h : Fits [qU64, qInt] pvs) : PC E 12 pvs (.bool true) := by
  obtain ⟨_, _, rfl, ⟨x, rfl, hx⟩, ⟨n, rfl, hn0, hn1⟩⟩ := fits2 h
  refine PC.of_body follows Tryd.func12 (by decide +kernel) rfl (by kernel_rfl) (Nat.le_of_ble_eq_true rfl) (walk ?_)
  have hy := flip_lt hx
  have e1 := xor_top hx
  have a1 := c_Pown x hx n
  have a2 := c_Pown (flipS x) hy n
  have a3 := c_Rootn x hx n
  have kx := c_Kind x hx
  have nx := c_Neg x hx
  have t1 := tmod2 n
  have t2 := tmod2' n
  have hk := kind_le x
  simp only [u] at a1 a2 a3 kx nx
  simp only [Tryd.f12, u, go_sem, Int.reduceToNat, Int.reduceEq, Int.reduceNe, Int.reduceLT, Int.reduceLE, Int.reduceNeg, Int.reduceAdd, ↓reduceIte, ↓reduceCtorEq, Nat.reduceEqDiff, Nat.reduceAdd, Nat.reduceSub, Nat.reduceMul, Nat.reduceLeDiff, Nat.reduceLT]
  refine qcall_i (c_alive20) ?_; simp only [Tryd.f12, u, e1, go_sem, Int.reduceToNat, Int.reduceEq, Int.reduceNe, Int.reduceLT, Int.reduceLE, Int.reduceNeg, Int.reduceAdd, ↓reduceIte, ↓reduceCtorEq, Nat.reduceEqDiff, Nat.reduceAdd, Nat.reduceSub, Nat.reduceMul, Nat.reduceLeDiff, Nat.reduceLT]
  rcases pown_flip hx n with ⟨p1, p2⟩ | ⟨b, f, p1, p2, p3⟩ | ⟨b, f, hb, p1, p2, p3, p4, p5⟩
  · rw [p1] at a1
    rw [p2] at a2
    simp only [resPV] at a1 a2
    refine qcall_i (a1) ?_; simp only [Tryd.f12, u, e1, go_sem, Int.reduceToNat, Int.reduceEq, Int.reduceNe, Int.reduceLT, Int.reduceLE, Int.reduceNeg, Int.reduceAdd, ↓reduceIte, ↓reduceCtorEq, Nat.reduceEqDiff, Nat.reduceAdd, Nat.reduceSub, Nat.reduceMul, Nat.reduceLeDiff, Nat.reduceLT]
    refine qcall_i (a2) ?_; simp only [Tryd.f12, u, e1, go_sem, Int.reduceToNat, Int.reduceEq, Int.reduceNe, Int.reduceLT, Int.reduceLE, Int.reduceNeg, Int.reduceAdd, ↓reduceIte, ↓reduceCtorEq, Nat.reduceEqDiff, Nat.reduceAdd, Nat.reduceSub, Nat.reduceMul, Nat.reduceLeDiff, Nat.reduceLT]
    refine qcall_i (kx) ?_; simp only [Tryd.f12, go_sem, Int.reduceToNat, Int.reduceEq, Int.reduceNe, Int.reduceLT, Int.reduceLE, Int.reduceNeg, Int.reduceAdd, ↓reduceIte, ↓reduceCtorEq, Nat.reduceEqDiff, Nat.reduceAdd, Nat.reduceSub, Nat.reduceMul, Nat.reduceLeDiff, Nat.reduceLT]
    refine qif_d (fun h4 => ?_) (fun h4 => ?_)
    · simp only [Tryd.f12, go_sem, Int.reduceToNat, Int.reduceEq, Int.reduceNe, Int.reduceLT, Int.reduceLE, Int.reduceNeg, Int.reduceAdd, ↓reduceIte, ↓reduceCtorEq, Nat.reduceEqDiff, Nat.reduceAdd, Nat.reduceSub, Nat.reduceMul, Nat.reduceLeDiff, Nat.reduceLT]
    · simp only [Tryd.f12, go_sem, Int.reduceToNat, Int.reduceEq, Int.reduceNe, Int.reduceLT, Int.reduceLE, Int.reduceNeg, Int.reduceAdd, ↓reduceIte, ↓reduceCtorEq, Nat.reduceEqDiff, Nat.reduceAdd, Nat.reduceSub, Nat.reduceMul, Nat.reduceLeDiff, Nat.reduceLT]
  · rw [p1] at a1
    rw [p2] at a2
    simp only [resPV] at a1 a2
    refine qcall_i (a1) ?_; simp only [Tryd.f12, u, e1, go_sem, Int.reduceToNat, Int.reduceEq, Int.reduceNe, Int.reduceLT, Int.reduceLE, Int.reduceNeg, Int.reduceAdd, ↓reduceIte, ↓reduceCtorEq, Nat.reduceEqDiff, Nat.reduceAdd, Nat.reduceSub, Nat.reduceMul, Nat.reduceLeDiff, Nat.reduceLT]
    refine qcall_i (a2) ?_; simp only [Tryd.f12, u, e1, eq_self, go_sem, Int.reduceToNat, Int.reduceEq, Int.reduceNe, Int.reduceLT, Int.reduceLE, Int.reduceNeg, Int.reduceAdd, ↓reduceIte, ↓reduceCtorEq, Nat.reduceEqDiff, Nat.reduceAdd, Nat.reduceSub, Nat.reduceMul, Nat.reduceLeDiff, Nat.reduceLT]
    refine qcall_i (kx) ?_; simp only [Tryd.f12, go_sem, Int.reduceToNat, Int.reduceEq, Int.reduceNe, Int.reduceLT, Int.reduceLE, Int.reduceNeg, Int.reduceAdd, ↓reduceIte, ↓reduceCtorEq, Nat.reduceEqDiff, Nat.reduceAdd, Nat.reduceSub, Nat.reduceMul, Nat.reduceLeDiff, Nat.reduceLT]
    refine qif_d (fun h4 => ?_) (fun h4 => ?_)
    · simp only [Tryd.f12, go_sem, Int.reduceToNat, Int.reduceEq, Int.reduceNe, Int.reduceLT, Int.reduceLE, Int.reduceNeg, Int.reduceAdd, ↓reduceIte, ↓reduceCtorEq, Nat.reduceEqDiff, Nat.reduceAdd, Nat.reduceSub, Nat.reduceMul, Nat.reduceLeDiff, Nat.reduceLT]
    · have hn : n = 0 := by omega
      subst hn
      rw [show podd 0 = false from rfl] at t1 t2
      simp only [Tryd.f12, t1, t2, eq_self, Bool.and_true, Bool.and_self, go_sem, Int.reduceToNat, Int.reduceEq, Int.reduceNe, Int.reduceLT, Int.reduceLE, Int.reduceNeg, Int.reduceAdd, ↓reduceIte, ↓reduceCtorEq, Nat.reduceEqDiff, Nat.reduceAdd, Nat.reduceSub, Nat.reduceMul, Nat.reduceLeDiff, Nat.reduceLT]
      trace_state
      done
  · rw [p1] at a1
    rw [p2] at a2
    have x1 := sgd_flip hx b hb
    have e2 : sgd b (flipS x) false = sgd b x false := by simp [sgd]
    generalize podd n = o at *
    simp only [resPV] at a1 a2
    refine qcall_i (a1) ?_; simp only [Tryd.f12, u, e1, go_sem, Int.reduceToNat, Int.reduceEq, Int.reduceNe, Int.reduceLT, Int.reduceLE, Int.reduceNeg, Int.reduceAdd, ↓reduceIte, ↓reduceCtorEq, Nat.reduceEqDiff, Nat.reduceAdd, Nat.reduceSub, Nat.reduceMul, Nat.reduceLeDiff, Nat.reduceLT]
    refine qcall_i (a2) ?_; simp only [Tryd.f12, u, e1, eq_self, go_sem, Int.reduceToNat, Int.reduceEq, Int.reduceNe, Int.reduceLT, Int.reduceLE, Int.reduceNeg, Int.reduceAdd, ↓reduceIte, ↓reduceCtorEq, Nat.reduceEqDiff, Nat.reduceAdd, Nat.reduceSub, Nat.reduceMul, Nat.reduceLeDiff, Nat.reduceLT]
    refine qcall_i (kx) ?_; simp only [Tryd.f12, go_sem, Int.reduceToNat, Int.reduceEq, Int.reduceNe, Int.reduceLT, Int.reduceLE, Int.reduceNeg, Int.reduceAdd, ↓reduceIte, ↓reduceCtorEq, Nat.reduceEqDiff, Nat.reduceAdd, Nat.reduceSub, Nat.reduceMul, Nat.reduceLeDiff, Nat.reduceLT]
    refine qif_df (by omega) ?_
    cases o
    · rw [e2] at a2
      simp only [Tryd.f12, t1, t2, eq_self, Bool.and_true, Bool.and_self, e2, go_sem, Int.reduceToNat, Int.reduceEq, Int.reduceNe, Int.reduceLT, Int.reduceLE, Int.reduceNeg, Int.reduceAdd, ↓reduceIte, ↓reduceCtorEq, Nat.reduceEqDiff, Nat.reduceAdd, Nat.reduceSub, Nat.reduceMul, Nat.reduceLeDiff, Nat.reduceLT]
      refine qif_df p4 ?_
      simp only [Tryd.f12, go_sem, Int.reduceToNat, Int.reduceEq, Int.reduceNe, Int.reduceLT, Int.reduceLE, Int.reduceNeg, Int.reduceAdd, ↓reduceIte, ↓reduceCtorEq, Nat.reduceEqDiff, Nat.reduceAdd, Nat.reduceSub, Nat.reduceMul, Nat.reduceLeDiff, Nat.reduceLT]
      refine qcall_i nx ?_
      cases hs : fs x
      · rw [p5 hs] at a3
        simp only [resPV] at a3
        simp only [Tryd.f12, go_sem, Int.reduceToNat, Int.reduceEq, Int.reduceNe, Int.reduceLT, Int.reduceLE, Int.reduceNeg, Int.reduceAdd, ↓reduceIte, ↓reduceCtorEq, Nat.reduceEqDiff, Nat.reduceAdd, Nat.reduceSub, Nat.reduceMul, Nat.reduceLeDiff, Nat.reduceLT]
        refine qcall_i (a3) ?_; simp only [Tryd.f12, eq_self, Bool.and_self, go_sem, Int.reduceToNat, Int.reduceEq, Int.reduceNe, Int.reduceLT, Int.reduceLE, Int.reduceNeg, Int.reduceAdd, ↓reduceIte, ↓reduceCtorEq, Nat.reduceEqDiff, Nat.reduceAdd, Nat.reduceSub, Nat.reduceMul, Nat.reduceLeDiff, Nat.reduceLT]
      · simp only [Tryd.f12, go_sem, Int.reduceToNat, Int.reduceEq, Int.reduceNe, Int.reduceLT, Int.reduceLE, Int.reduceNeg, Int.reduceAdd, ↓reduceIte, ↓reduceCtorEq, Nat.reduceEqDiff, Nat.reduceAdd, Nat.reduceSub, Nat.reduceMul, Nat.reduceLeDiff, Nat.reduceLT]
    · simp only [Tryd.f12, t1, t2, eq_self, Bool.and_true, Bool.and_self, x1, go_sem, Int.reduceToNat, Int.reduceEq, Int.reduceNe, Int.reduceLT, Int.reduceLE, Int.reduceNeg, Int.reduceAdd, ↓reduceIte, ↓reduceCtorEq, Nat.reduceEqDiff, Nat.reduceAdd, Nat.reduceSub, Nat.reduceMul, Nat.reduceLeDiff, Nat.reduceLT]
      refine qif_df p4 ?_
      simp only [Tryd.f12, go_sem, Int.reduceToNat, Int.reduceEq, Int.reduceNe, Int.reduceLT, Int.reduceLE, Int.reduceNeg, Int.reduceAdd, ↓reduceIte, ↓reduceCtorEq, Nat.reduceEqDiff, Nat.reduceAdd, Nat.reduceSub, Nat.reduceMul, Nat.reduceLeDiff, Nat.reduceLT]
      refine qcall_i nx ?_
      cases hs : fs x
      · rw [p5 hs] at a3
        simp only [resPV] at a3
        simp only [Tryd.f12, go_sem, Int.reduceToNat, Int.reduceEq, Int.reduceNe, Int.reduceLT, Int.reduceLE, Int.reduceNeg, Int.reduceAdd, ↓reduceIte, ↓reduceCtorEq, Nat.reduceEqDiff, Nat.reduceAdd, Nat.reduceSub, Nat.reduceMul, Nat.reduceLeDiff, Nat.reduceLT]
        refine qcall_i (a3) ?_; simp only [Tryd.f12, eq_self, Bool.and_self, go_sem, Int.reduceToNat, Int.reduceEq, Int.reduceNe, Int.reduceLT, Int.reduceLE, Int.reduceNeg, Int.reduceAdd, ↓reduceIte, ↓reduceCtorEq, Nat.reduceEqDiff, Nat.reduceAdd, Nat.reduceSub, Nat.reduceMul, Nat.reduceLeDiff, Nat.reduceLT]
      · simp only [Tryd.f12, go_sem, Int.reduceToNat, Int.reduceEq, Int.reduceNe, Int.reduceLT, Int.reduceLE, Int.reduceNeg, Int.reduceAdd, ↓reduceIte, ↓reduceCtorEq, Nat.reduceEqDiff, Nat.reduceAdd, Nat.reduceSub, Nat.reduceMul, Nat.reduceLeDiff, Nat.reduceLT]
end Go.Proofs.YtkddalmjhmgbeaaDoor
