/- Breakpoints: next.Break, next.Beside, next.Between, and the document's answers for them. -/
import Derived.Test.YtflpcgcgeffolaaDoorNx
open Go PG Go.Proofs
set_option maxRecDepth 100000
set_option linter.unusedSimpArgs false
set_option linter.unusedVariables false
namespace Go.Proofs.YtflpcgcgeffolaaDoor
attribute [local go_sem] Lay2 Lay3 Lay4 Lay5 Lay6 Lay7 Lay8 Lay9 Lay10 Lay11 Lay12 Lay13 Lay14 Lay21 Lay22 Lay24 Lay25 Lay26 Lay27 Lay36 Lay37 Lay38 Lay39 Lay40 Lay41 Lay43 Lay46 Lay47 Lay66 Lay103 Lay105 Lay159 Lay164 Lay165 Lay166 Lay168 Lay169 Lay172 Lay173 qexec_seq qexec_skip qexec_exit qexec_ret qexec_block qexec_loop qexec_range qexec_cond qexec_region qexec_drawn qops_nil qops_none qops_some put_some put_none pblk_exit pblk_other newDsts_nil sget_cons sget_nil qval_some qbool_some qgs_bool qgs_und qfree_some qgrd_true qgrd_false qif_true qif_false qval_ite qval_itn qand_true map_ite map_some' map_none' qdo_move qdo_assign qdo_binOp qdo_pick qdo_unOp qdo_convert qdo_extract qdo_field qdo_fieldAddr qdo_alloc qdo_box qdo_build qdo_buildSlice qdo_load qdo_store qdo_nilCheck qdo_makeFunc qdo_makeSlice qdo_slice qdo_indexAddr qdo_call qcont_val qcont_new qcont_st qcont_app0 qcont_app qcont_inl qcont_call njSV_val njSV_nil njSV_row njSV_ptr njSV_sub binV_val binV_nil binV_nn nilCmp bin_add bin_sub bin_mul bin_quo bin_rem bin_and bin_or bin_xor bin_andNot bin_eql bin_neq bin_lss bin_leq bin_gtr bin_geq bin_shl bin_shr bin_seql bin_sneq bin_sadd bin_beql bin_aeql bin_aneq eqAnd_some eqCells_nil eqCells_cons fieldTypes isStruct eqCell bin_bneq un_not un_neg nj_ite Nat.beq stepA stepR isNew opSV constSV RV.sv allSome E_mu E_own qkeyIn_none qkeyIn_some qkeyAt_none qkeyAt_some Bool.or_false Bool.false_or Bool.or_true Bool.true_or cst setB res resSV pstart startL killL kill1 eraL frzL svPV rvPV rvInt rvSlice frzOf close closeL pconv pbuiltin pmax2 partPV setCells fillPV zrow bound newSV PV.cells Bk.cells Bk.with SV.key pres presL_nil presL_tmp presL_cell presC2_some cellPV_ptr presC List.toList_toArray List.size_toArray List.getElem?_drop Nat.mul_one Int.toNat_natCast Nat.not_lt_zero Nat.lt_irrefl decide_true decide_false Nat.not_lt Option.some.injEq PV.lst.injEq PV.int.injEq PV.bool.injEq PV.tuple.injEq List.cons.injEq Option.map_some Option.map_none Option.bind_some Option.toList List.map_cons List.map_nil List.nil_append List.cons_append List.append_nil List.zip_cons_cons List.zip_nil_left List.zip_nil_right List.getElem?_cons_zero List.getElem?_cons_succ List.drop_zero List.drop_succ_cons List.take_succ_cons List.take_zero List.set_cons_zero List.set_cons_succ List.length_cons List.length_nil List.length_set List.replicate_one List.replicate_zero bne_self_eq_false beq_self_eq_true Nat.zero_add Nat.add_zero Nat.zero_mul Bool.false_eq_true Bool.true_eq_false Bool.not_true Bool.not_false and_true true_and false_and and_false or_false false_or or_true true_or not_true_eq_false not_false_eq_true ne_eq gt_iff_lt List.mem_cons List.not_mem_nil
attribute [local go_sem ↓] pseq_normal pseq_ret pseq_exit pblk_normal pblk_ret newDsts_cons gdst_zero gdst_succ retQ_normal retQ_ret qneed_nil qneed_cons retM_normal retM_ret endR_normal endR_ret endR_exit

/-- Is it a breakpoint? -/
def brkP (d : Dy) : Prop := d.m = 0 ∨ (if 1023 < d.top then d.e = 1024 ∧ d.m = 1 else unitOf d.top - 1 ≤ d.e)
instance (d : Dy) : Decidable (brkP d) := inferInstanceAs (Decidable (_ ∨ _))
theorem bits_one (x : Nat) : bitLen x = 1 ↔ x = 1 := by
  constructor
  · intro h
    have h1 := (bitLen_le x 1).1 (by omega)
    have h2 : ¬ x < 2 ^ 0 := fun h2 => by have := (bitLen_le x 0).2 h2; omega
    omega
  · rintro rfl; decide
theorem c_Break {p : PV} {d : Dy} (h : RD p d) : PC E 40 [p] (.bool (decide (d.fits ∧ brkP d))) := by
  have k1 := r_Bare h
  have hok := h.ok
  have hbits := h.bits
  obtain ⟨s, q, x, e, rfl, -⟩ := h
  refine PC.of_body follows Tryd.func40 (by decide +kernel) rfl (by kernel_rfl) (Nat.le_of_ble_eq_true rfl) (walk ?_)
  unfold okD at k1
  by_cases hf : d.fits
  · rw [if_pos hf] at k1
    have k2 := r_Top (RD.fit hok hbits hf)
    have k3 := k_Bits (num_bits hbits)
    have e1 : decide (d.fits ∧ brkP d) = decide (brkP d) := decide_eq_decide.2 ⟨fun h => h.2, fun h => ⟨hf, h⟩⟩
    rw [e1]
    have f1 := hf.1
    have f2 := hf.2
    have hbo := bits_one d.m
    by_cases h0 : d.m = 0
    · rw [decide_eq_false (by simpa using h0)] at k2
      simp only [Dy.pv, DP, NN, NL] at k1 k2 ⊢
      simp only [Tryd.f40, go_sem, Int.reduceToNat, Int.reduceEq, Int.reduceNe, Int.reduceLT, Int.reduceLE, Int.reduceNeg, Int.reduceAdd, ↓reduceIte, ↓reduceCtorEq, Nat.reduceEqDiff, Nat.reduceAdd, Nat.reduceSub, Nat.reduceMul, Nat.reduceLeDiff, Nat.reduceLT]
      refine qcall_i (k1) ?_; simp only [Tryd.f40, go_sem, Int.reduceToNat, Int.reduceEq, Int.reduceNe, Int.reduceLT, Int.reduceLE, Int.reduceNeg, Int.reduceAdd, ↓reduceIte, ↓reduceCtorEq, Nat.reduceEqDiff, Nat.reduceAdd, Nat.reduceSub, Nat.reduceMul, Nat.reduceLeDiff, Nat.reduceLT]
      refine qcall_i (k2) ?_; simp only [Tryd.f40, go_sem, Int.reduceToNat, Int.reduceEq, Int.reduceNe, Int.reduceLT, Int.reduceLE, Int.reduceNeg, Int.reduceAdd, ↓reduceIte, ↓reduceCtorEq, Nat.reduceEqDiff, Nat.reduceAdd, Nat.reduceSub, Nat.reduceMul, Nat.reduceLeDiff, Nat.reduceLT]
      exact (decide_eq_true (show brkP d from .inl h0)).symm
    · rw [decide_eq_true h0] at k2
      have ht := top_of h0
      have hp := bitLen_pos h0
      have w1 : IntKind.wrap .i64 (d.top - 52) = d.top - 52 := wrap64 (by omega) (by omega)
      have w2 : IntKind.wrap .i64 (max (d.top - 52) (-1074) - 1) = max (d.top - 52) (-1074) - 1 := wrap64 (by omega) (by omega)
      simp only [Dy.pv, DP, NN, NL] at k1 k2 k3 ⊢
      simp only [Tryd.f40, go_sem, Int.reduceToNat, Int.reduceEq, Int.reduceNe, Int.reduceLT, Int.reduceLE, Int.reduceNeg, Int.reduceAdd, ↓reduceIte, ↓reduceCtorEq, Nat.reduceEqDiff, Nat.reduceAdd, Nat.reduceSub, Nat.reduceMul, Nat.reduceLeDiff, Nat.reduceLT]
      refine qcall_i (k1) ?_; simp only [Tryd.f40, go_sem, Int.reduceToNat, Int.reduceEq, Int.reduceNe, Int.reduceLT, Int.reduceLE, Int.reduceNeg, Int.reduceAdd, ↓reduceIte, ↓reduceCtorEq, Nat.reduceEqDiff, Nat.reduceAdd, Nat.reduceSub, Nat.reduceMul, Nat.reduceLeDiff, Nat.reduceLT]
      refine qcall_i (k2) ?_; simp only [Tryd.f40, go_sem, Int.reduceToNat, Int.reduceEq, Int.reduceNe, Int.reduceLT, Int.reduceLE, Int.reduceNeg, Int.reduceAdd, ↓reduceIte, ↓reduceCtorEq, Nat.reduceEqDiff, Nat.reduceAdd, Nat.reduceSub, Nat.reduceMul, Nat.reduceLeDiff, Nat.reduceLT]
      refine qif_d (fun h1 => ?_) (fun h1 => ?_)
      · simp only [Tryd.f40, go_sem, Int.reduceToNat, Int.reduceEq, Int.reduceNe, Int.reduceLT, Int.reduceLE, Int.reduceNeg, Int.reduceAdd, ↓reduceIte, ↓reduceCtorEq, Nat.reduceEqDiff, Nat.reduceAdd, Nat.reduceSub, Nat.reduceMul, Nat.reduceLeDiff, Nat.reduceLT]
        refine qif_d (fun h2 => ?_) (fun h2 => ?_)
        · simp only [Tryd.f40, go_sem, Int.reduceToNat, Int.reduceEq, Int.reduceNe, Int.reduceLT, Int.reduceLE, Int.reduceNeg, Int.reduceAdd, ↓reduceIte, ↓reduceCtorEq, Nat.reduceEqDiff, Nat.reduceAdd, Nat.reduceSub, Nat.reduceMul, Nat.reduceLeDiff, Nat.reduceLT]
          refine qcall_i (k3) ?_; simp only [Tryd.f40, go_sem, Int.reduceToNat, Int.reduceEq, Int.reduceNe, Int.reduceLT, Int.reduceLE, Int.reduceNeg, Int.reduceAdd, ↓reduceIte, ↓reduceCtorEq, Nat.reduceEqDiff, Nat.reduceAdd, Nat.reduceSub, Nat.reduceMul, Nat.reduceLeDiff, Nat.reduceLT]
          refine decide_eq_decide.2 ?_
          unfold brkP
          rw [if_pos (show 1023 < d.top from h1)]
          exact ⟨fun h3 => .inr ⟨h2, hbo.1 (by omega)⟩, fun h3 => by have := hbo.2 (h3.resolve_left h0).2; omega⟩
        · simp only [Tryd.f40, go_sem, Int.reduceToNat, Int.reduceEq, Int.reduceNe, Int.reduceLT, Int.reduceLE, Int.reduceNeg, Int.reduceAdd, ↓reduceIte, ↓reduceCtorEq, Nat.reduceEqDiff, Nat.reduceAdd, Nat.reduceSub, Nat.reduceMul, Nat.reduceLeDiff, Nat.reduceLT]
          refine (decide_eq_false ?_).symm
          unfold brkP
          rw [if_pos (show 1023 < d.top from h1)]
          exact fun h3 => h2 (h3.resolve_left h0).1
      · simp only [Tryd.f40, w1, w2, go_sem, Int.reduceToNat, Int.reduceEq, Int.reduceNe, Int.reduceLT, Int.reduceLE, Int.reduceNeg, Int.reduceAdd, ↓reduceIte, ↓reduceCtorEq, Nat.reduceEqDiff, Nat.reduceAdd, Nat.reduceSub, Nat.reduceMul, Nat.reduceLeDiff, Nat.reduceLT]
        refine decide_eq_decide.2 ?_
        unfold brkP
        rw [if_neg (show ¬ 1023 < d.top from fun h => h1 h)]
        unfold unitOf
        exact ⟨fun h3 => .inr h3, fun h3 => h3.resolve_left h0⟩
  · rw [if_neg hf] at k1
    have k2 := r_Top RD.zero
    rw [decide_eq_false (fun h : d.fits ∧ brkP d => hf h.1)]
    have e0 : (Dy.zero.m ≠ 0) = False := by simp [Dy.zero]
    simp only [e0, Dy.pv, Dy.zero, DP, NN, NL] at k1 k2 ⊢
    simp only [Tryd.f40, go_sem, Int.reduceToNat, Int.reduceEq, Int.reduceNe, Int.reduceLT, Int.reduceLE, Int.reduceNeg, Int.reduceAdd, ↓reduceIte, ↓reduceCtorEq, Nat.reduceEqDiff, Nat.reduceAdd, Nat.reduceSub, Nat.reduceMul, Nat.reduceLeDiff, Nat.reduceLT]
    refine qcall_i (k1) ?_; simp only [Tryd.f40, go_sem, Int.reduceToNat, Int.reduceEq, Int.reduceNe, Int.reduceLT, Int.reduceLE, Int.reduceNeg, Int.reduceAdd, ↓reduceIte, ↓reduceCtorEq, Nat.reduceEqDiff, Nat.reduceAdd, Nat.reduceSub, Nat.reduceMul, Nat.reduceLeDiff, Nat.reduceLT]
    refine qcall_i (k2) ?_; simp only [Tryd.f40, go_sem, Int.reduceToNat, Int.reduceEq, Int.reduceNe, Int.reduceLT, Int.reduceLE, Int.reduceNeg, Int.reduceAdd, ↓reduceIte, ↓reduceCtorEq, Nat.reduceEqDiff, Nat.reduceAdd, Nat.reduceSub, Nat.reduceMul, Nat.reduceLeDiff, Nat.reduceLT]

/-- The size above a number, if it isn't one. -/
def high (d : Dy) : Nat := if d.m = 0 ∨ 1023 < d.top ∨ unitOf d.top ≤ d.e then low d else low d + 1
theorem low_zero {d : Dy} (h : d.m = 0) : low d = 0 := by
  have e1 : d.top = 0 := if_pos h
  have e2 : flo d (unitOf d.top) = 0 := by unfold flo; rw [h, Nat.zero_mul, Nat.zero_div]
  unfold low
  rw [if_neg (by omega), e2, e1]
  decide
theorem flo_small {d : Dy} (h0 : d.m ≠ 0) {t : Int} (h : d.top < t) : flo d t = 0 := by
  have hs := flo_spec d t (k := min d.e t) (by omega) (by omega)
  have ht := top_at h0 (k := min d.e t) (by omega)
  have h2 : 2 ^ (d.top + 1 - min d.e t).toNat ≤ 2 ^ (t - min d.e t).toNat := Nat.pow_le_pow_right (by decide) (by omega)
  have h3 : flo d t < 1 := Nat.lt_of_mul_lt_mul_right (a := 2 ^ (t - min d.e t).toNat) (by omega)
  omega
theorem exact_low {d : Dy} (h0 : d.m ≠ 0) (ht : d.top ≤ 1023) : (if (mkD false (flo d (unitOf d.top)) (unitOf d.top)).fits then exactS (mkD false (flo d (unitOf d.top)) (unitOf d.top)) else none) = some (low d) := by
  have hp := flo_ok h0 ht
  have hl : low d = packB (flo d (unitOf d.top)) (unitOf d.top) := if_neg (by omega)
  have hI := pack_lt_inf hp
  rw [exact_pack false (by omega) (pack_fd hp), hl]
  by_cases hM : flo d (unitOf d.top) = 0
  · rw [if_pos hM, hM]; rfl
  · rw [if_neg hM, if_neg (by omega)]; rfl
theorem low_le (d : Dy) : low d ≤ INF := bel_low.1
theorem c_Between {p : PV} {d : Dy} (h : RD p d) : PC E 46 [p] (if d.fits then .tuple [u (low d), u (high d), .bool true] else .tuple [u 0, u 0, .bool false]) := by
  have k1 := r_Bare h
  have hok := h.ok
  have hbits := h.bits
  obtain ⟨s, q, x, e, rfl, -⟩ := h
  refine PC.of_body follows Tryd.func46 (by decide +kernel) rfl (by kernel_rfl) (Nat.le_of_ble_eq_true rfl) (walk ?_)
  unfold okD at k1
  by_cases hf : d.fits
  case neg =>
    rw [if_neg hf] at k1 ⊢
    simp only [u, Dy.pv, Dy.zero, DP, NN, NL] at k1 ⊢
    simp only [Tryd.f46, go_sem, Int.reduceToNat, Int.reduceEq, Int.reduceNe, Int.reduceLT, Int.reduceLE, Int.reduceNeg, Int.reduceAdd, ↓reduceIte, ↓reduceCtorEq, Nat.reduceEqDiff, Nat.reduceAdd, Nat.reduceSub, Nat.reduceMul, Nat.reduceLeDiff, Nat.reduceLT]
    refine qcall_i (k1) ?_; simp only [Tryd.f46, go_sem, Int.reduceToNat, Int.reduceEq, Int.reduceNe, Int.reduceLT, Int.reduceLE, Int.reduceNeg, Int.reduceAdd, ↓reduceIte, ↓reduceCtorEq, Nat.reduceEqDiff, Nat.reduceAdd, Nat.reduceSub, Nat.reduceMul, Nat.reduceLeDiff, Nat.reduceLT]
    exact ⟨rfl, rfl⟩
  rw [if_pos hf] at k1 ⊢
  have f1 := hf.1
  have f2 := hf.2
  have k2 := r_Top (RD.fit (abs_ok hok) (show bitLen d.abs.m ≤ 1000000 from hbits) (show d.abs.fits from hf))
  rw [abs_top] at k2
  by_cases h0 : d.m = 0
  · rw [decide_eq_false (show ¬ d.abs.m ≠ 0 from fun h => h h0)] at k2
    unfold high
    rw [if_pos (.inl h0), low_zero h0]
    simp only [u, Dy.abs, Dy.pv, Dy.zero, DP, NN, NL] at k1 k2 ⊢
    simp only [Tryd.f46, go_sem, Int.reduceToNat, Int.reduceEq, Int.reduceNe, Int.reduceLT, Int.reduceLE, Int.reduceNeg, Int.reduceAdd, ↓reduceIte, ↓reduceCtorEq, Nat.reduceEqDiff, Nat.reduceAdd, Nat.reduceSub, Nat.reduceMul, Nat.reduceLeDiff, Nat.reduceLT]
    refine qcall_i (k1) ?_; simp only [Tryd.f46, go_sem, Int.reduceToNat, Int.reduceEq, Int.reduceNe, Int.reduceLT, Int.reduceLE, Int.reduceNeg, Int.reduceAdd, ↓reduceIte, ↓reduceCtorEq, Nat.reduceEqDiff, Nat.reduceAdd, Nat.reduceSub, Nat.reduceMul, Nat.reduceLeDiff, Nat.reduceLT]
    refine qcall_i (k2) ?_; simp only [Tryd.f46, go_sem, Int.reduceToNat, Int.reduceEq, Int.reduceNe, Int.reduceLT, Int.reduceLE, Int.reduceNeg, Int.reduceAdd, ↓reduceIte, ↓reduceCtorEq, Nat.reduceEqDiff, Nat.reduceAdd, Nat.reduceSub, Nat.reduceMul, Nat.reduceLeDiff, Nat.reduceLT]
    exact ⟨rfl, rfl⟩
  rw [decide_eq_true (show d.abs.m ≠ 0 from h0)] at k2
  have ht := top_of h0
  have hp := bitLen_pos h0
  have w1 : IntKind.wrap .i64 (d.top - 52) = d.top - 52 := wrap64 (by omega) (by omega)
  have w2 : IntKind.wrap .i64 (max (d.top - 52) (-1074) - d.e) = max (d.top - 52) (-1074) - d.e := wrap64 (by omega) (by omega)
  have hu : unitOf d.top = max (d.top - 52) (-1074) := rfl
  unfold high
  have k2' := k2
  simp only [u, Dy.abs, Dy.pv, Dy.zero, DP, NN, NL] at k1 k2 ⊢
  simp only [Tryd.f46, go_sem, Int.reduceToNat, Int.reduceEq, Int.reduceNe, Int.reduceLT, Int.reduceLE, Int.reduceNeg, Int.reduceAdd, ↓reduceIte, ↓reduceCtorEq, Nat.reduceEqDiff, Nat.reduceAdd, Nat.reduceSub, Nat.reduceMul, Nat.reduceLeDiff, Nat.reduceLT]
  refine qcall_i (k1) ?_; simp only [Tryd.f46, go_sem, Int.reduceToNat, Int.reduceEq, Int.reduceNe, Int.reduceLT, Int.reduceLE, Int.reduceNeg, Int.reduceAdd, ↓reduceIte, ↓reduceCtorEq, Nat.reduceEqDiff, Nat.reduceAdd, Nat.reduceSub, Nat.reduceMul, Nat.reduceLeDiff, Nat.reduceLT]
  refine qcall_i (k2) ?_; simp only [Tryd.f46, go_sem, Int.reduceToNat, Int.reduceEq, Int.reduceNe, Int.reduceLT, Int.reduceLE, Int.reduceNeg, Int.reduceAdd, ↓reduceIte, ↓reduceCtorEq, Nat.reduceEqDiff, Nat.reduceAdd, Nat.reduceSub, Nat.reduceMul, Nat.reduceLeDiff, Nat.reduceLT]
  refine qif_d (fun h1 => ?_) (fun h1 => ?_)
  · simp only [Tryd.f46, go_sem, Int.reduceToNat, Int.reduceEq, Int.reduceNe, Int.reduceLT, Int.reduceLE, Int.reduceNeg, Int.reduceAdd, ↓reduceIte, ↓reduceCtorEq, Nat.reduceEqDiff, Nat.reduceAdd, Nat.reduceSub, Nat.reduceMul, Nat.reduceLeDiff, Nat.reduceLT]
    have e1 : low d = INF := if_pos h1
    rw [if_pos (.inr (.inl h1)), e1]
    exact ⟨rfl, rfl⟩
  simp only [Tryd.f46, go_sem, Int.reduceToNat, Int.reduceEq, Int.reduceNe, Int.reduceLT, Int.reduceLE, Int.reduceNeg, Int.reduceAdd, ↓reduceIte, ↓reduceCtorEq, Nat.reduceEqDiff, Nat.reduceAdd, Nat.reduceSub, Nat.reduceMul, Nat.reduceLeDiff, Nat.reduceLT]
  have hxl := exact_low h0 (by omega)
  refine qif_d (fun h2 => ?_) (fun h2 => ?_)
  · simp only [Tryd.f46, go_sem, Int.reduceToNat, Int.reduceEq, Int.reduceNe, Int.reduceLT, Int.reduceLE, Int.reduceNeg, Int.reduceAdd, ↓reduceIte, ↓reduceCtorEq, Nat.reduceEqDiff, Nat.reduceAdd, Nat.reduceSub, Nat.reduceMul, Nat.reduceLeDiff, Nat.reduceLT]
    have e1 : low d = 0 := by
      unfold low
      rw [if_neg (by omega), hu, show max (d.top - 52) (-1074) = -1074 by omega, flo_small h0 (by omega)]
      decide
    rw [e1, if_neg (by omega)]
    exact ⟨rfl, rfl⟩
  simp only [Tryd.f46, w1, w2, go_sem, Int.reduceToNat, Int.reduceEq, Int.reduceNe, Int.reduceLT, Int.reduceLE, Int.reduceNeg, Int.reduceAdd, ↓reduceIte, ↓reduceCtorEq, Nat.reduceEqDiff, Nat.reduceAdd, Nat.reduceSub, Nat.reduceMul, Nat.reduceLeDiff, Nat.reduceLT]
  rw [← hu]
  refine qif_d (fun h3 => ?_) (fun h3 => ?_)
  · have k3 := r_Exact (RD.fit (abs_ok hok) (show bitLen d.abs.m ≤ 1000000 from hbits) (show d.abs.fits from hf))
    have e1 : d.abs = mkD false (flo d (unitOf d.top)) (unitOf d.top) := by
      refine eq_of_at (k := unitOf d.top) (abs_ok hok) (mkD_ok _ _ _) (abs_le (by omega)) (mkD_ge _ _ (by omega) (by omega)) ?_
      rw [abs_at, natAbs_at, mkD_at _ _ (by omega) (by omega) (Int.le_refl _), Int.sub_self]
      unfold flo
      rw [show (unitOf d.top - d.e).toNat = 0 by omega]
      simp
    rw [← e1] at hxl
    rw [hxl] at k3
    rw [if_pos (show d.m = 0 ∨ 1023 < d.top ∨ unitOf d.top ≤ d.e from .inr (.inr (by omega)))]
    simp only [exPV, Dy.abs, Dy.pv, Dy.zero, DP, NN, NL] at k3
    simp only [Tryd.f46, go_sem, Int.reduceToNat, Int.reduceEq, Int.reduceNe, Int.reduceLT, Int.reduceLE, Int.reduceNeg, Int.reduceAdd, ↓reduceIte, ↓reduceCtorEq, Nat.reduceEqDiff, Nat.reduceAdd, Nat.reduceSub, Nat.reduceMul, Nat.reduceLeDiff, Nat.reduceLT]
    refine qcall_i (k3) ?_; simp only [Tryd.f46, go_sem, Int.reduceToNat, Int.reduceEq, Int.reduceNe, Int.reduceLT, Int.reduceLE, Int.reduceNeg, Int.reduceAdd, ↓reduceIte, ↓reduceCtorEq, Nat.reduceEqDiff, Nat.reduceAdd, Nat.reduceSub, Nat.reduceMul, Nat.reduceLeDiff, Nat.reduceLT]
    exact ⟨rfl, rfl⟩
  · have k4 := k_Shrn (num_bits hbits) (unitOf d.top - d.e).toNat
    have e1 : ((unitOf d.top - d.e).toNat : Int) = unitOf d.top - d.e := by omega
    rw [e1] at k4
    have e2 : d.m / 2 ^ (unitOf d.top - d.e).toNat = flo d (unitOf d.top) := by
      unfold flo
      rw [show (d.e - unitOf d.top).toNat = 0 by omega, Nat.pow_zero, Nat.mul_one]
    rw [e2] at k4
    have hbl := bitLen_mono (show flo d (unitOf d.top) ≤ d.m by rw [← e2]; exact Nat.div_le_self _ _)
    have k3 := c_Exact (num_bits (x := flo d (unitOf d.top)) (by omega)) (by omega) false (unitOf d.top)
    rw [hxl] at k3
    rw [if_neg (show ¬ (d.m = 0 ∨ 1023 < d.top ∨ unitOf d.top ≤ d.e) by omega)]
    have hle := low_le d
    have hI := INF_lt
    have w3 := wrapu (x := (low d : Int) + 1) (n := low d + 1) (by omega) (by show _ < 18446744073709551616; omega)
    simp only [exPV, DP, NN, NL] at k3 k4
    simp only [Tryd.f46, go_sem, Int.reduceToNat, Int.reduceEq, Int.reduceNe, Int.reduceLT, Int.reduceLE, Int.reduceNeg, Int.reduceAdd, ↓reduceIte, ↓reduceCtorEq, Nat.reduceEqDiff, Nat.reduceAdd, Nat.reduceSub, Nat.reduceMul, Nat.reduceLeDiff, Nat.reduceLT]
    refine qcall_i (k4) ?_; simp only [Tryd.f46, go_sem, Int.reduceToNat, Int.reduceEq, Int.reduceNe, Int.reduceLT, Int.reduceLE, Int.reduceNeg, Int.reduceAdd, ↓reduceIte, ↓reduceCtorEq, Nat.reduceEqDiff, Nat.reduceAdd, Nat.reduceSub, Nat.reduceMul, Nat.reduceLeDiff, Nat.reduceLT]
    refine qcall_i (k3) ?_; simp only [Tryd.f46, w3, go_sem, Int.reduceToNat, Int.reduceEq, Int.reduceNe, Int.reduceLT, Int.reduceLE, Int.reduceNeg, Int.reduceAdd, ↓reduceIte, ↓reduceCtorEq, Nat.reduceEqDiff, Nat.reduceAdd, Nat.reduceSub, Nat.reduceMul, Nat.reduceLeDiff, Nat.reduceLT]
    exact ⟨rfl, rfl⟩
end Go.Proofs.YtflpcgcgeffolaaDoor
