/- The bits of a small whole number: law 20's helper whole. -/
import Derived.Test.YtflpcgcgeffolaaDoorLSpA
import Derived.Test.YtflpcgcgeffolaaDoorG7
open Go PG Go.Proofs
set_option maxRecDepth 100000
set_option linter.unusedSimpArgs false
set_option linter.unusedVariables false
namespace Go.Proofs.YtflpcgcgeffolaaDoor
attribute [local go_sem] Lay2 Lay3 Lay4 Lay5 Lay6 Lay7 Lay8 Lay9 Lay10 Lay11 Lay12 Lay13 Lay14 Lay21 Lay22 Lay24 Lay25 Lay26 Lay27 Lay36 Lay37 Lay38 Lay39 Lay40 Lay41 Lay43 Lay46 Lay47 Lay66 Lay103 Lay105 Lay159 Lay164 Lay165 Lay166 Lay168 Lay169 Lay172 Lay173 qexec_seq qexec_skip qexec_exit qexec_ret qexec_block qexec_loop qexec_range qexec_cond qexec_region qexec_drawn qops_nil qops_none qops_some put_some put_none pblk_exit pblk_other newDsts_nil sget_cons sget_nil qval_some qbool_some qgs_bool qgs_und qfree_some qgrd_true qgrd_false qif_true qif_false qval_ite qval_itn qand_true map_ite map_some' map_none' qdo_move qdo_assign qdo_binOp qdo_pick qdo_unOp qdo_convert qdo_extract qdo_field qdo_fieldAddr qdo_alloc qdo_box qdo_build qdo_buildSlice qdo_load qdo_store qdo_nilCheck qdo_makeFunc qdo_makeSlice qdo_slice qdo_indexAddr qdo_call qcont_val qcont_new qcont_st qcont_app0 qcont_app qcont_inl qcont_call njSV_val njSV_nil njSV_row njSV_ptr njSV_sub binV_val binV_nil binV_nn nilCmp bin_add bin_sub bin_mul bin_quo bin_rem bin_and bin_or bin_xor bin_andNot bin_eql bin_neq bin_lss bin_leq bin_gtr bin_geq bin_shl bin_shr bin_seql bin_sneq bin_sadd bin_beql bin_aeql bin_aneq eqAnd_some eqCells_nil eqCells_cons fieldTypes isStruct eqCell bin_bneq un_not un_neg nj_ite Nat.beq stepA stepR isNew opSV constSV RV.sv allSome E_mu E_own qkeyIn_none qkeyIn_some qkeyAt_none qkeyAt_some Bool.or_false Bool.false_or Bool.or_true Bool.true_or cst setB res resSV pstart startL killL kill1 eraL frzL svPV rvPV rvInt rvSlice frzOf close closeL pconv pbuiltin pmax2 partPV setCells fillPV zrow bound newSV PV.cells Bk.cells Bk.with SV.key pres presL_nil presL_tmp presL_cell presC2_some cellPV_ptr presC List.toList_toArray List.size_toArray List.getElem?_drop Nat.mul_one Int.toNat_natCast Nat.not_lt_zero Nat.lt_irrefl decide_true decide_false Nat.not_lt Option.some.injEq PV.lst.injEq PV.int.injEq PV.bool.injEq PV.tuple.injEq List.cons.injEq Option.map_some Option.map_none Option.bind_some Option.toList List.map_cons List.map_nil List.nil_append List.cons_append List.append_nil List.zip_cons_cons List.zip_nil_left List.zip_nil_right List.getElem?_cons_zero List.getElem?_cons_succ List.drop_zero List.drop_succ_cons List.take_succ_cons List.take_zero List.set_cons_zero List.set_cons_succ List.length_cons List.length_nil List.length_set List.replicate_one List.replicate_zero bne_self_eq_false beq_self_eq_true Nat.zero_add Nat.add_zero Nat.zero_mul Bool.false_eq_true Bool.true_eq_false Bool.not_true Bool.not_false and_true true_and false_and and_false or_false false_or or_true true_or not_true_eq_false not_false_eq_true ne_eq gt_iff_lt List.mem_cons List.not_mem_nil
attribute [local go_sem ↓] pseq_normal pseq_ret pseq_exit pblk_normal pblk_ret newDsts_cons gdst_zero gdst_succ retQ_normal retQ_ret qneed_nil qneed_cons retM_normal retM_ret endR_normal endR_ret endR_exit

/-- The bits of a whole number that isn't 0. -/
def wbits (k : Int) : Nat := withS (decide (k < 0)) (packB (k.natAbs * 2 ^ (53 - bitLen k.natAbs)) ((bitLen k.natAbs : Int) - 53))

theorem c_whole0 (f : Nat) (hf : f < 2047) : PC E 21 [.int .i64 0, u f] (.tuple [u 0, .bool (decide (f = 0))]) := by
  refine PC.of_body follows Tryd.func21 (by decide +kernel) rfl (by kernel_rfl) (Nat.le_of_ble_eq_true rfl) (walk ?_)
  have e0 : IntKind.wrap .u64 0 = 0 := by decide
  simp only [Tryd.f21, u, e0, go_sem, Int.reduceToNat, Int.reduceEq, Int.reduceNe, Int.reduceLT, Int.reduceLE, Int.reduceNeg, Int.reduceAdd, ↓reduceIte, ↓reduceCtorEq, Nat.reduceEqDiff, Nat.reduceAdd, Nat.reduceSub, Nat.reduceMul, Nat.reduceLeDiff, Nat.reduceLT]
  refine qif_d (fun g1 => ?_) (fun g1 => ?_)
  · simp only [Tryd.f21, u, go_sem, Int.reduceToNat, Int.reduceEq, Int.reduceNe, Int.reduceLT, Int.reduceLE, Int.reduceNeg, Int.reduceAdd, ↓reduceIte, ↓reduceCtorEq, Nat.reduceEqDiff, Nat.reduceAdd, Nat.reduceSub, Nat.reduceMul, Nat.reduceLeDiff, Nat.reduceLT]
    exact ⟨rfl, decide_eq_decide.2 (by omega)⟩
  · simp only [Tryd.f21, u, go_sem, Int.reduceToNat, Int.reduceEq, Int.reduceNe, Int.reduceLT, Int.reduceLE, Int.reduceNeg, Int.reduceAdd, ↓reduceIte, ↓reduceCtorEq, Nat.reduceEqDiff, Nat.reduceAdd, Nat.reduceSub, Nat.reduceMul, Nat.reduceLeDiff, Nat.reduceLT]
    refine qif_d (fun g2 => ?_) (fun g2 => ?_)
    · simp only [Tryd.f21, u, go_sem, Int.reduceToNat, Int.reduceEq, Int.reduceNe, Int.reduceLT, Int.reduceLE, Int.reduceNeg, Int.reduceAdd, ↓reduceIte, ↓reduceCtorEq, Nat.reduceEqDiff, Nat.reduceAdd, Nat.reduceSub, Nat.reduceMul, Nat.reduceLeDiff, Nat.reduceLT]
      exact ⟨rfl, decide_eq_decide.2 (by omega)⟩
    · simp only [Tryd.f21, u, go_sem, Int.reduceToNat, Int.reduceEq, Int.reduceNe, Int.reduceLT, Int.reduceLE, Int.reduceNeg, Int.reduceAdd, ↓reduceIte, ↓reduceCtorEq, Nat.reduceEqDiff, Nat.reduceAdd, Nat.reduceSub, Nat.reduceMul, Nat.reduceLeDiff, Nat.reduceLT]
      exact ⟨rfl, decide_eq_decide.2 (by omega)⟩

theorem c_whole (k : Int) (h0 : k ≠ 0) (h1 : -1000 < k) (h2 : k < 1000) (f : Nat) (hf : f < 2047) :
    PC E 21 [.int .i64 k, u f] (if f + 1 = 1023 + bitLen k.natAbs then .tuple [u (wbits k), .bool true] else .tuple [u 0, .bool false]) := by
  refine PC.of_body follows Tryd.func21 (by decide +kernel) rfl (by kernel_rfl) (Nat.le_of_ble_eq_true rfl) (walk ?_)
  have hz : k.natAbs < 1000 := by omega
  have hz0 : k.natAbs ≠ 0 := by omega
  have hbp := bitLen_pos hz0
  have hb10 : bitLen k.natAbs ≤ 10 := (bitLen_le _ 10).2 (by omega)
  have a1 : k < 0 → IntKind.wrap .u64 (IntKind.wrap .i64 (0 - k)) = (k.natAbs : Int) := fun h => by
    rw [wrap64 (by omega) (by omega), show 0 - k = (k.natAbs : Int) by omega]; exact wrap_nat64 (Nat.lt_trans hz (by decide))
  have a2 : ¬ k < 0 → IntKind.wrap .u64 k = (k.natAbs : Int) := fun h => by
    have := wrap_nat64 (a := k.natAbs) (Nat.lt_trans hz (by decide))
    rwa [show (k.natAbs : Int) = k by omega] at this ⊢
  have hq : f - 1023 = bitLen k.natAbs - 1 → k.natAbs / 2 ^ (f - 1023) = 1 := fun hh => by
    rw [hh]
    have l1 := (bitLen_le k.natAbs (bitLen k.natAbs)).1 (Nat.le_refl _)
    have l2 : ¬ k.natAbs < 2 ^ (bitLen k.natAbs - 1) := fun hc => by have := (bitLen_le _ _).2 hc; omega
    rw [show bitLen k.natAbs = (bitLen k.natAbs - 1) + 1 by omega, Nat.pow_succ] at l1
    generalize 2 ^ (bitLen k.natAbs - 1) = P at *
    have hP : 0 < P := by omega
    have := Nat.div_lt_of_lt_mul (show k.natAbs < P * 2 from l1)
    have := (Nat.le_div_iff_mul_le hP).2 (show 1 * P ≤ k.natAbs by omega)
    omega
  have hq2 : k.natAbs / 2 ^ (f - 1023) = 1 → bitLen k.natAbs = f - 1023 + 1 := fun hh => by
    have hP := Nat.two_pow_pos (f - 1023)
    have l1 : k.natAbs < 2 ^ (f - 1023) * 2 := by
      have := Nat.lt_mul_div_succ k.natAbs hP
      rw [hh] at this; exact this
    have l2 : 2 ^ (f - 1023) ≤ k.natAbs := by
      have := Nat.div_mul_le_self k.natAbs (2 ^ (f - 1023))
      rw [hh] at this; omega
    have l3 := (bitLen_le k.natAbs (f - 1023 + 1)).2 (by rw [Nat.pow_succ]; exact l1)
    have l4 : ¬ bitLen k.natAbs ≤ f - 1023 := fun hc => by have := (bitLen_le _ _).1 hc; omega
    omega
  have a4 : 1023 ≤ f → IntKind.wrap .u64 ((f : Int) - 1023) = ((f - 1023 : Nat) : Int) := fun h => by
    rw [show (f : Int) - 1023 = ((f - 1023 : Nat) : Int) by omega]; exact wrap_nat64 (by show _ < 18446744073709551616; omega)
  have a5 := b_shr (a := k.natAbs) (Nat.lt_trans hz (by decide)) (f - 1023)
  have hfin : k.natAbs / 2 ^ (f - 1023) = 1 → 1023 ≤ f → f ≤ 1034 →
      IntKind.wrap .u64 ((f : Int) * 2 ^ (min 52 64)) = ((f * 4503599627370496 : Nat) : Int) ∧
      IntKind.wrap .u64 ((1 : Int) * 2 ^ (min (f - 1023) 64)) = ((2 ^ (f - 1023) : Nat) : Int) ∧
      IntKind.wrap .u64 ((k.natAbs : Int) - ((2 ^ (f - 1023) : Nat) : Int)) = ((k.natAbs - 2 ^ (f - 1023) : Nat) : Int) ∧
      IntKind.wrap .u64 (52 - ((f - 1023 : Nat) : Int)) = ((52 - (f - 1023) : Nat) : Int) ∧
      IntKind.wrap .u64 (((k.natAbs - 2 ^ (f - 1023) : Nat) : Int) * 2 ^ (min (52 - (f - 1023)) 64)) = (((k.natAbs - 2 ^ (f - 1023)) * 2 ^ (52 - (f - 1023)) : Nat) : Int) ∧
      (k.natAbs - 2 ^ (f - 1023)) * 2 ^ (52 - (f - 1023)) < 4503599627370496 ∧
      packB (k.natAbs * 2 ^ (53 - bitLen k.natAbs)) ((bitLen k.natAbs : Int) - 53) = (k.natAbs - 2 ^ (f - 1023)) * 2 ^ (52 - (f - 1023)) + f * 4503599627370496 := by
    intro g1 g2 g3
    have hbl := hq2 g1
    have hP := Nat.two_pow_pos (f - 1023)
    have l1 : k.natAbs < 2 ^ (f - 1023) * 2 := by
      have := Nat.lt_mul_div_succ k.natAbs hP
      rw [g1] at this; exact this
    have l2 : 2 ^ (f - 1023) ≤ k.natAbs := by
      have := Nat.div_mul_le_self k.natAbs (2 ^ (f - 1023))
      rw [g1] at this; omega
    have hPQ : 2 ^ (f - 1023) * 2 ^ (52 - (f - 1023)) = 4503599627370496 := by rw [← Nat.pow_add, show f - 1023 + (52 - (f - 1023)) = 52 by omega]
    have hle : 2 ^ (f - 1023) < 18446744073709551616 := by omega
    have hG : (k.natAbs - 2 ^ (f - 1023)) * 2 ^ (52 - (f - 1023)) < 4503599627370496 := by
      rw [← hPQ]
      exact Nat.mul_lt_mul_of_pos_right (by omega) (Nat.two_pow_pos _)
    refine ⟨?_, ?_, ?_, ?_, ?_, hG, ?_⟩
    · rw [b_shl f 52, show (2 ^ 52 : Nat) = 4503599627370496 by decide, Nat.mod_eq_of_lt (show f * 4503599627370496 < W by show _ < 18446744073709551616; omega)]
    · have := b_shl 1 (f - 1023)
      rw [Nat.one_mul, Nat.mod_eq_of_lt (show 2 ^ (f - 1023) < W from hle)] at this
      exact this
    · rw [show (k.natAbs : Int) - ((2 ^ (f - 1023) : Nat) : Int) = ((k.natAbs - 2 ^ (f - 1023) : Nat) : Int) by omega]
      exact wrap_nat64 (by show _ < 18446744073709551616; omega)
    · rw [show (52 : Int) - ((f - 1023 : Nat) : Int) = ((52 - (f - 1023) : Nat) : Int) by omega]
      exact wrap_nat64 (by show _ < 18446744073709551616; omega)
    · rw [b_shl, Nat.mod_eq_of_lt (Nat.lt_trans hG (by decide))]
    · rw [hbl, show 53 - (f - 1023 + 1) = 52 - (f - 1023) by omega]
      have hM : k.natAbs * 2 ^ (52 - (f - 1023)) = (k.natAbs - 2 ^ (f - 1023)) * 2 ^ (52 - (f - 1023)) + 4503599627370496 := by
        rw [Nat.sub_mul, hPQ]
        have : 2 ^ (f - 1023) * 2 ^ (52 - (f - 1023)) ≤ k.natAbs * 2 ^ (52 - (f - 1023)) := Nat.mul_le_mul_right _ l2
        omega
      generalize (k.natAbs - 2 ^ (f - 1023)) * 2 ^ (52 - (f - 1023)) = G at *
      rw [hM]
      unfold packB
      rw [if_pos (by omega)]
      omega
  have or2 : ∀ a G : Nat, a < 4096 → G < 4503599627370496 → bits .or .u64 ((a * 4503599627370496 : Nat) : Int) (G : Int) = ((G + a * 4503599627370496 : Nat) : Int) := fun a G ha hG => by
    have h := b_or (a := a * 4503599627370496) (b := G) (by show _ < 18446744073709551616; omega) (Nat.lt_trans hG (by decide))
    refine h.trans ?_
    have := Nat.two_pow_add_eq_or_of_lt (i := 52) (b := G) hG a
    rw [Nat.mul_comm a, show (4503599627370496 : Nat) = 2 ^ 52 by decide, ← this, Nat.add_comm]
  have or0 : f < 2047 → bits .or .u64 0 ((f * 4503599627370496 : Nat) : Int) = ((f * 4503599627370496 : Nat) : Int) := fun h => by
    have h := b_or (a := 0) (b := f * 4503599627370496) (by decide) (by show _ < 18446744073709551616; omega)
    rw [Nat.zero_or] at h
    exact h
  have or1 : f < 2047 → bits .or .u64 9223372036854775808 ((f * 4503599627370496 : Nat) : Int) = (((f + 2048) * 4503599627370496 : Nat) : Int) := fun h => by
    have h := b_or (a := 9223372036854775808) (b := f * 4503599627370496) (by decide) (by show _ < 18446744073709551616; omega)
    refine h.trans ?_
    have := Nat.two_pow_add_eq_or_of_lt (i := 63) (b := f * 4503599627370496) (by omega) 1
    rw [Nat.mul_one] at this
    rw [show (9223372036854775808 : Nat) = 2 ^ 63 by decide, ← this]
    omega
  have or0' := or0 hf
  have or1' := or1 hf
  simp only [Tryd.f21, u, go_sem, Int.reduceToNat, Int.reduceEq, Int.reduceNe, Int.reduceLT, Int.reduceLE, Int.reduceNeg, Int.reduceAdd, ↓reduceIte, ↓reduceCtorEq, Nat.reduceEqDiff, Nat.reduceAdd, Nat.reduceSub, Nat.reduceMul, Nat.reduceLeDiff, Nat.reduceLT]
  refine qif_d (fun g0 => ?_) (fun g0 => ?_)
  · have a3 := a1 g0
    simp only [Tryd.f21, u, a3, go_sem, Int.reduceToNat, Int.reduceEq, Int.reduceNe, Int.reduceLT, Int.reduceLE, Int.reduceNeg, Int.reduceAdd, ↓reduceIte, ↓reduceCtorEq, Nat.reduceEqDiff, Nat.reduceAdd, Nat.reduceSub, Nat.reduceMul, Nat.reduceLeDiff, Nat.reduceLT]
    refine qif_d (fun g1 => ?_) (fun g1 => ?_)
    · simp only [Tryd.f21, u, go_sem, Int.reduceToNat, Int.reduceEq, Int.reduceNe, Int.reduceLT, Int.reduceLE, Int.reduceNeg, Int.reduceAdd, ↓reduceIte, ↓reduceCtorEq, Nat.reduceEqDiff, Nat.reduceAdd, Nat.reduceSub, Nat.reduceMul, Nat.reduceLeDiff, Nat.reduceLT]
      refine qif_df h0 ?_
      simp only [Tryd.f21, u, go_sem, Int.reduceToNat, Int.reduceEq, Int.reduceNe, Int.reduceLT, Int.reduceLE, Int.reduceNeg, Int.reduceAdd, ↓reduceIte, ↓reduceCtorEq, Nat.reduceEqDiff, Nat.reduceAdd, Nat.reduceSub, Nat.reduceMul, Nat.reduceLeDiff, Nat.reduceLT]
      rw [if_neg (by omega)]; rfl
    simp only [Tryd.f21, u, go_sem, Int.reduceToNat, Int.reduceEq, Int.reduceNe, Int.reduceLT, Int.reduceLE, Int.reduceNeg, Int.reduceAdd, ↓reduceIte, ↓reduceCtorEq, Nat.reduceEqDiff, Nat.reduceAdd, Nat.reduceSub, Nat.reduceMul, Nat.reduceLeDiff, Nat.reduceLT]
    refine qif_d (fun g2 => ?_) (fun g2 => ?_)
    · simp only [Tryd.f21, u, go_sem, Int.reduceToNat, Int.reduceEq, Int.reduceNe, Int.reduceLT, Int.reduceLE, Int.reduceNeg, Int.reduceAdd, ↓reduceIte, ↓reduceCtorEq, Nat.reduceEqDiff, Nat.reduceAdd, Nat.reduceSub, Nat.reduceMul, Nat.reduceLeDiff, Nat.reduceLT]
      refine qif_df h0 ?_
      simp only [Tryd.f21, u, go_sem, Int.reduceToNat, Int.reduceEq, Int.reduceNe, Int.reduceLT, Int.reduceLE, Int.reduceNeg, Int.reduceAdd, ↓reduceIte, ↓reduceCtorEq, Nat.reduceEqDiff, Nat.reduceAdd, Nat.reduceSub, Nat.reduceMul, Nat.reduceLeDiff, Nat.reduceLT]
      rw [if_neg (by omega)]; rfl
    simp only [Tryd.f21, u, go_sem, Int.reduceToNat, Int.reduceEq, Int.reduceNe, Int.reduceLT, Int.reduceLE, Int.reduceNeg, Int.reduceAdd, ↓reduceIte, ↓reduceCtorEq, Nat.reduceEqDiff, Nat.reduceAdd, Nat.reduceSub, Nat.reduceMul, Nat.reduceLeDiff, Nat.reduceLT]
    refine qif_df (show ¬ (k.natAbs : Int) = 0 by omega) ?_
    simp only [Tryd.f21, u, a4 (by omega), a5, go_sem, Int.reduceToNat, Int.reduceEq, Int.reduceNe, Int.reduceLT, Int.reduceLE, Int.reduceNeg, Int.reduceAdd, ↓reduceIte, ↓reduceCtorEq, Nat.reduceEqDiff, Nat.reduceAdd, Nat.reduceSub, Nat.reduceMul, Nat.reduceLeDiff, Nat.reduceLT]
    refine qand_i (by omega) ?_
    simp only [Tryd.f21, u, a5, go_sem, Int.reduceToNat, Int.reduceEq, Int.reduceNe, Int.reduceLT, Int.reduceLE, Int.reduceNeg, Int.reduceAdd, ↓reduceIte, ↓reduceCtorEq, Nat.reduceEqDiff, Nat.reduceAdd, Nat.reduceSub, Nat.reduceMul, Nat.reduceLeDiff, Nat.reduceLT]
    refine qif_d (fun g3 => ?_) (fun g3 => ?_)
    · simp only [Tryd.f21, u, go_sem, Int.reduceToNat, Int.reduceEq, Int.reduceNe, Int.reduceLT, Int.reduceLE, Int.reduceNeg, Int.reduceAdd, ↓reduceIte, ↓reduceCtorEq, Nat.reduceEqDiff, Nat.reduceAdd, Nat.reduceSub, Nat.reduceMul, Nat.reduceLeDiff, Nat.reduceLT]
      have hne : ¬ f + 1 = 1023 + bitLen k.natAbs := fun hh => by
        have h5 := hq (by omega)
        omega
      rw [if_neg hne]; rfl
    have hz1 : k.natAbs / 2 ^ (f - 1023) = 1 := by omega
    have hbl : f + 1 = 1023 + bitLen k.natAbs := by
      have h6 := hq2 hz1
      omega
    obtain ⟨n1, n2, n3, n4, n5, n6, n7⟩ := hfin hz1 (by omega) (by omega)
    rw [if_pos hbl, show wbits k = (k.natAbs - 2 ^ (f - 1023)) * 2 ^ (52 - (f - 1023)) + (f + 2048) * 4503599627370496 by unfold wbits; rw [decide_eq_true g0, n7]; show _ + 9223372036854775808 = _; omega]
    simp only [Tryd.f21, u, n1, n2, n3, n4, n5, or1', or2 (f + 2048) _ (by omega) n6, go_sem, Int.reduceToNat, Int.reduceEq, Int.reduceNe, Int.reduceLT, Int.reduceLE, Int.reduceNeg, Int.reduceAdd, ↓reduceIte, ↓reduceCtorEq, Nat.reduceEqDiff, Nat.reduceAdd, Nat.reduceSub, Nat.reduceMul, Nat.reduceLeDiff, Nat.reduceLT]
    refine qand_i (by omega) ?_
    simp only [Tryd.f21, u, n1, n2, n3, n4, n5, or1', or2 (f + 2048) _ (by omega) n6, go_sem, Int.reduceToNat, Int.reduceEq, Int.reduceNe, Int.reduceLT, Int.reduceLE, Int.reduceNeg, Int.reduceAdd, ↓reduceIte, ↓reduceCtorEq, Nat.reduceEqDiff, Nat.reduceAdd, Nat.reduceSub, Nat.reduceMul, Nat.reduceLeDiff, Nat.reduceLT]
    refine qand_i (by omega) ?_
    simp only [Tryd.f21, u, n1, n2, n3, n4, n5, or1', or2 (f + 2048) _ (by omega) n6, go_sem, Int.reduceToNat, Int.reduceEq, Int.reduceNe, Int.reduceLT, Int.reduceLE, Int.reduceNeg, Int.reduceAdd, ↓reduceIte, ↓reduceCtorEq, Nat.reduceEqDiff, Nat.reduceAdd, Nat.reduceSub, Nat.reduceMul, Nat.reduceLeDiff, Nat.reduceLT]
  · have a3 := a2 g0
    simp only [Tryd.f21, u, a3, go_sem, Int.reduceToNat, Int.reduceEq, Int.reduceNe, Int.reduceLT, Int.reduceLE, Int.reduceNeg, Int.reduceAdd, ↓reduceIte, ↓reduceCtorEq, Nat.reduceEqDiff, Nat.reduceAdd, Nat.reduceSub, Nat.reduceMul, Nat.reduceLeDiff, Nat.reduceLT]
    refine qif_d (fun g1 => ?_) (fun g1 => ?_)
    · simp only [Tryd.f21, u, go_sem, Int.reduceToNat, Int.reduceEq, Int.reduceNe, Int.reduceLT, Int.reduceLE, Int.reduceNeg, Int.reduceAdd, ↓reduceIte, ↓reduceCtorEq, Nat.reduceEqDiff, Nat.reduceAdd, Nat.reduceSub, Nat.reduceMul, Nat.reduceLeDiff, Nat.reduceLT]
      refine qif_df h0 ?_
      simp only [Tryd.f21, u, go_sem, Int.reduceToNat, Int.reduceEq, Int.reduceNe, Int.reduceLT, Int.reduceLE, Int.reduceNeg, Int.reduceAdd, ↓reduceIte, ↓reduceCtorEq, Nat.reduceEqDiff, Nat.reduceAdd, Nat.reduceSub, Nat.reduceMul, Nat.reduceLeDiff, Nat.reduceLT]
      rw [if_neg (by omega)]; rfl
    simp only [Tryd.f21, u, go_sem, Int.reduceToNat, Int.reduceEq, Int.reduceNe, Int.reduceLT, Int.reduceLE, Int.reduceNeg, Int.reduceAdd, ↓reduceIte, ↓reduceCtorEq, Nat.reduceEqDiff, Nat.reduceAdd, Nat.reduceSub, Nat.reduceMul, Nat.reduceLeDiff, Nat.reduceLT]
    refine qif_d (fun g2 => ?_) (fun g2 => ?_)
    · simp only [Tryd.f21, u, go_sem, Int.reduceToNat, Int.reduceEq, Int.reduceNe, Int.reduceLT, Int.reduceLE, Int.reduceNeg, Int.reduceAdd, ↓reduceIte, ↓reduceCtorEq, Nat.reduceEqDiff, Nat.reduceAdd, Nat.reduceSub, Nat.reduceMul, Nat.reduceLeDiff, Nat.reduceLT]
      refine qif_df h0 ?_
      simp only [Tryd.f21, u, go_sem, Int.reduceToNat, Int.reduceEq, Int.reduceNe, Int.reduceLT, Int.reduceLE, Int.reduceNeg, Int.reduceAdd, ↓reduceIte, ↓reduceCtorEq, Nat.reduceEqDiff, Nat.reduceAdd, Nat.reduceSub, Nat.reduceMul, Nat.reduceLeDiff, Nat.reduceLT]
      rw [if_neg (by omega)]; rfl
    simp only [Tryd.f21, u, go_sem, Int.reduceToNat, Int.reduceEq, Int.reduceNe, Int.reduceLT, Int.reduceLE, Int.reduceNeg, Int.reduceAdd, ↓reduceIte, ↓reduceCtorEq, Nat.reduceEqDiff, Nat.reduceAdd, Nat.reduceSub, Nat.reduceMul, Nat.reduceLeDiff, Nat.reduceLT]
    refine qif_df (show ¬ (k.natAbs : Int) = 0 by omega) ?_
    simp only [Tryd.f21, u, a4 (by omega), a5, go_sem, Int.reduceToNat, Int.reduceEq, Int.reduceNe, Int.reduceLT, Int.reduceLE, Int.reduceNeg, Int.reduceAdd, ↓reduceIte, ↓reduceCtorEq, Nat.reduceEqDiff, Nat.reduceAdd, Nat.reduceSub, Nat.reduceMul, Nat.reduceLeDiff, Nat.reduceLT]
    refine qand_i (by omega) ?_
    simp only [Tryd.f21, u, a5, go_sem, Int.reduceToNat, Int.reduceEq, Int.reduceNe, Int.reduceLT, Int.reduceLE, Int.reduceNeg, Int.reduceAdd, ↓reduceIte, ↓reduceCtorEq, Nat.reduceEqDiff, Nat.reduceAdd, Nat.reduceSub, Nat.reduceMul, Nat.reduceLeDiff, Nat.reduceLT]
    refine qif_d (fun g3 => ?_) (fun g3 => ?_)
    · simp only [Tryd.f21, u, go_sem, Int.reduceToNat, Int.reduceEq, Int.reduceNe, Int.reduceLT, Int.reduceLE, Int.reduceNeg, Int.reduceAdd, ↓reduceIte, ↓reduceCtorEq, Nat.reduceEqDiff, Nat.reduceAdd, Nat.reduceSub, Nat.reduceMul, Nat.reduceLeDiff, Nat.reduceLT]
      have hne : ¬ f + 1 = 1023 + bitLen k.natAbs := fun hh => by
        have h5 := hq (by omega)
        omega
      rw [if_neg hne]; rfl
    have hz1 : k.natAbs / 2 ^ (f - 1023) = 1 := by omega
    have hbl : f + 1 = 1023 + bitLen k.natAbs := by
      have h6 := hq2 hz1
      omega
    obtain ⟨n1, n2, n3, n4, n5, n6, n7⟩ := hfin hz1 (by omega) (by omega)
    rw [if_pos hbl, show wbits k = (k.natAbs - 2 ^ (f - 1023)) * 2 ^ (52 - (f - 1023)) + f * 4503599627370496 by unfold wbits; rw [decide_eq_false g0, n7]; rfl]
    simp only [Tryd.f21, u, n1, n2, n3, n4, n5, or0', or2 f _ (by omega) n6, go_sem, Int.reduceToNat, Int.reduceEq, Int.reduceNe, Int.reduceLT, Int.reduceLE, Int.reduceNeg, Int.reduceAdd, ↓reduceIte, ↓reduceCtorEq, Nat.reduceEqDiff, Nat.reduceAdd, Nat.reduceSub, Nat.reduceMul, Nat.reduceLeDiff, Nat.reduceLT]
    refine qand_i (by omega) ?_
    simp only [Tryd.f21, u, n1, n2, n3, n4, n5, or0', or2 f _ (by omega) n6, go_sem, Int.reduceToNat, Int.reduceEq, Int.reduceNe, Int.reduceLT, Int.reduceLE, Int.reduceNeg, Int.reduceAdd, ↓reduceIte, ↓reduceCtorEq, Nat.reduceEqDiff, Nat.reduceAdd, Nat.reduceSub, Nat.reduceMul, Nat.reduceLeDiff, Nat.reduceLT]
    refine qand_i (by omega) ?_
    simp only [Tryd.f21, u, n1, n2, n3, n4, n5, or0', or2 f _ (by omega) n6, go_sem, Int.reduceToNat, Int.reduceEq, Int.reduceNe, Int.reduceLT, Int.reduceLE, Int.reduceNeg, Int.reduceAdd, ↓reduceIte, ↓reduceCtorEq, Nat.reduceEqDiff, Nat.reduceAdd, Nat.reduceSub, Nat.reduceMul, Nat.reduceLeDiff, Nat.reduceLT]
end Go.Proofs.YtflpcgcgeffolaaDoor
