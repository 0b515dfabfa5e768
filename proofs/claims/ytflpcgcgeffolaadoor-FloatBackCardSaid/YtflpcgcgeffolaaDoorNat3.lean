/- What math/bits.Len64 and TrailingZeros64, nat.Bits, nat.Low and nat.Odd hand back. -/
import Derived.Test.YtflpcgcgeffolaaDoorNat2
open Go PG Go.Proofs
set_option maxRecDepth 100000
set_option linter.unusedSimpArgs false
set_option linter.unusedVariables false
namespace Go.Proofs.YtflpcgcgeffolaaDoor
attribute [local go_sem] Lay2 Lay3 Lay4 Lay5 Lay6 Lay7 Lay8 Lay9 Lay10 Lay11 Lay12 Lay13 Lay14 Lay21 Lay22 Lay24 Lay25 Lay26 Lay27 Lay36 Lay37 Lay38 Lay39 Lay40 Lay41 Lay43 Lay46 Lay47 Lay66 Lay103 Lay105 Lay159 Lay164 Lay165 Lay166 Lay168 Lay169 Lay172 Lay173 qexec_seq qexec_skip qexec_exit qexec_ret qexec_block qexec_loop qexec_range qexec_cond qexec_region qops_nil qops_none qops_some put_some put_none pblk_exit pblk_other newDsts_nil sget_cons qval_some qbool_some qgs_bool qgs_und qfree_some qgrd_true qgrd_false qif_true qif_false qval_ite qval_itn qand_true map_ite map_some' map_none' qdo_move qdo_assign qdo_binOp qdo_pick qdo_unOp qdo_convert qdo_extract qdo_field qdo_fieldAddr qdo_alloc qdo_box qdo_build qdo_buildSlice qdo_load qdo_store qdo_nilCheck qdo_makeFunc qdo_makeSlice qdo_slice qdo_indexAddr qdo_call qcont_val qcont_new qcont_st qcont_app0 qcont_app qcont_inl qcont_call njSV_val njSV_nil njSV_row njSV_ptr njSV_sub binV_val binV_nil binV_nn nilCmp bin_add bin_sub bin_mul bin_quo bin_rem bin_and bin_or bin_xor bin_andNot bin_eql bin_neq bin_lss bin_leq bin_gtr bin_geq bin_shl bin_shr bin_seql bin_sneq bin_sadd bin_beql bin_aeql bin_aneq eqAnd_some eqCells_nil eqCells_cons fieldTypes isStruct eqCell bin_bneq un_not un_neg nj_ite Nat.beq stepA stepR isNew opSV constSV RV.sv allSome E_mu Bool.or_false Bool.false_or Bool.or_true Bool.true_or cst setB res resSV pstart startL killL kill1 eraL frzL svPV rvPV rvInt rvSlice frzOf close closeL pconv pbuiltin pmax2 partPV setCells fillPV zrow bound newSV PV.cells Bk.cells Bk.with SV.key pres presL_nil presL_tmp presL_cell presC2_some cellPV_ptr presC List.toList_toArray List.size_toArray List.getElem?_drop Nat.mul_one Int.toNat_natCast Nat.not_lt_zero Nat.lt_irrefl decide_true decide_false Nat.not_lt Option.some.injEq PV.lst.injEq PV.int.injEq PV.bool.injEq PV.tuple.injEq List.cons.injEq Option.map_some Option.map_none Option.bind_some Option.toList List.map_cons List.map_nil List.nil_append List.cons_append List.append_nil List.zip_cons_cons List.zip_nil_left List.zip_nil_right List.getElem?_cons_zero List.getElem?_cons_succ List.drop_zero List.drop_succ_cons List.take_succ_cons List.take_zero List.set_cons_zero List.set_cons_succ List.length_cons List.length_nil List.length_set List.replicate_one List.replicate_zero bne_self_eq_false beq_self_eq_true Nat.zero_add Nat.add_zero Nat.zero_mul Bool.false_eq_true Bool.true_eq_false Bool.not_true Bool.not_false and_true true_and false_and and_false or_false false_or or_true true_or not_true_eq_false not_false_eq_true ne_eq gt_iff_lt List.mem_cons List.not_mem_nil
attribute [local go_sem ↓] pseq_normal pseq_ret pseq_exit pblk_normal pblk_ret newDsts_cons gdst_zero gdst_succ retQ_normal retQ_ret retM_normal retM_ret endR_normal endR_ret endR_exit

theorem c_Len64 (x : Nat) (hx : x < W) : PC E 126 [u x] (.int .i64 (bitLen x)) := by
  refine PC.of_body follows Tryd.func126 (by decide +kernel) rfl (by kernel_rfl) (Nat.le_of_ble_eq_true rfl) (walk ?_)
  have d8 : ∀ a : Nat, ((a : Int) ≥ 256 ↔ 2 ^ 8 ≤ a) := fun a => by omega
  have d16 : ∀ a : Nat, ((a : Int) ≥ 65536 ↔ 2 ^ 16 ≤ a) := fun a => by omega
  have d32 : ∀ a : Nat, ((a : Int) ≥ 4294967296 ↔ 2 ^ 32 ≤ a) := fun a => by omega
  have lt : ∀ a k : Nat, a < W → a / 2 ^ k < W := fun a k h => Nat.lt_of_le_of_lt (Nat.div_le_self _ _) h
  have a1 := b_shr hx 32
  have a2 := b_shr hx 16
  have a3 := b_shr (lt _ 32 hx) 16
  have a4 := b_shr hx 8
  have a5 := b_shr (lt _ 32 hx) 8
  have a6 := b_shr (lt _ 16 hx) 8
  have a7 := b_shr (lt _ 16 (lt _ 32 hx)) 8
  have fin : ∀ (a : Nat) (c : Int), (a < 256) → 0 ≤ c → c ≤ 56 → (bitLen x : Int) = c + bitLen a → ∀ b : Int, b = bitLen a → IntKind.wrap .i64 (c + IntKind.wrap .i64 b) = bitLen x := by
    intro a c ha hc hc' he b hb
    have := (bitLen_le a 8).2 ha
    subst hb
    have e1 := wrap64 (i := (bitLen a : Int)) (by omega) (by omega)
    rw [e1, wrap64 (by omega) (by omega)]
    omega
  have hxb : (bitLen x : Int) = 0 + bitLen x := by omega
  simp only [Tryd.f126, u, go_sem, Int.reduceToNat, Int.reduceEq, Int.reduceNe, Int.reduceLT, Int.reduceLE, Int.reduceNeg, Int.reduceAdd, ↓reduceIte, ↓reduceCtorEq, Nat.reduceEqDiff, Nat.reduceAdd, Nat.reduceSub, Nat.reduceMul, Nat.reduceLeDiff, Nat.reduceLT]
  have big : x < 2 ^ 64 := hx
  refine qif_d (fun h1 => ?_) (fun h1 => ?_)
  all_goals rw [d32] at h1
  · simp only [Tryd.f126, u, a1, go_sem, Int.reduceToNat, Int.reduceEq, Int.reduceNe, Int.reduceLT, Int.reduceLE, Int.reduceNeg, Int.reduceAdd, ↓reduceIte, ↓reduceCtorEq, Nat.reduceEqDiff, Nat.reduceAdd, Nat.reduceSub, Nat.reduceMul, Nat.reduceLeDiff, Nat.reduceLT]
    refine qif_d (fun h2 => ?_) (fun h2 => ?_)
    all_goals rw [d16] at h2
    · simp only [Tryd.f126, u, a2, a3, wrap64, go_sem, Int.reduceToNat, Int.reduceEq, Int.reduceNe, Int.reduceLT, Int.reduceLE, Int.reduceNeg, Int.reduceAdd, ↓reduceIte, ↓reduceCtorEq, Nat.reduceEqDiff, Nat.reduceAdd, Nat.reduceSub, Nat.reduceMul, Nat.reduceLeDiff, Nat.reduceLT]
      refine qif_d (fun h3 => ?_) (fun h3 => ?_)
      all_goals rw [d8] at h3
      · simp only [Tryd.f126, u, a4, a5, a6, a7, wrap64, go_sem, Int.reduceToNat, Int.reduceEq, Int.reduceNe, Int.reduceLT, Int.reduceLE, Int.reduceNeg, Int.reduceAdd, ↓reduceIte, ↓reduceCtorEq, Nat.reduceEqDiff, Nat.reduceAdd, Nat.reduceSub, Nat.reduceMul, Nat.reduceLeDiff, Nat.reduceLT]
        have hlt : x / 2 ^ 32 / 2 ^ 16 / 2 ^ 8 < 256 := by omega
        have e8 := wrap8 hlt
        refine qdo_indexS (by simp only [Lay9]) rfl rfl ?_
        refine qval_i (idx_tab bitLen 256 (by kernel_rfl) ?_ ?_) ?_
        · rw [e8]; omega
        · rw [e8, Int.toNat_natCast]; exact hlt
        simp only [Tryd.f126, u, e8, go_sem, Int.reduceToNat, Int.reduceEq, Int.reduceNe, Int.reduceLT, Int.reduceLE, Int.reduceNeg, Int.reduceAdd, ↓reduceIte, ↓reduceCtorEq, Nat.reduceEqDiff, Nat.reduceAdd, Nat.reduceSub, Nat.reduceMul, Nat.reduceLeDiff, Nat.reduceLT]
        exact fin _ _ hlt (by decide) (by decide) (by rw [bitLen_div h1, bitLen_div h2, bitLen_div h3]; omega) _ rfl
      · simp only [Tryd.f126, u, a4, a5, a6, a7, wrap64, go_sem, Int.reduceToNat, Int.reduceEq, Int.reduceNe, Int.reduceLT, Int.reduceLE, Int.reduceNeg, Int.reduceAdd, ↓reduceIte, ↓reduceCtorEq, Nat.reduceEqDiff, Nat.reduceAdd, Nat.reduceSub, Nat.reduceMul, Nat.reduceLeDiff, Nat.reduceLT]
        have hlt : x / 2 ^ 32 / 2 ^ 16 < 256 := by omega
        have e8 := wrap8 hlt
        refine qdo_indexS (by simp only [Lay9]) rfl rfl ?_
        refine qval_i (idx_tab bitLen 256 (by kernel_rfl) ?_ ?_) ?_
        · rw [e8]; omega
        · rw [e8, Int.toNat_natCast]; exact hlt
        simp only [Tryd.f126, u, e8, go_sem, Int.reduceToNat, Int.reduceEq, Int.reduceNe, Int.reduceLT, Int.reduceLE, Int.reduceNeg, Int.reduceAdd, ↓reduceIte, ↓reduceCtorEq, Nat.reduceEqDiff, Nat.reduceAdd, Nat.reduceSub, Nat.reduceMul, Nat.reduceLeDiff, Nat.reduceLT]
        exact fin _ _ hlt (by decide) (by decide) (by rw [bitLen_div h1, bitLen_div h2]; omega) _ rfl
    · simp only [Tryd.f126, u, a2, a3, wrap64, go_sem, Int.reduceToNat, Int.reduceEq, Int.reduceNe, Int.reduceLT, Int.reduceLE, Int.reduceNeg, Int.reduceAdd, ↓reduceIte, ↓reduceCtorEq, Nat.reduceEqDiff, Nat.reduceAdd, Nat.reduceSub, Nat.reduceMul, Nat.reduceLeDiff, Nat.reduceLT]
      refine qif_d (fun h3 => ?_) (fun h3 => ?_)
      all_goals rw [d8] at h3
      · simp only [Tryd.f126, u, a4, a5, a6, a7, wrap64, go_sem, Int.reduceToNat, Int.reduceEq, Int.reduceNe, Int.reduceLT, Int.reduceLE, Int.reduceNeg, Int.reduceAdd, ↓reduceIte, ↓reduceCtorEq, Nat.reduceEqDiff, Nat.reduceAdd, Nat.reduceSub, Nat.reduceMul, Nat.reduceLeDiff, Nat.reduceLT]
        have hlt : x / 2 ^ 32 / 2 ^ 8 < 256 := by omega
        have e8 := wrap8 hlt
        refine qdo_indexS (by simp only [Lay9]) rfl rfl ?_
        refine qval_i (idx_tab bitLen 256 (by kernel_rfl) ?_ ?_) ?_
        · rw [e8]; omega
        · rw [e8, Int.toNat_natCast]; exact hlt
        simp only [Tryd.f126, u, e8, go_sem, Int.reduceToNat, Int.reduceEq, Int.reduceNe, Int.reduceLT, Int.reduceLE, Int.reduceNeg, Int.reduceAdd, ↓reduceIte, ↓reduceCtorEq, Nat.reduceEqDiff, Nat.reduceAdd, Nat.reduceSub, Nat.reduceMul, Nat.reduceLeDiff, Nat.reduceLT]
        exact fin _ _ hlt (by decide) (by decide) (by rw [bitLen_div h1, bitLen_div h3]; omega) _ rfl
      · simp only [Tryd.f126, u, a4, a5, a6, a7, wrap64, go_sem, Int.reduceToNat, Int.reduceEq, Int.reduceNe, Int.reduceLT, Int.reduceLE, Int.reduceNeg, Int.reduceAdd, ↓reduceIte, ↓reduceCtorEq, Nat.reduceEqDiff, Nat.reduceAdd, Nat.reduceSub, Nat.reduceMul, Nat.reduceLeDiff, Nat.reduceLT]
        have hlt : x / 2 ^ 32 < 256 := by omega
        have e8 := wrap8 hlt
        refine qdo_indexS (by simp only [Lay9]) rfl rfl ?_
        refine qval_i (idx_tab bitLen 256 (by kernel_rfl) ?_ ?_) ?_
        · rw [e8]; omega
        · rw [e8, Int.toNat_natCast]; exact hlt
        simp only [Tryd.f126, u, e8, go_sem, Int.reduceToNat, Int.reduceEq, Int.reduceNe, Int.reduceLT, Int.reduceLE, Int.reduceNeg, Int.reduceAdd, ↓reduceIte, ↓reduceCtorEq, Nat.reduceEqDiff, Nat.reduceAdd, Nat.reduceSub, Nat.reduceMul, Nat.reduceLeDiff, Nat.reduceLT]
        exact fin _ _ hlt (by decide) (by decide) (by rw [bitLen_div h1]; omega) _ rfl
  · simp only [Tryd.f126, u, a1, go_sem, Int.reduceToNat, Int.reduceEq, Int.reduceNe, Int.reduceLT, Int.reduceLE, Int.reduceNeg, Int.reduceAdd, ↓reduceIte, ↓reduceCtorEq, Nat.reduceEqDiff, Nat.reduceAdd, Nat.reduceSub, Nat.reduceMul, Nat.reduceLeDiff, Nat.reduceLT]
    refine qif_d (fun h2 => ?_) (fun h2 => ?_)
    all_goals rw [d16] at h2
    · simp only [Tryd.f126, u, a2, a3, wrap64, go_sem, Int.reduceToNat, Int.reduceEq, Int.reduceNe, Int.reduceLT, Int.reduceLE, Int.reduceNeg, Int.reduceAdd, ↓reduceIte, ↓reduceCtorEq, Nat.reduceEqDiff, Nat.reduceAdd, Nat.reduceSub, Nat.reduceMul, Nat.reduceLeDiff, Nat.reduceLT]
      refine qif_d (fun h3 => ?_) (fun h3 => ?_)
      all_goals rw [d8] at h3
      · simp only [Tryd.f126, u, a4, a5, a6, a7, wrap64, go_sem, Int.reduceToNat, Int.reduceEq, Int.reduceNe, Int.reduceLT, Int.reduceLE, Int.reduceNeg, Int.reduceAdd, ↓reduceIte, ↓reduceCtorEq, Nat.reduceEqDiff, Nat.reduceAdd, Nat.reduceSub, Nat.reduceMul, Nat.reduceLeDiff, Nat.reduceLT]
        have hlt : x / 2 ^ 16 / 2 ^ 8 < 256 := by omega
        have e8 := wrap8 hlt
        refine qdo_indexS (by simp only [Lay9]) rfl rfl ?_
        refine qval_i (idx_tab bitLen 256 (by kernel_rfl) ?_ ?_) ?_
        · rw [e8]; omega
        · rw [e8, Int.toNat_natCast]; exact hlt
        simp only [Tryd.f126, u, e8, go_sem, Int.reduceToNat, Int.reduceEq, Int.reduceNe, Int.reduceLT, Int.reduceLE, Int.reduceNeg, Int.reduceAdd, ↓reduceIte, ↓reduceCtorEq, Nat.reduceEqDiff, Nat.reduceAdd, Nat.reduceSub, Nat.reduceMul, Nat.reduceLeDiff, Nat.reduceLT]
        exact fin _ _ hlt (by decide) (by decide) (by rw [bitLen_div h2, bitLen_div h3]; omega) _ rfl
      · simp only [Tryd.f126, u, a4, a5, a6, a7, wrap64, go_sem, Int.reduceToNat, Int.reduceEq, Int.reduceNe, Int.reduceLT, Int.reduceLE, Int.reduceNeg, Int.reduceAdd, ↓reduceIte, ↓reduceCtorEq, Nat.reduceEqDiff, Nat.reduceAdd, Nat.reduceSub, Nat.reduceMul, Nat.reduceLeDiff, Nat.reduceLT]
        have hlt : x / 2 ^ 16 < 256 := by omega
        have e8 := wrap8 hlt
        refine qdo_indexS (by simp only [Lay9]) rfl rfl ?_
        refine qval_i (idx_tab bitLen 256 (by kernel_rfl) ?_ ?_) ?_
        · rw [e8]; omega
        · rw [e8, Int.toNat_natCast]; exact hlt
        simp only [Tryd.f126, u, e8, go_sem, Int.reduceToNat, Int.reduceEq, Int.reduceNe, Int.reduceLT, Int.reduceLE, Int.reduceNeg, Int.reduceAdd, ↓reduceIte, ↓reduceCtorEq, Nat.reduceEqDiff, Nat.reduceAdd, Nat.reduceSub, Nat.reduceMul, Nat.reduceLeDiff, Nat.reduceLT]
        exact fin _ _ hlt (by decide) (by decide) (by rw [bitLen_div h2]; omega) _ rfl
    · simp only [Tryd.f126, u, a2, a3, wrap64, go_sem, Int.reduceToNat, Int.reduceEq, Int.reduceNe, Int.reduceLT, Int.reduceLE, Int.reduceNeg, Int.reduceAdd, ↓reduceIte, ↓reduceCtorEq, Nat.reduceEqDiff, Nat.reduceAdd, Nat.reduceSub, Nat.reduceMul, Nat.reduceLeDiff, Nat.reduceLT]
      refine qif_d (fun h3 => ?_) (fun h3 => ?_)
      all_goals rw [d8] at h3
      · simp only [Tryd.f126, u, a4, a5, a6, a7, wrap64, go_sem, Int.reduceToNat, Int.reduceEq, Int.reduceNe, Int.reduceLT, Int.reduceLE, Int.reduceNeg, Int.reduceAdd, ↓reduceIte, ↓reduceCtorEq, Nat.reduceEqDiff, Nat.reduceAdd, Nat.reduceSub, Nat.reduceMul, Nat.reduceLeDiff, Nat.reduceLT]
        have hlt : x / 2 ^ 8 < 256 := by omega
        have e8 := wrap8 hlt
        refine qdo_indexS (by simp only [Lay9]) rfl rfl ?_
        refine qval_i (idx_tab bitLen 256 (by kernel_rfl) ?_ ?_) ?_
        · rw [e8]; omega
        · rw [e8, Int.toNat_natCast]; exact hlt
        simp only [Tryd.f126, u, e8, go_sem, Int.reduceToNat, Int.reduceEq, Int.reduceNe, Int.reduceLT, Int.reduceLE, Int.reduceNeg, Int.reduceAdd, ↓reduceIte, ↓reduceCtorEq, Nat.reduceEqDiff, Nat.reduceAdd, Nat.reduceSub, Nat.reduceMul, Nat.reduceLeDiff, Nat.reduceLT]
        exact fin _ _ hlt (by decide) (by decide) (by rw [bitLen_div h3]; omega) _ rfl
      · simp only [Tryd.f126, u, a4, a5, a6, a7, wrap64, go_sem, Int.reduceToNat, Int.reduceEq, Int.reduceNe, Int.reduceLT, Int.reduceLE, Int.reduceNeg, Int.reduceAdd, ↓reduceIte, ↓reduceCtorEq, Nat.reduceEqDiff, Nat.reduceAdd, Nat.reduceSub, Nat.reduceMul, Nat.reduceLeDiff, Nat.reduceLT]
        have hlt : x < 256 := by omega
        have e8 := wrap8 hlt
        refine qdo_indexS (by simp only [Lay9]) rfl rfl ?_
        refine qval_i (idx_tab bitLen 256 (by kernel_rfl) ?_ ?_) ?_
        · rw [e8]; omega
        · rw [e8, Int.toNat_natCast]; exact hlt
        simp only [Tryd.f126, u, e8, go_sem, Int.reduceToNat, Int.reduceEq, Int.reduceNe, Int.reduceLT, Int.reduceLE, Int.reduceNeg, Int.reduceAdd, ↓reduceIte, ↓reduceCtorEq, Nat.reduceEqDiff, Nat.reduceAdd, Nat.reduceSub, Nat.reduceMul, Nat.reduceLeDiff, Nat.reduceLT]
        exact fin _ _ hlt (by decide) (by decide) hxb _ rfl

theorem tz_core (x a b c j k : Nat) (h0 : x ≠ 0) (hk : k < 64) (e1 : IntKind.wrap .u64 (0 - (x : Int)) = (c : Int)) (e2 : bits .and .u64 (x : Int) (c : Int) = (a : Int)) (e3 : IntKind.wrap .u64 ((a : Int) * 285870213051353865) = (b : Int))
    (e4 : (b : Int).fdiv (2 ^ min 58 64) = (j : Int)) (hi : j < 64) (hd : deBruijn[j]? = some (.int .u8 (k : Int))) : PC E 141 [u x] (.int .i64 k) := by
  refine PC.of_body follows Tryd.func141 (by decide +kernel) rfl (by kernel_rfl) (Nat.le_of_ble_eq_true rfl) (walk ?_)
  have hG : E.G 0 = some deBruijn := rfl
  generalize deBruijn = D at hG hd
  simp only [Tryd.f141, u, go_sem, Int.reduceToNat, Int.reduceEq, Int.reduceNe, Int.reduceLT, Int.reduceLE, Int.reduceNeg, Int.reduceAdd, ↓reduceIte, ↓reduceCtorEq, Nat.reduceEqDiff, Nat.reduceAdd, Nat.reduceSub, Nat.reduceMul, Nat.reduceLeDiff, Nat.reduceLT]
  refine qif_df (by omega) ?_
  simp only [Tryd.f141, e1, e2, e3, e4, hG, go_sem, Int.reduceToNat, Int.reduceEq, Int.reduceNe, Int.reduceLT, Int.reduceLE, Int.reduceNeg, Int.reduceAdd, ↓reduceIte, ↓reduceCtorEq, Nat.reduceEqDiff, Nat.reduceAdd, Nat.reduceSub, Nat.reduceMul, Nat.reduceLeDiff, Nat.reduceLT]
  refine qand_i (by omega) ?_
  simp only [Tryd.f141, e1, e2, e3, e4, hG, go_sem, Int.reduceToNat, Int.reduceEq, Int.reduceNe, Int.reduceLT, Int.reduceLE, Int.reduceNeg, Int.reduceAdd, ↓reduceIte, ↓reduceCtorEq, Nat.reduceEqDiff, Nat.reduceAdd, Nat.reduceSub, Nat.reduceMul, Nat.reduceLeDiff, Nat.reduceLT]
  refine qval_i (congrArg (Option.map _) hd) ?_
  simp only [Tryd.f141, go_sem, Int.reduceToNat, Int.reduceEq, Int.reduceNe, Int.reduceLT, Int.reduceLE, Int.reduceNeg, Int.reduceAdd, ↓reduceIte, ↓reduceCtorEq, Nat.reduceEqDiff, Nat.reduceAdd, Nat.reduceSub, Nat.reduceMul, Nat.reduceLeDiff, Nat.reduceLT]
  exact wrap64 (by omega) (by omega)

theorem c_TrailingZeros64 (x : Nat) (hx : x < W) : PC E 141 [u x] (.int .i64 (Lib.ctz 64 x)) := by
  by_cases h0 : x = 0
  · subst h0
    refine PC.of_body follows Tryd.func141 (by decide +kernel) rfl (by kernel_rfl) (Nat.le_of_ble_eq_true rfl) (walk ?_)
    simp only [Tryd.f141, u, go_sem, Int.reduceToNat, Int.reduceEq, Int.reduceNe, Int.reduceLT, Int.reduceLE, Int.reduceNeg, Int.reduceAdd, ↓reduceIte, ↓reduceCtorEq, Nat.reduceEqDiff, Nat.reduceAdd, Nat.reduceSub, Nat.reduceMul, Nat.reduceLeDiff, Nat.reduceLT]
    refine qif_dt rfl ?_
    simp only [Tryd.f141, go_sem, Int.reduceToNat, Int.reduceEq, Int.reduceNe, Int.reduceLT, Int.reduceLE, Int.reduceNeg, Int.reduceAdd, ↓reduceIte, ↓reduceCtorEq, Nat.reduceEqDiff, Nat.reduceAdd, Nat.reduceSub, Nat.reduceMul, Nat.reduceLeDiff, Nat.reduceLT]
    rfl
  · obtain ⟨hlow, hk⟩ := Lib.lowest_bit 64 x h0 hx
    obtain ⟨hi, htab⟩ := Lib.deBruijn64_at _ hk
    have hx' : x < 18446744073709551616 := hx
    have e1 : IntKind.wrap .u64 (0 - (x : Int)) = ((18446744073709551616 - x : Nat) : Int) := by
      rw [IntKind.wrap_u64]; omega
    have e2 := b_and (a := x) (b := 18446744073709551616 - x) hx (by show 18446744073709551616 - x < 18446744073709551616; omega)
    rw [show (2 : Nat) ^ 64 = 18446744073709551616 from by decide] at hlow
    rw [hlow] at e2
    have e3 : IntKind.wrap .u64 (((2 ^ Lib.ctz 64 x : Nat) : Int) * 285870213051353865) = ((2 ^ Lib.ctz 64 x * 285870213051353865 % 18446744073709551616 : Nat) : Int) := by
      rw [IntKind.wrap_u64]; omega
    have e4 := b_shr (a := 2 ^ Lib.ctz 64 x * 285870213051353865 % 18446744073709551616) (Nat.mod_lt _ (by decide)) 58
    rw [show (2 : Nat) ^ 58 = 288230376151711744 from by decide] at e4
    refine tz_core x _ _ _ _ _ h0 hk e1 e2 e3 e4 hi ?_
    unfold deBruijn
    rw [List.getElem?_map, List.getElem?_eq_getElem (show _ < Lib.deBruijn64tab.length from hi)]
    rw [List.getD_eq_getElem?_getD, List.getElem?_eq_getElem (show _ < Lib.deBruijn64tab.length from hi), Option.getD_some] at htab
    rw [Option.map_some, htab]
end Go.Proofs.YtflpcgcgeffolaaDoor
