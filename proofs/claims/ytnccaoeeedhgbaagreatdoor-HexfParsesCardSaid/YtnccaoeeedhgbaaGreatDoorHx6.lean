/- planimeterref33.Parse. -/
import Derived.Test.YtnccaoeeedhgbaaGreatDoorHx5
import Derived.Test.YtnccaoeeedhgbaaGreatDoorHx3
import Derived.Test.YtnccaoeeedhgbaaGreatDoorI5
open Go PG Go.Proofs
set_option maxRecDepth 100000
set_option linter.unusedSimpArgs false
set_option linter.unusedVariables false
namespace Go.Proofs.YtnccaoeeedhgbaaGreatDoor
attribute [local go_sem] Lay2 Lay3 Lay4 Lay5 Lay6 Lay7 Lay8 Lay9 Lay10 Lay11 Lay12 Lay13 Lay14 Lay15 Lay16 Lay17 Lay18 Lay19 Lay21 Lay23 Lay24 Lay25 Lay26 Lay27 Lay28 Lay31 Lay32 Lay33 Lay34 Lay37 Lay38 Lay39 Lay42 Lay46 Lay47 Lay54 Lay65 Lay66 Lay96 Lay97 Lay106 Lay136 Lay147 Lay148 Lay152 Lay160 Lay161 Lay187 Lay201 Lay202 Lay203 Lay204 Lay212 Lay215 Lay220 Lay221 Lay234 Lay244 Lay247 Lay248 Lay249 Lay250 Lay251 Lay252 Lay253 Lay254 Lay255 Lay256 Lay257 Lay258 Lay259 Lay260 Lay261 Lay262 Lay264 Lay265 qexec_seq qexec_skip qexec_exit qexec_ret qexec_block qexec_loop qexec_range qexec_cond qexec_region qexec_drawn qops_nil qops_none qops_some put_some put_none pblk_exit pblk_other newDsts_nil inlDsts_nil isInl sget_cons sget_nil qval_some qbool_some qgs_bool qgs_und qfree_some qgrd_true qgrd_false qif_true qif_false qval_ite qval_itn qand_true map_ite map_some' map_none' qdo_move qdo_assign qdo_binOp qdo_pick qdo_unOp qdo_convert qdo_extract qdo_field qdo_fieldAddr qdo_alloc qdo_box qdo_build qdo_buildSlice qdo_load qdo_store qdo_nilCheck qdo_makeFunc qdo_makeSlice qdo_slice qdo_indexAddr qdo_call qcont_val qcont_new qcont_st qcont_app0 qcont_app qcont_inl qcont_call njSV_val njSV_nil njSV_row njSV_ptr njSV_sub binV_val binV_nil binV_nn binV_ptr bin_np bin_nnp nilCmp bin_add bin_sub bin_mul bin_quo bin_rem bin_and bin_or bin_xor bin_andNot bin_eql bin_neq bin_lss bin_leq bin_gtr bin_geq bin_shl bin_shr bin_seql bin_sneq bin_sadd bin_beql bin_aeql bin_aneq eqAnd_some eqCells_nil eqCells_cons fieldTypes isStruct eqCell bin_bneq un_not un_neg nj_ite Nat.beq stepA stepR isNew opSV constSV RV.sv allSome E_mu E_own qkeyIn_none qkeyIn_some qkeyAt_none qkeyAt_some Bool.or_false Bool.false_or Bool.or_true Bool.true_or cst setB res resSV pstart startL killL kill1 eraL frzL svPV rvPV rvInt rvSlice rvBytes frzOf close closeL pconv pbuiltin pmax2 partPV setCells fillPV zrow bound newSV PV.cells Bk.cells Bk.with SV.key pres presL_nil presL_tmp presL_cell presC2_some cellPV_ptr presC List.toList_toArray List.size_toArray List.getElem?_drop Nat.mul_one Int.toNat_natCast Nat.not_lt_zero Nat.lt_irrefl decide_true decide_false Nat.not_lt Option.some.injEq PV.lst.injEq PV.int.injEq PV.bool.injEq PV.tuple.injEq List.cons.injEq Option.map_some Option.map_none Option.bind_some Option.toList List.map_cons List.map_nil List.nil_append List.cons_append List.append_nil List.zip_cons_cons List.zip_nil_left List.zip_nil_right List.getElem?_cons_zero List.getElem?_cons_succ List.drop_zero List.drop_succ_cons List.take_succ_cons List.take_zero List.set_cons_zero List.set_cons_succ List.length_cons List.length_nil List.length_set List.replicate_one List.replicate_zero bne_self_eq_false beq_self_eq_true Nat.zero_add Nat.add_zero Nat.zero_mul Bool.false_eq_true Bool.true_eq_false Bool.not_true Bool.not_false and_true true_and false_and and_false or_false false_or or_true true_or not_true_eq_false not_false_eq_true ne_eq gt_iff_lt List.mem_cons List.not_mem_nil
attribute [local go_sem ↓] pseq_normal pseq_ret pseq_exit pblk_normal pblk_ret newDsts_cons inlDsts_cons gdst_zero gdst_succ retQ_normal retQ_ret qneed_nil qneed_cons retM_normal retM_ret endR_normal endR_ret endR_exit
attribute [local go_sem] Int.reduceToNat Int.reduceEq Int.reduceNe Int.reduceLT Int.reduceLE Int.reduceNeg Int.reduceAdd Nat.reduceEqDiff Nat.reduceAdd Nat.reduceSub Nat.reduceMul Nat.reduceLeDiff Nat.reduceLT
attribute [local go_sem ↓] reduceIte reduceCtorEq

/-- The sign bit, set where it was not. -/
theorem or_top {b : Nat} (hb : b < W) : b ||| 9223372036854775808 = if b < 9223372036854775808 then b + 9223372036854775808 else b := by
  have hW : W = 18446744073709551616 := rfl
  rw [Nat.or_comm]
  split
  · rename_i h
    have := Nat.two_pow_add_eq_or_of_lt (i := 63) (b := b) (by omega) 1
    rw [Nat.mul_one] at this
    rw [show (9223372036854775808 : Nat) = 2 ^ 63 from rfl, ← this]
    omega
  · obtain ⟨r, rfl⟩ : ∃ r, b = 9223372036854775808 + r := ⟨b - 9223372036854775808, by omega⟩
    have := Nat.two_pow_add_eq_or_of_lt (i := 63) (b := r) (by omega) 1
    rw [Nat.mul_one, show (2 : Nat) ^ 63 = 9223372036854775808 from rfl] at this
    rw [this, ← Nat.or_assoc, Nat.or_self]
theorem c_33Parse {l : List UInt8} (hl : l.length < 9223372036854775807) {dir : Int} (hd : 0 ≤ dir ∧ dir ≤ 3) : PC E 16 [TX l, .int .i64 dir] (.tuple [.agg [.int .u64 ((hexP l dir).1.1 : Nat), .int .i64 ((hexP l dir).1.2 : Nat)], .int .i64 (hexP l dir).2]) := by
  have k2 := c_Read hl
  have z0 : ((0 : Nat) : Int) = 0 := rfl
  have n1 : ((9221120237041090560 : Nat) : Int) = 9221120237041090560 := rfl
  have n2 : ((9218868437227405312 : Nat) : Int) = 9218868437227405312 := rfl
  have n3 : ((18442240474082181120 : Nat) : Int) = 18442240474082181120 := rfl
  unfold hexP
  by_cases hw : isW l = true
  · rw [if_pos hw]
    unfold isW at hw
    rw [Bool.or_eq_true, Bool.or_eq_true, decide_eq_true_eq, decide_eq_true_eq, decide_eq_true_eq] at hw
    unfold wordV
    by_cases h1 : l = wInf
    · subst h1
      have e1 : wordV wInf = 9218868437227405312 := rfl
      unfold wordV at e1
      rw [e1]
      simp only [TX, n1, n2, n3, z0]
      refine PC.of_body follows Tryz.func16 (by decide +kernel) rfl (by kernel_rfl) (Nat.le_of_ble_eq_true rfl) (walk ?_)
      simp only [Tryz.f16, B8_size, B8_cut, B8_eq, B8_mk, B8_app, Int.toNat_natCast, go_sem]
      refine qif_dt rfl ?_
      simp only [Tryz.f16, B8_size, B8_cut, B8_eq, B8_mk, B8_app, Int.toNat_natCast, go_sem]
      try rfl
    by_cases h2 : l = wNeg
    · subst h2
      have e1 : wordV wNeg = 18442240474082181120 := rfl
      unfold wordV at e1
      rw [e1]
      simp only [TX, n1, n2, n3, z0]
      refine PC.of_body follows Tryz.func16 (by decide +kernel) rfl (by kernel_rfl) (Nat.le_of_ble_eq_true rfl) (walk ?_)
      simp only [Tryz.f16, B8_size, B8_cut, B8_eq, B8_mk, B8_app, Int.toNat_natCast, go_sem]
      refine qif_df (by decide) ?_
      simp only [Tryz.f16, B8_size, B8_cut, B8_eq, B8_mk, B8_app, Int.toNat_natCast, go_sem]
      refine qif_dt rfl ?_
      simp only [Tryz.f16, B8_size, B8_cut, B8_eq, B8_mk, B8_app, Int.toNat_natCast, go_sem]
      try rfl
    have h3 : l = wNaN := by rcases hw with h | h | h; exact h; exact absurd h h1; exact absurd h h2
    subst h3
    have e1 : wordV wNaN = 9221120237041090560 := rfl
    unfold wordV at e1
    rw [e1]
    simp only [TX, n1, n2, n3, z0]
    refine PC.of_body follows Tryz.func16 (by decide +kernel) rfl (by kernel_rfl) (Nat.le_of_ble_eq_true rfl) (walk ?_)
    simp only [Tryz.f16, B8_size, B8_cut, B8_eq, B8_mk, B8_app, Int.toNat_natCast, go_sem]
    refine qif_df (by decide) ?_
    simp only [Tryz.f16, B8_size, B8_cut, B8_eq, B8_mk, B8_app, Int.toNat_natCast, go_sem]
    refine qif_df (by decide) ?_
    simp only [Tryz.f16, B8_size, B8_cut, B8_eq, B8_mk, B8_app, Int.toNat_natCast, go_sem]
    refine qif_dt rfl ?_
    simp only [Tryz.f16, B8_size, B8_cut, B8_eq, B8_mk, B8_app, Int.toNat_natCast, go_sem]
    try rfl
  rw [if_neg hw]
  unfold isW at hw
  rw [Bool.or_eq_true, Bool.or_eq_true, decide_eq_true_eq, decide_eq_true_eq, decide_eq_true_eq] at hw
  have h1 : ¬ l = [105, 110, 102] := fun h => hw (.inr (.inl h))
  have h2 : ¬ l = [45, 105, 110, 102] := fun h => hw (.inr (.inr h))
  have h3 : ¬ l = [110, 97, 110] := fun h => hw (.inl h)
  by_cases ho : hexOk l = true
  case neg =>
    rw [if_neg ho] at k2 ⊢
    have zp : Dy.zero.nv = .agg [.bool false, .lst 0 [], .int .i64 0] := by
      show DP false (VN 0) 0 = _
      rw [VN_0]; rfl
    rw [zp] at k2
    simp only [TX, z0] at k2 ⊢
    refine PC.of_body follows Tryz.func16 (by decide +kernel) rfl (by kernel_rfl) (Nat.le_of_ble_eq_true rfl) (walk ?_)
    simp only [Tryz.f16, B8_size, B8_cut, B8_eq, B8_mk, B8_app, Int.toNat_natCast, go_sem]
    refine qif_df h1 ?_
    simp only [Tryz.f16, B8_size, B8_cut, B8_eq, B8_mk, B8_app, Int.toNat_natCast, go_sem]
    refine qif_df h2 ?_
    simp only [Tryz.f16, B8_size, B8_cut, B8_eq, B8_mk, B8_app, Int.toNat_natCast, go_sem]
    refine qif_df h3 ?_
    simp only [Tryz.f16, B8_size, B8_cut, B8_eq, B8_mk, B8_app, Int.toNat_natCast, go_sem]
    refine qcall_i (k2) ?_; simp only [Tryz.f16, B8_size, B8_cut, B8_eq, B8_mk, B8_app, Int.toNat_natCast, go_sem]
    try rfl
  rw [if_pos ho] at k2 ⊢
  have hb := hexM_bits ho
  have hf := hexD_fits ho
  have hbd : bitLen (hexD l).m ≤ 1600 := Nat.le_trans (mkD_bits _ _ _) hb
  have k3 := c_7To (d := hexD l) (mkD_ok _ _ _) (by omega) ⟨by have := hf.1; omega, by have := hf.2; omega⟩ false hd.1 hd.2
  have hW := toS_W3 (hexD l) false dir
  have eo := or_top hW
  generalize toS (hexD l) false dir = T at *
  generalize hexD l = d at *
  generalize hexN l = bn at *
  obtain ⟨b, f⟩ := T
  dsimp only at *
  rw [eo]
  simp only [TX, u, z0, Dy.nv, DP] at k2 k3 ⊢
  refine PC.of_body follows Tryz.func16 (by decide +kernel) rfl (by kernel_rfl) (Nat.le_of_ble_eq_true rfl) (walk ?_)
  simp only [Tryz.f16, B8_size, B8_cut, B8_eq, B8_mk, B8_app, Int.toNat_natCast, go_sem]
  refine qif_df h1 ?_
  simp only [Tryz.f16, B8_size, B8_cut, B8_eq, B8_mk, B8_app, Int.toNat_natCast, go_sem]
  refine qif_df h2 ?_
  simp only [Tryz.f16, B8_size, B8_cut, B8_eq, B8_mk, B8_app, Int.toNat_natCast, go_sem]
  refine qif_df h3 ?_
  simp only [Tryz.f16, B8_size, B8_cut, B8_eq, B8_mk, B8_app, Int.toNat_natCast, go_sem]
  refine qcall_i (k2) ?_; simp only [Tryz.f16, B8_size, B8_cut, B8_eq, B8_mk, B8_app, Int.toNat_natCast, go_sem]
  refine qcall_i (k3) ?_; simp only [Tryz.f16, B8_size, B8_cut, B8_eq, B8_mk, B8_app, Int.toNat_natCast, go_sem]
  cases bn
  · simp only [Tryz.f16, B8_size, B8_cut, B8_eq, B8_mk, B8_app, Int.toNat_natCast, go_sem]
    try rfl
  · simp only [Tryz.f16, B8_size, B8_cut, B8_eq, B8_mk, B8_app, Int.toNat_natCast, go_sem]
    have wq : b < 9223372036854775808 → IntKind.wrap .u64 ((b : Int) + 9223372036854775808) = ((b + 9223372036854775808 : Nat) : Int) := fun h => by rw [IntKind.wrap_u64]; omega
    refine qif_d (fun h => ?_) (fun h => ?_)
    · rw [if_pos (show b < 9223372036854775808 by omega)]
      simp only [Tryz.f16, B8_size, B8_cut, B8_eq, B8_mk, B8_app, Int.toNat_natCast, wq (by omega), go_sem]
      try rfl
    · rw [if_neg (show ¬ b < 9223372036854775808 by omega)]
      simp only [Tryz.f16, B8_size, B8_cut, B8_eq, B8_mk, B8_app, Int.toNat_natCast, go_sem]
      try rfl
end Go.Proofs.YtnccaoeeedhgbaaGreatDoor
