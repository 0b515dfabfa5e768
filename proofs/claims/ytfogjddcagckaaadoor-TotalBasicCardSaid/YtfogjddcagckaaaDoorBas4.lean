/- basic: a sum, a product; totals of two and three. -/
import Derived.Test.YtfogjddcagckaaaDoorBas3
import Derived.Test.YtfogjddcagckaaaDoorTot6
open Go PG Go.Proofs
set_option maxRecDepth 100000
set_option linter.unusedSimpArgs false
set_option linter.unusedVariables false
namespace Go.Proofs.YtfogjddcagckaaaDoor
attribute [local go_sem] Lay2 Lay3 Lay4 Lay5 Lay6 Lay7 Lay8 Lay9 Lay10 Lay11 Lay12 Lay13 Lay14 Lay15 Lay16 Lay17 Lay18 Lay19 Lay21 Lay22 Lay23 Lay24 Lay27 Lay28 Lay29 Lay35 Lay36 Lay38 Lay39 Lay40 Lay42 Lay43 Lay45 Lay46 Lay67 Lay81 Lay82 Lay83 Lay84 Lay85 Lay86 Lay87 Lay90 Lay93 Lay94 Lay105 Lay116 Lay132 Lay138 Lay145 Lay162 Lay163 Lay201 qexec_seq qexec_skip qexec_exit qexec_ret qexec_block qexec_loop qexec_range qexec_cond qexec_region qexec_drawn qops_nil qops_none qops_some put_some put_none pblk_exit pblk_other newDsts_nil sget_cons sget_nil qval_some qbool_some qgs_bool qgs_und qfree_some qgrd_true qgrd_false qif_true qif_false qval_ite qval_itn qand_true map_ite map_some' map_none' qdo_move qdo_assign qdo_binOp qdo_pick qdo_unOp qdo_convert qdo_extract qdo_field qdo_fieldAddr qdo_alloc qdo_box qdo_build qdo_buildSlice qdo_load qdo_store qdo_nilCheck qdo_makeFunc qdo_makeSlice qdo_slice qdo_indexAddr qdo_call qcont_val qcont_new qcont_st qcont_app0 qcont_app qcont_inl qcont_call njSV_val njSV_nil njSV_row njSV_ptr njSV_sub binV_val binV_nil binV_nn binV_ptr bin_np bin_nnp nilCmp bin_add bin_sub bin_mul bin_quo bin_rem bin_and bin_or bin_xor bin_andNot bin_eql bin_neq bin_lss bin_leq bin_gtr bin_geq bin_shl bin_shr bin_seql bin_sneq bin_sadd bin_beql bin_aeql bin_aneq eqAnd_some eqCells_nil eqCells_cons fieldTypes isStruct eqCell bin_bneq un_not un_neg nj_ite Nat.beq stepA stepR isNew opSV constSV RV.sv allSome E_mu E_own qkeyIn_none qkeyIn_some qkeyAt_none qkeyAt_some Bool.or_false Bool.false_or Bool.or_true Bool.true_or cst setB res resSV pstart startL killL kill1 eraL frzL svPV rvPV rvInt rvSlice frzOf close closeL pconv pbuiltin pmax2 partPV setCells fillPV zrow bound newSV PV.cells Bk.cells Bk.with SV.key pres presL_nil presL_tmp presL_cell presC2_some cellPV_ptr presC List.toList_toArray List.size_toArray List.getElem?_drop Nat.mul_one Int.toNat_natCast Nat.not_lt_zero Nat.lt_irrefl decide_true decide_false Nat.not_lt Option.some.injEq PV.lst.injEq PV.int.injEq PV.bool.injEq PV.tuple.injEq List.cons.injEq Option.map_some Option.map_none Option.bind_some Option.toList List.map_cons List.map_nil List.nil_append List.cons_append List.append_nil List.zip_cons_cons List.zip_nil_left List.zip_nil_right List.getElem?_cons_zero List.getElem?_cons_succ List.drop_zero List.drop_succ_cons List.take_succ_cons List.take_zero List.set_cons_zero List.set_cons_succ List.length_cons List.length_nil List.length_set List.replicate_one List.replicate_zero bne_self_eq_false beq_self_eq_true Nat.zero_add Nat.add_zero Nat.zero_mul Bool.false_eq_true Bool.true_eq_false Bool.not_true Bool.not_false and_true true_and false_and and_false or_false false_or or_true true_or not_true_eq_false not_false_eq_true ne_eq gt_iff_lt List.mem_cons List.not_mem_nil
attribute [local go_sem ↓] pseq_normal pseq_ret pseq_exit pblk_normal pblk_ret newDsts_cons gdst_zero gdst_succ retQ_normal retQ_ret qneed_nil qneed_cons retM_normal retM_ret endR_normal endR_ret endR_exit

theorem sgB_lt (x y : Nat) : sgB x y < W := by unfold sgB; split <;> decide
theorem b_Add {x y : Nat} (hx : x < W) (hy : y < W) {dir : Int} (hd : 0 ≤ dir ∧ dir ≤ 3) : PC E 67 [u x, u y, .int .i64 dir] (resB (fmaS x 4607182418800017408 y dir) 0) := by
  have k1 := b_Fma hx (show 4607182418800017408 < W by decide) hy hd
  simp only [u, resB] at k1 ⊢
  rw [show ((4607182418800017408 : Nat) : Int) = 4607182418800017408 from rfl] at k1
  generalize fmaS x 4607182418800017408 y dir = R at *
  refine PC.of_body follows Tryd.func67 (by decide +kernel) rfl (by kernel_rfl) (Nat.le_of_ble_eq_true rfl) (walk ?_)
  simp only [Tryd.f67, go_sem, Int.reduceToNat, Int.reduceEq, Int.reduceNe, Int.reduceLT, Int.reduceLE, Int.reduceNeg, Int.reduceAdd, ↓reduceIte, ↓reduceCtorEq, Nat.reduceEqDiff, Nat.reduceAdd, Nat.reduceSub, Nat.reduceMul, Nat.reduceLeDiff, Nat.reduceLT]
  refine qcall_i (k1) ?_; simp only [Tryd.f67, go_sem, Int.reduceToNat, Int.reduceEq, Int.reduceNe, Int.reduceLT, Int.reduceLE, Int.reduceNeg, Int.reduceAdd, ↓reduceIte, ↓reduceCtorEq, Nat.reduceEqDiff, Nat.reduceAdd, Nat.reduceSub, Nat.reduceMul, Nat.reduceLeDiff, Nat.reduceLT]
  try rfl
theorem b_Mul {x y : Nat} (hx : x < W) (hy : y < W) {dir : Int} (hd : 0 ≤ dir ∧ dir ≤ 3) : PC E 68 [u x, u y, .int .i64 dir] (resB (fmaS x y (sgB x y) dir) 0) := by
  have k1 := b_Fma hx hy (sgB_lt x y) hd
  have k2 := b_sign hx hy
  simp only [u, resB] at k1 k2 ⊢
  generalize fmaS x y (sgB x y) dir = R at *
  generalize sgB x y = s at *
  refine PC.of_body follows Tryd.func68 (by decide +kernel) rfl (by kernel_rfl) (Nat.le_of_ble_eq_true rfl) (walk ?_)
  simp only [Tryd.f68, go_sem, Int.reduceToNat, Int.reduceEq, Int.reduceNe, Int.reduceLT, Int.reduceLE, Int.reduceNeg, Int.reduceAdd, ↓reduceIte, ↓reduceCtorEq, Nat.reduceEqDiff, Nat.reduceAdd, Nat.reduceSub, Nat.reduceMul, Nat.reduceLeDiff, Nat.reduceLT]
  refine qcall_i (k2) ?_; simp only [Tryd.f68, go_sem, Int.reduceToNat, Int.reduceEq, Int.reduceNe, Int.reduceLT, Int.reduceLE, Int.reduceNeg, Int.reduceAdd, ↓reduceIte, ↓reduceCtorEq, Nat.reduceEqDiff, Nat.reduceAdd, Nat.reduceSub, Nat.reduceMul, Nat.reduceLeDiff, Nat.reduceLT]
  refine qcall_i (k1) ?_; simp only [Tryd.f68, go_sem, Int.reduceToNat, Int.reduceEq, Int.reduceNe, Int.reduceLT, Int.reduceLE, Int.reduceNeg, Int.reduceAdd, ↓reduceIte, ↓reduceCtorEq, Nat.reduceEqDiff, Nat.reduceAdd, Nat.reduceSub, Nat.reduceMul, Nat.reduceLeDiff, Nat.reduceLT]
  try rfl

/-- Numbers that are 0 or none are worth 0, others are not. -/
theorem fd0_m (b : Nat) : (fd0 b).m = 0 ↔ kind b = 0 ∨ 3 ≤ kind b := by
  have hfe := fe_lt b
  unfold fd0
  by_cases h : fe b < 2047
  · rw [if_pos h]
    have hk : kind b < 3 := by unfold kind; (repeat' split) <;> omega
    have : (fd b).m = 0 ↔ fe b = 0 ∧ ff b = 0 := by
      unfold fd
      rw [mkD_m0]
      unfold fm
      split <;> omega
    rw [this]
    unfold kind
    (repeat' split) <;> omega
  · rw [if_neg h]
    have : 3 ≤ kind b := by unfold kind; (repeat' split) <;> omega
    simp [Dy.zero, this]

theorem fmaS_eq (x y z : Nat) (dir : Int) {a b c : Nat} (ha : kind x = a) (hb : kind y = b) (hc : kind z = c) {P Z : Dy} (hP : mulS (fd0 x) (fd0 y) = P) (hZ : fd0 z = Z) {sg zt : Nat} (h1 : sgB x y = sg) (h2 : z &&& 9223372036854775808 = zt) :
    fmaS x y z dir = if a = 5 ∨ b = 5 ∨ c = 5 then (9221120237041090560, 16)
  else if a = 4 ∨ b = 4 ∨ c = 4 then (9221120237041090560, 0)
  else if (a = 3 ∨ b = 3) ∧ (a = 0 ∨ b = 0) then (9221120237041090560, 16)
  else if (a = 3 ∨ b = 3) ∧ c = 3 ∧ zt ≠ sg then (9221120237041090560, 16)
  else if a = 3 ∨ b = 3 then (9218868437227405312 ||| sg, 0)
  else if c = 3 then (z, 0)
  else if (addS P Z).m ≠ 0 then toS (addS P Z) false dir
  else if P.m = 0 ∧ zt = sg then (sg, 0)
  else if dir = 3 then (9223372036854775808, 0) else (0, 0) := by
  subst ha hb hc hP hZ h1 h2
  rfl
theorem inf_z {z : Nat} (hz : z < W) (h : kind z = 3) : z = if fs z = true then 18442240474082181120 else 9218868437227405312 := by
  have eW : W = 18446744073709551616 := by decide
  have h1 : fe z = 2047 ∧ ff z = 0 := by
    have := fe_lt z
    unfold kind at h
    repeat' split at h
    all_goals first | omega | cases h
  obtain ⟨h2, h3⟩ := h1
  unfold fe at h2
  unfold ff at h3
  unfold fs
  rw [eW] at hz
  split
  · rename_i h; simp at h; omega
  · rename_i h; simp at h; omega
set_option maxHeartbeats 4000000 in
theorem worth_fma {x y z : Nat} (hz : z < W) (dir : Int) (hN : (kind x ≤ 3 ∧ kind y ≤ 3 ∧ kind z ≤ 3) ∨ kind y = 2) : worthS (addT (mulT .zero x y) z) dir = fmaS x y z dir := by
  have hlp := prod_limK x y
  have hlz := fd0_lim z
  have hPm : (mulS (fd0 x) (fd0 y)).m = 0 ↔ (kind x = 0 ∨ 3 ≤ kind x) ∨ (kind y = 0 ∨ 3 ≤ kind y) := by
    rw [← fd0_m, ← fd0_m]
    unfold mulS
    split
    · simp [*, Dy.zero]
    · rename_i h
      simp only [not_or] at h
      simp [h.1, h.2]
      exact Nat.mul_ne_zero h.1 h.2
  have hZm := fd0_m z
  have fP := hlp.fits (by rw [K0_eq]; decide)
  have fZ := hlz.fits (by decide)
  have s0 : addS .zero (mulS (fd0 x) (fd0 y)) = mulS (fd0 x) (fd0 y) := addS_zl hlp.ok Dy.zero_fits fP rfl
  have s1 : addS .zero (fd0 z) = fd0 z := addS_zl hlz.ok Dy.zero_fits fZ rfl
  have s2 : (fd0 z).m = 0 → addS (mulS (fd0 x) (fd0 y)) (fd0 z) = mulS (fd0 x) (fd0 y) := addS_zr hlp.ok fP fZ
  have s3 : (mulS (fd0 x) (fd0 y)).m = 0 → addS (mulS (fd0 x) (fd0 y)) (fd0 z) = fd0 z := addS_zl hlz.ok fP fZ
  have hsg : sgB x y = if (fs x != fs y) = true then 9223372036854775808 else 0 := rfl
  have hzt : z &&& 9223372036854775808 = if fs z = true then 9223372036854775808 else 0 := by
    rw [and_top hz]; unfold fs; simp
  have hiz := inf_z hz
  have hx5 := kind_le x
  have hy5 := kind_le y
  have hz5 := kind_le z
  have o1 : (9218868437227405312 ||| 9223372036854775808 : Nat) = 18442240474082181120 := by decide
  have o2 : (9218868437227405312 ||| 0 : Nat) = 9218868437227405312 := by decide
  rw [fmaS_eq x y z dir rfl rfl rfl rfl rfl hsg hzt]
  unfold addT mulT
  clear hsg hzt hlp hlz fP fZ
  generalize kind x = a at *
  generalize kind y = b at *
  generalize kind z = c at *
  generalize mulS (fd0 x) (fd0 y) = P at *
  generalize fd0 z = Z at *
  generalize (fs x != fs y) = n1 at *
  generalize fs z = n2 at *
  have ha : a = 0 ∨ a = 1 ∨ a = 2 ∨ a = 3 ∨ a = 4 ∨ a = 5 := by omega
  have hb : b = 0 ∨ b = 1 ∨ b = 2 ∨ b = 3 ∨ b = 4 ∨ b = 5 := by omega
  have hc : c = 0 ∨ c = 1 ∨ c = 2 ∨ c = 3 ∨ c = 4 ∨ c = 5 := by omega
  clear hx5 hy5 hz5
  have z0 : Dy.zero.m = 0 := rfl
  rcases ha with rfl | rfl | rfl | rfl | rfl | rfl <;> rcases hb with rfl | rfl | rfl | rfl | rfl | rfl <;> (try (exfalso; omega)) <;> rcases hc with rfl | rfl | rfl | rfl | rfl | rfl <;> (try (exfalso; omega))
  all_goals
    clear hN
    simp at hPm hZm
    try simp only [hPm, hZm, true_implies, forall_const] at s2 s3
    try simp only [true_implies, forall_const] at hiz
    cases n1 <;> cases n2 <;> simp_all [Tt.take, kindT, worthS, Tt.zero]
end Go.Proofs.YtfogjddcagckaaaDoor
