/- The contract of the law BasicRules: at whatever reads as its arguments it returns true. -/
import Derived.Test.YtejmlngnpekagaaDoorBr1
import Derived.Test.YtejmlngnpekagaaDoorBr2
import Derived.Test.YtejmlngnpekagaaDoorG7
open Go PG Go.Proofs
set_option maxRecDepth 100000
set_option linter.unusedSimpArgs false
set_option linter.unusedVariables false
namespace Go.Proofs.YtejmlngnpekagaaDoor
attribute [local go_sem] Lay2 Lay3 Lay4 Lay5 Lay6 Lay7 Lay8 Lay9 Lay10 Lay11 Lay12 Lay13 Lay14 Lay15 Lay16 Lay17 Lay18 Lay19 Lay21 Lay22 Lay23 Lay24 Lay25 Lay30 Lay33 Lay36 Lay37 Lay46 Lay47 Lay48 Lay53 Lay54 Lay55 Lay59 Lay100 Lay101 Lay127 Lay146 Lay162 Lay168 Lay169 Lay173 Lay185 Lay186 Lay187 Lay188 Lay189 Lay191 Lay192 Lay194 Lay195 Lay196 Lay199 qexec_seq qexec_skip qexec_exit qexec_ret qexec_block qexec_loop qexec_range qexec_cond qexec_region qexec_drawn qops_nil qops_none qops_some put_some put_none pblk_exit pblk_other newDsts_nil inlDsts_nil isInl sget_cons sget_nil qval_some qbool_some qgs_bool qgs_und qfree_some qgrd_true qgrd_false qif_true qif_false qval_ite qval_itn qand_true map_ite map_some' map_none' qdo_move qdo_assign qdo_binOp qdo_pick qdo_unOp qdo_convert qdo_extract qdo_field qdo_fieldAddr qdo_alloc qdo_box qdo_build qdo_buildSlice qdo_load qdo_store qdo_nilCheck qdo_makeFunc qdo_makeSlice qdo_slice qdo_indexAddr qdo_call qcont_val qcont_new qcont_st qcont_app0 qcont_app qcont_inl qcont_call njSV_val njSV_nil njSV_row njSV_ptr njSV_sub binV_val binV_nil binV_nn binV_ptr bin_np bin_nnp nilCmp bin_add bin_sub bin_mul bin_quo bin_rem bin_and bin_or bin_xor bin_andNot bin_eql bin_neq bin_lss bin_leq bin_gtr bin_geq bin_shl bin_shr bin_seql bin_sneq bin_sadd bin_beql bin_aeql bin_aneq eqAnd_some eqCells_nil eqCells_cons fieldTypes isStruct eqCell bin_bneq un_not un_neg nj_ite Nat.beq stepA stepR isNew opSV constSV RV.sv allSome E_mu E_own qkeyIn_none qkeyIn_some qkeyAt_none qkeyAt_some Bool.or_false Bool.false_or Bool.or_true Bool.true_or cst setB res resSV pstart startL killL kill1 eraL frzL svPV rvPV rvInt rvSlice frzOf close closeL pconv pbuiltin pmax2 partPV setCells fillPV zrow bound newSV PV.cells Bk.cells Bk.with SV.key pres presL_nil presL_tmp presL_cell presC2_some cellPV_ptr presC List.toList_toArray List.size_toArray List.getElem?_drop Nat.mul_one Int.toNat_natCast Nat.not_lt_zero Nat.lt_irrefl decide_true decide_false Nat.not_lt Option.some.injEq PV.lst.injEq PV.int.injEq PV.bool.injEq PV.tuple.injEq List.cons.injEq Option.map_some Option.map_none Option.bind_some Option.toList List.map_cons List.map_nil List.nil_append List.cons_append List.append_nil List.zip_cons_cons List.zip_nil_left List.zip_nil_right List.getElem?_cons_zero List.getElem?_cons_succ List.drop_zero List.drop_succ_cons List.take_succ_cons List.take_zero List.set_cons_zero List.set_cons_succ List.length_cons List.length_nil List.length_set List.replicate_one List.replicate_zero bne_self_eq_false beq_self_eq_true Nat.zero_add Nat.add_zero Nat.zero_mul Bool.false_eq_true Bool.true_eq_false Bool.not_true Bool.not_false and_true true_and false_and and_false or_false false_or or_true true_or not_true_eq_false not_false_eq_true ne_eq gt_iff_lt List.mem_cons List.not_mem_nil
attribute [local go_sem ↓] pseq_normal pseq_ret pseq_exit pblk_normal pblk_ret newDsts_cons inlDsts_cons gdst_zero gdst_succ retQ_normal retQ_ret qneed_nil qneed_cons retM_normal retM_ret endR_normal endR_ret endR_exit
attribute [local go_sem] Int.reduceToNat Int.reduceEq Int.reduceNe Int.reduceLT Int.reduceLE Int.reduceNeg Int.reduceAdd Nat.reduceEqDiff Nat.reduceAdd Nat.reduceSub Nat.reduceMul Nat.reduceLeDiff Nat.reduceLT
attribute [local go_sem ↓] reduceIte reduceCtorEq

set_option maxHeartbeats 4000000 in
theorem law_BasicRules (pvs : List PV) (h : Fits [qU64, qU64, qU8] pvs) : PC E 6 pvs (.bool true) := by
  obtain ⟨_, _, _, rfl, ⟨x, rfl, hx⟩, ⟨y, rfl, hy⟩, ⟨dr, rfl, hdr⟩⟩ := fits3 h
  obtain ⟨D, hD⟩ : ∃ D, D = dr % 4 := ⟨_, rfl⟩
  have hD4 : D < 4 := by omega
  have hd : (0 : Int) ≤ (D : Int) ∧ (D : Int) ≤ 3 := by omega
  have ka := b_Add hx hy hd
  have kb := b_Add hy hx hd
  rw [fmaS_add_comm hy hx] at kb
  have km := b_Mul hx hy hd
  have kn := b_Mul hy hx hd
  rw [fmaS_mul_comm y x] at kn
  have kdv := b_Div hx hx hd
  have kf := b_Fma hx (show 4607182418800017408 < W by decide) (show 0 < W by decide) hd
  have kq := b_Mul hx hx hd
  have hfe := fe_lt x
  have hk2 : fe x ≠ 2047 → fe x ≠ 0 → kind x = 2 := fun h1 h2 => by
    unfold kind
    rw [if_neg (by omega), if_neg (by omega), if_pos (by omega)]
  have hsq := fun (h : kind x = 2) => sqrt_sq hx h (dir := (D : Int))
  have hdiv := fun (h : kind x = 2) => divS_self h (D : Int)
  have hself := fun (h : kind x = 2) => fmaS_self hx h (D : Int)
  obtain ⟨r, hr⟩ := isq_ex (rootM (fd (fmaS x x (sgB x x) D).1))
  have kS := fun (h : (fmaS x x (sgB x x) D).1 < W) => b_Sqrt h hr hd
  have e1 : bits .and .u64 ((x / 4503599627370496 : Nat) : Int) 2047 = ((fe x : Nat) : Int) := by
    rw [show (2047 : Int) = ((2047 : Nat) : Int) from rfl, m_and _ 11 2047 (Nat.lt_of_le_of_lt (Nat.div_le_self _ _) hx) (by decide) (by decide)]
    rfl
  have e0 : (x : Int).fdiv (2 ^ min 52 64) = ((x / 4503599627370496 : Nat) : Int) := by
    rw [show ((2 : Int) ^ min 52 64) = 4503599627370496 by decide, Int.fdiv_eq_ediv_of_nonneg _ (by decide)]
    omega
  have e2 := n63 hx
  generalize fmaS x 4607182418800017408 y (D : Int) = R1 at *
  generalize fmaS x y (sgB x y) (D : Int) = R2 at *
  generalize fmaS x x (sgB x x) (D : Int) = R3 at *
  generalize fmaS x 4607182418800017408 0 (D : Int) = R4 at *
  generalize divS x x (D : Int) = R5 at *
  unfold resB at *
  have z0 : ((0 : Nat) : Int) = 0 := rfl
  simp only [u, z0] at ka kb km kn kdv kf kq kS ⊢
  rw [show ((4607182418800017408 : Nat) : Int) = 4607182418800017408 from rfl] at kf
  have w4 : (dr : Int).tmod 4 = (D : Int) := by rw [hD]; exact n_tmod dr 4
  have w6 : IntKind.wrap .i64 (D : Int) = D := wrap64 (by omega) (by omega)
  have w7 : IntKind.wrap .u8 (D : Int) = D := wrap8 (by omega)
  clear hD
  refine PC.of_body follows Tryd.func6 (by decide +kernel) rfl (by kernel_rfl) (Nat.le_of_ble_eq_true rfl) (walk ?_)
  simp only [Tryd.f6, go_sem]
  refine qcall_i (c_alive28r) ?_; simp only [Tryd.f6, w4, w6, w7, go_sem]
  refine qcall_i (ka) ?_; simp only [Tryd.f6, go_sem]
  refine qcall_i (kb) ?_; simp only [Tryd.f6, go_sem]
  refine qcall_i (km) ?_; simp only [Tryd.f6, go_sem]
  refine qcall_i (kn) ?_; simp only [Tryd.f6, Bool.and_self, go_sem]
  refine qif_d (fun h1 => ?_) (fun h1 => ?_)
  · simp only [Tryd.f6, go_sem]
  rw [e0, e1] at h1
  simp only [Tryd.f6, e0, e1, go_sem]
  refine qif_d (fun h2 => ?_) (fun h2 => ?_)
  · simp only [Tryd.f6, go_sem]
  have hk := hk2 (by omega) (by omega)
  obtain rfl := hdiv hk
  obtain rfl := hself hk
  have hsq := hsq hk
  simp only [z0] at kdv kf
  rw [show ((4607182418800017408 : Nat) : Int) = 4607182418800017408 from rfl] at kdv
  simp only [Tryd.f6, go_sem]
  refine qcall_i (kdv) ?_; simp only [Tryd.f6, go_sem]
  refine qcall_i (kf) ?_; simp only [Tryd.f6, go_sem]
  refine qcall_i (kq) ?_; simp only [Tryd.f6, Bool.and_self, go_sem]
  refine qif_d (fun h3 => ?_) (fun h3 => ?_)
  · simp only [Tryd.f6, go_sem]
  obtain ⟨hb, hs⟩ := hsq (by omega) hr
  have kS := kS hb
  rw [hs] at kS
  simp only [z0] at kS
  simp only [Tryd.f6, go_sem]
  refine qcall_i (kS) ?_; simp only [Tryd.f6, e2, Bool.and_self, go_sem]
end Go.Proofs.YtejmlngnpekagaaDoor
