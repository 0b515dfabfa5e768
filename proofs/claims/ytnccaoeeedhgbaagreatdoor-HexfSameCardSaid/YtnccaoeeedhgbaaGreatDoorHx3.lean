/- hexf.Parse. -/
import Derived.Test.YtnccaoeeedhgbaaGreatDoorHx2
open Go PG Go.Proofs
set_option maxRecDepth 100000
set_option linter.unusedSimpArgs false
set_option linter.unusedVariables false
namespace Go.Proofs.YtnccaoeeedhgbaaGreatDoor
attribute [local go_sem] Lay2 Lay3 Lay4 Lay5 Lay6 Lay7 Lay8 Lay9 Lay10 Lay11 Lay12 Lay13 Lay14 Lay15 Lay16 Lay17 Lay18 Lay19 Lay21 Lay23 Lay24 Lay25 Lay26 Lay27 Lay28 Lay31 Lay32 Lay33 Lay34 Lay37 Lay38 Lay39 Lay42 Lay46 Lay47 Lay54 Lay65 Lay66 Lay96 Lay97 Lay106 Lay136 Lay147 Lay148 Lay152 Lay160 Lay161 Lay187 Lay201 Lay202 Lay203 Lay204 Lay212 Lay215 Lay220 Lay221 Lay234 Lay244 Lay247 Lay248 Lay249 Lay250 Lay251 Lay252 Lay253 Lay254 Lay255 Lay256 Lay257 Lay258 Lay259 Lay260 Lay261 Lay262 Lay264 Lay265 qexec_seq qexec_skip qexec_exit qexec_ret qexec_block qexec_loop qexec_range qexec_cond qexec_region qexec_drawn qops_nil qops_none qops_some put_some put_none pblk_exit pblk_other newDsts_nil inlDsts_nil isInl sget_cons sget_nil qval_some qbool_some qgs_bool qgs_und qfree_some qgrd_true qgrd_false qif_true qif_false qval_ite qval_itn qand_true map_ite map_some' map_none' qdo_move qdo_assign qdo_binOp qdo_pick qdo_unOp qdo_convert qdo_extract qdo_field qdo_fieldAddr qdo_alloc qdo_box qdo_build qdo_buildSlice qdo_load qdo_store qdo_nilCheck qdo_makeFunc qdo_makeSlice qdo_slice qdo_indexAddr qdo_call qcont_val qcont_new qcont_st qcont_app0 qcont_app qcont_inl qcont_call njSV_val njSV_nil njSV_row njSV_ptr njSV_sub binV_val binV_nil binV_nn binV_ptr bin_np bin_nnp nilCmp bin_add bin_sub bin_mul bin_quo bin_rem bin_and bin_or bin_xor bin_andNot bin_eql bin_neq bin_lss bin_leq bin_gtr bin_geq bin_shl bin_shr bin_seql bin_sneq bin_sadd bin_beql bin_aeql bin_aneq eqAnd_some eqCells_nil eqCells_cons fieldTypes isStruct eqCell bin_bneq un_not un_neg nj_ite Nat.beq stepA stepR isNew opSV constSV RV.sv allSome E_mu E_own qkeyIn_none qkeyIn_some qkeyAt_none qkeyAt_some Bool.or_false Bool.false_or Bool.or_true Bool.true_or cst setB res resSV pstart startL killL kill1 eraL frzL svPV rvPV rvInt rvSlice rvBytes frzOf close closeL pconv pbuiltin pmax2 partPV setCells fillPV zrow bound newSV PV.cells Bk.cells Bk.with SV.key pres presL_nil presL_tmp presL_cell presC2_some cellPV_ptr presC List.toList_toArray List.size_toArray List.getElem?_drop Nat.mul_one Int.toNat_natCast Nat.not_lt_zero Nat.lt_irrefl decide_true decide_false Nat.not_lt Option.some.injEq PV.lst.injEq PV.int.injEq PV.bool.injEq PV.tuple.injEq List.cons.injEq Option.map_some Option.map_none Option.bind_some Option.toList List.map_cons List.map_nil List.nil_append List.cons_append List.append_nil List.zip_cons_cons List.zip_nil_left List.zip_nil_right List.getElem?_cons_zero List.getElem?_cons_succ List.drop_zero List.drop_succ_cons List.take_succ_cons List.take_zero List.set_cons_zero List.set_cons_succ List.length_cons List.length_nil List.length_set List.replicate_one List.replicate_zero bne_self_eq_false beq_self_eq_true Nat.zero_add Nat.add_zero Nat.zero_mul Bool.false_eq_true Bool.true_eq_false Bool.not_true Bool.not_false and_true true_and false_and and_false or_false false_or or_true true_or not_true_eq_false not_false_eq_true ne_eq gt_iff_lt List.mem_cons List.not_mem_nil
attribute [local go_sem ↓] pseq_normal pseq_ret pseq_exit pblk_normal pblk_ret newDsts_cons inlDsts_cons gdst_zero gdst_succ retQ_normal retQ_ret qneed_nil qneed_cons retM_normal retM_ret endR_normal endR_ret endR_exit
attribute [local go_sem] Int.reduceToNat Int.reduceEq Int.reduceNe Int.reduceLT Int.reduceLE Int.reduceNeg Int.reduceAdd Nat.reduceEqDiff Nat.reduceAdd Nat.reduceSub Nat.reduceMul Nat.reduceLeDiff Nat.reduceLT
attribute [local go_sem ↓] reduceIte reduceCtorEq

/-- The three words. -/
def wNaN : List UInt8 := [110, 97, 110]
def wInf : List UInt8 := [105, 110, 102]
def wNeg : List UInt8 := [45, 105, 110, 102]
def isW (l : List UInt8) : Bool := decide (l = wNaN) || (decide (l = wInf) || decide (l = wNeg))
def wordV (l : List UInt8) : Nat := if l = wNaN then 9221120237041090560 else if l = wInf then 9218868437227405312 else if l = wNeg then 18442240474082181120 else 0
theorem h_word (l : List UInt8) : PC E 31 [TX l] (.tuple [.int .u64 (wordV l : Nat), .bool (isW l)]) := by
  unfold wordV isW wNaN wInf wNeg
  simp only [TX]
  refine PC.of_body follows Tryz.func31 (by decide +kernel) rfl (by kernel_rfl) (Nat.le_of_ble_eq_true rfl) (walk ?_)
  simp only [Tryz.f31, B8_size, B8_cut, B8_eq, B8_mk, B8_app, Int.toNat_natCast, go_sem]
  refine qif_d (fun h1 => ?_) (fun h1 => ?_)
  · simp only [Tryz.f31, B8_size, B8_cut, B8_eq, B8_mk, B8_app, Int.toNat_natCast, go_sem]
    rw [decide_eq_true h1, if_pos h1]
    exact ⟨rfl, rfl⟩
  simp only [Tryz.f31, B8_size, B8_cut, B8_eq, B8_mk, B8_app, Int.toNat_natCast, go_sem]
  rw [decide_eq_false h1, if_neg h1]
  refine qif_d (fun h2 => ?_) (fun h2 => ?_)
  · simp only [Tryz.f31, B8_size, B8_cut, B8_eq, B8_mk, B8_app, Int.toNat_natCast, go_sem]
    rw [decide_eq_true h2, if_pos h2]
    exact ⟨rfl, rfl⟩
  simp only [Tryz.f31, B8_size, B8_cut, B8_eq, B8_mk, B8_app, Int.toNat_natCast, go_sem]
  rw [decide_eq_false h2, if_neg h2]
  refine qif_d (fun h3 => ?_) (fun h3 => ?_)
  · simp only [Tryz.f31, B8_size, B8_cut, B8_eq, B8_mk, B8_app, Int.toNat_natCast, go_sem]
    rw [decide_eq_true h3, if_pos h3]
    exact ⟨rfl, rfl⟩
  simp only [Tryz.f31, B8_size, B8_cut, B8_eq, B8_mk, B8_app, Int.toNat_natCast, go_sem]
  rw [decide_eq_false h3, if_neg h3]
  exact ⟨rfl, rfl⟩
/-- Bits, flags and error of what is parsed. -/
def hexP (l : List UInt8) (dir : Int) : (Nat × Nat) × Int :=
  if isW l = true then ((wordV l, 0), 0)
  else if hexOk l = true then ((if hexN l = true then (toS (hexD l) false dir).1 ||| 9223372036854775808 else (toS (hexD l) false dir).1, (toS (hexD l) false dir).2), 0)
  else ((0, 0), 4)
def resH (r : (Nat × Nat) × Int) : PV := .tuple [.agg [.int .u64 (r.1.1 : Nat), .int .u8 (r.1.2 : Nat), .int .i64 0], .int .i64 r.2]
theorem mag_le3 {d : Dy} (h0 : d.m ≠ 0) (more : Bool) (dir : Int) : (magS d more dir).1 ≤ INF := by
  by_cases ht : 1023 < d.top
  · unfold magS
    rw [if_pos ht]
    dsimp only
    split <;> decide
  · unfold magS
    rw [if_neg ht]
    have h := (vS_fd h0 (by omega) (awayS dir d.s (decide (low d % 2 = 1)) (hf d (unitOf d.top)) (bl d (unitOf d.top) || more))).1
    unfold vS at h
    revert h
    generalize (if awayS dir d.s (decide (low d % 2 = 1)) (hf d (unitOf d.top)) (bl d (unitOf d.top) || more) = true then low d + 1 else low d) = v
    intro h
    split
    · exact Nat.le_refl _
    · exact h
theorem toS_W3 (d : Dy) (more : Bool) (dir : Int) : (toS d more dir).1 < W := by
  have hI : INF = 9218868437227405312 := rfl
  unfold toS
  split
  · decide
  · rename_i h0
    have h1 := mag_le3 h0 more dir
    dsimp only
    exact (withS_fields d.s (by omega)).1
theorem h_ParseX {l : List UInt8} {dir : Int} (hd : ¬ (0 ≤ dir ∧ dir ≤ 3)) : PC E 11 [TX l, .int .i64 dir] (resH ((0, 0), 1)) := by
  have z0 : ((0 : Nat) : Int) = 0 := rfl
  simp only [TX, resH, z0]
  refine PC.of_body follows Tryz.func11 (by decide +kernel) rfl (by kernel_rfl) (Nat.le_of_ble_eq_true rfl) (walk ?_)
  simp only [Tryz.f11, go_sem]
  repeat' first
    | ((with_reducible refine qif_d (fun h => ?_) (fun h => ?_)) <;> first | (exfalso; omega) | simp only [Tryz.f11, go_sem])
    | rfl
theorem h_Parse {l : List UInt8} (hl : l.length < 9223372036854775807) {dir : Int} (hd : 0 ≤ dir ∧ dir ≤ 3) : PC E 11 [TX l, .int .i64 dir] (resH (hexP l dir)) := by
  have k1 := h_word l
  have k2 := h_Dyad hl
  have z0 : ((0 : Nat) : Int) = 0 := rfl
  unfold hexP resH
  by_cases hw : isW l = true
  · rw [if_pos hw]
    rw [hw] at k1
    generalize wordV l = wv at *
    simp only [TX, z0] at k1 ⊢
    refine PC.of_body follows Tryz.func11 (by decide +kernel) rfl (by kernel_rfl) (Nat.le_of_ble_eq_true rfl) (walk ?_)
    simp only [Tryz.f11, go_sem]
    refine qif_df (by omega) ?_
    simp only [Tryz.f11, go_sem]
    refine qif_df (by omega) ?_
    simp only [Tryz.f11, go_sem]
    refine qcall_i (k1) ?_; simp only [Tryz.f11, go_sem]
    try rfl
  have hw : isW l = false := by simpa using hw
  rw [hw, if_neg (by decide)]
  rw [hw] at k1
  by_cases ho : hexOk l = true
  case neg =>
    rw [if_neg ho] at k2 ⊢
    generalize wordV l = wv at *
    simp only [TX, z0, Dy.pv, DP, NN, NL] at k1 k2 ⊢
    refine PC.of_body follows Tryz.func11 (by decide +kernel) rfl (by kernel_rfl) (Nat.le_of_ble_eq_true rfl) (walk ?_)
    simp only [Tryz.f11, go_sem]
    refine qif_df (by omega) ?_
    simp only [Tryz.f11, go_sem]
    refine qif_df (by omega) ?_
    simp only [Tryz.f11, go_sem]
    refine qcall_i (k1) ?_; simp only [Tryz.f11, go_sem]
    refine qcall_i (k2) ?_; simp only [Tryz.f11, go_sem]
    try rfl
  rw [if_pos ho] at k2 ⊢
  have hb := hexM_bits ho
  have hf := hexD_fits ho
  have hbd : bitLen (hexD l).m ≤ 1600 := Nat.le_trans (mkD_bits _ _ _) hb
  have k3 := r_To (d := hexD l) (RD.fit (mkD_ok _ _ _) (by omega) hf) (by omega) false dir
  rw [if_pos (show toE (hexD l) false dir from ⟨hf, hd.1, hd.2, fun h => by cases h.1⟩)] at k3
  have hW := toS_W3 (hexD l) false dir
  have eo := b_or (a := (toS (hexD l) false dir).1) (b := 9223372036854775808) hW (by decide)
  rw [show ((9223372036854775808 : Nat) : Int) = 9223372036854775808 from rfl] at eo
  generalize toS (hexD l) false dir = T at *
  generalize hexD l = d at *
  generalize wordV l = wv at *
  generalize hexN l = bn at *
  simp only [TX, u, z0, Dy.pv, DP, NN, NL] at k1 k2 k3 ⊢
  refine PC.of_body follows Tryz.func11 (by decide +kernel) rfl (by kernel_rfl) (Nat.le_of_ble_eq_true rfl) (walk ?_)
  simp only [Tryz.f11, go_sem]
  refine qif_df (by omega) ?_
  simp only [Tryz.f11, go_sem]
  refine qif_df (by omega) ?_
  simp only [Tryz.f11, go_sem]
  refine qcall_i (k1) ?_; simp only [Tryz.f11, go_sem]
  refine qcall_i (k2) ?_; simp only [Tryz.f11, go_sem]
  refine qcall_i (k3) ?_; simp only [Tryz.f11, go_sem]
  cases bn
  · simp only [Tryz.f11, go_sem]
    try rfl
  · simp only [Tryz.f11, eo, go_sem]
    try rfl
end Go.Proofs.YtnccaoeeedhgbaaGreatDoor
