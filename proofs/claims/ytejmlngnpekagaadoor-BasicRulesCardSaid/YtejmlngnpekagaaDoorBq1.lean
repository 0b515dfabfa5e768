/- basic: which dyads may be divided; a quotient rounded. -/
import Derived.Test.YtejmlngnpekagaaDoorBas2
import Derived.Test.YtejmlngnpekagaaDoorDq6
open Go PG Go.Proofs
set_option maxRecDepth 100000
set_option linter.unusedSimpArgs false
set_option linter.unusedVariables false
namespace Go.Proofs.YtejmlngnpekagaaDoor
attribute [local go_sem] Lay2 Lay3 Lay4 Lay5 Lay6 Lay7 Lay8 Lay9 Lay10 Lay11 Lay12 Lay13 Lay14 Lay15 Lay16 Lay17 Lay18 Lay19 Lay21 Lay22 Lay23 Lay24 Lay25 Lay30 Lay33 Lay36 Lay37 Lay46 Lay47 Lay48 Lay53 Lay54 Lay55 Lay59 Lay100 Lay101 Lay127 Lay146 Lay162 Lay168 Lay169 Lay173 Lay185 Lay186 Lay187 Lay188 Lay189 Lay191 Lay192 Lay194 Lay195 Lay196 Lay199 qexec_seq qexec_skip qexec_exit qexec_ret qexec_block qexec_loop qexec_range qexec_cond qexec_region qexec_drawn qops_nil qops_none qops_some put_some put_none pblk_exit pblk_other newDsts_nil inlDsts_nil isInl sget_cons sget_nil qval_some qbool_some qgs_bool qgs_und qfree_some qgrd_true qgrd_false qif_true qif_false qval_ite qval_itn qand_true map_ite map_some' map_none' qdo_move qdo_assign qdo_binOp qdo_pick qdo_unOp qdo_convert qdo_extract qdo_field qdo_fieldAddr qdo_alloc qdo_box qdo_build qdo_buildSlice qdo_load qdo_store qdo_nilCheck qdo_makeFunc qdo_makeSlice qdo_slice qdo_indexAddr qdo_call qcont_val qcont_new qcont_st qcont_app0 qcont_app qcont_inl qcont_call njSV_val njSV_nil njSV_row njSV_ptr njSV_sub binV_val binV_nil binV_nn binV_ptr bin_np bin_nnp nilCmp bin_add bin_sub bin_mul bin_quo bin_rem bin_and bin_or bin_xor bin_andNot bin_eql bin_neq bin_lss bin_leq bin_gtr bin_geq bin_shl bin_shr bin_seql bin_sneq bin_sadd bin_beql bin_aeql bin_aneq eqAnd_some eqCells_nil eqCells_cons fieldTypes isStruct eqCell bin_bneq un_not un_neg nj_ite Nat.beq stepA stepR isNew opSV constSV RV.sv allSome E_mu E_own qkeyIn_none qkeyIn_some qkeyAt_none qkeyAt_some Bool.or_false Bool.false_or Bool.or_true Bool.true_or cst setB res resSV pstart startL killL kill1 eraL frzL svPV rvPV rvInt rvSlice frzOf close closeL pconv pbuiltin pmax2 partPV setCells fillPV zrow bound newSV PV.cells Bk.cells Bk.with SV.key pres presL_nil presL_tmp presL_cell presC2_some cellPV_ptr presC List.toList_toArray List.size_toArray List.getElem?_drop Nat.mul_one Int.toNat_natCast Nat.not_lt_zero Nat.lt_irrefl decide_true decide_false Nat.not_lt Option.some.injEq PV.lst.injEq PV.int.injEq PV.bool.injEq PV.tuple.injEq List.cons.injEq Option.map_some Option.map_none Option.bind_some Option.toList List.map_cons List.map_nil List.nil_append List.cons_append List.append_nil List.zip_cons_cons List.zip_nil_left List.zip_nil_right List.getElem?_cons_zero List.getElem?_cons_succ List.drop_zero List.drop_succ_cons List.take_succ_cons List.take_zero List.set_cons_zero List.set_cons_succ List.length_cons List.length_nil List.length_set List.replicate_one List.replicate_zero bne_self_eq_false beq_self_eq_true Nat.zero_add Nat.add_zero Nat.zero_mul Bool.false_eq_true Bool.true_eq_false Bool.not_true Bool.not_false and_true true_and false_and and_false or_false false_or or_true true_or not_true_eq_false not_false_eq_true ne_eq gt_iff_lt List.mem_cons List.not_mem_nil
attribute [local go_sem ↓] pseq_normal pseq_ret pseq_exit pblk_normal pblk_ret newDsts_cons inlDsts_cons gdst_zero gdst_succ retQ_normal retQ_ret qneed_nil qneed_cons retM_normal retM_ret endR_normal endR_ret endR_exit
attribute [local go_sem] Int.reduceToNat Int.reduceEq Int.reduceNe Int.reduceLT Int.reduceLE Int.reduceNeg Int.reduceAdd Nat.reduceEqDiff Nat.reduceAdd Nat.reduceSub Nat.reduceMul Nat.reduceLeDiff Nat.reduceLT
attribute [local go_sem ↓] reduceIte reduceCtorEq

def mayP (d : Dy) : Prop := d.fits ∧ d.m ≠ 0 ∧ bitLen d.m ≤ 4400
instance (d : Dy) : Decidable (mayP d) := inferInstanceAs (Decidable (_ ∧ _))
theorem b_may {p : PV} {d : Dy} (h : RD p d) : PC E 122 [p] (.tuple [(if d.fits then d else .zero).pv, .bool (decide (mayP d))]) := by
  have k1 := r_Bare h
  have hb := h.bits
  obtain ⟨s1, P, x1, e1, rfl, -⟩ := h
  unfold okD at k1
  by_cases hf : d.fits
  · rw [if_pos hf] at k1 ⊢
    have k2 := k_Bits (num_bits hb)
    have hlen : (dg W d.m).length = 0 ↔ d.m = 0 := ⟨fun h => by have : vl (dg W d.m) = d.m := dv_dg W2 d.m; rw [← this, List.eq_nil_of_length_eq_zero h]; rfl, fun h => by rw [h]; rfl⟩
    by_cases h0 : d.m = 0
    · rw [decide_eq_false (fun h : mayP d => h.2.1 h0)]
      simp only [Dy.pv, DP, NN, NL] at k1 k2 ⊢
      refine PC.of_body follows Tryd.func122 (by decide +kernel) rfl (by kernel_rfl) (Nat.le_of_ble_eq_true rfl) (walk ?_)
      simp only [Tryd.f122, go_sem]
      refine qcall_i (k1) ?_; simp only [Tryd.f122, go_sem]
      refine qif_df (by have := hlen.2 h0; omega) ?_
      simp only [Tryd.f122, go_sem]
      try exact ⟨rfl, rfl⟩
      try rfl
    · have e : decide (mayP d) = decide ((bitLen d.m : Int) ≤ 4400) := decide_eq_decide.2 ⟨fun h => by have := h.2.2; omega, fun h => ⟨hf, h0, by omega⟩⟩
      rw [e]
      simp only [Dy.pv, DP, NN, NL] at k1 k2 ⊢
      refine PC.of_body follows Tryd.func122 (by decide +kernel) rfl (by kernel_rfl) (Nat.le_of_ble_eq_true rfl) (walk ?_)
      simp only [Tryd.f122, go_sem]
      refine qcall_i (k1) ?_; simp only [Tryd.f122, go_sem]
      refine qif_dt (by have := hlen.1; omega) ?_
      simp only [Tryd.f122, go_sem]
      refine qcall_i (k2) ?_; simp only [Tryd.f122, go_sem]
      try exact ⟨rfl, rfl⟩
      try rfl
  · rw [if_neg hf] at k1 ⊢
    rw [decide_eq_false (fun h : mayP d => hf h.1)]
    simp only [Dy.pv, DP, NN, NL] at k1 ⊢
    refine PC.of_body follows Tryd.func122 (by decide +kernel) rfl (by kernel_rfl) (Nat.le_of_ble_eq_true rfl) (walk ?_)
    simp only [Tryd.f122, go_sem]
    refine qcall_i (k1) ?_; simp only [Tryd.f122, go_sem]
    try exact ⟨rfl, rfl⟩
    try rfl
/-- How far the dividend is shifted, the quotient, whether something is left. -/
def partN (a b : Dy) : Nat := 70 + bitLen b.m - bitLen a.m
def partD (a b : Dy) : Dy := mkD (a.s != b.s) (a.m * 2 ^ partN a b / b.m) (a.e - b.e - partN a b)
def partR (a b : Dy) : Bool := decide (a.m * 2 ^ partN a b % b.m ≠ 0)
theorem part_pos {a b : Dy} (ha : a.m ≠ 0) : 2 ^ 69 ≤ a.m * 2 ^ partN a b / b.m ∨ b.m = 0 := by
  by_cases hb : b.m = 0
  · exact .inr hb
  left
  rw [Nat.le_div_iff_mul_le (Nat.pos_of_ne_zero hb)]
  have h1 : 2 ^ (bitLen a.m - 1) ≤ a.m := Nat.not_lt.1 fun h => by
    have := (bitLen_le a.m (bitLen a.m - 1)).2 h
    have := bitLen_pos ha
    omega
  have h2 := (bitLen_le b.m (bitLen b.m)).1 (Nat.le_refl _)
  have h3 : 2 ^ (69 + bitLen b.m) ≤ 2 ^ (bitLen a.m - 1) * 2 ^ partN a b := by
    rw [← Nat.pow_add]
    refine Nat.pow_le_pow_right (by decide) ?_
    have := bitLen_pos ha
    unfold partN; omega
  have h4 := Nat.mul_le_mul_right (2 ^ partN a b) h1
  rw [Nat.pow_add] at h3
  have h5 : 2 ^ 69 * b.m ≤ 2 ^ 69 * 2 ^ bitLen b.m := Nat.mul_le_mul_left _ (Nat.le_of_lt h2)
  omega
def partB (a b : Dy) (dir : Int) : PV := if mayP a ∧ mayP b ∧ (0 ≤ dir ∧ dir ≤ 3) ∧ (partD a b).fits then .tuple [.int .u64 ((toS (partD a b) (partR a b) dir).1 : Nat), .int .u8 ((toS (partD a b) (partR a b) dir).2 : Nat), .int .i64 0] else .tuple [.int .u64 0, .int .u8 0, .int .i64 1]
theorem part_bits {a b : Dy} (ha : mayP a) (hb : mayP b) : bitLen (a.m * 2 ^ partN a b) ≤ 8870 ∧ bitLen (a.m * 2 ^ partN a b / b.m) ≤ 8870 ∧ partN a b ≤ 4470 := by
  have h1 := ha.2.2
  have h2 := hb.2.2
  have h3 := bitLen_shl_le a.m (partN a b)
  have h4 : partN a b ≤ 4470 := by unfold partN; omega
  refine ⟨by omega, ?_, h4⟩
  rw [bitLen_le]
  exact Nat.lt_of_le_of_lt (Nat.div_le_self _ _) ((bitLen_le _ 8870).1 (by omega))
theorem b_Part {p q : PV} {a b : Dy} (h : RD p a) (h' : RD q b) (dir : Int) : PC E 77 [p, q, .int .i64 dir] (partB a b dir) := by
  have k1 := b_may h
  have k2 := b_may h'
  have k3 := b_right dir
  obtain ⟨s1, P1, x1, e1, rfl, -⟩ := h
  obtain ⟨s2, P2, x2, e2, rfl, -⟩ := h'
  unfold partB
  by_cases ha : mayP a
  case neg =>
    rw [if_neg (fun h => ha h.1)]
    rw [decide_eq_false ha] at k1
    generalize (if a.fits then a else Dy.zero) = a' at *
    generalize (if b.fits then b else Dy.zero) = b' at *
    generalize decide (mayP b) = mb at *
    simp only [Dy.pv, DP] at k1 k2 ⊢
    refine PC.of_body follows Tryd.func77 (by decide +kernel) rfl (by kernel_rfl) (Nat.le_of_ble_eq_true rfl) (walk ?_)
    simp only [Tryd.f77, go_sem]
    refine qcall_i (k1) ?_; simp only [Tryd.f77, go_sem]
    refine qcall_i (k2) ?_; simp only [Tryd.f77, go_sem]
    try rfl
  rw [decide_eq_true ha, if_pos ha.1] at k1
  by_cases hb : mayP b
  case neg =>
    rw [if_neg (fun h => hb h.2.1)]
    rw [decide_eq_false hb] at k2
    generalize (if b.fits then b else Dy.zero) = b' at *
    simp only [Dy.pv, DP] at k1 k2 ⊢
    refine PC.of_body follows Tryd.func77 (by decide +kernel) rfl (by kernel_rfl) (Nat.le_of_ble_eq_true rfl) (walk ?_)
    simp only [Tryd.f77, go_sem]
    refine qcall_i (k1) ?_; simp only [Tryd.f77, go_sem]
    refine qcall_i (k2) ?_; simp only [Tryd.f77, go_sem]
    try rfl
  rw [decide_eq_true hb, if_pos hb.1] at k2
  by_cases hd : 0 ≤ dir ∧ dir ≤ 3
  case neg =>
    rw [if_neg (fun h => hd h.2.2.1)]
    rw [decide_eq_false hd] at k3
    simp only [Dy.pv, DP] at k1 k2 ⊢
    refine PC.of_body follows Tryd.func77 (by decide +kernel) rfl (by kernel_rfl) (Nat.le_of_ble_eq_true rfl) (walk ?_)
    simp only [Tryd.f77, go_sem]
    refine qcall_i (k1) ?_; simp only [Tryd.f77, go_sem]
    refine qcall_i (k2) ?_; simp only [Tryd.f77, go_sem]
    refine qcall_i (k3) ?_; simp only [Tryd.f77, go_sem]
    try rfl
  rw [decide_eq_true hd] at k3
  obtain ⟨pb1, pb2, pb3⟩ := part_bits ha hb
  have na := num_bits (x := a.m) (by have := ha.2.2; omega)
  have nb := num_bits (x := b.m) (by have := hb.2.2; omega)
  have kb1 := k_Bits na
  have kb2 := k_Bits nb
  have ksh := k_Shln na (partN a b) (by have := ha.2.2; omega)
  have kdv := k_Div (num_bits (x := a.m * 2 ^ partN a b) (by omega)) nb (by omega) (by have := hb.2.2; omega) hb.2.1
  have kmk := r_Make (num_bits (x := a.m * 2 ^ partN a b / b.m) (by omega)) (by omega) (a.s != b.s) (a.e - b.e - (partN a b : Nat))
  have hq69 := (part_pos (b := b) ha.2.1).resolve_right hb.2.1
  have hm0 : (partD a b).m ≠ 0 := fun h => by
    have := mkD_m0.1 h
    rw [this] at hq69
    have h69 : (2 : Nat) ^ 69 = 590295810358705651712 := by decide
    omega
  have hbits : bitLen (partD a b).m ≤ 8870 := Nat.le_trans (mkD_bits _ _ _) pb2
  have hlen : decide (((dg W (a.m * 2 ^ partN a b % b.m)).length : Int) > 0) = partR a b := by
    have h2 : vl (dg W (a.m * 2 ^ partN a b % b.m)) = a.m * 2 ^ partN a b % b.m := dv_dg W2 _
    refine decide_eq_decide.2 ⟨fun h h0 => ?_, fun h => ?_⟩
    · rw [h0] at h
      exact absurd h (by decide)
    · refine Int.not_le.1 fun h3 => h ?_
      have h4 : (dg W (a.m * 2 ^ partN a b % b.m)).length = 0 := by omega
      rw [← h2, List.eq_nil_of_length_eq_zero h4]; rfl
  have fa := ha.1
  have fb := hb.1
  have wN : (max (70 + (bitLen b.m : Int) - (bitLen a.m : Int)) 0 : Int) = (partN a b : Nat) := by unfold partN; omega
  have ba := ha.2.2
  have bb := hb.2.2
  have w1 : IntKind.wrap .i64 (70 + (bitLen b.m : Int)) = 70 + (bitLen b.m : Int) := wrap64 (by omega) (by omega)
  have w2 : IntKind.wrap .i64 (70 + (bitLen b.m : Int) - (bitLen a.m : Int)) = 70 + (bitLen b.m : Int) - (bitLen a.m : Int) := wrap64 (by omega) (by omega)
  have w3 : IntKind.wrap .i64 (a.e - b.e) = a.e - b.e := wrap64 (by have := fa.1; have := fb.2; omega) (by have := fa.2; have := fb.1; omega)
  have w4 : IntKind.wrap .i64 (a.e - b.e - (partN a b : Nat)) = a.e - b.e - (partN a b : Nat) := wrap64 (by have := fa.1; have := fb.2; omega) (by have := fa.2; have := fb.1; omega)
  have hD : mkD (a.s != b.s) (a.m * 2 ^ partN a b / b.m) (a.e - b.e - (partN a b : Nat)) = partD a b := rfl
  rw [hD] at kmk
  unfold okD at kmk
  by_cases hf : (partD a b).fits
  case neg =>
    rw [if_neg (fun h => hf h.2.2.2)]
    rw [if_neg hf] at kmk
    generalize hNn : partN a b = Nn at *
    generalize a.m * 2 ^ Nn / b.m = qq at *
    generalize a.m * 2 ^ Nn % b.m = rr at *
    generalize a.m * 2 ^ Nn = am at *
    simp only [Dy.pv, DP, NN, NL] at k1 k2 kb1 kb2 ksh kdv kmk ⊢
    refine PC.of_body follows Tryd.func77 (by decide +kernel) rfl (by kernel_rfl) (Nat.le_of_ble_eq_true rfl) (walk ?_)
    simp only [Tryd.f77, go_sem]
    refine qcall_i (k1) ?_; simp only [Tryd.f77, go_sem]
    refine qcall_i (k2) ?_; simp only [Tryd.f77, go_sem]
    refine qcall_i (k3) ?_; simp only [Tryd.f77, go_sem]
    refine qcall_i (kb2) ?_; simp only [Tryd.f77, w1, go_sem]
    refine qcall_i (kb1) ?_; simp only [Tryd.f77, w1, w2, wN, go_sem]
    refine qcall_i (ksh) ?_; simp only [Tryd.f77, go_sem]
    refine qcall_i (kdv) ?_; simp only [Tryd.f77, w3, w4, go_sem]
    refine qcall_i (kmk) ?_; simp only [Tryd.f77, go_sem]
    try rfl
  rw [if_pos ⟨ha, hb, hd, hf⟩]
  rw [if_pos hf] at kmk
  have kto := r_To (d := partD a b) (RD.fit (mkD_ok _ _ _) (Nat.le_trans hbits (by decide)) hf) (Nat.le_trans hbits (by decide)) (partR a b) dir
  rw [if_pos (show toE (partD a b) (partR a b) dir from ⟨hf, hd.1, hd.2, fun h => hm0 h.2⟩)] at kto
  generalize toS (partD a b) (partR a b) dir = T at *
  generalize partR a b = pr at *
  generalize partD a b = pd at *
  generalize hNn : partN a b = Nn at *
  generalize a.m * 2 ^ Nn / b.m = qq at *
  generalize a.m * 2 ^ Nn % b.m = rr at *
  generalize a.m * 2 ^ Nn = am at *
  simp only [u, Dy.pv, DP, NN, NL] at k1 k2 kb1 kb2 ksh kdv kmk kto ⊢
  refine PC.of_body follows Tryd.func77 (by decide +kernel) rfl (by kernel_rfl) (Nat.le_of_ble_eq_true rfl) (walk ?_)
  simp only [Tryd.f77, go_sem]
  refine qcall_i (k1) ?_; simp only [Tryd.f77, go_sem]
  refine qcall_i (k2) ?_; simp only [Tryd.f77, go_sem]
  refine qcall_i (k3) ?_; simp only [Tryd.f77, go_sem]
  refine qcall_i (kb2) ?_; simp only [Tryd.f77, w1, go_sem]
  refine qcall_i (kb1) ?_; simp only [Tryd.f77, w1, w2, wN, go_sem]
  refine qcall_i (ksh) ?_; simp only [Tryd.f77, go_sem]
  refine qcall_i (kdv) ?_; simp only [Tryd.f77, w3, w4, go_sem]
  refine qcall_i (kmk) ?_; simp only [Tryd.f77, hlen, go_sem]
  refine qcall_i (kto) ?_; simp only [Tryd.f77, go_sem]
  try exact ⟨rfl, rfl⟩
  try rfl
end Go.Proofs.YtejmlngnpekagaaDoor
