/- Products: prod.Mul, dyad.Mul, dyad.Of. -/
import Derived.Test.YtejmlngnpekagaaDoorMul4
import Derived.Test.YtejmlngnpekagaaDoorUnr
open Go PG Go.Proofs
set_option maxRecDepth 100000
set_option linter.unusedSimpArgs false
set_option linter.unusedVariables false
namespace Go.Proofs.YtejmlngnpekagaaDoor
attribute [local go_sem] Lay2 Lay3 Lay4 Lay5 Lay6 Lay7 Lay8 Lay9 Lay10 Lay11 Lay12 Lay13 Lay14 Lay15 Lay16 Lay17 Lay18 Lay19 Lay21 Lay22 Lay23 Lay24 Lay25 Lay30 Lay33 Lay36 Lay37 Lay46 Lay47 Lay48 Lay53 Lay54 Lay55 Lay59 Lay100 Lay101 Lay127 Lay146 Lay162 Lay168 Lay169 Lay173 Lay185 Lay186 Lay187 Lay188 Lay189 Lay191 Lay192 Lay194 Lay195 Lay196 Lay199 qexec_seq qexec_skip qexec_exit qexec_ret qexec_block qexec_loop qexec_range qexec_cond qexec_region qexec_drawn qops_nil qops_none qops_some put_some put_none pblk_exit pblk_other newDsts_nil inlDsts_nil isInl sget_cons sget_nil qval_some qbool_some qgs_bool qgs_und qfree_some qgrd_true qgrd_false qif_true qif_false qval_ite qval_itn qand_true map_ite map_some' map_none' qdo_move qdo_assign qdo_binOp qdo_pick qdo_unOp qdo_convert qdo_extract qdo_field qdo_fieldAddr qdo_alloc qdo_box qdo_build qdo_buildSlice qdo_load qdo_store qdo_nilCheck qdo_makeFunc qdo_makeSlice qdo_slice qdo_indexAddr qdo_call qcont_val qcont_new qcont_st qcont_app0 qcont_app qcont_inl qcont_call njSV_val njSV_nil njSV_row njSV_ptr njSV_sub binV_val binV_nil binV_nn binV_ptr bin_np bin_nnp nilCmp bin_add bin_sub bin_mul bin_quo bin_rem bin_and bin_or bin_xor bin_andNot bin_eql bin_neq bin_lss bin_leq bin_gtr bin_geq bin_shl bin_shr bin_seql bin_sneq bin_sadd bin_beql bin_aeql bin_aneq eqAnd_some eqCells_nil eqCells_cons fieldTypes isStruct eqCell bin_bneq un_not un_neg nj_ite Nat.beq stepA stepR isNew opSV constSV RV.sv allSome E_mu E_own qkeyIn_none qkeyIn_some qkeyAt_none qkeyAt_some Bool.or_false Bool.false_or Bool.or_true Bool.true_or cst setB res resSV pstart startL killL kill1 eraL frzL svPV rvPV rvInt rvSlice frzOf close closeL pconv pbuiltin pmax2 partPV setCells fillPV zrow bound newSV PV.cells Bk.cells Bk.with SV.key pres presL_nil presL_tmp presL_cell presC2_some cellPV_ptr presC List.toList_toArray List.size_toArray List.getElem?_drop Nat.mul_one Int.toNat_natCast Nat.not_lt_zero Nat.lt_irrefl decide_true decide_false Nat.not_lt Option.some.injEq PV.lst.injEq PV.int.injEq PV.bool.injEq PV.tuple.injEq List.cons.injEq Option.map_some Option.map_none Option.bind_some Option.toList List.map_cons List.map_nil List.nil_append List.cons_append List.append_nil List.zip_cons_cons List.zip_nil_left List.zip_nil_right List.getElem?_cons_zero List.getElem?_cons_succ List.drop_zero List.drop_succ_cons List.take_succ_cons List.take_zero List.set_cons_zero List.set_cons_succ List.length_cons List.length_nil List.length_set List.replicate_one List.replicate_zero bne_self_eq_false beq_self_eq_true Nat.zero_add Nat.add_zero Nat.zero_mul Bool.false_eq_true Bool.true_eq_false Bool.not_true Bool.not_false and_true true_and false_and and_false or_false false_or or_true true_or not_true_eq_false not_false_eq_true ne_eq gt_iff_lt List.mem_cons List.not_mem_nil
attribute [local go_sem ↓] pseq_normal pseq_ret pseq_exit pblk_normal pblk_ret newDsts_cons inlDsts_cons gdst_zero gdst_succ retQ_normal retQ_ret qneed_nil qneed_cons retM_normal retM_ret endR_normal endR_ret endR_exit
attribute [local go_sem] Int.reduceToNat Int.reduceEq Int.reduceNe Int.reduceLT Int.reduceLE Int.reduceNeg Int.reduceAdd Nat.reduceEqDiff Nat.reduceAdd Nat.reduceSub Nat.reduceMul Nat.reduceLeDiff Nat.reduceLT
attribute [local go_sem ↓] reduceIte reduceCtorEq

theorem bitLen_mul_le (x y : Nat) : bitLen (x * y) ≤ bitLen x + bitLen y := by
  rw [bitLen_le, Nat.pow_add]
  exact Nat.mul_lt_mul'' ((bitLen_le x _).1 (Nat.le_refl _)) ((bitLen_le y _).1 (Nat.le_refl _))
/-- What prod.Mul hands back. -/
def pmV (x y : Nat) : PV := if x = 0 ∨ y = 0 then .tuple [.lst 0 [], .int .i64 0] else if bitLen x + bitLen y ≤ 65536 then .tuple [NN (x * y), .int .i64 0] else .tuple [.lst 0 [], .int .i64 2]
theorem k_prodMul {p q : PV} {x y : Nat} (h : Num p x) (h' : Num q y) (bx : bitLen x ≤ 1000000) (by' : bitLen y ≤ 1000000) : PC E 96 [p, q] (pmV x y) := by
  have k1 := k_Bare h
  have k2 := k_Bare h'
  have k3 := k_Bits (num_bits bx)
  have k4 := k_Bits (num_bits by')
  have lx := w_of_bits (x := x) (n := 15625) (by omega)
  have ly := w_of_bits (x := y) (n := 15625) (by omega)
  have k5 := c_product (dg W x) (dg W y) (ok_dg W2 x) (ok_dg W2 y) (by omega) (by omega)
  rw [show vl (dg W x) = x from dv_dg W2 x, show vl (dg W y) = y from dv_dg W2 y] at k5
  have w1 : IntKind.wrap .i64 ((bitLen x : Int) + (bitLen y : Int)) = ((bitLen x + bitLen y : Nat) : Int) := by rw [wrap64 (by omega) (by omega)]; omega
  obtain ⟨l, rfl, -⟩ := h
  obtain ⟨l', rfl, -⟩ := h'
  have d1 := dg_nil (x := x)
  have d2 := dg_nil (x := y)
  refine PC.of_body follows Tryd.func96 (by decide +kernel) rfl (by kernel_rfl) (Nat.le_of_ble_eq_true rfl) (walk ?_)
  unfold pmV
  by_cases hx : x = 0
  · rw [if_pos (.inl hx)]
    have e1 : dg W x = [] := by rw [hx]; rfl
    simp only [NN, NL, e1] at k1 k2 k3 k4 k5 ⊢
    simp only [Tryd.f96, go_sem]
    refine qcall_i (k1) ?_; simp only [Tryd.f96, go_sem]
    refine qcall_i (k2) ?_; simp only [Tryd.f96, go_sem]
    try (refine qif_dt (by simp) ?_)
    simp only [Tryd.f96, go_sem]
    try rfl
  by_cases hy : y = 0
  · rw [if_pos (.inr hy)]
    have e1 : dg W y = [] := by rw [hy]; rfl
    simp only [NN, NL, e1] at k1 k2 k3 k4 k5 ⊢
    simp only [Tryd.f96, go_sem]
    refine qcall_i (k1) ?_; simp only [Tryd.f96, go_sem]
    refine qcall_i (k2) ?_; simp only [Tryd.f96, go_sem]
    refine qif_df (fun h => hx (d1 (by omega))) ?_
    simp only [Tryd.f96, go_sem]
    try (refine qif_dt (by simp) ?_)
    simp only [Tryd.f96, go_sem]
    try rfl
  rw [if_neg (by omega)]
  simp only [NN, NL] at k1 k2 k3 k4 k5 ⊢
  simp only [Tryd.f96, go_sem]
  refine qcall_i (k1) ?_; simp only [Tryd.f96, go_sem]
  refine qcall_i (k2) ?_; simp only [Tryd.f96, go_sem]
  refine qif_df (fun h => hx (d1 (by omega))) ?_
  simp only [Tryd.f96, go_sem]
  refine qif_df (fun h => hy (d2 (by omega))) ?_
  simp only [Tryd.f96, w1, go_sem]
  refine qcall_i (k3) ?_; simp only [Tryd.f96, w1, go_sem]
  refine qcall_i (k4) ?_; simp only [Tryd.f96, w1, go_sem]
  refine qif_d (fun h => ?_) (fun h => ?_)
  · rw [if_neg (by omega)]
    simp only [Tryd.f96, go_sem]
    try rfl
  · rw [if_pos (by omega)]
    simp only [Tryd.f96, go_sem]
    refine qcall_i (k5) ?_; simp only [Tryd.f96, go_sem]
    try rfl

/-- May they be multiplied? -/
def mulE (a b : Dy) : Prop := a.fits ∧ b.fits ∧ (a.m ≠ 0 → b.m ≠ 0 → bitLen a.m + bitLen b.m ≤ 65536) ∧ (mulS a b).fits
instance (a b : Dy) : Decidable (mulE a b) := inferInstanceAs (Decidable (_ ∧ _))
def mulV (a b : Dy) : PV := if mulE a b then .tuple [(mulS a b).pv, .int .i64 0] else .tuple [Dy.zero.pv, .int .i64 2]
theorem mk_mul {a b : Dy} (oa : a.ok) (ob : b.ok) (fa : a.fits) (fb : b.fits) : mkD (a.s != b.s) (a.m * b.m) (a.e + b.e) = mulS a b := by
  unfold mulS
  by_cases h : a.m = 0 ∨ b.m = 0
  · rw [if_pos h]
    have : a.m * b.m = 0 := by rcases h with h | h <;> rw [h] <;> simp
    rw [this]; rfl
  · rw [if_neg h]
    have := fa.1; have := fa.2; have := fb.1; have := fb.2
    exact mkD_odd (odd_mul (oa.odd fun h0 => h (.inl h0)) (ob.odd fun h0 => h (.inr h0))) (by omega) (by omega)
theorem r_Mul {p q : PV} {a b : Dy} (ha : RD p a) (hb : RD q b) : PC E 50 [p, q] (mulV a b) := by
  have k1 := r_Bare ha
  have k2 := r_Bare hb
  have oa := ha.ok
  have ob := hb.ok
  have ba := ha.bits
  have bb := hb.bits
  obtain ⟨s1, P, x1, e1, rfl, -⟩ := ha
  obtain ⟨s2, Q, x2, e2, rfl, -⟩ := hb
  refine PC.of_body follows Tryd.func50 (by decide +kernel) rfl (by kernel_rfl) (Nat.le_of_ble_eq_true rfl) (walk ?_)
  unfold okD at k1 k2
  by_cases fa : a.fits
  case neg =>
    rw [if_neg fa] at k1
    unfold mulV
    rw [if_neg (fun h => fa h.1)]
    simp only [Dy.pv, Dy.zero, DP, NN, NL] at k1 ⊢
    simp only [Tryd.f50, go_sem]
    refine qcall_i (k1) ?_; simp only [Tryd.f50, go_sem]
    try rfl
  rw [if_pos fa] at k1
  by_cases fb : b.fits
  case neg =>
    rw [if_neg fb] at k2
    unfold mulV
    rw [if_neg (fun h => fb h.2.1)]
    simp only [Dy.pv, Dy.zero, DP, NN, NL] at k1 k2 ⊢
    simp only [Tryd.f50, go_sem]
    refine qcall_i (k1) ?_; simp only [Tryd.f50, go_sem]
    refine qcall_i (k2) ?_; simp only [Tryd.f50, go_sem]
    try rfl
  rw [if_pos fb] at k2
  have k3 := k_prodMul (num_bits ba) (num_bits bb) ba bb
  have fa1 := fa.1
  have fa2 := fa.2
  have fb1 := fb.1
  have fb2 := fb.2
  have w1 : IntKind.wrap .i64 (a.e + b.e) = a.e + b.e := wrap64 (by omega) (by omega)
  have hm := mk_mul oa ob fa fb
  unfold pmV at k3
  by_cases h0 : a.m = 0 ∨ b.m = 0
  · rw [if_pos h0] at k3
    have k4 := r_Make (q := .lst 0 []) num_nil (by decide) (a.s != b.s) (a.e + b.e)
    have e0 : okD (mkD (a.s != b.s) 0 (a.e + b.e)) = .tuple [Dy.zero.pv, .int .i64 0] := rfl
    rw [e0] at k4
    have hms : mulS a b = .zero := if_pos h0
    have e1 : mulV a b = .tuple [Dy.zero.pv, .int .i64 0] := by
      unfold mulV
      rw [if_pos ⟨fa, fb, fun h h' => absurd h0 (by omega), by rw [hms]; decide⟩, hms]
    rw [e1]
    simp only [Dy.pv, Dy.zero, DP, NN, NL] at k1 k2 k3 k4 ⊢
    simp only [Tryd.f50, go_sem]
    refine qcall_i (k1) ?_; simp only [Tryd.f50, go_sem]
    refine qcall_i (k2) ?_; simp only [Tryd.f50, go_sem]
    refine qcall_i (k3) ?_; simp only [Tryd.f50, w1, go_sem]
    refine qcall_i (k4) ?_; simp only [Tryd.f50, go_sem]
    try rfl
  · rw [if_neg h0] at k3
    by_cases hl : bitLen a.m + bitLen b.m ≤ 65536
    · rw [if_pos hl] at k3
      have hbl := bitLen_mul_le a.m b.m
      have k4 := r_Make (num_bits (x := a.m * b.m) (by omega)) (by omega) (a.s != b.s) (a.e + b.e)
      rw [hm] at k4
      have e1 : mulV a b = okD (mulS a b) := by
        unfold mulV okD
        by_cases hf : (mulS a b).fits
        · rw [if_pos hf, if_pos ⟨fa, fb, fun _ _ => hl, hf⟩]
        · rw [if_neg hf, if_neg (fun h => hf h.2.2.2)]
      rw [e1]
      obtain ⟨S1, S2, S3, S4, S5, hS⟩ := okD_ex (mulS a b)
      rw [hS] at k4 ⊢
      simp only [Dy.pv, Dy.zero, DP, NN, NL] at k1 k2 k3 k4 ⊢
      simp only [Tryd.f50, go_sem]
      refine qcall_i (k1) ?_; simp only [Tryd.f50, go_sem]
      refine qcall_i (k2) ?_; simp only [Tryd.f50, go_sem]
      refine qcall_i (k3) ?_; simp only [Tryd.f50, w1, go_sem]
      refine qcall_i (k4) ?_; simp only [Tryd.f50, go_sem]
      try rfl
    · rw [if_neg hl] at k3
      unfold mulV
      rw [if_neg (fun h => hl (h.2.2.1 (fun h1 => h0 (.inl h1)) (fun h1 => h0 (.inr h1))))]
      simp only [Dy.pv, Dy.zero, DP, NN, NL] at k1 k2 k3 ⊢
      simp only [Tryd.f50, go_sem]
      refine qcall_i (k1) ?_; simp only [Tryd.f50, go_sem]
      refine qcall_i (k2) ?_; simp only [Tryd.f50, go_sem]
      refine qcall_i (k3) ?_; simp only [Tryd.f50, w1, go_sem]
      try rfl

/-- A whole number. -/
theorem c_dOf (n : Int) (h0 : -9223372036854775808 ≤ n) (h1 : n < 9223372036854775808) : PC E 51 [.int .i64 n] (norm n 0).pv := by
  refine PC.of_body follows Tryd.func51 (by decide +kernel) rfl (by kernel_rfl) (Nat.le_of_ble_eq_true rfl) (walk ?_)
  have k1 := c_bare (p := .lst 1 [.int .u64 (n.natAbs : Int)]) (num_one (show n.natAbs < W by show n.natAbs < 18446744073709551616; omega)) (Nat.le_trans ((bitLen_le n.natAbs 64).2 (by show n.natAbs < 18446744073709551616; omega)) (by decide)) (decide (n < 0)) 0
  have w1 : ¬ n < 0 → IntKind.wrap .u64 n = (n.natAbs : Int) := fun h => by rw [IntKind.wrap_u64]; omega
  have w2 : n < 0 → IntKind.wrap .u64 (0 - IntKind.wrap .u64 n) = (n.natAbs : Int) := fun h => by rw [IntKind.wrap_u64, IntKind.wrap_u64]; omega
  unfold norm
  simp only [Dy.pv, DP, NN, NL] at k1 ⊢
  by_cases hn : n < 0
  · have w2 := w2 hn
    simp only [Tryd.f51, go_sem]
    refine qif_dt hn ?_
    simp only [Tryd.f51, w2, go_sem]
    refine qcall_i (k1) ?_; simp only [Tryd.f51, go_sem]
    try rfl
  · have w1 := w1 hn
    simp only [Tryd.f51, go_sem]
    refine qif_df hn ?_
    simp only [Tryd.f51, w1, go_sem]
    refine qcall_i (k1) ?_; simp only [Tryd.f51, go_sem]
    try rfl

/-- How long sums and products are. -/
theorem norm_bits (z k : Int) : bitLen (norm z k).m ≤ bitLen z.natAbs := mkD_bits _ _ _
theorem addS_bits {a b : Dy} (oa : a.ok) (ob : b.ok) (h : addE a b) : bitLen (addS a b).m ≤ max 65537 (max (bitLen a.m) (bitLen b.m)) := by
  obtain ⟨fa, fb, hs, -⟩ := h
  by_cases za : a.m = 0
  · rw [addS_zl ob fa fb za]; omega
  by_cases zb : b.m = 0
  · rw [addS_zr oa fa fb zb]; omega
  have hs := hs za zb
  have ta := top_of za
  have tb := top_of zb
  have pa := bitLen_pos za
  have pb := bitLen_pos zb
  have h1 := natAbs_at' a (min a.e b.e)
  have h2 := natAbs_at' b (min a.e b.e)
  have s1 := bitLen_shl_le a.m (a.e - min a.e b.e).toNat
  have s2 := bitLen_shl_le b.m (b.e - min a.e b.e).toNat
  rw [← h1] at s1
  rw [← h2] at s2
  have s3 := bitLen_add (x := (a.at (min a.e b.e)).natAbs) (y := (b.at (min a.e b.e)).natAbs) (n := 65536) (by omega) (by omega)
  have s4 := norm_bits (a.at (min a.e b.e) + b.at (min a.e b.e)) (min a.e b.e)
  have s5 : bitLen (a.at (min a.e b.e) + b.at (min a.e b.e)).natAbs ≤ bitLen ((a.at (min a.e b.e)).natAbs + (b.at (min a.e b.e)).natAbs) := bitLen_mono (by omega)
  have : bitLen (addS a b).m ≤ bitLen (a.at (min a.e b.e) + b.at (min a.e b.e)).natAbs := s4
  omega
theorem mulS_bits (a b : Dy) : bitLen (mulS a b).m ≤ bitLen a.m + bitLen b.m := by
  unfold mulS
  split
  · exact Nat.zero_le _
  · exact bitLen_mul_le _ _
theorem RD.add {a b : Dy} (oa : a.ok) (ob : b.ok) (ba : bitLen a.m ≤ 900000) (bb : bitLen b.m ≤ 900000) (h : addE a b) : RD (addS a b).pv (addS a b) :=
  RD.fit (addS_ok a b) (by have := addS_bits oa ob h; omega) h.2.2.2
theorem RD.mul {a b : Dy} (oa : a.ok) (ob : b.ok) (h : mulE a b) : RD (mulS a b).pv (mulS a b) :=
  RD.fit (mulS_ok oa ob) (by
    by_cases h0 : a.m = 0 ∨ b.m = 0
    · rw [show mulS a b = .zero from if_pos h0]; decide
    · have := mulS_bits a b
      have := h.2.2.1 (fun h1 => h0 (.inl h1)) (fun h1 => h0 (.inr h1))
      omega) h.2.2.2
theorem addE_comm {a b : Dy} (h : addE a b) : addE b a :=
  ⟨h.2.1, h.1, fun h1 h2 => by have := h.2.2.1 h2 h1; omega, by rw [addS_comm]; exact h.2.2.2⟩
theorem addV_comm (a b : Dy) : addV a b = addV b a := by
  unfold addV
  by_cases h : addE a b
  · rw [if_pos h, if_pos (addE_comm h), addS_comm]
  · rw [if_neg h, if_neg (fun h2 => h (addE_comm h2))]
/-- What is added can be taken off. -/
theorem add_back {a b : Dy} (oa : a.ok) (ob : b.ok) (fa : a.fits) (fb : b.fits) (fs : (addS a b).fits) : addS (addS a b) b.neg = a := by
  have ga : a.ge (min a.e b.e) := .inr (by omega)
  have gb : b.ge (min a.e b.e) := .inr (by omega)
  have gs := addS_ge oa ob fa fb ga gb
  refine eq_of_at (k := min a.e b.e) (addS_ok _ _) oa (addS_ge (addS_ok _ _) (neg_ok ob) fs (neg_fits fb) gs (neg_ge gb)) ga ?_
  rw [addS_at (addS_ok _ _) (neg_ok ob) fs (neg_fits fb) gs (neg_ge gb), addS_at oa ob fa fb ga gb, neg_at]
  omega
/-- A product is shared out over a sum. -/
theorem mul_add {a b c : Dy} (oa : a.ok) (ob : b.ok) (oc : c.ok) (fa : a.fits) (fb : b.fits) (f1 : (mulS a c).fits) (f2 : (mulS b c).fits) : mulS (addS a b) c = addS (mulS a c) (mulS b c) := by
  have ga : a.ge (min a.e b.e) := .inr (by omega)
  have gb : b.ge (min a.e b.e) := .inr (by omega)
  have gs := addS_ge oa ob fa fb ga gb
  have gc := c.ge_e
  refine eq_of_at (k := min a.e b.e + c.e) (mulS_ok (addS_ok _ _) oc) (addS_ok _ _) (mulS_ge gs gc) (addS_ge (mulS_ok oa oc) (mulS_ok ob oc) f1 f2 (mulS_ge ga gc) (mulS_ge gb gc)) ?_
  rw [addS_at (mulS_ok oa oc) (mulS_ok ob oc) f1 f2 (mulS_ge ga gc) (mulS_ge gb gc), mulS_at gs gc, mulS_at ga gc, mulS_at gb gc, addS_at oa ob fa fb ga gb, Int.add_mul]
end Go.Proofs.YtejmlngnpekagaaDoor
