/- root: whole parts of square roots. -/
import Derived.Test.YtejmlngnpekagaaDoorRt2
open Go PG Go.Proofs
set_option maxRecDepth 100000
set_option linter.unusedSimpArgs false
set_option linter.unusedVariables false
namespace Go.Proofs.YtejmlngnpekagaaDoor
attribute [local go_sem] Lay2 Lay3 Lay4 Lay5 Lay6 Lay7 Lay8 Lay9 Lay10 Lay11 Lay12 Lay13 Lay14 Lay15 Lay16 Lay17 Lay18 Lay19 Lay21 Lay22 Lay23 Lay24 Lay25 Lay30 Lay33 Lay36 Lay37 Lay46 Lay47 Lay48 Lay53 Lay54 Lay55 Lay59 Lay100 Lay101 Lay127 Lay146 Lay162 Lay168 Lay169 Lay173 Lay185 Lay186 Lay187 Lay188 Lay189 Lay191 Lay192 Lay194 Lay195 Lay196 Lay199 qexec_seq qexec_skip qexec_exit qexec_ret qexec_block qexec_loop qexec_range qexec_cond qexec_region qexec_drawn qops_nil qops_none qops_some put_some put_none pblk_exit pblk_other newDsts_nil inlDsts_nil isInl sget_cons sget_nil qval_some qbool_some qgs_bool qgs_und qfree_some qgrd_true qgrd_false qif_true qif_false qval_ite qval_itn qand_true map_ite map_some' map_none' qdo_move qdo_assign qdo_binOp qdo_pick qdo_unOp qdo_convert qdo_extract qdo_field qdo_fieldAddr qdo_alloc qdo_box qdo_build qdo_buildSlice qdo_load qdo_store qdo_nilCheck qdo_makeFunc qdo_makeSlice qdo_slice qdo_indexAddr qdo_call qcont_val qcont_new qcont_st qcont_app0 qcont_app qcont_inl qcont_call njSV_val njSV_nil njSV_row njSV_ptr njSV_sub binV_val binV_nil binV_nn binV_ptr bin_np bin_nnp nilCmp bin_add bin_sub bin_mul bin_quo bin_rem bin_and bin_or bin_xor bin_andNot bin_eql bin_neq bin_lss bin_leq bin_gtr bin_geq bin_shl bin_shr bin_seql bin_sneq bin_sadd bin_beql bin_aeql bin_aneq eqAnd_some eqCells_nil eqCells_cons fieldTypes isStruct eqCell bin_bneq un_not un_neg nj_ite Nat.beq stepA stepR isNew opSV constSV RV.sv allSome E_mu E_own qkeyIn_none qkeyIn_some qkeyAt_none qkeyAt_some Bool.or_false Bool.false_or Bool.or_true Bool.true_or cst setB res resSV pstart startL killL kill1 eraL frzL svPV rvPV rvInt rvSlice frzOf close closeL pconv pbuiltin pmax2 partPV setCells fillPV zrow bound newSV PV.cells Bk.cells Bk.with SV.key pres presL_nil presL_tmp presL_cell presC2_some cellPV_ptr presC List.toList_toArray List.size_toArray List.getElem?_drop Nat.mul_one Int.toNat_natCast Nat.not_lt_zero Nat.lt_irrefl decide_true decide_false Nat.not_lt Option.some.injEq PV.lst.injEq PV.int.injEq PV.bool.injEq PV.tuple.injEq List.cons.injEq Option.map_some Option.map_none Option.bind_some Option.toList List.map_cons List.map_nil List.nil_append List.cons_append List.append_nil List.zip_cons_cons List.zip_nil_left List.zip_nil_right List.getElem?_cons_zero List.getElem?_cons_succ List.drop_zero List.drop_succ_cons List.take_succ_cons List.take_zero List.set_cons_zero List.set_cons_succ List.length_cons List.length_nil List.length_set List.replicate_one List.replicate_zero bne_self_eq_false beq_self_eq_true Nat.zero_add Nat.add_zero Nat.zero_mul Bool.false_eq_true Bool.true_eq_false Bool.not_true Bool.not_false and_true true_and false_and and_false or_false false_or or_true true_or not_true_eq_false not_false_eq_true ne_eq gt_iff_lt List.mem_cons List.not_mem_nil
attribute [local go_sem ↓] pseq_normal pseq_ret pseq_exit pblk_normal pblk_ret newDsts_cons inlDsts_cons gdst_zero gdst_succ retQ_normal retQ_ret qneed_nil qneed_cons retM_normal retM_ret endR_normal endR_ret endR_exit
attribute [local go_sem] Int.reduceToNat Int.reduceEq Int.reduceNe Int.reduceLT Int.reduceLE Int.reduceNeg Int.reduceAdd Nat.reduceEqDiff Nat.reduceAdd Nat.reduceSub Nat.reduceMul Nat.reduceLeDiff Nat.reduceLT
attribute [local go_sem ↓] reduceIte reduceCtorEq

theorem bitLen_two (n : Nat) : bitLen (2 ^ n) ≤ n + 1 := (bitLen_le _ _).2 (Nat.pow_lt_pow_right (by decide) (Nat.lt_succ_self n))
theorem isq_pos {a r : Nat} (h : Isq a r) (ha : a ≠ 0) : 1 ≤ r := Nat.not_lt.1 fun h0 => by
  have : r = 0 := by omega
  subst this
  have := h.2
  omega
theorem isq_lt {a r n : Nat} (h : Isq a r) (hn : a < 2 ^ n * 2 ^ n) : r < 2 ^ n := Nat.not_le.1 fun h0 => by
  have := Nat.mul_le_mul h0 h0
  have := h.1
  omega
set_option maxHeartbeats 4000000 in
theorem k_floor {a r : Nat} (h : Isq a r) (ha : a ≠ 0) (hb : bitLen a ≤ 8200) : PC E 149 [NN a, .int .i64 2] (NN r) := by
  have k1 := k_Bits (num_bits (x := a) (by omega))
  have k2 := c_Of 1 (by decide)
  have hb0 := bitLen_pos ha
  obtain ⟨n, hn⟩ : ∃ n, n = (bitLen a + 1) / 2 := ⟨_, rfl⟩
  have k3 := k_Shln (num_bits (x := 1) (by decide)) n (by have : bitLen 1 = 1 := by decide
                                                          omega)
  rw [Nat.one_mul] at k3
  have hr1 := isq_pos h ha
  have hrn : r < 2 ^ n := isq_lt h (by
    rw [← Nat.pow_add]
    exact (bitLen_le a (n + n)).1 (by omega))
  have hbn : bitLen (2 ^ n) ≤ 8200 := Nat.le_trans (bitLen_two n) (by omega)
  have hst : ∀ X : Nat, r ≤ X → bitLen X ≤ 8200 → PC E 162 [NN a, NN X, .int .i64 2] (NN (newton a X)) := fun X hX hbX => k_step (by omega) (by omega) (by omega)
  have hcm : ∀ X : Nat, bitLen X ≤ 8200 → PC E 112 [NN (newton a X), NN X] (.int .i64 (sgn (newton a X) X)) := fun X hbX => k_Cmp (num_bits (by have := newton_bits hb hbX; omega)) (num_bits (by omega))
  have hge : ∀ X : Nat, r ≤ X → r ≤ newton a X := fun X hX => newton_ge h (by omega)
  have hlt : ∀ X : Nat, r < X → newton a X < X := fun X hX => newton_lt h hX
  have hbt : ∀ X : Nat, bitLen X ≤ 8200 → bitLen (newton a X) ≤ 8200 := fun X hX => newton_bits hb hX
  have h3 : bitLen a ≤ 2 → r = 1 := fun hs => by
    have h4 := (bitLen_le a 2).1 hs
    have h5 := h.1
    have : r < 2 := Nat.not_le.1 fun h6 => by
      have := Nat.mul_le_mul h6 h6
      omega
    omega
  generalize newton a = nw at *
  have wb1 : IntKind.wrap .i64 ((bitLen a : Int) + 2) = (bitLen a : Int) + 2 := wrap64 (by omega) (by omega)
  have wb2 : IntKind.wrap .i64 ((bitLen a : Int) + 2 - 1) = (bitLen a : Int) + 2 - 1 := wrap64 (by omega) (by omega)
  have wt : Int.tdiv ((bitLen a : Int) + 2 - 1) 2 = n := by
    rw [Int.tdiv_eq_ediv_of_nonneg (by omega)]; omega
  have wt2 : IntKind.wrap .i64 (n : Int) = n := wrap64 (by omega) (by omega)
  simp only [u, NN, NL] at k1 k2 k3 hst hcm ⊢
  rw [show ((1 : Nat) : Int) = 1 from rfl] at k2
  refine PC.of_body follows Tryd.func149 (by decide +kernel) rfl (by kernel_rfl) (Nat.le_of_ble_eq_true rfl) (walk ?_)
  simp only [Tryd.f149, go_sem]
  refine qcall_i (k1) ?_; simp only [Tryd.f149, go_sem]
  refine qif_d (fun hs => ?_) (fun hs => ?_)
  · simp only [Tryd.f149, go_sem]
    refine qcall_i (k2) ?_; simp only [Tryd.f149, go_sem]
    rw [h3 (by omega)]
    exact ⟨rfl, rfl⟩
  simp only [Tryd.f149, go_sem]
  refine qcall_i (k2) ?_; simp only [Tryd.f149, wb1, wb2, wt, wt2, go_sem]
  refine qcall_i (k3) ?_; simp only [Tryd.f149, go_sem]
  have hrn' : r ≤ 2 ^ n := Nat.le_of_lt hrn
  clear k1 k2 k3 hrn
  generalize 2 ^ n = x0 at *
  refine PLoop.intro (fun X : Nat => ⟨[(0, .val (.lst (dg W a).length (U (dg W a)))), (1, .val (.int .i64 2)), (6, .val (.lst (dg W X).length (U (dg W X))))], []⟩) (fun X => r ≤ X ∧ bitLen X ≤ 8200) (fun X => X) x0 ⟨hrn', hbn⟩ ?_ fun X hX => walk ?_
  · simp [Wk, sget, killL, kill1, SV.key]
  have q1 := hst X hX.1 hX.2
  have q2 := hcm X hX.2
  have g1 := hge X hX.1
  have g2 := hlt X
  have g3 := hbt X hX.2
  generalize nw X = Y at *
  simp only [Tryd.f149, go_sem]
  refine qcall_i (q1) ?_; simp only [Tryd.f149, go_sem]
  refine qcall_i (q2) ?_; simp only [Tryd.f149, go_sem]
  have hsg : (sgn (Y : Int) X ≥ 0) ↔ X ≤ Y := by
    unfold sgn
    repeat' split
    all_goals omega
  refine qif_d (fun hc => ?_) (fun hc => ?_)
  · have hc := hsg.1 hc
    have e : X = r := by
      by_cases h : r < X
      · have := g2 h; omega
      · have := hX.1; omega
    simp only [Tryd.f149, go_sem]
    rw [e]
    exact ⟨rfl, rfl⟩
  · have hc : ¬ X ≤ Y := fun h => hc (hsg.2 h)
    simp only [Tryd.f149, go_sem]
    refine ⟨Y, ⟨g1, g3⟩, by omega, ?_⟩
    simp [Wk, sget, killL, kill1, SV.key]
/-- Its contract: the whole part, and whether nothing is left. -/
theorem k_Root {a r : Nat} (h : Isq a r) (ha : a ≠ 0) (hb : bitLen a ≤ 8192) : PC E 124 [NN a, .int .i64 2] (.tuple [NN r, .bool (decide (r * r = a)), .int .i64 0]) := by
  have k1 := k_Bare (num_bits (x := a) (by omega))
  have k2 := k_Bits (num_bits (x := a) (by omega))
  have k3 := k_floor h ha (by omega)
  have hr : bitLen r ≤ 8192 := Nat.le_trans (bitLen_mono (Nat.le_trans (by
    have h3 := isq_pos h ha
    have h4 := Nat.mul_le_mul_right r h3
    omega) h.1)) hb
  have k4 := k_Pow (x := r) (by omega) (k := 2) (.inr rfl)
  have k5 := k_Cmp (num_bits (x := r ^ 2) (by have := bitLen_pow2 r; omega)) (num_bits (x := a) (by omega))
  have hl : (dg W a).length ≠ 0 := fun h0 => ha (by rw [← dv_dg W2 a, List.eq_nil_of_length_eq_zero h0]; rfl)
  have hsg : decide (sgn ((r ^ 2 : Nat) : Int) (a : Int) = 0) = decide (r * r = a) := by
    rw [Nat.pow_two]
    refine decide_eq_decide.2 ?_
    unfold sgn
    repeat' split
    all_goals omega
  rw [← hsg]
  generalize r ^ 2 = rr at *
  generalize sgn (rr : Int) (a : Int) = sg at *
  simp only [u, NN, NL] at k1 k2 k3 k4 k5 ⊢
  rw [show ((2 : Nat) : Int) = 2 from rfl] at k4
  refine PC.of_body follows Tryd.func124 (by decide +kernel) rfl (by kernel_rfl) (Nat.le_of_ble_eq_true rfl) (walk ?_)
  simp only [Tryd.f124, go_sem]
  refine qcall_i (k1) ?_; simp only [Tryd.f124, go_sem]
  refine qcall_i (k2) ?_; simp only [Tryd.f124, go_sem]
  refine qif_df (by omega) ?_
  simp only [Tryd.f124, go_sem]
  refine qif_df (by omega) ?_
  simp only [Tryd.f124, go_sem]
  refine qcall_i (k3) ?_; simp only [Tryd.f124, go_sem]
  refine qcall_i (k4) ?_; simp only [Tryd.f124, go_sem]
  refine qcall_i (k5) ?_; simp only [Tryd.f124, go_sem]
  try exact ⟨rfl, rfl⟩
  try rfl
end Go.Proofs.YtejmlngnpekagaaDoor
