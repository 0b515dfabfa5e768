/- Rounding by the program: round's functions. -/
import Derived.Test.YtejmlngnpekagaaDoorNx2
open Go PG Go.Proofs
set_option maxRecDepth 100000
set_option linter.unusedSimpArgs false
set_option linter.unusedVariables false
namespace Go.Proofs.YtejmlngnpekagaaDoor
attribute [local go_sem] Lay2 Lay3 Lay4 Lay5 Lay6 Lay7 Lay8 Lay9 Lay10 Lay11 Lay12 Lay13 Lay14 Lay15 Lay16 Lay17 Lay18 Lay19 Lay21 Lay22 Lay23 Lay24 Lay25 Lay30 Lay33 Lay36 Lay37 Lay46 Lay47 Lay48 Lay53 Lay54 Lay55 Lay59 Lay100 Lay101 Lay127 Lay146 Lay162 Lay168 Lay169 Lay173 Lay185 Lay186 Lay187 Lay188 Lay189 Lay191 Lay192 Lay194 Lay195 Lay196 Lay199 qexec_seq qexec_skip qexec_exit qexec_ret qexec_block qexec_loop qexec_range qexec_cond qexec_region qexec_drawn qops_nil qops_none qops_some put_some put_none pblk_exit pblk_other newDsts_nil inlDsts_nil isInl sget_cons sget_nil qval_some qbool_some qgs_bool qgs_und qfree_some qgrd_true qgrd_false qif_true qif_false qval_ite qval_itn qand_true map_ite map_some' map_none' qdo_move qdo_assign qdo_binOp qdo_pick qdo_unOp qdo_convert qdo_extract qdo_field qdo_fieldAddr qdo_alloc qdo_box qdo_build qdo_buildSlice qdo_load qdo_store qdo_nilCheck qdo_makeFunc qdo_makeSlice qdo_slice qdo_indexAddr qdo_call qcont_val qcont_new qcont_st qcont_app0 qcont_app qcont_inl qcont_call njSV_val njSV_nil njSV_row njSV_ptr njSV_sub binV_val binV_nil binV_nn binV_ptr bin_np bin_nnp nilCmp bin_add bin_sub bin_mul bin_quo bin_rem bin_and bin_or bin_xor bin_andNot bin_eql bin_neq bin_lss bin_leq bin_gtr bin_geq bin_shl bin_shr bin_seql bin_sneq bin_sadd bin_beql bin_aeql bin_aneq eqAnd_some eqCells_nil eqCells_cons fieldTypes isStruct eqCell bin_bneq un_not un_neg nj_ite Nat.beq stepA stepR isNew opSV constSV RV.sv allSome E_mu E_own qkeyIn_none qkeyIn_some qkeyAt_none qkeyAt_some Bool.or_false Bool.false_or Bool.or_true Bool.true_or cst setB res resSV pstart startL killL kill1 eraL frzL svPV rvPV rvInt rvSlice frzOf close closeL pconv pbuiltin pmax2 partPV setCells fillPV zrow bound newSV PV.cells Bk.cells Bk.with SV.key pres presL_nil presL_tmp presL_cell presC2_some cellPV_ptr presC List.toList_toArray List.size_toArray List.getElem?_drop Nat.mul_one Int.toNat_natCast Nat.not_lt_zero Nat.lt_irrefl decide_true decide_false Nat.not_lt Option.some.injEq PV.lst.injEq PV.int.injEq PV.bool.injEq PV.tuple.injEq List.cons.injEq Option.map_some Option.map_none Option.bind_some Option.toList List.map_cons List.map_nil List.nil_append List.cons_append List.append_nil List.zip_cons_cons List.zip_nil_left List.zip_nil_right List.getElem?_cons_zero List.getElem?_cons_succ List.drop_zero List.drop_succ_cons List.take_succ_cons List.take_zero List.set_cons_zero List.set_cons_succ List.length_cons List.length_nil List.length_set List.replicate_one List.replicate_zero bne_self_eq_false beq_self_eq_true Nat.zero_add Nat.add_zero Nat.zero_mul Bool.false_eq_true Bool.true_eq_false Bool.not_true Bool.not_false and_true true_and false_and and_false or_false false_or or_true true_or not_true_eq_false not_false_eq_true ne_eq gt_iff_lt List.mem_cons List.not_mem_nil
attribute [local go_sem ↓] pseq_normal pseq_ret pseq_exit pblk_normal pblk_ret newDsts_cons inlDsts_cons gdst_zero gdst_succ retQ_normal retQ_ret qneed_nil qneed_cons retM_normal retM_ret endR_normal endR_ret endR_exit
attribute [local go_sem] Int.reduceToNat Int.reduceEq Int.reduceNe Int.reduceLT Int.reduceLE Int.reduceNeg Int.reduceAdd Nat.reduceEqDiff Nat.reduceAdd Nat.reduceSub Nat.reduceMul Nat.reduceLeDiff Nat.reduceLT
attribute [local go_sem ↓] reduceIte reduceCtorEq

theorem c_up (dir : Int) (s : Bool) : PC E 88 [.int .i64 dir, .bool s] (.bool (upw dir s)) := by
  refine PC.of_body follows Tryd.func88 (by decide +kernel) rfl (by kernel_rfl) (Nat.le_of_ble_eq_true rfl) (walk ?_)
  unfold upw
  by_cases h2 : dir = 2
  · subst h2
    cases s
    · simp only [Tryd.f88, go_sem]
      rfl
    · simp only [Tryd.f88, go_sem]
      rfl
  · by_cases h3 : dir = 3
    · subst h3
      cases s
      · simp only [Tryd.f88, go_sem]
        rfl
      · simp only [Tryd.f88, go_sem]
        rfl
    · rw [decide_eq_false h2, decide_eq_false h3]
      cases s
      all_goals
        simp only [Tryd.f88, go_sem]
        refine qif_df h2 ?_
        simp only [Tryd.f88, go_sem]
        refine qif_df h3 ?_
        simp only [Tryd.f88, go_sem]
        rfl
theorem c_away (dir : Int) (s odd half below : Bool) : PC E 90 [.int .i64 dir, .bool s, .bool odd, .bool half, .bool below] (.bool (awayS dir s odd half below)) := by
  refine PC.of_body follows Tryd.func90 (by decide +kernel) rfl (by kernel_rfl) (Nat.le_of_ble_eq_true rfl) (walk ?_)
  have k := c_up dir s
  unfold awayS
  generalize upw dir s = v at *
  by_cases h0 : dir = 0
  · rw [if_pos h0]
    simp only [Tryd.f90, go_sem]
    refine qif_dt h0 ?_
    simp only [Tryd.f90, go_sem]
    cases half <;> cases below <;> (try simp only [Tryd.f90, go_sem]) <;> rfl
  · rw [if_neg h0]
    simp only [Tryd.f90, go_sem]
    refine qif_df h0 ?_
    simp only [Tryd.f90, go_sem]
    cases half <;> cases below <;> (try simp only [Tryd.f90, go_sem]) <;> (try (refine qcall_i (k) ?_; simp only [Tryd.f90, go_sem])) <;> (try rfl)

theorem bl_n {d : Dy} {t : Int} (h : d.e < t) : bl d t = decide (d.m % 2 ^ ((t - d.e).toNat - 1) ≠ 0) ∧ flo d (t - 1) = d.m / 2 ^ ((t - d.e).toNat - 1) ∧ flo d t = d.m / 2 ^ (t - d.e).toNat := by
  unfold bl flo
  rw [show (d.e - (t - 1)).toNat = 0 by omega, show (d.e - t).toNat = 0 by omega, Nat.pow_zero, Nat.mul_one, show (t - 1 - d.e).toNat = (t - d.e).toNat - 1 by omega]
  exact ⟨rfl, rfl, rfl⟩
theorem bl_p {d : Dy} {t : Int} (h : t ≤ d.e) : bl d t = false ∧ hf d t = false ∧ flo d t = d.m * 2 ^ (d.e - t).toNat := by
  unfold bl hf flo
  rw [show (t - 1 - d.e).toNat = 0 by omega, show (t - d.e).toNat = 0 by omega, Nat.pow_zero, Nat.mod_one, Nat.div_one, Nat.div_one, show (d.e - (t - 1)).toNat = (d.e - t).toNat + 1 by omega, Nat.pow_succ, ← Nat.mul_assoc, Nat.mul_mod_left]
  exact ⟨rfl, rfl, rfl⟩
theorem c_parts {d : Dy} (hb : bitLen d.m ≤ 1000000) (h1 : -3000000000 ≤ d.e ∧ d.e ≤ 3000000000) {t : Int} (h2 : -3000000000 ≤ t ∧ t ≤ 3000000000) (h3 : t ≤ d.e → bitLen d.m + (d.e - t).toNat ≤ 65536) :
    PC E 89 [d.pv, .int .i64 t] (.tuple [NN (flo d t), .bool (hf d t), .bool (bl d t)]) := by
  refine PC.of_body follows Tryd.func89 (by decide +kernel) rfl (by kernel_rfl) (Nat.le_of_ble_eq_true rfl) (walk ?_)
  have w1 : IntKind.wrap .i64 (t - d.e) = t - d.e := wrap64 (by omega) (by omega)
  have w2 : IntKind.wrap .i64 (0 - (t - d.e)) = d.e - t := by rw [wrap64 (by omega) (by omega)]; omega
  have w3 : IntKind.wrap .i64 (t - d.e - 1) = t - d.e - 1 := wrap64 (by omega) (by omega)
  by_cases h : t ≤ d.e
  · obtain ⟨e1, e2, e3⟩ := bl_p h
    have k1 := k_Shln (num_bits hb) (d.e - t).toNat (h3 h)
    rw [e1, e2, e3]
    rw [show ((d.e - t).toNat : Int) = d.e - t by omega] at k1
    simp only [Dy.pv, DP, NN, NL] at k1 ⊢
    simp only [Tryd.f89, w1, go_sem]
    refine qif_dt (by omega) ?_
    simp only [Tryd.f89, w1, w2, go_sem]
    refine qcall_i (k1) ?_; simp only [Tryd.f89, go_sem]
    rfl
  · obtain ⟨e1, e2, e3⟩ := bl_n (d := d) (t := t) (by omega)
    have k1 := k_Shrn (num_bits hb) (t - d.e).toNat
    have k2 := k_Shrn (num_bits hb) ((t - d.e).toNat - 1)
    rw [← e3, show ((t - d.e).toNat : Int) = t - d.e by omega] at k1
    rw [← e2, ← e1, show (((t - d.e).toNat - 1 : Nat) : Int) = t - d.e - 1 by omega] at k2
    have hbl := bitLen_mono (show flo d (t - 1) ≤ d.m by rw [e2]; exact Nat.div_le_self _ _)
    have k3 := k_Odd (num_bits (x := flo d (t - 1)) (by omega))
    rw [show decide (flo d (t - 1) % 2 = 1) = hf d t from rfl] at k3
    simp only [Dy.pv, DP, NN, NL] at k1 k2 k3 ⊢
    simp only [Tryd.f89, w1, go_sem]
    refine qif_df (by omega) ?_
    simp only [Tryd.f89, w1, w3, go_sem]
    refine qcall_i (k1) ?_; simp only [Tryd.f89, w3, go_sem]
    refine qcall_i (k2) ?_; simp only [Tryd.f89, go_sem]
    refine qcall_i (k3) ?_; simp only [Tryd.f89, go_sem]
    rfl
theorem flo_le (d : Dy) (t : Int) (h : t ≤ d.e → bitLen d.m + (d.e - t).toNat ≤ 65536) (hb : bitLen d.m ≤ 1000000) : bitLen (flo d t) ≤ 1000000 := by
  by_cases h1 : t ≤ d.e
  · rw [(bl_p h1).2.2]
    have := bitLen_shl_le d.m (d.e - t).toNat
    have := h h1
    omega
  · rw [(bl_n (by omega)).2.2]
    have := bitLen_mono (Nat.div_le_self d.m (2 ^ (t - d.e).toNat))
    omega
def upM (d : Dy) (more : Bool) (dir t : Int) : Bool := awayS dir d.s (decide (flo d t % 2 = 1)) (hf d t) (bl d t || more)
theorem c_whole07 {d : Dy} (hb : bitLen d.m ≤ 900000) (h1 : -3000000000 ≤ d.e ∧ d.e ≤ 3000000000) {t : Int} (h2 : -3000000000 ≤ t ∧ t ≤ 3000000000) (h3 : t ≤ d.e → bitLen d.m + (d.e - t).toNat ≤ 65536) (more : Bool) (dir : Int) :
    PC E 44 [d.pv, .bool more, .int .i64 dir, .int .i64 t] (.tuple [NN (if upM d more dir t = true then flo d t + 1 else flo d t), .bool (hf d t || (bl d t || more))]) := by
  refine PC.of_body follows Tryd.func44 (by decide +kernel) rfl (by kernel_rfl) (Nat.le_of_ble_eq_true rfl) (walk ?_)
  have hfl := flo_le d t h3 (by omega)
  have k1 := c_parts (by omega) h1 h2 h3
  have k2 := k_Odd (num_bits hfl)
  have k3 := c_away dir d.s (decide (flo d t % 2 = 1)) (hf d t) (bl d t || more)
  have k4 := c_Of 1 (by decide)
  have k5 := k_Add (num_bits hfl) (num_bits (x := 1) (by decide))
  rw [show awayS dir d.s (decide (flo d t % 2 = 1)) (hf d t) (bl d t || more) = upM d more dir t from rfl] at k3
  generalize upM d more dir t = a at *
  generalize decide (flo d t % 2 = 1) = odd at *
  generalize flo d t = M at *
  generalize hf d t = H at *
  generalize bl d t = L at *
  have d1 := dg_one (x := 1) (by decide) (by decide)
  simp only [u, Dy.pv, DP, NN, NL] at k1 k2 k3 k4 k5 ⊢
  simp only [Tryd.f44, go_sem]
  refine qcall_i (k1) ?_; simp only [Tryd.f44, go_sem]
  cases L <;> cases a <;> cases H
  all_goals
    (try simp only [Tryd.f44, go_sem])
    refine qcall_i (k2) ?_; simp only [Tryd.f44, go_sem]
    refine qcall_i (k3) ?_; simp only [Tryd.f44, go_sem]
    (try (refine qcall_i (k4) ?_; simp only [Tryd.f44, go_sem]))
    (try (refine qcall_i (k5) ?_; simp only [Tryd.f44, go_sem]))
    (try rfl)
end Go.Proofs.YtejmlngnpekagaaDoor
