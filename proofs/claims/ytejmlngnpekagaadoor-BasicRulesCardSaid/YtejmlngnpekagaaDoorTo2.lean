/- Rounding by the program: round.To. -/
import Derived.Test.YtejmlngnpekagaaDoorTo1
open Go PG Go.Proofs
set_option maxRecDepth 100000
set_option linter.unusedSimpArgs false
set_option linter.unusedVariables false
namespace Go.Proofs.YtejmlngnpekagaaDoor
attribute [local go_sem] Lay2 Lay3 Lay4 Lay5 Lay6 Lay7 Lay8 Lay9 Lay10 Lay11 Lay12 Lay13 Lay14 Lay15 Lay16 Lay17 Lay18 Lay19 Lay21 Lay22 Lay23 Lay24 Lay25 Lay30 Lay33 Lay36 Lay37 Lay46 Lay47 Lay48 Lay53 Lay54 Lay55 Lay59 Lay100 Lay101 Lay127 Lay146 Lay162 Lay168 Lay169 Lay173 Lay185 Lay186 Lay187 Lay188 Lay189 Lay191 Lay192 Lay194 Lay195 Lay196 Lay199 qexec_seq qexec_skip qexec_exit qexec_ret qexec_block qexec_loop qexec_range qexec_cond qexec_region qexec_drawn qops_nil qops_none qops_some put_some put_none pblk_exit pblk_other newDsts_nil inlDsts_nil isInl sget_cons sget_nil qval_some qbool_some qgs_bool qgs_und qfree_some qgrd_true qgrd_false qif_true qif_false qval_ite qval_itn qand_true map_ite map_some' map_none' qdo_move qdo_assign qdo_binOp qdo_pick qdo_unOp qdo_convert qdo_extract qdo_field qdo_fieldAddr qdo_alloc qdo_box qdo_build qdo_buildSlice qdo_load qdo_store qdo_nilCheck qdo_makeFunc qdo_makeSlice qdo_slice qdo_indexAddr qdo_call qcont_val qcont_new qcont_st qcont_app0 qcont_app qcont_inl qcont_call njSV_val njSV_nil njSV_row njSV_ptr njSV_sub binV_val binV_nil binV_nn binV_ptr bin_np bin_nnp nilCmp bin_add bin_sub bin_mul bin_quo bin_rem bin_and bin_or bin_xor bin_andNot bin_eql bin_neq bin_lss bin_leq bin_gtr bin_geq bin_shl bin_shr bin_seql bin_sneq bin_sadd bin_beql bin_aeql bin_aneq eqAnd_some eqCells_nil eqCells_cons fieldTypes isStruct eqCell bin_bneq un_not un_neg nj_ite Nat.beq stepA stepR isNew opSV constSV RV.sv allSome E_mu E_own qkeyIn_none qkeyIn_some qkeyAt_none qkeyAt_some Bool.or_false Bool.false_or Bool.or_true Bool.true_or cst setB res resSV pstart startL killL kill1 eraL frzL svPV rvPV rvInt rvSlice frzOf close closeL pconv pbuiltin pmax2 partPV setCells fillPV zrow bound newSV PV.cells Bk.cells Bk.with SV.key pres presL_nil presL_tmp presL_cell presC2_some cellPV_ptr presC List.toList_toArray List.size_toArray List.getElem?_drop Nat.mul_one Int.toNat_natCast Nat.not_lt_zero Nat.lt_irrefl decide_true decide_false Nat.not_lt Option.some.injEq PV.lst.injEq PV.int.injEq PV.bool.injEq PV.tuple.injEq List.cons.injEq Option.map_some Option.map_none Option.bind_some Option.toList List.map_cons List.map_nil List.nil_append List.cons_append List.append_nil List.zip_cons_cons List.zip_nil_left List.zip_nil_right List.getElem?_cons_zero List.getElem?_cons_succ List.drop_zero List.drop_succ_cons List.take_succ_cons List.take_zero List.set_cons_zero List.set_cons_succ List.length_cons List.length_nil List.length_set List.replicate_one List.replicate_zero bne_self_eq_false beq_self_eq_true Nat.zero_add Nat.add_zero Nat.zero_mul Bool.false_eq_true Bool.true_eq_false Bool.not_true Bool.not_false and_true true_and false_and and_false or_false false_or or_true true_or not_true_eq_false not_false_eq_true ne_eq gt_iff_lt List.mem_cons List.not_mem_nil
attribute [local go_sem ↓] pseq_normal pseq_ret pseq_exit pblk_normal pblk_ret newDsts_cons inlDsts_cons gdst_zero gdst_succ retQ_normal retQ_ret qneed_nil qneed_cons retM_normal retM_ret endR_normal endR_ret endR_exit
attribute [local go_sem] Int.reduceToNat Int.reduceEq Int.reduceNe Int.reduceLT Int.reduceLE Int.reduceNeg Int.reduceAdd Nat.reduceEqDiff Nat.reduceAdd Nat.reduceSub Nat.reduceMul Nat.reduceLeDiff Nat.reduceLT
attribute [local go_sem ↓] reduceIte reduceCtorEq

theorem or63 {b : Nat} (hb : b < W) : bits .or .u64 (b : Int) 9223372036854775808 = ((fsz b + 9223372036854775808 : Nat) : Int) := by
  have hb' := b_lt hb
  by_cases h : b < 9223372036854775808
  · rw [show fsz b = b from Nat.mod_eq_of_lt h]; exact o63 h
  · have h1 := b_or (a := b) (b := 9223372036854775808) hb (by decide)
    refine h1.trans ?_
    have e : b = fsz b ||| 9223372036854775808 := by
      have := Nat.two_pow_add_eq_or_of_lt (i := 63) (b := fsz b) (fsz_lt b) 1
      rw [Nat.mul_one] at this
      rw [Nat.or_comm, show (9223372036854775808 : Nat) = 2 ^ 63 by decide, ← this]
      unfold fsz; omega
    rw [show b ||| 9223372036854775808 = b by
      conv => lhs; rw [e]
      rw [Nat.or_assoc, Nat.or_self, ← e]]
    congr 1
    unfold fsz; omega
theorem c_signed07 (b : Nat) (hb : b < W) (s : Bool) : PC E 47 [u b, .bool s] (u (if s = true then fsz b + 9223372036854775808 else b)) := by
  refine PC.of_body follows Tryd.func47 (by decide +kernel) rfl (by kernel_rfl) (Nat.le_of_ble_eq_true rfl) (walk ?_)
  have e1 := or63 hb
  cases s
  · simp only [Tryd.f47, u, go_sem]
    try rfl
  · simp only [Tryd.f47, u, e1, go_sem]
    try rfl
theorem signed_withS (s : Bool) {v : Nat} (hv : v < 9223372036854775808) : (if s = true then fsz (withS s v) + 9223372036854775808 else withS s v) = withS s v := by
  rw [(withS_fields s hv).2.2.2.2]
  cases s <;> rfl
theorem signed_small (s : Bool) {v : Nat} (hv : v < 9223372036854775808) : (if s = true then fsz v + 9223372036854775808 else v) = withS s v := by
  rw [show fsz v = v from Nat.mod_eq_of_lt hv]
  rfl
theorem c_Over (s : Bool) (dir : Int) : PC E 42 [.bool s, .int .i64 dir] (.tuple [u (withS s (if dir = 0 ∨ upw dir s = true then INF else MAX)), .int .u8 5]) := by
  refine PC.of_body follows Tryd.func42 (by decide +kernel) rfl (by kernel_rfl) (Nat.le_of_ble_eq_true rfl) (walk ?_)
  have k := c_up dir s
  have k1 := c_signed07 INF (by decide) s
  have k2 := c_signed07 MAX (by decide) s
  rw [signed_small s (by decide)] at k1 k2
  replace k1 : PC E 47 [.int .u64 9218868437227405312, .bool s] (.int .u64 (withS s INF : Nat)) := k1
  replace k2 : PC E 47 [.int .u64 9218868437227405311, .bool s] (.int .u64 (withS s MAX : Nat)) := k2
  by_cases h0 : dir = 0
  · rw [if_pos (.inl h0)]
    simp only [Tryd.f42, go_sem]
    refine qif_dt h0 ?_
    simp only [Tryd.f42, go_sem]
    refine qcall_i (k1) ?_; simp only [Tryd.f42, u, go_sem]
  · generalize upw dir s = v at *
    simp only [Tryd.f42, go_sem]
    refine qif_df h0 ?_
    cases v
    · rw [if_neg (fun h => h.elim h0 (fun h => by cases h))]
      simp only [Tryd.f42, go_sem]
      refine qcall_i (k) ?_; simp only [Tryd.f42, go_sem]
      refine qcall_i (k2) ?_; simp only [Tryd.f42, u, go_sem]
    · rw [if_pos (.inr rfl)]
      simp only [Tryd.f42, go_sem]
      refine qcall_i (k) ?_; simp only [Tryd.f42, go_sem]
      refine qcall_i (k1) ?_; simp only [Tryd.f42, u, go_sem]
theorem c_Under (s : Bool) (dir : Int) : PC E 43 [.bool s, .int .i64 dir] (.tuple [u (withS s (if upw dir s = true then 1 else 0)), .int .u8 3]) := by
  refine PC.of_body follows Tryd.func43 (by decide +kernel) rfl (by kernel_rfl) (Nat.le_of_ble_eq_true rfl) (walk ?_)
  have k := c_up dir s
  have k1 := c_signed07 1 (by decide) s
  have k2 := c_signed07 0 (by decide) s
  rw [signed_small s (by decide)] at k1 k2
  replace k1 : PC E 47 [.int .u64 1, .bool s] (.int .u64 (withS s 1 : Nat)) := k1
  replace k2 : PC E 47 [.int .u64 0, .bool s] (.int .u64 (withS s 0 : Nat)) := k2
  generalize upw dir s = v at *
  cases v
  · simp only [Tryd.f43, go_sem]
    refine qcall_i (k) ?_; simp only [Tryd.f43, go_sem]
    refine qcall_i (k2) ?_; simp only [Tryd.f43, u, go_sem]
    try rfl
  · simp only [Tryd.f43, go_sem]
    refine qcall_i (k) ?_; simp only [Tryd.f43, go_sem]
    refine qcall_i (k1) ?_; simp only [Tryd.f43, u, go_sem]
    try rfl
/-- May it be rounded? -/
def toE (d : Dy) (more : Bool) (dir : Int) : Prop := d.fits ∧ 0 ≤ dir ∧ dir ≤ 3 ∧ ¬ (more = true ∧ d.m = 0)
instance (d : Dy) (more : Bool) (dir : Int) : Decidable (toE d more dir) := inferInstanceAs (Decidable (_ ∧ _))
theorem c_right {p : PV} {d : Dy} (h : RD p d) (more : Bool) (dir : Int) : PC E 40 [p, .bool more, .int .i64 dir] (.tuple [(if d.fits then d else .zero).pv, .bool (decide (toE d more dir))]) := by
  have k1 := r_Bare h
  obtain ⟨s, q, x, e, rfl, -⟩ := h
  refine PC.of_body follows Tryd.func40 (by decide +kernel) rfl (by kernel_rfl) (Nat.le_of_ble_eq_true rfl) (walk ?_)
  unfold okD at k1
  by_cases hf : d.fits
  · rw [if_pos hf] at k1 ⊢
    simp only [Dy.pv, DP, NN, NL] at k1 ⊢
    simp only [Tryd.f40, go_sem]
    refine qcall_i (k1) ?_; simp only [Tryd.f40, go_sem]
    by_cases h1 : dir ≥ 0
    · refine qif_dt h1 ?_
      simp only [Tryd.f40, go_sem]
      by_cases h2 : dir ≤ 3
      · refine qif_dt h2 ?_
        simp only [Tryd.f40, go_sem]
        cases more
        · simp only [Tryd.f40, go_sem]
          refine ⟨rfl, (decide_eq_true ?_).symm⟩
          exact ⟨hf, h1, h2, fun h => by cases h.1⟩
        · simp only [Tryd.f40, go_sem]
          refine ⟨rfl, ?_⟩
          by_cases h0 : d.m = 0
          · rw [decide_eq_false (fun h : toE d true dir => h.2.2.2 ⟨rfl, h0⟩), h0]
            rfl
          · rw [decide_eq_true (show toE d true dir from ⟨hf, h1, h2, fun h => h0 h.2⟩)]
            rw [decide_eq_false (fun h => h0 (dg_nil (by omega)))]
            rfl
      · refine qif_df h2 ?_
        simp only [Tryd.f40, go_sem]
        refine ⟨rfl, (decide_eq_false fun h => ?_).symm⟩
        exact h2 h.2.2.1
    · refine qif_df h1 ?_
      simp only [Tryd.f40, go_sem]
      refine ⟨rfl, (decide_eq_false fun h => ?_).symm⟩
      exact h1 h.2.1
  · rw [if_neg hf] at k1 ⊢
    rw [decide_eq_false (fun h : toE d more dir => hf h.1)]
    simp only [Dy.pv, Dy.zero, DP, NN, NL] at k1 ⊢
    simp only [Tryd.f40, go_sem]
    refine qcall_i (k1) ?_; simp only [Tryd.f40, go_sem]
    try rfl
theorem upM_low {d : Dy} (h0 : d.m ≠ 0) (ht : d.top ≤ 1023) (more : Bool) (dir : Int) : upM d more dir (unitOf d.top) = awayS dir d.s (decide (low d % 2 = 1)) (hf d (unitOf d.top)) (bl d (unitOf d.top) || more) := by
  have hp := flo_ok h0 ht
  have hl : low d = packB (flo d (unitOf d.top)) (unitOf d.top) := if_neg (by omega)
  unfold upM
  rw [hl, odd_pack hp]
theorem away_dir {dir : Int} {s odd half below : Bool} (h : awayS dir s odd half below = true) : dir = 0 ∨ upw dir s = true := by
  unfold awayS at h
  split at h
  · exact .inl (by assumption)
  · right
    revert h
    cases half <;> cases below <;> cases upw dir s <;> simp
theorem small_parts {d : Dy} (h0 : d.m ≠ 0) (ht : d.top < -1075) : hf d (unitOf d.top) = false ∧ bl d (unitOf d.top) = true ∧ low d = 0 := by
  have hu : unitOf d.top = -1074 := by unfold unitOf; omega
  have e1 := flo_small h0 (t := -1074) (by omega)
  have e2 := flo_small h0 (t := -1074 - 1) (by omega)
  rw [hu]
  have h1 : hf d (-1074) = false := by unfold hf; rw [e2]; decide
  refine ⟨h1, ?_, ?_⟩
  · obtain ⟨r, h2, h3, h4⟩ := parts_at d (-1074) (k := min d.e (-1075)) (by omega) (by omega)
    rw [e1, h1] at h2
    cases hb : bl d (-1074)
    · have h5 := h4.2 hb
      have h6 := top_at h0 (k := min d.e (-1075)) (by omega)
      have := Nat.two_pow_pos (d.top - min d.e (-1075)).toNat
      rw [h2, h5] at h6
      simp at h6
    · rfl
  · unfold low
    rw [if_neg (by omega), hu, e1]
    decide
end Go.Proofs.YtejmlngnpekagaaDoor
