/- basic: square roots of bits. -/
import Derived.Test.YtejmlngnpekagaaDoorBq5
import Derived.Test.YtejmlngnpekagaaDoorBq2
open Go PG Go.Proofs
set_option maxRecDepth 100000
set_option linter.unusedSimpArgs false
set_option linter.unusedVariables false
namespace Go.Proofs.YtejmlngnpekagaaDoor
attribute [local go_sem] Lay2 Lay3 Lay4 Lay5 Lay6 Lay7 Lay8 Lay9 Lay10 Lay11 Lay12 Lay13 Lay14 Lay15 Lay16 Lay17 Lay18 Lay19 Lay21 Lay22 Lay23 Lay24 Lay25 Lay30 Lay33 Lay36 Lay37 Lay46 Lay47 Lay48 Lay53 Lay54 Lay55 Lay59 Lay100 Lay101 Lay127 Lay146 Lay162 Lay168 Lay169 Lay173 Lay185 Lay186 Lay187 Lay188 Lay189 Lay191 Lay192 Lay194 Lay195 Lay196 Lay199 qexec_seq qexec_skip qexec_exit qexec_ret qexec_block qexec_loop qexec_range qexec_cond qexec_region qexec_drawn qops_nil qops_none qops_some put_some put_none pblk_exit pblk_other newDsts_nil inlDsts_nil isInl sget_cons sget_nil qval_some qbool_some qgs_bool qgs_und qfree_some qgrd_true qgrd_false qif_true qif_false qval_ite qval_itn qand_true map_ite map_some' map_none' qdo_move qdo_assign qdo_binOp qdo_pick qdo_unOp qdo_convert qdo_extract qdo_field qdo_fieldAddr qdo_alloc qdo_box qdo_build qdo_buildSlice qdo_load qdo_store qdo_nilCheck qdo_makeFunc qdo_makeSlice qdo_slice qdo_indexAddr qdo_call qcont_val qcont_new qcont_st qcont_app0 qcont_app qcont_inl qcont_call njSV_val njSV_nil njSV_row njSV_ptr njSV_sub binV_val binV_nil binV_nn binV_ptr bin_np bin_nnp nilCmp bin_add bin_sub bin_mul bin_quo bin_rem bin_and bin_or bin_xor bin_andNot bin_eql bin_neq bin_lss bin_leq bin_gtr bin_geq bin_shl bin_shr bin_seql bin_sneq bin_sadd bin_beql bin_aeql bin_aneq eqAnd_some eqCells_nil eqCells_cons fieldTypes isStruct eqCell bin_bneq un_not un_neg nj_ite Nat.beq stepA stepR isNew opSV constSV RV.sv allSome E_mu E_own qkeyIn_none qkeyIn_some qkeyAt_none qkeyAt_some Bool.or_false Bool.false_or Bool.or_true Bool.true_or cst setB res resSV pstart startL killL kill1 eraL frzL svPV rvPV rvInt rvSlice frzOf close closeL pconv pbuiltin pmax2 partPV setCells fillPV zrow bound newSV PV.cells Bk.cells Bk.with SV.key pres presL_nil presL_tmp presL_cell presC2_some cellPV_ptr presC List.toList_toArray List.size_toArray List.getElem?_drop Nat.mul_one Int.toNat_natCast Nat.not_lt_zero Nat.lt_irrefl decide_true decide_false Nat.not_lt Option.some.injEq PV.lst.injEq PV.int.injEq PV.bool.injEq PV.tuple.injEq List.cons.injEq Option.map_some Option.map_none Option.bind_some Option.toList List.map_cons List.map_nil List.nil_append List.cons_append List.append_nil List.zip_cons_cons List.zip_nil_left List.zip_nil_right List.getElem?_cons_zero List.getElem?_cons_succ List.drop_zero List.drop_succ_cons List.take_succ_cons List.take_zero List.set_cons_zero List.set_cons_succ List.length_cons List.length_nil List.length_set List.replicate_one List.replicate_zero bne_self_eq_false beq_self_eq_true Nat.zero_add Nat.add_zero Nat.zero_mul Bool.false_eq_true Bool.true_eq_false Bool.not_true Bool.not_false and_true true_and false_and and_false or_false false_or or_true true_or not_true_eq_false not_false_eq_true ne_eq gt_iff_lt List.mem_cons List.not_mem_nil
attribute [local go_sem ↓] pseq_normal pseq_ret pseq_exit pblk_normal pblk_ret newDsts_cons inlDsts_cons gdst_zero gdst_succ retQ_normal retQ_ret qneed_nil qneed_cons retM_normal retM_ret endR_normal endR_ret endR_exit
attribute [local go_sem] Int.reduceToNat Int.reduceEq Int.reduceNe Int.reduceLT Int.reduceLE Int.reduceNeg Int.reduceAdd Nat.reduceEqDiff Nat.reduceAdd Nat.reduceSub Nat.reduceMul Nat.reduceLeDiff Nat.reduceLT
attribute [local go_sem ↓] reduceIte reduceCtorEq

/-- Bits and flags of a square root; r is the whole part of a root. -/
def sqrtS (x r : Nat) (dir : Int) : Nat × Nat :=
  if kind x = 5 then (9221120237041090560, 16)
  else if kind x = 4 then (9221120237041090560, 0)
  else if kind x = 0 then (x, 0)
  else if fs x = true then (9221120237041090560, 16)
  else if kind x = 3 then (x, 0)
  else toS (rootD (fd x) r) (decide (r * r ≠ rootM (fd x))) dir
theorem b_SqrtN {x : Nat} {dir : Int} (hd : ¬ (0 ≤ dir ∧ dir ≤ 3)) : PC E 31 [u x, .int .i64 dir] (resB (0, 0) 1) := by
  have ke := b_earlyN (l := [x]) hd
  have z0 : ((0 : Nat) : Int) = 0 := rfl
  simp only [u, NL, U, List.map_cons, List.map_nil, List.length_cons, List.length_nil, resB, resE, Nat.reduceAdd, z0] at ke ⊢
  refine PC.of_body follows Tryd.func31 (by decide +kernel) rfl (by kernel_rfl) (Nat.le_of_ble_eq_true rfl) (walk ?_)
  simp only [Tryd.f31, List.replicate_succ, go_sem]
  refine qcall_i (ke) ?_; simp only [Tryd.f31, List.replicate_succ, go_sem]
  try rfl
set_option maxHeartbeats 4000000 in
theorem b_Sqrt {x r : Nat} (hx : x < W) (hr : Isq (rootM (fd x)) r) {dir : Int} (hd : 0 ≤ dir ∧ dir ≤ 3) : PC E 31 [u x, .int .i64 dir] (resB (sqrtS x r dir) 0) := by
  have ol : Ok W [x] := fun d h => by simp at h; rcases h with rfl; assumption
  have ke := b_early ol (by simp) hd
  rw [show ([x].any fun x => decide ((kind x : Int) = 5)) = _ from any1 x 5, show ([x].any fun x => decide ((kind x : Int) = 4)) = _ from any1 x 4] at ke
  have k0 := b_kind ol (by simp) 0
  have k3 := b_kind ol (by simp) 3
  rw [show ([x].any fun x => decide ((kind x : Int) = 0)) = _ from any1 x 0] at k0
  rw [show ([x].any fun x => decide ((kind x : Int) = 3)) = _ from any1 x 3] at k3
  have kn := c_Neg x hx
  have ki := b_invalid
  have ks := b_is x
  have kd := r_FDyad hx
  have hx5 := kind_le x
  have kr : (kind x = 1 ∨ kind x = 2) → fs x = false → PC E 78 [(fd x).pv, .int .i64 dir] (.tuple [.int .u64 ((toS (rootD (fd x) r) (decide (r * r ≠ rootM (fd x))) dir).1 : Nat), .int .u8 ((toS (rootD (fd x) r) (decide (r * r ≠ rootM (fd x))) dir).2 : Nat), .int .i64 0]) := fun h1 h2 => by
    have := b_Root ((fd_lim x).RD (by decide)) hr dir
    unfold rootB at this
    rwa [if_pos ⟨fd_may h1, by rw [fd_s (fd_may h1).2.1, h2], hd⟩] at this
  have fx : kind x ≤ 2 → fe x < 2047 := fd_fin
  have z0 : ((0 : Nat) : Int) = 0 := rfl
  obtain ⟨R, hR⟩ : ∃ R, R = sqrtS x r dir := ⟨_, rfl⟩
  rw [← hR]
  unfold sqrtS at hR
  clear ol hx hr
  generalize toS (rootD (fd x) r) (decide (r * r ≠ rootM (fd x))) dir = To at *
  generalize kind x = a at *
  generalize fs x = sx at *
  simp only [u, NL, U, List.map_cons, List.map_nil, List.length_cons, List.length_nil, resB, resE, Nat.reduceAdd, z0] at ke k0 k3 kn ks kd ⊢
  refine PC.of_body follows Tryd.func31 (by decide +kernel) rfl (by kernel_rfl) (Nat.le_of_ble_eq_true rfl) (walk ?_)
  by_cases h5 : a = 5
  · rw [if_pos h5] at hR
    rw [decide_eq_true h5] at ke
    simp only [Tryd.f31, List.replicate_succ, go_sem]
    refine qcall_i (ke) ?_; simp only [Tryd.f31, List.replicate_succ, go_sem]
    rw [hR]
    try rfl
  rw [if_neg h5] at hR
  rw [decide_eq_false h5] at ke
  by_cases h4 : a = 4
  · rw [if_pos h4] at hR
    rw [decide_eq_true h4] at ke
    simp only [Tryd.f31, List.replicate_succ, go_sem]
    refine qcall_i (ke) ?_; simp only [Tryd.f31, List.replicate_succ, go_sem]
    rw [hR]
    try rfl
  rw [if_neg h4] at hR
  rw [decide_eq_false h4] at ke
  by_cases h0 : a = 0
  · rw [if_pos h0] at hR
    rw [decide_eq_true h0] at k0
    simp only [Tryd.f31, List.replicate_succ, go_sem]
    refine qcall_i (ke) ?_; simp only [Tryd.f31, List.replicate_succ, go_sem]
    refine qcall_i (k0) ?_; simp only [Tryd.f31, List.replicate_succ, go_sem]
    refine qcall_i (ks) ?_; simp only [Tryd.f31, List.replicate_succ, go_sem]
    rw [hR]
    try rfl
  rw [if_neg h0] at hR
  rw [decide_eq_false h0] at k0
  cases sx
  case true =>
    rw [if_pos rfl] at hR
    simp only [Tryd.f31, List.replicate_succ, go_sem]
    refine qcall_i (ke) ?_; simp only [Tryd.f31, List.replicate_succ, go_sem]
    refine qcall_i (k0) ?_; simp only [Tryd.f31, List.replicate_succ, go_sem]
    refine qcall_i (kn) ?_; simp only [Tryd.f31, List.replicate_succ, go_sem]
    refine qcall_i (ki) ?_; simp only [Tryd.f31, List.replicate_succ, go_sem]
    rw [hR]
    try rfl
  rw [if_neg (by decide)] at hR
  by_cases h3 : a = 3
  · rw [if_pos h3] at hR
    rw [decide_eq_true h3] at k3
    simp only [Tryd.f31, List.replicate_succ, go_sem]
    refine qcall_i (ke) ?_; simp only [Tryd.f31, List.replicate_succ, go_sem]
    refine qcall_i (k0) ?_; simp only [Tryd.f31, List.replicate_succ, go_sem]
    refine qcall_i (kn) ?_; simp only [Tryd.f31, List.replicate_succ, go_sem]
    refine qcall_i (k3) ?_; simp only [Tryd.f31, List.replicate_succ, go_sem]
    refine qcall_i (ks) ?_; simp only [Tryd.f31, List.replicate_succ, go_sem]
    rw [hR]
    try rfl
  rw [if_neg h3] at hR
  rw [decide_eq_false h3] at k3
  have kr := kr (by omega) rfl
  rw [if_pos (fx (by omega))] at kd
  generalize fd x = dx at *
  simp only [Dy.pv, DP] at kd kr
  simp only [Tryd.f31, List.replicate_succ, go_sem]
  refine qcall_i (ke) ?_; simp only [Tryd.f31, List.replicate_succ, go_sem]
  refine qcall_i (k0) ?_; simp only [Tryd.f31, List.replicate_succ, go_sem]
  refine qcall_i (kn) ?_; simp only [Tryd.f31, List.replicate_succ, go_sem]
  refine qcall_i (k3) ?_; simp only [Tryd.f31, List.replicate_succ, go_sem]
  refine qcall_i (kd) ?_; simp only [Tryd.f31, List.replicate_succ, go_sem]
  refine qcall_i (kr) ?_; simp only [Tryd.f31, List.replicate_succ, go_sem]
  rw [hR]
  try rfl
end Go.Proofs.YtejmlngnpekagaaDoor
