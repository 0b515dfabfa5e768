/- basic: quotients; what wrong directions give; the laws' example. -/
import Derived.Test.YtejmlngnpekagaaDoorBq1
import Derived.Test.YtejmlngnpekagaaDoorBm
import Derived.Test.YtejmlngnpekagaaDoorRv
open Go PG Go.Proofs
set_option maxRecDepth 100000
set_option linter.unusedSimpArgs false
set_option linter.unusedVariables false
namespace Go.Proofs.YtejmlngnpekagaaDoor
attribute [local go_sem] Lay2 Lay3 Lay4 Lay5 Lay6 Lay7 Lay8 Lay9 Lay10 Lay11 Lay12 Lay13 Lay14 Lay15 Lay16 Lay17 Lay18 Lay19 Lay21 Lay22 Lay23 Lay24 Lay25 Lay30 Lay33 Lay36 Lay37 Lay46 Lay47 Lay48 Lay53 Lay54 Lay55 Lay59 Lay100 Lay101 Lay127 Lay146 Lay162 Lay168 Lay169 Lay173 Lay185 Lay186 Lay187 Lay188 Lay189 Lay191 Lay192 Lay194 Lay195 Lay196 Lay199 qexec_seq qexec_skip qexec_exit qexec_ret qexec_block qexec_loop qexec_range qexec_cond qexec_region qexec_drawn qops_nil qops_none qops_some put_some put_none pblk_exit pblk_other newDsts_nil inlDsts_nil isInl sget_cons sget_nil qval_some qbool_some qgs_bool qgs_und qfree_some qgrd_true qgrd_false qif_true qif_false qval_ite qval_itn qand_true map_ite map_some' map_none' qdo_move qdo_assign qdo_binOp qdo_pick qdo_unOp qdo_convert qdo_extract qdo_field qdo_fieldAddr qdo_alloc qdo_box qdo_build qdo_buildSlice qdo_load qdo_store qdo_nilCheck qdo_makeFunc qdo_makeSlice qdo_slice qdo_indexAddr qdo_call qcont_val qcont_new qcont_st qcont_app0 qcont_app qcont_inl qcont_call njSV_val njSV_nil njSV_row njSV_ptr njSV_sub binV_val binV_nil binV_nn binV_ptr bin_np bin_nnp nilCmp bin_add bin_sub bin_mul bin_quo bin_rem bin_and bin_or bin_xor bin_andNot bin_eql bin_neq bin_lss bin_leq bin_gtr bin_geq bin_shl bin_shr bin_seql bin_sneq bin_sadd bin_beql bin_aeql bin_aneq eqAnd_some eqCells_nil eqCells_cons fieldTypes isStruct eqCell bin_bneq un_not un_neg nj_ite Nat.beq stepA stepR isNew opSV constSV RV.sv allSome E_mu E_own qkeyIn_none qkeyIn_some qkeyAt_none qkeyAt_some Bool.or_false Bool.false_or Bool.or_true Bool.true_or cst setB res resSV pstart startL killL kill1 eraL frzL svPV rvPV rvInt rvSlice frzOf close closeL pconv pbuiltin pmax2 partPV setCells fillPV zrow bound newSV PV.cells Bk.cells Bk.with SV.key pres presL_nil presL_tmp presL_cell presC2_some cellPV_ptr presC List.toList_toArray List.size_toArray List.getElem?_drop Nat.mul_one Int.toNat_natCast Nat.not_lt_zero Nat.lt_irrefl decide_true decide_false Nat.not_lt Option.some.injEq PV.lst.injEq PV.int.injEq PV.bool.injEq PV.tuple.injEq List.cons.injEq Option.map_some Option.map_none Option.bind_some Option.toList List.map_cons List.map_nil List.nil_append List.cons_append List.append_nil List.zip_cons_cons List.zip_nil_left List.zip_nil_right List.getElem?_cons_zero List.getElem?_cons_succ List.drop_zero List.drop_succ_cons List.take_succ_cons List.take_zero List.set_cons_zero List.set_cons_succ List.length_cons List.length_nil List.length_set List.replicate_one List.replicate_zero bne_self_eq_false beq_self_eq_true Nat.zero_add Nat.add_zero Nat.zero_mul Bool.false_eq_true Bool.true_eq_false Bool.not_true Bool.not_false and_true true_and false_and and_false or_false false_or or_true true_or not_true_eq_false not_false_eq_true ne_eq gt_iff_lt List.mem_cons List.not_mem_nil
attribute [local go_sem ↓] pseq_normal pseq_ret pseq_exit pblk_normal pblk_ret newDsts_cons inlDsts_cons gdst_zero gdst_succ retQ_normal retQ_ret qneed_nil qneed_cons retM_normal retM_ret endR_normal endR_ret endR_exit
attribute [local go_sem] Int.reduceToNat Int.reduceEq Int.reduceNe Int.reduceLT Int.reduceLE Int.reduceNeg Int.reduceAdd Nat.reduceEqDiff Nat.reduceAdd Nat.reduceSub Nat.reduceMul Nat.reduceLeDiff Nat.reduceLT
attribute [local go_sem ↓] reduceIte reduceCtorEq

theorem b_earlyN {l : List Nat} {dir : Int} (hd : ¬ (0 ≤ dir ∧ dir ≤ 3)) : PC E 61 [.int .i64 dir, NL l] (resE (0, 0) 1 true) := by
  have kr := b_right dir
  rw [decide_eq_false hd] at kr
  have z0 : ((0 : Nat) : Int) = 0 := rfl
  simp only [NL, resE, z0]
  refine PC.of_body follows Tryd.func61 (by decide +kernel) rfl (by kernel_rfl) (Nat.le_of_ble_eq_true rfl) (walk ?_)
  simp only [Tryd.f61, go_sem]
  refine qcall_i (kr) ?_; simp only [Tryd.f61, go_sem]
  try rfl
theorem b_FmaN {x y z : Nat} {dir : Int} (hd : ¬ (0 ≤ dir ∧ dir ≤ 3)) : PC E 23 [u x, u y, u z, .int .i64 dir] (resB (0, 0) 1) := by
  have ke := b_earlyN (l := [x, y, z]) hd
  have z0 : ((0 : Nat) : Int) = 0 := rfl
  simp only [u, NL, U, List.map_cons, List.map_nil, List.length_cons, List.length_nil, resB, resE, Nat.reduceAdd, z0] at ke ⊢
  refine PC.of_body follows Tryd.func23 (by decide +kernel) rfl (by kernel_rfl) (Nat.le_of_ble_eq_true rfl) (walk ?_)
  simp only [Tryd.f23, List.replicate_succ, go_sem]
  refine qcall_i (ke) ?_; simp only [Tryd.f23, List.replicate_succ, go_sem]
  try rfl
theorem b_AddN {x y : Nat} {dir : Int} (hd : ¬ (0 ≤ dir ∧ dir ≤ 3)) : PC E 28 [u x, u y, .int .i64 dir] (resB (0, 0) 1) := by
  have k1 := b_FmaN (x := x) (y := 4607182418800017408) (z := y) hd
  have z0 : ((0 : Nat) : Int) = 0 := rfl
  simp only [u, resB, z0] at k1 ⊢
  rw [show ((4607182418800017408 : Nat) : Int) = 4607182418800017408 from rfl] at k1
  refine PC.of_body follows Tryd.func28 (by decide +kernel) rfl (by kernel_rfl) (Nat.le_of_ble_eq_true rfl) (walk ?_)
  simp only [Tryd.f28, go_sem]
  refine qcall_i (k1) ?_; simp only [Tryd.f28, go_sem]
  try rfl
theorem b_MulN {x y : Nat} (hx : x < W) (hy : y < W) {dir : Int} (hd : ¬ (0 ≤ dir ∧ dir ≤ 3)) : PC E 29 [u x, u y, .int .i64 dir] (resB (0, 0) 1) := by
  have k1 := b_FmaN (x := x) (y := y) (z := sgB x y) hd
  have k2 := b_sign hx hy
  have z0 : ((0 : Nat) : Int) = 0 := rfl
  simp only [u, resB, z0] at k1 k2 ⊢
  generalize sgB x y = s at *
  refine PC.of_body follows Tryd.func29 (by decide +kernel) rfl (by kernel_rfl) (Nat.le_of_ble_eq_true rfl) (walk ?_)
  simp only [Tryd.f29, go_sem]
  refine qcall_i (k2) ?_; simp only [Tryd.f29, go_sem]
  refine qcall_i (k1) ?_; simp only [Tryd.f29, go_sem]
  try rfl
theorem b_DivN {x y : Nat} {dir : Int} (hd : ¬ (0 ≤ dir ∧ dir ≤ 3)) : PC E 30 [u x, u y, .int .i64 dir] (resB (0, 0) 1) := by
  have ke := b_earlyN (l := [x, y]) hd
  have z0 : ((0 : Nat) : Int) = 0 := rfl
  simp only [u, NL, U, List.map_cons, List.map_nil, List.length_cons, List.length_nil, resB, resE, Nat.reduceAdd, z0] at ke ⊢
  refine PC.of_body follows Tryd.func30 (by decide +kernel) rfl (by kernel_rfl) (Nat.le_of_ble_eq_true rfl) (walk ?_)
  simp only [Tryd.f30, List.replicate_succ, go_sem]
  refine qcall_i (ke) ?_; simp only [Tryd.f30, List.replicate_succ, go_sem]
  try rfl
/-- A quotient's bits and flags. -/
def divS (x y : Nat) (dir : Int) : Nat × Nat :=
  if kind x = 5 ∨ kind y = 5 then (9221120237041090560, 16)
  else if kind x = 4 ∨ kind y = 4 then (9221120237041090560, 0)
  else if (kind x = 0 ∨ kind x = 3) ∧ kind y = kind x then (9221120237041090560, 16)
  else if kind x = 3 then (9218868437227405312 ||| sgB x y, 0)
  else if kind x = 0 ∨ kind y = 3 then (sgB x y, 0)
  else if kind y = 0 then (9218868437227405312 ||| sgB x y, 8)
  else toS (partD (fd x) (fd y)) (partR (fd x) (fd y)) dir
theorem fd_may {x : Nat} (h : kind x = 1 ∨ kind x = 2) : mayP (fd x) := by
  have hl := fd_lim x
  have hf : fe x < 2047 := by unfold kind at h; have := fe_lt x; (repeat' split at h) <;> omega
  refine ⟨hl.fits (by decide), fun h0 => ?_, ?_⟩
  · have h1 := (fd0_m x).1 (by unfold fd0; rw [if_pos hf]; exact h0)
    omega
  · have := fd_bits x; omega
theorem part_fits {x y : Nat} : (partD (fd x) (fd y)).fits := by
  have h1 := fd_e x
  have h2 := fd_e y
  have h3 := fd_bits x
  have h4 := fd_bits y
  have hn : partN (fd x) (fd y) ≤ 130 := by unfold partN; omega
  refine mkD_fits ?_ (by omega) (by omega)
  rw [bitLen_le]
  have h5 := bitLen_shl_le (fd x).m (partN (fd x) (fd y))
  exact Nat.lt_of_le_of_lt (Nat.div_le_self _ _) ((bitLen_le _ 100000).1 (by omega))
theorem fd_fin {x : Nat} (h : kind x ≤ 2) : fe x < 2047 := by
  unfold kind at h; have := fe_lt x; (repeat' split at h) <;> omega
set_option maxHeartbeats 4000000 in
theorem b_Div {x y : Nat} (hx : x < W) (hy : y < W) {dir : Int} (hd : 0 ≤ dir ∧ dir ≤ 3) : PC E 30 [u x, u y, .int .i64 dir] (resB (divS x y dir) 0) := by
  have ol : Ok W [x, y] := fun d h => by simp at h; rcases h with rfl | rfl <;> assumption
  have ol1 : Ok W [y] := fun d h => by simp at h; rcases h with rfl; assumption
  have ke := b_early ol (by simp) hd
  rw [show ([x, y].any fun x => decide ((kind x : Int) = 5)) = _ from any2 x y 5, show ([x, y].any fun x => decide ((kind x : Int) = 4)) = _ from any2 x y 4] at ke
  have kg := b_sign hx hy
  have kx := c_Kind x hx
  have ky := c_Kind y hy
  have k3 := b_kind ol1 (by simp) 3
  have k0 := b_kind ol1 (by simp) 0
  rw [show ([y].any fun x => decide ((kind x : Int) = 3)) = _ from any1 y 3] at k3
  rw [show ([y].any fun x => decide ((kind x : Int) = 0)) = _ from any1 y 0] at k0
  have ki := b_invalid
  have q1 := b_is (9218868437227405312 ||| sgB x y)
  have q3 := b_is (sgB x y)
  have hs : sgB x y < W := sgB_lt x y
  have e2 : bits .or .u64 9218868437227405312 ((sgB x y : Nat) : Int) = ((9218868437227405312 ||| sgB x y : Nat) : Int) := b_or (by decide) hs
  have kdx := r_FDyad hx
  have kdy := r_FDyad hy
  have hx5 := kind_le x
  have hy5 := kind_le y
  have kp : (kind x = 1 ∨ kind x = 2) → (kind y = 1 ∨ kind y = 2) → PC E 77 [(fd x).pv, (fd y).pv, .int .i64 dir] (.tuple [.int .u64 ((toS (partD (fd x) (fd y)) (partR (fd x) (fd y)) dir).1 : Nat), .int .u8 ((toS (partD (fd x) (fd y)) (partR (fd x) (fd y)) dir).2 : Nat), .int .i64 0]) := fun h1 h2 => by
    have := b_Part ((fd_lim x).RD (by decide)) ((fd_lim y).RD (by decide)) dir
    unfold partB at this
    rwa [if_pos ⟨fd_may h1, fd_may h2, hd, part_fits⟩] at this
  have fx : kind x ≤ 2 → fe x < 2047 := fd_fin
  have fy : kind y ≤ 2 → fe y < 2047 := fd_fin
  have z0 : ((0 : Nat) : Int) = 0 := rfl
  obtain ⟨R, hR⟩ : ∃ R, R = divS x y dir := ⟨_, rfl⟩
  rw [← hR]
  unfold divS at hR
  clear ol ol1 hs hx hy
  generalize toS (partD (fd x) (fd y)) (partR (fd x) (fd y)) dir = To at *
  generalize kind x = a at *
  generalize kind y = b at *
  generalize sgB x y = sg at *
  generalize hos : 9218868437227405312 ||| sg = os at *
  simp only [u, NL, U, List.map_cons, List.map_nil, List.length_cons, List.length_nil, resB, resE, Nat.reduceAdd, z0] at ke kg kx ky k3 k0 q1 q3 kdx kdy ⊢
  clear hos
  refine PC.of_body follows Tryd.func30 (by decide +kernel) rfl (by kernel_rfl) (Nat.le_of_ble_eq_true rfl) (walk ?_)
  by_cases h5 : a = 5 ∨ b = 5
  · rw [if_pos h5] at hR
    rw [decide_eq_true h5] at ke
    simp only [Tryd.f30, List.replicate_succ, e2, go_sem]
    refine qcall_i (ke) ?_; simp only [Tryd.f30, List.replicate_succ, e2, go_sem]
    rw [hR]
    try rfl
  rw [if_neg h5] at hR
  rw [decide_eq_false h5] at ke
  by_cases h4 : a = 4 ∨ b = 4
  · rw [if_pos h4] at hR
    rw [decide_eq_true h4] at ke
    simp only [Tryd.f30, List.replicate_succ, e2, go_sem]
    refine qcall_i (ke) ?_; simp only [Tryd.f30, List.replicate_succ, e2, go_sem]
    rw [hR]
    try rfl
  rw [if_neg h4] at hR
  rw [decide_eq_false h4] at ke
  by_cases h1 : (a = 0 ∨ a = 3) ∧ b = a
  · rw [if_pos h1] at hR
    obtain ⟨h2, rfl⟩ := h1
    have z3 : ((3 : Nat) : Int) = 3 := rfl
    simp only [Tryd.f30, List.replicate_succ, e2, z0, z3, go_sem]
    refine qcall_i (ke) ?_; simp only [Tryd.f30, List.replicate_succ, e2, z0, z3, go_sem]
    refine qcall_i (kg) ?_; simp only [Tryd.f30, List.replicate_succ, e2, z0, z3, go_sem]
    refine qcall_i (kx) ?_; simp only [Tryd.f30, List.replicate_succ, e2, z0, z3, go_sem]
    rcases h2 with rfl | rfl
    · simp only [Tryd.f30, List.replicate_succ, e2, z0, z3, go_sem]
      refine qcall_i (ky) ?_; simp only [Tryd.f30, List.replicate_succ, e2, z0, z3, go_sem]
      refine qcall_i (ki) ?_; simp only [Tryd.f30, List.replicate_succ, e2, z0, z3, go_sem]
      rw [hR]
      try rfl
    · simp only [Tryd.f30, List.replicate_succ, e2, z0, z3, go_sem]
      refine qcall_i (ky) ?_; simp only [Tryd.f30, List.replicate_succ, e2, z0, z3, go_sem]
      refine qcall_i (ki) ?_; simp only [Tryd.f30, List.replicate_succ, e2, z0, z3, go_sem]
      rw [hR]
      try rfl
  rw [if_neg h1] at hR
  by_cases h3 : a = 3
  · subst h3
    have z3 : ((3 : Nat) : Int) = 3 := rfl
    have hb : ((b : Int) = 3) = False := eq_false (by omega)
    simp only [Tryd.f30, List.replicate_succ, e2, z0, z3, go_sem]
    refine qcall_i (ke) ?_; simp only [Tryd.f30, List.replicate_succ, e2, z0, z3, go_sem]
    refine qcall_i (kg) ?_; simp only [Tryd.f30, List.replicate_succ, e2, z0, z3, go_sem]
    refine qcall_i (kx) ?_; simp only [Tryd.f30, List.replicate_succ, e2, z0, z3, go_sem]
    refine qcall_i (ky) ?_; simp only [Tryd.f30, List.replicate_succ, e2, z0, z3, hb, go_sem]
    refine qcall_i (q1) ?_; simp only [Tryd.f30, List.replicate_succ, e2, z0, z3, go_sem]
    rw [hR]
    try rfl
  rw [if_neg h3] at hR
  by_cases h0 : a = 0
  · subst h0
    have z3 : ((3 : Nat) : Int) = 3 := rfl
    have hb : ((b : Int) = 0) = False := eq_false (by omega)
    rw [if_pos (.inl rfl)] at hR
    simp only [Tryd.f30, List.replicate_succ, e2, z0, z3, go_sem]
    refine qcall_i (ke) ?_; simp only [Tryd.f30, List.replicate_succ, e2, z0, z3, go_sem]
    refine qcall_i (kg) ?_; simp only [Tryd.f30, List.replicate_succ, e2, z0, z3, go_sem]
    refine qcall_i (kx) ?_; simp only [Tryd.f30, List.replicate_succ, e2, z0, z3, go_sem]
    refine qcall_i (ky) ?_; simp only [Tryd.f30, List.replicate_succ, e2, z0, z3, hb, go_sem]
    refine qcall_i (q3) ?_; simp only [Tryd.f30, List.replicate_succ, e2, z0, z3, go_sem]
    rw [hR]
    try rfl
  have a0 : ((a : Int) = 0) = False := eq_false (by omega)
  have a3 : ((a : Int) = 3) = False := eq_false (by omega)
  simp only [Tryd.f30, List.replicate_succ, e2, go_sem]
  refine qcall_i (ke) ?_; simp only [Tryd.f30, List.replicate_succ, e2, go_sem]
  refine qcall_i (kg) ?_; simp only [Tryd.f30, List.replicate_succ, e2, go_sem]
  refine qcall_i (kx) ?_; simp only [Tryd.f30, List.replicate_succ, e2, a0, a3, go_sem]
  by_cases hb3 : b = 3
  · rw [if_pos (.inr hb3)] at hR
    rw [decide_eq_true hb3] at k3
    refine qcall_i (k3) ?_; simp only [Tryd.f30, List.replicate_succ, e2, a0, a3, go_sem]
    refine qcall_i (q3) ?_; simp only [Tryd.f30, List.replicate_succ, e2, go_sem]
    rw [hR]
    try rfl
  rw [if_neg (by omega)] at hR
  rw [decide_eq_false hb3] at k3
  refine qcall_i (k3) ?_; simp only [Tryd.f30, List.replicate_succ, e2, a0, a3, go_sem]
  by_cases hb0 : b = 0
  · rw [if_pos hb0] at hR
    rw [decide_eq_true hb0] at k0
    refine qcall_i (k0) ?_; simp only [Tryd.f30, List.replicate_succ, e2, a0, a3, go_sem]
    rw [hR]
    try rfl
  rw [if_neg hb0] at hR
  rw [decide_eq_false hb0] at k0
  have kp := kp (by omega) (by omega)
  rw [if_pos (fx (by omega))] at kdx
  rw [if_pos (fy (by omega))] at kdy
  generalize fd x = dx at *
  generalize fd y = dy at *
  simp only [Dy.pv, DP] at kdx kdy kp
  refine qcall_i (k0) ?_; simp only [Tryd.f30, List.replicate_succ, e2, a0, a3, go_sem]
  refine qcall_i (kdx) ?_; simp only [Tryd.f30, List.replicate_succ, e2, go_sem]
  refine qcall_i (kdy) ?_; simp only [Tryd.f30, List.replicate_succ, e2, go_sem]
  refine qcall_i (kp) ?_; simp only [Tryd.f30, List.replicate_succ, e2, go_sem]
  rw [hR]
  try rfl
end Go.Proofs.YtejmlngnpekagaaDoor
