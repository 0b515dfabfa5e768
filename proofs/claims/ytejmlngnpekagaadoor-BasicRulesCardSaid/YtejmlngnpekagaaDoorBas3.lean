/- basic: a product and a sum. -/
import Derived.Test.YtejmlngnpekagaaDoorBas2
import Derived.Test.YtejmlngnpekagaaDoorMul5
open Go PG Go.Proofs
set_option maxRecDepth 100000
set_option linter.unusedSimpArgs false
set_option linter.unusedVariables false
namespace Go.Proofs.YtejmlngnpekagaaDoor
attribute [local go_sem] Lay2 Lay3 Lay4 Lay5 Lay6 Lay7 Lay8 Lay9 Lay10 Lay11 Lay12 Lay13 Lay14 Lay15 Lay16 Lay17 Lay18 Lay19 Lay21 Lay22 Lay23 Lay24 Lay25 Lay30 Lay33 Lay36 Lay37 Lay46 Lay47 Lay48 Lay53 Lay54 Lay55 Lay59 Lay100 Lay101 Lay127 Lay146 Lay162 Lay168 Lay169 Lay173 Lay185 Lay186 Lay187 Lay188 Lay189 Lay191 Lay192 Lay194 Lay195 Lay196 Lay199 qexec_seq qexec_skip qexec_exit qexec_ret qexec_block qexec_loop qexec_range qexec_cond qexec_region qexec_drawn qops_nil qops_none qops_some put_some put_none pblk_exit pblk_other newDsts_nil inlDsts_nil isInl sget_cons sget_nil qval_some qbool_some qgs_bool qgs_und qfree_some qgrd_true qgrd_false qif_true qif_false qval_ite qval_itn qand_true map_ite map_some' map_none' qdo_move qdo_assign qdo_binOp qdo_pick qdo_unOp qdo_convert qdo_extract qdo_field qdo_fieldAddr qdo_alloc qdo_box qdo_build qdo_buildSlice qdo_load qdo_store qdo_nilCheck qdo_makeFunc qdo_makeSlice qdo_slice qdo_indexAddr qdo_call qcont_val qcont_new qcont_st qcont_app0 qcont_app qcont_inl qcont_call njSV_val njSV_nil njSV_row njSV_ptr njSV_sub binV_val binV_nil binV_nn binV_ptr bin_np bin_nnp nilCmp bin_add bin_sub bin_mul bin_quo bin_rem bin_and bin_or bin_xor bin_andNot bin_eql bin_neq bin_lss bin_leq bin_gtr bin_geq bin_shl bin_shr bin_seql bin_sneq bin_sadd bin_beql bin_aeql bin_aneq eqAnd_some eqCells_nil eqCells_cons fieldTypes isStruct eqCell bin_bneq un_not un_neg nj_ite Nat.beq stepA stepR isNew opSV constSV RV.sv allSome E_mu E_own qkeyIn_none qkeyIn_some qkeyAt_none qkeyAt_some Bool.or_false Bool.false_or Bool.or_true Bool.true_or cst setB res resSV pstart startL killL kill1 eraL frzL svPV rvPV rvInt rvSlice frzOf close closeL pconv pbuiltin pmax2 partPV setCells fillPV zrow bound newSV PV.cells Bk.cells Bk.with SV.key pres presL_nil presL_tmp presL_cell presC2_some cellPV_ptr presC List.toList_toArray List.size_toArray List.getElem?_drop Nat.mul_one Int.toNat_natCast Nat.not_lt_zero Nat.lt_irrefl decide_true decide_false Nat.not_lt Option.some.injEq PV.lst.injEq PV.int.injEq PV.bool.injEq PV.tuple.injEq List.cons.injEq Option.map_some Option.map_none Option.bind_some Option.toList List.map_cons List.map_nil List.nil_append List.cons_append List.append_nil List.zip_cons_cons List.zip_nil_left List.zip_nil_right List.getElem?_cons_zero List.getElem?_cons_succ List.drop_zero List.drop_succ_cons List.take_succ_cons List.take_zero List.set_cons_zero List.set_cons_succ List.length_cons List.length_nil List.length_set List.replicate_one List.replicate_zero bne_self_eq_false beq_self_eq_true Nat.zero_add Nat.add_zero Nat.zero_mul Bool.false_eq_true Bool.true_eq_false Bool.not_true Bool.not_false and_true true_and false_and and_false or_false false_or or_true true_or not_true_eq_false not_false_eq_true ne_eq gt_iff_lt List.mem_cons List.not_mem_nil
attribute [local go_sem ↓] pseq_normal pseq_ret pseq_exit pblk_normal pblk_ret newDsts_cons inlDsts_cons gdst_zero gdst_succ retQ_normal retQ_ret qneed_nil qneed_cons retM_normal retM_ret endR_normal endR_ret endR_exit
attribute [local go_sem] Int.reduceToNat Int.reduceEq Int.reduceNe Int.reduceLT Int.reduceLE Int.reduceNeg Int.reduceAdd Nat.reduceEqDiff Nat.reduceAdd Nat.reduceSub Nat.reduceMul Nat.reduceLeDiff Nat.reduceLT
attribute [local go_sem ↓] reduceIte reduceCtorEq

theorem sum_limB (x y z : Nat) : Lim (K0 + 1) (addS (mulS (fd0 x) (fd0 y)) (fd0 z)) := (prod_limK x y).add ((fd0_lim z).mono (by rw [K0_eq]; decide)) (by rw [K0_eq]; decide)
set_option maxHeartbeats 4000000 in
theorem b_Fma {x y z : Nat} (hx : x < W) (hy : y < W) (hz : z < W) {dir : Int} (hd : 0 ≤ dir ∧ dir ≤ 3) : PC E 23 [u x, u y, u z, .int .i64 dir] (resB (fmaS x y z dir) 0) := by
  have ol : Ok W [x, y, z] := fun d h => by simp at h; rcases h with rfl | rfl | rfl <;> assumption
  have ol2 : Ok W [x, y] := fun d h => by simp at h; rcases h with rfl | rfl <;> assumption
  have ol1 : Ok W [z] := fun d h => by simp at h; rcases h with rfl; assumption
  have ke := b_early ol (by simp) hd
  have kg := b_sign hx hy
  have k3 := b_kind ol2 (by simp) 3
  have k0 := b_kind ol2 (by simp) 0
  have kz := b_kind ol1 (by simp) 3
  have ki := b_invalid
  rw [show ([x, y, z].any fun x => decide ((kind x : Int) = 5)) = _ from any3 x y z 5, show ([x, y, z].any fun x => decide ((kind x : Int) = 4)) = _ from any3 x y z 4] at ke
  rw [show ([x, y].any fun x => decide ((kind x : Int) = 3)) = _ from any2 x y 3] at k3
  rw [show ([x, y].any fun x => decide ((kind x : Int) = 0)) = _ from any2 x y 0] at k0
  rw [show ([z].any fun x => decide ((kind x : Int) = 3)) = _ from any1 z 3] at kz
  have kx := r_FDyad hx
  have ky := r_FDyad hy
  have kzd := r_FDyad hz
  rw [show (if fe x < 2047 then fd x else Dy.zero) = fd0 x from rfl] at kx
  rw [show (if fe y < 2047 then fd y else Dy.zero) = fd0 y from rfl] at ky
  rw [show (if fe z < 2047 then fd z else Dy.zero) = fd0 z from rfl] at kzd
  have hlp := prod_limK x y
  have hls := sum_limB x y z
  have km := r_Mul ((fd0_lim x).RD (by decide)) ((fd0_lim y).RD (by decide))
  rw [mulV_lim (fd0_lim x) (fd0_lim y) (by decide)] at km
  have ka := r_Add (hlp.RD (by rw [K0_eq]; decide)) ((fd0_lim z).RD (by decide))
  rw [addV_lim hlp ((fd0_lim z).mono (by rw [K0_eq]; decide)) (by rw [K0_eq]; decide)] at ka
  have s1 := r_Sign (hls.RD (by rw [K0_eq]; decide))
  have s2 := r_Sign (hlp.RD (by rw [K0_eq]; decide))
  have kr := b_rounded hls (by rw [K0_eq]; decide) hd
  have hsg : ∀ d : Dy, d.sg = 0 ↔ d.m = 0 := fun d => by
    unfold Dy.sg; split
    · simp [*]
    · constructor
      · intro h; split at h <;> cases h
      · intro h; exact absurd h ‹_›
  have g1 := hsg (addS (mulS (fd0 x) (fd0 y)) (fd0 z))
  have g2 := hsg (mulS (fd0 x) (fd0 y))
  have q1 := b_is (9218868437227405312 ||| sgB x y)
  have q2 := b_is z
  have q3 := b_is (sgB x y)
  have q4 := b_is 9223372036854775808
  have q5 := b_is 0
  have e1 : bits .and .u64 (z : Int) 9223372036854775808 = ((z &&& 9223372036854775808 : Nat) : Int) := b_and hz (by decide)
  have hs : sgB x y < W := by unfold sgB; split <;> decide
  have e2 : bits .or .u64 9218868437227405312 ((sgB x y : Nat) : Int) = ((9218868437227405312 ||| sgB x y : Nat) : Int) := b_or (by decide) hs
  obtain ⟨R, hR0⟩ : ∃ R, R = fmaS x y z dir := ⟨_, rfl⟩
  rw [← hR0]
  generalize hA5 : decide (kind x = 5 ∨ kind y = 5 ∨ kind z = 5) = A5 at *
  generalize hA4 : decide (kind x = 4 ∨ kind y = 4 ∨ kind z = 4) = A4 at *
  generalize hI3 : decide (kind x = 3 ∨ kind y = 3) = I3 at *
  generalize hI0 : decide (kind x = 0 ∨ kind y = 0) = I0 at *
  generalize hZ3 : decide (kind z = 3) = Z3 at *
  have hR : R = (if A5 = true then (9221120237041090560, 16) else if A4 = true then (9221120237041090560, 0) else if I3 = true ∧ I0 = true then (9221120237041090560, 16)
      else if I3 = true ∧ Z3 = true ∧ z &&& 9223372036854775808 ≠ sgB x y then (9221120237041090560, 16)
      else if I3 = true then (9218868437227405312 ||| sgB x y, 0)
      else if Z3 = true then (z, 0)
      else if (addS (mulS (fd0 x) (fd0 y)) (fd0 z)).m ≠ 0 then toS (addS (mulS (fd0 x) (fd0 y)) (fd0 z)) false dir
      else if (mulS (fd0 x) (fd0 y)).m = 0 ∧ z &&& 9223372036854775808 = sgB x y then (sgB x y, 0)
      else if dir = 3 then (9223372036854775808, 0) else (0, 0)) := by
    rw [hR0]
    unfold fmaS
    simp only [← hA5, ← hA4, ← hI3, ← hI0, ← hZ3, decide_eq_true_eq]
  clear hR0 hA5 hA4 hI3 hI0 hZ3 hls hlp hsg ol ol1 ol2 hs hx hy hz
  generalize addS (mulS (fd0 x) (fd0 y)) (fd0 z) = S at *
  generalize mulS (fd0 x) (fd0 y) = P at *
  generalize fd0 x = fx at *
  generalize fd0 y = fy at *
  generalize fd0 z = fz at *
  generalize sgB x y = sg at *
  generalize hzt : z &&& 9223372036854775808 = zt at *
  generalize hos : 9218868437227405312 ||| sg = os at *
  generalize toS S false dir = To at *
  simp only [ne_eq, ← g1, ← g2] at hR
  clear g1 g2 hos hzt
  simp only [u, NL, U, List.map_cons, List.map_nil, List.length_cons, List.length_nil, resB, resE, Dy.pv, DP, Nat.reduceAdd] at ke kg k3 k0 kz kx ky kzd km ka s1 s2 kr q1 q2 q3 q4 q5 ⊢
  rw [show ((9223372036854775808 : Nat) : Int) = 9223372036854775808 from rfl] at q4
  rw [show ((0 : Nat) : Int) = 0 from rfl] at q5
  refine PC.of_body follows Tryd.func23 (by decide +kernel) rfl (by kernel_rfl) (Nat.le_of_ble_eq_true rfl) (walk ?_)
  cases A5
  rotate_left
  · simp only [Tryd.f23, List.replicate_succ, e1, e2, go_sem]
    refine qcall_i (ke) ?_; simp only [Tryd.f23, List.replicate_succ, e1, e2, go_sem]
    rw [hR]
    try rfl
  cases A4
  rotate_left
  · simp only [Tryd.f23, List.replicate_succ, e1, e2, go_sem]
    refine qcall_i (ke) ?_; simp only [Tryd.f23, List.replicate_succ, e1, e2, go_sem]
    rw [hR]
    try rfl
  cases I3
  rotate_left
  · cases I0
    rotate_left
    · simp only [Tryd.f23, List.replicate_succ, e1, e2, go_sem]
      refine qcall_i (ke) ?_; simp only [Tryd.f23, List.replicate_succ, e1, e2, go_sem]
      refine qcall_i (kg) ?_; simp only [Tryd.f23, List.replicate_succ, e1, e2, go_sem]
      refine qcall_i (k3) ?_; simp only [Tryd.f23, List.replicate_succ, e1, e2, go_sem]
      refine qcall_i (k0) ?_; simp only [Tryd.f23, List.replicate_succ, e1, e2, go_sem]
      refine qcall_i (ki) ?_; simp only [Tryd.f23, List.replicate_succ, e1, e2, go_sem]
      rw [hR]
      try rfl
    cases Z3
    · simp only [Tryd.f23, List.replicate_succ, e1, e2, go_sem]
      refine qcall_i (ke) ?_; simp only [Tryd.f23, List.replicate_succ, e1, e2, go_sem]
      refine qcall_i (kg) ?_; simp only [Tryd.f23, List.replicate_succ, e1, e2, go_sem]
      refine qcall_i (k3) ?_; simp only [Tryd.f23, List.replicate_succ, e1, e2, go_sem]
      refine qcall_i (k0) ?_; simp only [Tryd.f23, List.replicate_succ, e1, e2, go_sem]
      refine qcall_i (kz) ?_; simp only [Tryd.f23, List.replicate_succ, e1, e2, go_sem]
      refine qcall_i (q1) ?_; simp only [Tryd.f23, List.replicate_succ, e1, e2, go_sem]
      rw [hR]
      try rfl
    · simp only [Tryd.f23, List.replicate_succ, e1, e2, go_sem]
      refine qcall_i (ke) ?_; simp only [Tryd.f23, List.replicate_succ, e1, e2, go_sem]
      refine qcall_i (kg) ?_; simp only [Tryd.f23, List.replicate_succ, e1, e2, go_sem]
      refine qcall_i (k3) ?_; simp only [Tryd.f23, List.replicate_succ, e1, e2, go_sem]
      refine qcall_i (k0) ?_; simp only [Tryd.f23, List.replicate_succ, e1, e2, go_sem]
      refine qcall_i (kz) ?_; simp only [Tryd.f23, List.replicate_succ, e1, e2, go_sem]
      refine qif_d (fun h => ?_) (fun h => ?_)
      · have hc : ¬ zt = sg := by omega
        simp only [Tryd.f23, List.replicate_succ, e1, e2, go_sem]
        refine qcall_i (ki) ?_; simp only [Tryd.f23, List.replicate_succ, e1, e2, go_sem]
        simp [hc] at hR
        rw [hR]
        try rfl
      · have hc : zt = sg := by omega
        simp only [Tryd.f23, List.replicate_succ, e1, e2, go_sem]
        refine qcall_i (q1) ?_; simp only [Tryd.f23, List.replicate_succ, e1, e2, go_sem]
        simp [hc] at hR
        rw [hR]
        try rfl
  cases Z3
  rotate_left
  · simp only [Tryd.f23, List.replicate_succ, e1, e2, go_sem]
    refine qcall_i (ke) ?_; simp only [Tryd.f23, List.replicate_succ, e1, e2, go_sem]
    refine qcall_i (kg) ?_; simp only [Tryd.f23, List.replicate_succ, e1, e2, go_sem]
    refine qcall_i (k3) ?_; simp only [Tryd.f23, List.replicate_succ, e1, e2, go_sem]
    refine qcall_i (kz) ?_; simp only [Tryd.f23, List.replicate_succ, e1, e2, go_sem]
    refine qcall_i (q2) ?_; simp only [Tryd.f23, List.replicate_succ, e1, e2, go_sem]
    rw [hR]
    try rfl
  · simp only [Tryd.f23, List.replicate_succ, e1, e2, go_sem]
    refine qcall_i (ke) ?_; simp only [Tryd.f23, List.replicate_succ, e1, e2, go_sem]
    refine qcall_i (kg) ?_; simp only [Tryd.f23, List.replicate_succ, e1, e2, go_sem]
    refine qcall_i (k3) ?_; simp only [Tryd.f23, List.replicate_succ, e1, e2, go_sem]
    refine qcall_i (kz) ?_; simp only [Tryd.f23, List.replicate_succ, e1, e2, go_sem]
    refine qcall_i (kx) ?_; simp only [Tryd.f23, List.replicate_succ, e1, e2, go_sem]
    refine qcall_i (ky) ?_; simp only [Tryd.f23, List.replicate_succ, e1, e2, go_sem]
    refine qcall_i (kzd) ?_; simp only [Tryd.f23, List.replicate_succ, e1, e2, go_sem]
    refine qcall_i (km) ?_; simp only [Tryd.f23, List.replicate_succ, e1, e2, go_sem]
    refine qcall_i (ka) ?_; simp only [Tryd.f23, List.replicate_succ, e1, e2, go_sem]
    refine qcall_i (s1) ?_; simp only [Tryd.f23, List.replicate_succ, e1, e2, go_sem]
    refine qif_d (fun h1 => ?_) (fun h1 => ?_)
    · simp only [Tryd.f23, List.replicate_succ, e1, e2, go_sem]
      refine qcall_i (kr) ?_; simp only [Tryd.f23, List.replicate_succ, e1, e2, go_sem]
      simp [h1] at hR
      rw [hR]
      try rfl
    have h1 : S.sg = 0 := Decidable.not_not.1 h1
    simp only [Tryd.f23, List.replicate_succ, e1, e2, go_sem]
    refine qcall_i (s2) ?_; simp only [Tryd.f23, List.replicate_succ, e1, e2, go_sem]
    refine qif_d (fun h2 => ?_) (fun h2 => ?_)
    · simp only [Tryd.f23, List.replicate_succ, e1, e2, go_sem]
      refine qif_d (fun h3 => ?_) (fun h3 => ?_)
      · have hc : zt = sg := by omega
        simp only [Tryd.f23, List.replicate_succ, e1, e2, go_sem]
        refine qcall_i (q3) ?_; simp only [Tryd.f23, List.replicate_succ, e1, e2, go_sem]
        simp [h1, h2, hc] at hR
        rw [hR]
        try rfl
      · have hc : ¬ zt = sg := by omega
        simp only [Tryd.f23, List.replicate_succ, e1, e2, go_sem]
        refine qif_d (fun h4 => ?_) (fun h4 => ?_)
        · simp only [Tryd.f23, List.replicate_succ, e1, e2, go_sem]
          refine qcall_i (q4) ?_; simp only [Tryd.f23, List.replicate_succ, e1, e2, go_sem]
          simp [h1, h2, hc, h4] at hR
          rw [hR]
          try rfl
        · simp only [Tryd.f23, List.replicate_succ, e1, e2, go_sem]
          refine qcall_i (q5) ?_; simp only [Tryd.f23, List.replicate_succ, e1, e2, go_sem]
          simp [h1, h2, hc, h4] at hR
          rw [hR]
          try rfl
    · simp only [Tryd.f23, List.replicate_succ, e1, e2, go_sem]
      refine qif_d (fun h4 => ?_) (fun h4 => ?_)
      · simp only [Tryd.f23, List.replicate_succ, e1, e2, go_sem]
        refine qcall_i (q4) ?_; simp only [Tryd.f23, List.replicate_succ, e1, e2, go_sem]
        simp [h1, h2, h4] at hR
        rw [hR]
        try rfl
      · simp only [Tryd.f23, List.replicate_succ, e1, e2, go_sem]
        refine qcall_i (q5) ?_; simp only [Tryd.f23, List.replicate_succ, e1, e2, go_sem]
        simp [h1, h2, h4] at hR
        rw [hR]
        try rfl
end Go.Proofs.YtejmlngnpekagaaDoor
