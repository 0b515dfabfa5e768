/- basic: the laws' example; the document's products and sums. -/
import Derived.Test.YtejmlngnpekagaaGreatDoorBq2
import Derived.Test.YtejmlngnpekagaaGreatDoorBw
import Derived.Test.YtejmlngnpekagaaGreatDoorL28
import Derived.Test.YtejmlngnpekagaaGreatDoorRd9
import Derived.Test.YtejmlngnpekagaaGreatDoorTs0
open Go PG Go.Proofs
set_option maxRecDepth 100000
set_option linter.unusedSimpArgs false
set_option linter.unusedVariables false
namespace Go.Proofs.YtejmlngnpekagaaGreatDoor
attribute [local go_sem] Lay2 Lay3 Lay4 Lay5 Lay6 Lay7 Lay8 Lay9 Lay10 Lay11 Lay12 Lay13 Lay14 Lay15 Lay16 Lay17 Lay18 Lay19 Lay21 Lay22 Lay23 Lay25 Lay26 Lay27 Lay30 Lay31 Lay32 Lay33 Lay36 Lay37 Lay41 Lay42 Lay43 Lay47 Lay56 Lay57 Lay59 Lay60 Lay65 Lay66 Lay74 Lay75 Lay105 Lay114 Lay145 Lay146 Lay149 Lay150 Lay151 Lay173 Lay185 Lay189 Lay204 Lay205 Lay208 Lay214 Lay215 Lay216 Lay217 Lay218 Lay220 Lay221 Lay223 Lay224 Lay225 Lay228 qexec_seq qexec_skip qexec_exit qexec_ret qexec_block qexec_loop qexec_range qexec_cond qexec_region qexec_drawn qops_nil qops_none qops_some put_some put_none pblk_exit pblk_other newDsts_nil inlDsts_nil isInl sget_cons sget_nil qval_some qbool_some qgs_bool qgs_und qfree_some qgrd_true qgrd_false qif_true qif_false qval_ite qval_itn qand_true map_ite map_some' map_none' qdo_move qdo_assign qdo_binOp qdo_pick qdo_unOp qdo_convert qdo_extract qdo_field qdo_fieldAddr qdo_alloc qdo_box qdo_build qdo_buildSlice qdo_load qdo_store qdo_nilCheck qdo_makeFunc qdo_makeSlice qdo_slice qdo_indexAddr qdo_call qcont_val qcont_new qcont_st qcont_app0 qcont_app qcont_inl qcont_call njSV_val njSV_nil njSV_row njSV_ptr njSV_sub binV_val binV_nil binV_nn binV_ptr bin_np bin_nnp nilCmp bin_add bin_sub bin_mul bin_quo bin_rem bin_and bin_or bin_xor bin_andNot bin_eql bin_neq bin_lss bin_leq bin_gtr bin_geq bin_shl bin_shr bin_seql bin_sneq bin_sadd bin_beql bin_aeql bin_aneq eqAnd_some eqCells_nil eqCells_cons fieldTypes isStruct eqCell bin_bneq un_not un_neg nj_ite Nat.beq stepA stepR isNew opSV constSV RV.sv allSome E_mu E_own qkeyIn_none qkeyIn_some qkeyAt_none qkeyAt_some Bool.or_false Bool.false_or Bool.or_true Bool.true_or cst setB res resSV pstart startL killL kill1 eraL frzL svPV rvPV rvInt rvSlice frzOf close closeL pconv pbuiltin pmax2 partPV setCells fillPV zrow bound newSV PV.cells Bk.cells Bk.with SV.key pres presL_nil presL_tmp presL_cell presC2_some cellPV_ptr presC List.toList_toArray List.size_toArray List.getElem?_drop Nat.mul_one Int.toNat_natCast Nat.not_lt_zero Nat.lt_irrefl decide_true decide_false Nat.not_lt Option.some.injEq PV.lst.injEq PV.int.injEq PV.bool.injEq PV.tuple.injEq List.cons.injEq Option.map_some Option.map_none Option.bind_some Option.toList List.map_cons List.map_nil List.nil_append List.cons_append List.append_nil List.zip_cons_cons List.zip_nil_left List.zip_nil_right List.getElem?_cons_zero List.getElem?_cons_succ List.drop_zero List.drop_succ_cons List.take_succ_cons List.take_zero List.set_cons_zero List.set_cons_succ List.length_cons List.length_nil List.length_set List.replicate_one List.replicate_zero bne_self_eq_false beq_self_eq_true Nat.zero_add Nat.add_zero Nat.zero_mul Bool.false_eq_true Bool.true_eq_false Bool.not_true Bool.not_false and_true true_and false_and and_false or_false false_or or_true true_or not_true_eq_false not_false_eq_true ne_eq gt_iff_lt List.mem_cons List.not_mem_nil
attribute [local go_sem ↓] pseq_normal pseq_ret pseq_exit pblk_normal pblk_ret newDsts_cons inlDsts_cons gdst_zero gdst_succ retQ_normal retQ_ret qneed_nil qneed_cons retM_normal retM_ret endR_normal endR_ret endR_exit
attribute [local go_sem] Int.reduceToNat Int.reduceEq Int.reduceNe Int.reduceLT Int.reduceLE Int.reduceNeg Int.reduceAdd Nat.reduceEqDiff Nat.reduceAdd Nat.reduceSub Nat.reduceMul Nat.reduceLeDiff Nat.reduceLT
attribute [local go_sem ↓] reduceIte reduceCtorEq

theorem c_alive28 : PC E 34 [] (.bool true) := by
  have k1 := b_Div (x := 4607182418800017408) (y := 4613937818241073152) (by decide) (by decide) (dir := 0) (by decide)
  have e1 : divS 4607182418800017408 4613937818241073152 0 = (4599676419421066581, 1) := by decide +kernel
  have k2 := b_AddN (x := 0) (y := 0) (dir := 4) (by decide)
  rw [e1] at k1
  have z0 : ((0 : Nat) : Int) = 0 := rfl
  have z1 : ((1 : Nat) : Int) = 1 := rfl
  simp only [u, resB, z0] at k1 k2
  rw [show ((4607182418800017408 : Nat) : Int) = 4607182418800017408 from rfl, show ((4613937818241073152 : Nat) : Int) = 4613937818241073152 from rfl, show ((4599676419421066581 : Nat) : Int) = 4599676419421066581 from rfl, z1] at k1
  refine PC.of_body follows Tryz.func34 (by decide +kernel) rfl (by kernel_rfl) (Nat.le_of_ble_eq_true rfl) (walk ?_)
  simp only [Tryz.f34, go_sem]
  refine qcall_i (k1) ?_; simp only [Tryz.f34, go_sem]
  refine qcall_i (k2) ?_; simp only [Tryz.f34, Bool.and_self, go_sem]
  try rfl
/-- What the document answers for NaNs. -/
def earlyS (w : Nat) : Nat × Nat := if w = 5 then (9221120237041090560, 16) else (9221120237041090560, 0)
def ansB (r : Nat × Nat) : PV := .agg [.int .u64 (r.1 : Int), .int .i64 (r.2 : Int)]
theorem c_28Early (w : Nat) : PC E 36 [.int .i64 w] (ansB (earlyS w)) := by
  unfold earlyS ansB
  refine PC.of_body follows Tryz.func36 (by decide +kernel) rfl (by kernel_rfl) (Nat.le_of_ble_eq_true rfl) (walk ?_)
  simp only [Tryz.f36, go_sem]
  refine qif_d (fun h => ?_) (fun h => ?_)
  · rw [if_pos (by omega)]
    simp only [Tryz.f36, go_sem]
    try rfl
  · rw [if_neg (by omega)]
    simp only [Tryz.f36, go_sem]
    try rfl
theorem c_28same {r : Nat × Nat} {dir : Int} (hd : 0 ≤ dir ∧ dir ≤ 3) (hr : r.2 < 256) : PC E 41 [.agg [.int .u64 (r.1 : Int), .int .u8 (r.2 : Int), .int .i64 0], .int .i64 0, ansB r, .int .i64 dir] (.bool true) := by
  have w1 : IntKind.wrap .i64 ((r.2 : Nat) : Int) = (r.2 : Nat) := wrap64 (by omega) (by omega)
  unfold ansB
  refine PC.of_body follows Tryz.func41 (by decide +kernel) rfl (by kernel_rfl) (Nat.le_of_ble_eq_true rfl) (walk ?_)
  simp only [Tryz.f41, go_sem]
  refine qif_df (by omega) ?_
  simp only [Tryz.f41, w1, go_sem]
  refine qif_df (by omega) ?_
  simp only [Tryz.f41, w1, go_sem]
  try rfl
theorem c_28sameN {p : PV} {a : Nat × Nat} {dir : Int} (hd : ¬ (0 ≤ dir ∧ dir ≤ 3)) : PC E 41 [.agg [.int .u64 0, .int .u8 0, .int .i64 0], .int .i64 1, ansB a, .int .i64 dir] (.bool true) := by
  unfold ansB
  refine PC.of_body follows Tryz.func41 (by decide +kernel) rfl (by kernel_rfl) (Nat.le_of_ble_eq_true rfl) (walk ?_)
  simp only [Tryz.f41, go_sem]
  refine qif_d (fun h => ?_) (fun h => ?_)
  · simp only [Tryz.f41, go_sem]
    try rfl
  · simp only [Tryz.f41, go_sem]
    refine qif_dt (by omega) ?_
    simp only [Tryz.f41, go_sem]
    try rfl
theorem ge_fs (x : Nat) : decide ((x : Int) ≥ 9223372036854775808) = fs x := by unfold fs; exact decide_eq_decide.2 (by omega)
theorem fd0_fin {x : Nat} (h : kind x ≤ 2) : fd0 x = fd x := by unfold fd0; rw [if_pos (fd_fin h)]
/-- The document's sum before rounding. -/
def sumD (x y z : Nat) : Dy := addD (mulS (fd x) (fd y)) (fd z)
theorem sumD_lim (x y z : Nat) : LimN 2307 (sumD x y z) := ((fd_lim x).mul (fd_lim y)).N.add ((fd_lim z).N.mono (by decide))
theorem sumD_bare {x y z : Nat} (h : kind x ≤ 2 ∧ kind y ≤ 2 ∧ kind z ≤ 2) : (sumD x y z).bare = addS (mulS (fd0 x) (fd0 y)) (fd0 z) := by
  rw [fd0_fin h.1, fd0_fin h.2.1, fd0_fin h.2.2]
  have hp := (fd_lim x).mul (fd_lim y)
  have := addD_bare (K := 2306) hp.N ((fd_lim z).N.mono (by decide)) (by decide)
  rw [hp.bare (by decide), (fd_lim z).bare (by decide)] at this
  exact this
theorem fmaS_fin {x y z : Nat} (dir : Int) (h : kind x ≤ 2 ∧ kind y ≤ 2 ∧ kind z ≤ 2) : fmaS x y z dir = if (sumD x y z).m ≠ 0 then toS (sumD x y z) false dir
    else if (mulS (fd x) (fd y)).m = 0 ∧ z &&& 9223372036854775808 = sgB x y then (sgB x y, 0)
    else if dir = 3 then (9223372036854775808, 0) else (0, 0) := by
  have e1 := sumD_bare h
  have e2 := toS_bare (sumD_lim x y z) (by decide) false dir
  have e3 := bare_m0 (sumD_lim x y z) (by decide)
  rw [e1] at e2 e3
  unfold fmaS
  rw [if_neg (by omega), if_neg (by omega), if_neg (by omega), if_neg (by omega), if_neg (by omega), if_neg (by omega), e2]
  rw [fd0_fin h.1, fd0_fin h.2.1] at *
  simp only [ne_eq, e3]
set_option maxHeartbeats 4000000 in
theorem c_28Fma {x y z : Nat} (hx : x < W) (hy : y < W) (hz : z < W) {dir : Int} (hd : 0 ≤ dir ∧ dir ≤ 3) (h3 : kind x ≤ 3 ∧ kind y ≤ 3 ∧ kind z ≤ 3) :
    PC E 37 [u x, u y, u z, .int .i64 dir] (ansB (fmaS x y z dir)) := by
  have kx := c_rKind x hx
  have ky := c_rKind y hy
  have kz := c_rKind z hz
  have wx := c_Worth x hx
  have wy := c_Worth y hy
  have wz := c_Worth z hz
  have km := l_28Mul (fd_lim x).N (fd_lim y).N (by decide)
  have ka : PC E _ [(mulS (fd x) (fd y)).nv, (fd z).nv] (sumD x y z).nv := l_Add (K := 2306) ((fd_lim x).mul (fd_lim y)).N ((fd_lim z).N.mono (by decide)) (by decide)
  have hs := sumD_lim x y z
  have kt := c_7ToN (d := sumD x y z) (by have := hs.bits; omega) (by have := hs.2.2; omega) false hd.1 hd.2
  have hF := fmaS_fin (x := x) (y := y) (z := z) dir
  have hl1 := dgB_len0 (x := (sumD x y z).m)
  have hl2 := dgB_len0 (x := (mulS (fd x) (fd y)).m)
  have hzt : z &&& 9223372036854775808 = if fs z = true then 9223372036854775808 else 0 := by
    rw [and_top hz]; unfold fs; simp
  obtain ⟨R, hR⟩ : ∃ R, R = fmaS x y z dir := ⟨_, rfl⟩
  rw [← hR]
  rw [← hR] at hF
  unfold fmaS at hR
  rw [if_neg (by omega), if_neg (by omega)] at hR
  rw [hzt] at hR hF
  have hsg : sgB x y = if (fs x != fs y) = true then 9223372036854775808 else 0 := rfl
  have gx := ge_fs x
  have gy := ge_fs y
  have gz := ge_fs z
  have z0 : ((0 : Nat) : Int) = 0 := rfl
  have z1 : ((9223372036854775808 : Nat) : Int) = 9223372036854775808 := rfl
  have z2 : IntKind.wrap .u64 (9218868437227405312 + 9223372036854775808) = 18442240474082181120 := by decide
  have o1 : (9218868437227405312 ||| 9223372036854775808 : Nat) = 18442240474082181120 := by decide
  have o2 : (9218868437227405312 ||| 0 : Nat) = 9218868437227405312 := by decide
  rw [hsg] at hR hF
  clear hs hsg hzt hx hy hz
  generalize toS (sumD x y z) false dir = To at *
  generalize addS (mulS (fd0 x) (fd0 y)) (fd0 z) = S0 at *
  generalize toS S0 false dir = To0 at *
  generalize mulS (fd0 x) (fd0 y) = P0 at *
  generalize sumD x y z = S at *
  generalize mulS (fd x) (fd y) = P at *
  generalize kind x = a at *
  generalize kind y = b at *
  generalize kind z = c at *
  generalize fd x = dx at *
  generalize fd y = dy at *
  generalize fd z = dz at *
  unfold ansB
  simp only [u, Dy.nv, DP, VN, VL] at kx ky kz wx wy wz km ka kt ⊢
  generalize fs x = sx at *
  generalize fs y = sy at *
  generalize fs z = sz at *
  refine PC.of_body follows Tryz.func37 (by decide +kernel) rfl (by kernel_rfl) (Nat.le_of_ble_eq_true rfl) (walk ?_)
  simp only [Tryz.f37, gx, gy, gz, go_sem]
  refine qcall_i (kx) ?_; simp only [Tryz.f37, gx, gy, gz, go_sem]
  refine qcall_i (ky) ?_; simp only [Tryz.f37, gx, gy, gz, go_sem]
  refine qcall_i (kz) ?_; simp only [Tryz.f37, gx, gy, gz, go_sem]
  generalize (sx != sy) = n at *
  clear gx gy kx ky kz
  have t0 : decide ((0 : Int) ≥ 9223372036854775808) = false := by decide
  have t1 : decide ((9223372036854775808 : Int) ≥ 9223372036854775808) = true := by decide
  have b0 : (false != false) = false := rfl
  have b1 : (false != true) = true := rfl
  have b2 : (true != false) = true := rfl
  have b3' : (true != true) = false := rfl
  have d0 : (false == false) = true := rfl
  have d1 : (false == true) = false := rfl
  have d2 : (true == false) = false := rfl
  have d3 : (true == true) = true := rfl
  by_cases h3' : a = 3 ∨ b = 3 ∨ c = 3
  · clear hF hl1 hl2 kt ka km wx wy wz
    cases n <;> cases sz <;> simp only [Bool.false_eq_true, if_true, if_false, and_true] at hR <;>
    simp only [Tryz.f37, gz, go_sem]
    all_goals repeat' first
      | ((with_reducible refine qif_d (fun h => ?_) (fun h => ?_)) <;> simp only [Tryz.f37, gz, z2, t0, t1, b0, b1, b2, b3', go_sem])
      | ((repeat' split at hR) <;> first | (exfalso; omega) | (rw [hR]; rfl) | (rw [hR]; simp [o1]; done))
    all_goals trace_state
  · have hF := hF (by omega)
    have a3 : ((a : Int) = 3) = False := eq_false (by omega)
    have b3 : ((b : Int) = 3) = False := eq_false (by omega)
    have c3 : ((c : Int) = 3) = False := eq_false (by omega)
    clear hR
    cases n <;> cases sz <;> simp only [Bool.false_eq_true, if_true, if_false, and_true] at hF <;>
    simp only [Tryz.f37, gz, a3, b3, c3, go_sem]
    all_goals
      refine qcall_i (wx) ?_; simp only [Tryz.f37, go_sem]
      refine qcall_i (wy) ?_; simp only [Tryz.f37, go_sem]
      refine qcall_i (km) ?_; simp only [Tryz.f37, go_sem]
      refine qcall_i (wz) ?_; simp only [Tryz.f37, go_sem]
      refine qcall_i (ka) ?_; simp only [Tryz.f37, go_sem]
      refine qif_d (fun h1 => ?_) (fun h1 => ?_)
      · rw [if_pos (fun h => by have := hl1.2 h; omega)] at hF
        simp only [Tryz.f37, go_sem]
        refine qcall_i (kt) ?_; simp only [Tryz.f37, go_sem]
        rw [hF]
        try rfl
      rw [if_neg (fun h => h (hl1.1 (by omega)))] at hF
      simp only [Tryz.f37, gz, t0, t1, d0, d1, d2, d3, go_sem]
      repeat' first
        | ((with_reducible refine qif_d (fun h => ?_) (fun h => ?_)) <;> simp only [Tryz.f37, gz, t0, t1, d0, d1, d2, d3, go_sem])
        | ((repeat' split at hF) <;> first | (exfalso; omega) | (rw [hF]; rfl))
end Go.Proofs.YtejmlngnpekagaaGreatDoor