/- The contract of the law BasicDyads: at whatever reads as its arguments it returns true. -/
import Derived.Test.YtejmlngnpekagaaGreatDoorH2
import Derived.Test.YtejmlngnpekagaaGreatDoorCut
import Derived.Test.YtejmlngnpekagaaGreatDoorG7
open Go PG Go.Proofs
set_option maxRecDepth 100000
set_option linter.unusedSimpArgs false
set_option linter.unusedVariables false
namespace Go.Proofs.YtejmlngnpekagaaGreatDoor
attribute [local go_sem] Lay2 Lay3 Lay4 Lay5 Lay6 Lay7 Lay8 Lay9 Lay10 Lay11 Lay12 Lay13 Lay14 Lay15 Lay16 Lay17 Lay18 Lay19 Lay21 Lay22 Lay23 Lay25 Lay26 Lay27 Lay30 Lay31 Lay32 Lay33 Lay36 Lay37 Lay41 Lay42 Lay43 Lay47 Lay56 Lay57 Lay59 Lay60 Lay65 Lay66 Lay74 Lay75 Lay105 Lay114 Lay145 Lay146 Lay149 Lay150 Lay151 Lay173 Lay185 Lay189 Lay204 Lay205 Lay208 Lay214 Lay215 Lay216 Lay217 Lay218 Lay220 Lay221 Lay223 Lay224 Lay225 Lay228 qexec_seq qexec_skip qexec_exit qexec_ret qexec_block qexec_loop qexec_range qexec_cond qexec_region qexec_drawn qops_nil qops_none qops_some put_some put_none pblk_exit pblk_other newDsts_nil inlDsts_nil isInl sget_cons sget_nil qval_some qbool_some qgs_bool qgs_und qfree_some qgrd_true qgrd_false qif_true qif_false qval_ite qval_itn qand_true map_ite map_some' map_none' qdo_move qdo_assign qdo_binOp qdo_pick qdo_unOp qdo_convert qdo_extract qdo_field qdo_fieldAddr qdo_alloc qdo_box qdo_build qdo_buildSlice qdo_load qdo_store qdo_nilCheck qdo_makeFunc qdo_makeSlice qdo_slice qdo_indexAddr qdo_call qcont_val qcont_new qcont_st qcont_app0 qcont_app qcont_inl qcont_call njSV_val njSV_nil njSV_row njSV_ptr njSV_sub binV_val binV_nil binV_nn binV_ptr bin_np bin_nnp nilCmp bin_add bin_sub bin_mul bin_quo bin_rem bin_and bin_or bin_xor bin_andNot bin_eql bin_neq bin_lss bin_leq bin_gtr bin_geq bin_shl bin_shr bin_seql bin_sneq bin_sadd bin_beql bin_aeql bin_aneq eqAnd_some eqCells_nil eqCells_cons fieldTypes isStruct eqCell bin_bneq un_not un_neg nj_ite Nat.beq stepA stepR isNew opSV constSV RV.sv allSome E_mu E_own qkeyIn_none qkeyIn_some qkeyAt_none qkeyAt_some Bool.or_false Bool.false_or Bool.or_true Bool.true_or cst setB res resSV pstart startL killL kill1 eraL frzL svPV rvPV rvInt rvSlice frzOf close closeL pconv pbuiltin pmax2 partPV setCells fillPV zrow bound newSV PV.cells Bk.cells Bk.with SV.key pres presL_nil presL_tmp presL_cell presC2_some cellPV_ptr presC List.toList_toArray List.size_toArray List.getElem?_drop Nat.mul_one Int.toNat_natCast Nat.not_lt_zero Nat.lt_irrefl decide_true decide_false Nat.not_lt Option.some.injEq PV.lst.injEq PV.int.injEq PV.bool.injEq PV.tuple.injEq List.cons.injEq Option.map_some Option.map_none Option.bind_some Option.toList List.map_cons List.map_nil List.nil_append List.cons_append List.append_nil List.zip_cons_cons List.zip_nil_left List.zip_nil_right List.getElem?_cons_zero List.getElem?_cons_succ List.drop_zero List.drop_succ_cons List.take_succ_cons List.take_zero List.set_cons_zero List.set_cons_succ List.length_cons List.length_nil List.length_set List.replicate_one List.replicate_zero bne_self_eq_false beq_self_eq_true Nat.zero_add Nat.add_zero Nat.zero_mul Bool.false_eq_true Bool.true_eq_false Bool.not_true Bool.not_false and_true true_and false_and and_false or_false false_or or_true true_or not_true_eq_false not_false_eq_true ne_eq gt_iff_lt List.mem_cons List.not_mem_nil
attribute [local go_sem ↓] pseq_normal pseq_ret pseq_exit pblk_normal pblk_ret newDsts_cons inlDsts_cons gdst_zero gdst_succ retQ_normal retQ_ret qneed_nil qneed_cons retM_normal retM_ret endR_normal endR_ret endR_exit
attribute [local go_sem] Int.reduceToNat Int.reduceEq Int.reduceNe Int.reduceLT Int.reduceLE Int.reduceNeg Int.reduceAdd Nat.reduceEqDiff Nat.reduceAdd Nat.reduceSub Nat.reduceMul Nat.reduceLeDiff Nat.reduceLT
attribute [local go_sem ↓] reduceIte reduceCtorEq

/-- What basic.Part hands back, in three numbers. -/
theorem part_three (x y : Dy) (dir : Int) : ∃ (P1 P2 : Nat) (P3 : Int), partB x y dir = .tuple [.int .u64 P1, .int .u8 P2, .int .i64 P3] ∧ P2 < 256 ∧
    (mayP x → mayP y → (0 ≤ dir ∧ dir ≤ 3) → (-9000 ≤ x.e ∧ x.e ≤ 9000) → (-9000 ≤ y.e ∧ y.e ≤ 9000) → P3 = 0 ∧ toS (partD x y) (partR x y) dir = (P1, P2)) ∧
    (¬ (mayP x ∧ mayP y ∧ (0 ≤ dir ∧ dir ≤ 3)) → P1 = 0 ∧ P2 = 0 ∧ P3 = 1) := by
  unfold partB
  by_cases h : mayP x ∧ mayP y ∧ (0 ≤ dir ∧ dir ≤ 3) ∧ (partD x y).fits
  · rw [if_pos h]
    exact ⟨_, _, _, rfl, toS_fl _ _ _, fun _ _ _ _ _ => ⟨rfl, rfl⟩, fun h2 => absurd ⟨h.1, h.2.1, h.2.2.1⟩ h2⟩
  · rw [if_neg h]
    refine ⟨0, 0, 1, rfl, by decide, fun h1 h2 h3 h4 h5 => absurd ⟨h1, h2, h3, ?_⟩ h, fun _ => ⟨rfl, rfl, rfl⟩⟩
    have hb := part_bits h1 h2
    exact mkD_fits (by omega) (by omega) (by omega)
theorem root_three (x : Dy) (r : Nat) (dir : Int) : ∃ (P1 P2 : Nat) (P3 : Int), rootB x r dir = .tuple [.int .u64 P1, .int .u8 P2, .int .i64 P3] ∧ P2 < 256 ∧
    (mayP x ∧ x.s = false ∧ (0 ≤ dir ∧ dir ≤ 3) → P3 = 0 ∧ toS (rootD x r) (decide (r * r ≠ rootM x)) dir = (P1, P2)) ∧
    (¬ (mayP x ∧ x.s = false ∧ (0 ≤ dir ∧ dir ≤ 3)) → P1 = 0 ∧ P2 = 0 ∧ P3 = 1) := by
  unfold rootB
  by_cases h : mayP x ∧ x.s = false ∧ (0 ≤ dir ∧ dir ≤ 3)
  · rw [if_pos h]
    exact ⟨_, _, _, rfl, toS_fl _ _ _, fun _ => ⟨rfl, rfl⟩, fun h2 => absurd h h2⟩
  · rw [if_neg h]
    exact ⟨0, 0, 1, rfl, by decide, fun h1 => absurd h1 h, fun _ => ⟨rfl, rfl, rfl⟩⟩

set_option maxHeartbeats 4000000 in
theorem law_BasicDyads (pvs : List PV) (h : Fits [qD, qD, qInt] pvs) : PC E 6 pvs (.bool true) := by
  obtain ⟨_, _, _, rfl, ⟨s1, l1, e1, rfl, o1, -, -⟩, ⟨s2, l2, e2, rfl, o2, -, -⟩, ⟨dir, rfl, -, -⟩⟩ := fits3 h
  simp only [DP, NL, u]
  refine PC.of_sem Tryz.func6 (by decide +kernel) rfl (Nat.le_of_ble_eq_true rfl) ?_
  refine PSem.cut follows (by kernel_rfl) 3 (fun _ : Unit => ⟨[(2, .val (.int .i64 dir)), (3, .ptr 3 0), (4, .ptr 4 0)],
    [(3, (.box [.bool s1, .lst l1.length (U l1), .int .i64 e1], false)), (4, (.box [.bool s2, .lst l2.length (U l2), .int .i64 e2], false))]⟩)
    (fun _ => l1.length ≤ 80 ∧ l2.length ≤ 12) ?_ (fun _ hJ => ?_)
  · simp only [Tryz.f6, qfirst_succ, qfirst_zero, after_succ, after_zero, go_sem]
    refine qcall_i (c_alive28) ?_; simp only [Tryz.f6, qfirst_succ, qfirst_zero, after_succ, after_zero, go_sem]
    repeat' first
      | ((with_reducible refine qif_d (fun h => ?_) (fun h => ?_)) <;> simp only [Tryz.f6, qfirst_succ, qfirst_zero, after_succ, after_zero, go_sem])
      | (refine ⟨(), ⟨by omega, by omega⟩, ?_⟩; simp [Wk, sget, killL, kill1, SV.key]; done)
  obtain ⟨hl1, hl2⟩ := hJ
  have R1 := RD.arg (s := s1) (e := e1) o1 (by omega)
  have R2 := RD.arg (s := s2) (e := e2) o2 (by omega)
  have bx := Nat.le_trans (mkD_bits s1 (vl l1) e1) (bits_of_vl o1)
  have bY := Nat.le_trans (mkD_bits s2 (vl l2) e2) (bits_of_vl o2)
  have kx := r_5Of R1
  have ky := r_5Of R2
  have kp := b_Part R1 R2 dir
  obtain ⟨r, hr⟩ := isq_ex (rootM (mkD s1 (vl l1) e1))
  have kr := b_Root R1 hr dir
  generalize mkD s1 (vl l1) e1 = x at *
  generalize mkD s2 (vl l2) e2 = y at *
  have fx := c_5Fits x
  have fy := c_5Fits y
  have gx := c_rBits x.m (Nat.le_trans (dgB_le_of_bits (n := 62500) (by omega)) (by decide))
  have gy := c_rBits y.m (Nat.le_trans (dgB_le_of_bits (n := 62500) (by omega)) (by decide))
  have lx := dgB_len0 (x := x.m)
  have ly := dgB_len0 (x := y.m)
  simp only [Dy.nv, DP, NL, VN, VL] at kx ky kp kr fx fy gx gy
  refine PSem.cut follows (by kernel_rfl) 3 (fun _ : Unit => ⟨[(2, .val (.int .i64 dir)), (3, .ptr 3 0), (4, .ptr 4 0), (7, .ptr 7 0), (8, .ptr 8 0), (9, .val (.bool (decide (mayP x)))), (10, .val (.bool (decide (mayP y))))],
    [(3, (.box [.bool s1, .lst l1.length (U l1), .int .i64 e1], false)), (4, (.box [.bool s2, .lst l2.length (U l2), .int .i64 e2], false)), (7, (.box [.bool x.s, .lst (dg B x.m).length (V (dg B x.m)), .int .i64 x.e], false)), (8, (.box [.bool y.s, .lst (dg B y.m).length (V (dg B y.m)), .int .i64 y.e], false))]⟩)
    (fun _ => True) ?_ (fun _ hJ => ?_)
  · simp only [Tryz.f6, qfirst_succ, qfirst_zero, after_succ, after_zero, go_sem]
    refine qcall_i (kx) ?_; simp only [Tryz.f6, qfirst_succ, qfirst_zero, after_succ, after_zero, go_sem]
    refine qcall_i (ky) ?_; simp only [Tryz.f6, qfirst_succ, qfirst_zero, after_succ, after_zero, go_sem]
    have hbx : ((bitLen x.m : Int) ≤ 4400) = (bitLen x.m ≤ 4400) := propext (by omega)
    have hby : ((bitLen y.m : Int) ≤ 4400) = (bitLen y.m ≤ 4400) := propext (by omega)
    have mx : mayP x ↔ (x.fits ∧ 0 < (dg B x.m).length ∧ bitLen x.m ≤ 4400) := by
      have e : (x.m ≠ 0) = (0 < (dg B x.m).length) := propext (by omega)
      unfold mayP; rw [e]
    have my : mayP y ↔ (y.fits ∧ 0 < (dg B y.m).length ∧ bitLen y.m ≤ 4400) := by
      have e : (y.m ≠ 0) = (0 < (dg B y.m).length) := propext (by omega)
      unfold mayP; rw [e]
    clear R1 R2 hr kr kp kx ky lx ly bx bY o1 o2 h
    generalize (dg B x.m).length = nx at *
    generalize (dg B y.m).length = ny at *
    generalize V (dg B x.m) = vx at *
    generalize V (dg B y.m) = vy at *
    generalize bitLen x.m = bx at *
    generalize bitLen y.m = bY at *
    refine qcall_i (fx) ?_; simp only [Tryz.f6, qfirst_succ, qfirst_zero, after_succ, after_zero, go_sem]
    repeat' first
      | ((with_reducible refine qif_d (fun h => ?_) (fun h => ?_)) <;> simp only [Tryz.f6, qfirst_succ, qfirst_zero, after_succ, after_zero, go_sem])
      | (with_reducible refine qcall_i gx ?_; simp only [Tryz.f6, qfirst_succ, qfirst_zero, after_succ, after_zero, go_sem])
      | (with_reducible refine qcall_i fy ?_; simp only [Tryz.f6, qfirst_succ, qfirst_zero, after_succ, after_zero, go_sem])
      | (with_reducible refine qcall_i gy ?_; simp only [Tryz.f6, qfirst_succ, qfirst_zero, after_succ, after_zero, go_sem])
      | (refine ⟨(), ?_⟩; simp [Wk, sget, killL, kill1, SV.key, mx, my, hbx, hby, *]; first | done | omega)
  obtain ⟨P1, P2, P3, eP, bP, iP, oP⟩ := part_three x y dir
  obtain ⟨Q1, Q2, Q3, eQ, bQ, iQ, oQ⟩ := root_three x r dir
  rw [eP] at kp
  rw [eQ] at kr
  have kRoot : mayP x ∧ x.s = false ∧ (0 ≤ dir ∧ dir ≤ 3) → (-9000 ≤ x.e ∧ x.e ≤ 9000) → PC E 46 [x.nv, .int .i64 dir] (ansB (Q1, Q2)) := fun h1 h2 => by
    have := c_28Root h1.1.2.1 h1.2.1 h1.1.2.2 (by omega) hr h1.2.2
    rwa [(iQ h1).2] at this
  have kQuo : mayP x → mayP y → (0 ≤ dir ∧ dir ≤ 3) → (-9000 ≤ x.e ∧ x.e ≤ 9000) ∧ (-9000 ≤ y.e ∧ y.e ≤ 9000) → PC E 47 [x.nv, y.nv, .int .i64 dir] (ansB (P1, P2)) := fun h1 h2 h3 h4 => by
    have := c_28Quotient h1.2.1 h2.2.1 h1.2.2 h2.2.2 (by omega) (by omega) h3
    rwa [(iP h1 h2 h3 h4.1 h4.2).2] at this
  have iP3 : mayP x → mayP y → (0 ≤ dir ∧ dir ≤ 3) → (-9000 ≤ x.e ∧ x.e ≤ 9000) ∧ (-9000 ≤ y.e ∧ y.e ≤ 9000) → P3 = 0 := fun h1 h2 h3 h4 => (iP h1 h2 h3 h4.1 h4.2).1
  have wP : IntKind.wrap .i64 ((P2 : Nat) : Int) = P2 := wrap64 (by omega) (by omega)
  have wQ : IntKind.wrap .i64 ((Q2 : Nat) : Int) = Q2 := wrap64 (by omega) (by omega)
  have z0 : ((0 : Nat) : Int) = 0 := rfl
  clear iP eP eQ hr R1 R2 bx bY lx ly fx fy gx gy kx ky o1 o2 h bP bQ hl1 hl2
  unfold ansB at kRoot kQuo
  simp only [Dy.nv, DP, VN, VL] at kRoot kQuo
  refine PSem.last follows (by kernel_rfl) ?_
  by_cases hp : mayP x
  · have dp : decide (mayP x) = true := decide_eq_true hp
    by_cases hd : 0 ≤ dir ∧ dir ≤ 3
    · have hd1 : (dir ≥ 0) = True := eq_true hd.1
      have hd2 : (dir ≤ 3) = True := eq_true hd.2
      by_cases hq : mayP y
      · have dq : decide (mayP y) = true := decide_eq_true hq
        cases hs : x.s
        · have kQuo := kQuo hp hq hd
          have iP3 := iP3 hp hq hd
          clear oP
          have kRoot := kRoot ⟨hp, hs, hd⟩
          obtain ⟨rfl, -⟩ := iQ ⟨hp, hs, hd⟩
          rw [hs] at kRoot
          clear iQ oQ
          rw [hs] at kQuo
          simp only [Tryz.f6, qfirst_succ, qfirst_zero, after_succ, after_zero, dp, wP, wQ, z0, hd1, hd2, dq, hs, go_sem]
          refine qcall_i (kp) ?_; simp only [Tryz.f6, qfirst_succ, qfirst_zero, after_succ, after_zero, dp, wP, wQ, z0, hd1, hd2, dq, hs, go_sem]
          refine qcall_i (kr) ?_; simp only [Tryz.f6, qfirst_succ, qfirst_zero, after_succ, after_zero, dp, wP, wQ, z0, hd1, hd2, dq, hs, go_sem]
          repeat' first
            | (with_reducible refine qcall_i (kRoot (by omega)) ?_; simp only [Tryz.f6, qfirst_succ, qfirst_zero, after_succ, after_zero, dp, wP, wQ, z0, hd1, hd2, dq, hs, go_sem])
            | (with_reducible refine qcall_i (kQuo (by omega)) ?_; simp only [Tryz.f6, qfirst_succ, qfirst_zero, after_succ, after_zero, dp, wP, wQ, z0, hd1, hd2, dq, hs, go_sem])
            | ((with_reducible refine qif_d (fun h => ?_) (fun h => ?_)) <;> simp only [Tryz.f6, qfirst_succ, qfirst_zero, after_succ, after_zero, dp, wP, wQ, z0, hd1, hd2, dq, hs, go_sem])
            | ((with_reducible refine qif_i (fun h => ?_) (fun h => ?_)) <;> simp only [Tryz.f6, qfirst_succ, qfirst_zero, after_succ, after_zero, dp, wP, wQ, z0, hd1, hd2, dq, hs, go_sem])
            | (exfalso; omega)
            | exact decide_eq_true (by omega)
            | rfl
            | (exfalso; simp only [Bool.not_eq_eq_eq_not, Bool.not_true, Bool.not_false, decide_eq_true_eq, decide_eq_false_iff_not] at *; omega)
        · have kQuo := kQuo hp hq hd
          have iP3 := iP3 hp hq hd
          clear oP
          obtain ⟨rfl, rfl, rfl⟩ := oQ (fun h => (by rw [hs] at h; exact absurd h.2.1 (by decide)))
          clear iQ oQ
          rw [hs] at kQuo
          simp only [Tryz.f6, qfirst_succ, qfirst_zero, after_succ, after_zero, dp, wP, wQ, z0, hd1, hd2, dq, hs, go_sem]
          refine qcall_i (kp) ?_; simp only [Tryz.f6, qfirst_succ, qfirst_zero, after_succ, after_zero, dp, wP, wQ, z0, hd1, hd2, dq, hs, go_sem]
          refine qcall_i (kr) ?_; simp only [Tryz.f6, qfirst_succ, qfirst_zero, after_succ, after_zero, dp, wP, wQ, z0, hd1, hd2, dq, hs, go_sem]
          repeat' first
            | (with_reducible refine qcall_i (kQuo (by omega)) ?_; simp only [Tryz.f6, qfirst_succ, qfirst_zero, after_succ, after_zero, dp, wP, wQ, z0, hd1, hd2, dq, hs, go_sem])
            | ((with_reducible refine qif_d (fun h => ?_) (fun h => ?_)) <;> simp only [Tryz.f6, qfirst_succ, qfirst_zero, after_succ, after_zero, dp, wP, wQ, z0, hd1, hd2, dq, hs, go_sem])
            | ((with_reducible refine qif_i (fun h => ?_) (fun h => ?_)) <;> simp only [Tryz.f6, qfirst_succ, qfirst_zero, after_succ, after_zero, dp, wP, wQ, z0, hd1, hd2, dq, hs, go_sem])
            | (exfalso; omega)
            | exact decide_eq_true (by omega)
            | rfl
            | (exfalso; simp only [Bool.not_eq_eq_eq_not, Bool.not_true, Bool.not_false, decide_eq_true_eq, decide_eq_false_iff_not] at *; omega)
      · have dq : decide (mayP y) = false := decide_eq_false hq
        cases hs : x.s
        · obtain ⟨rfl, rfl, rfl⟩ := oP (fun h => hq h.2.1)
          have kRoot := kRoot ⟨hp, hs, hd⟩
          obtain ⟨rfl, -⟩ := iQ ⟨hp, hs, hd⟩
          rw [hs] at kRoot
          clear iQ oQ
          simp only [Tryz.f6, qfirst_succ, qfirst_zero, after_succ, after_zero, dp, wP, wQ, z0, hd1, hd2, dq, hs, go_sem]
          refine qcall_i (kp) ?_; simp only [Tryz.f6, qfirst_succ, qfirst_zero, after_succ, after_zero, dp, wP, wQ, z0, hd1, hd2, dq, hs, go_sem]
          refine qcall_i (kr) ?_; simp only [Tryz.f6, qfirst_succ, qfirst_zero, after_succ, after_zero, dp, wP, wQ, z0, hd1, hd2, dq, hs, go_sem]
          repeat' first
            | (with_reducible refine qcall_i (kRoot (by omega)) ?_; simp only [Tryz.f6, qfirst_succ, qfirst_zero, after_succ, after_zero, dp, wP, wQ, z0, hd1, hd2, dq, hs, go_sem])
            | ((with_reducible refine qif_d (fun h => ?_) (fun h => ?_)) <;> simp only [Tryz.f6, qfirst_succ, qfirst_zero, after_succ, after_zero, dp, wP, wQ, z0, hd1, hd2, dq, hs, go_sem])
            | ((with_reducible refine qif_i (fun h => ?_) (fun h => ?_)) <;> simp only [Tryz.f6, qfirst_succ, qfirst_zero, after_succ, after_zero, dp, wP, wQ, z0, hd1, hd2, dq, hs, go_sem])
            | (exfalso; omega)
            | exact decide_eq_true (by omega)
            | rfl
            | (exfalso; simp only [Bool.not_eq_eq_eq_not, Bool.not_true, Bool.not_false, decide_eq_true_eq, decide_eq_false_iff_not] at *; omega)
        · obtain ⟨rfl, rfl, rfl⟩ := oP (fun h => hq h.2.1)
          obtain ⟨rfl, rfl, rfl⟩ := oQ (fun h => (by rw [hs] at h; exact absurd h.2.1 (by decide)))
          clear iQ oQ
          simp only [Tryz.f6, qfirst_succ, qfirst_zero, after_succ, after_zero, dp, wP, wQ, z0, hd1, hd2, dq, hs, go_sem]
          refine qcall_i (kp) ?_; simp only [Tryz.f6, qfirst_succ, qfirst_zero, after_succ, after_zero, dp, wP, wQ, z0, hd1, hd2, dq, hs, go_sem]
          refine qcall_i (kr) ?_; simp only [Tryz.f6, qfirst_succ, qfirst_zero, after_succ, after_zero, dp, wP, wQ, z0, hd1, hd2, dq, hs, go_sem]
          repeat' first
            | ((with_reducible refine qif_d (fun h => ?_) (fun h => ?_)) <;> simp only [Tryz.f6, qfirst_succ, qfirst_zero, after_succ, after_zero, dp, wP, wQ, z0, hd1, hd2, dq, hs, go_sem])
            | ((with_reducible refine qif_i (fun h => ?_) (fun h => ?_)) <;> simp only [Tryz.f6, qfirst_succ, qfirst_zero, after_succ, after_zero, dp, wP, wQ, z0, hd1, hd2, dq, hs, go_sem])
            | (exfalso; omega)
            | exact decide_eq_true (by omega)
            | rfl
            | (exfalso; simp only [Bool.not_eq_eq_eq_not, Bool.not_true, Bool.not_false, decide_eq_true_eq, decide_eq_false_iff_not] at *; omega)
    · cases hs : x.s
      · obtain ⟨rfl, rfl, rfl⟩ := oP (fun h => hd h.2.2)
        obtain ⟨rfl, rfl, rfl⟩ := oQ (fun h => hd h.2.2)
        clear iQ oQ
        simp only [Tryz.f6, qfirst_succ, qfirst_zero, after_succ, after_zero, dp, wP, wQ, z0, hs, go_sem]
        refine qcall_i (kp) ?_; simp only [Tryz.f6, qfirst_succ, qfirst_zero, after_succ, after_zero, dp, wP, wQ, z0, hs, go_sem]
        refine qcall_i (kr) ?_; simp only [Tryz.f6, qfirst_succ, qfirst_zero, after_succ, after_zero, dp, wP, wQ, z0, hs, go_sem]
        repeat' first
          | ((with_reducible refine qif_d (fun h => ?_) (fun h => ?_)) <;> simp only [Tryz.f6, qfirst_succ, qfirst_zero, after_succ, after_zero, dp, wP, wQ, z0, hs, go_sem])
          | ((with_reducible refine qif_i (fun h => ?_) (fun h => ?_)) <;> simp only [Tryz.f6, qfirst_succ, qfirst_zero, after_succ, after_zero, dp, wP, wQ, z0, hs, go_sem])
          | (exfalso; omega)
          | exact decide_eq_true (by omega)
          | rfl
          | (exfalso; simp only [Bool.not_eq_eq_eq_not, Bool.not_true, Bool.not_false, decide_eq_true_eq, decide_eq_false_iff_not] at *; omega)
      · obtain ⟨rfl, rfl, rfl⟩ := oP (fun h => hd h.2.2)
        obtain ⟨rfl, rfl, rfl⟩ := oQ (fun h => hd h.2.2)
        clear iQ oQ
        simp only [Tryz.f6, qfirst_succ, qfirst_zero, after_succ, after_zero, dp, wP, wQ, z0, hs, go_sem]
        refine qcall_i (kp) ?_; simp only [Tryz.f6, qfirst_succ, qfirst_zero, after_succ, after_zero, dp, wP, wQ, z0, hs, go_sem]
        refine qcall_i (kr) ?_; simp only [Tryz.f6, qfirst_succ, qfirst_zero, after_succ, after_zero, dp, wP, wQ, z0, hs, go_sem]
        repeat' first
          | ((with_reducible refine qif_d (fun h => ?_) (fun h => ?_)) <;> simp only [Tryz.f6, qfirst_succ, qfirst_zero, after_succ, after_zero, dp, wP, wQ, z0, hs, go_sem])
          | ((with_reducible refine qif_i (fun h => ?_) (fun h => ?_)) <;> simp only [Tryz.f6, qfirst_succ, qfirst_zero, after_succ, after_zero, dp, wP, wQ, z0, hs, go_sem])
          | (exfalso; omega)
          | exact decide_eq_true (by omega)
          | rfl
          | (exfalso; simp only [Bool.not_eq_eq_eq_not, Bool.not_true, Bool.not_false, decide_eq_true_eq, decide_eq_false_iff_not] at *; omega)
  · have dp : decide (mayP x) = false := decide_eq_false hp
    obtain ⟨rfl, rfl, rfl⟩ := oP (fun h => hp h.1)
    obtain ⟨rfl, rfl, rfl⟩ := oQ (fun h => hp h.1)
    clear iQ oQ
    simp only [Tryz.f6, qfirst_succ, qfirst_zero, after_succ, after_zero, dp, wP, wQ, z0, go_sem]
    refine qcall_i (kp) ?_; simp only [Tryz.f6, qfirst_succ, qfirst_zero, after_succ, after_zero, dp, wP, wQ, z0, go_sem]
    refine qcall_i (kr) ?_; simp only [Tryz.f6, qfirst_succ, qfirst_zero, after_succ, after_zero, dp, wP, wQ, z0, go_sem]
    repeat' first
      | ((with_reducible refine qif_d (fun h => ?_) (fun h => ?_)) <;> simp only [Tryz.f6, qfirst_succ, qfirst_zero, after_succ, after_zero, dp, wP, wQ, z0, go_sem])
      | ((with_reducible refine qif_i (fun h => ?_) (fun h => ?_)) <;> simp only [Tryz.f6, qfirst_succ, qfirst_zero, after_succ, after_zero, dp, wP, wQ, z0, go_sem])
      | (exfalso; omega)
      | exact decide_eq_true (by omega)
      | rfl
      | (exfalso; simp only [Bool.not_eq_eq_eq_not, Bool.not_true, Bool.not_false, decide_eq_true_eq, decide_eq_false_iff_not] at *; omega)
end Go.Proofs.YtejmlngnpekagaaGreatDoor
