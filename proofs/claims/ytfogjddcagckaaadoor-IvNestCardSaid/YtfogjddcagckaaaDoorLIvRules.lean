/- The contract of the law IvRules: at whatever reads as its arguments it returns true. -/
import Derived.Test.YtfogjddcagckaaaDoorLIvTells
import Derived.Test.YtfogjddcagckaaaDoorIvL
open Go PG Go.Proofs
set_option maxRecDepth 100000
set_option linter.unusedSimpArgs false
set_option linter.unusedVariables false
namespace Go.Proofs.YtfogjddcagckaaaDoor
attribute [local go_sem] Lay2 Lay3 Lay4 Lay5 Lay6 Lay7 Lay8 Lay9 Lay10 Lay11 Lay12 Lay13 Lay14 Lay21 Lay22 Lay23 Lay24 Lay27 Lay28 Lay29 Lay35 Lay36 Lay38 Lay39 Lay40 Lay42 Lay43 Lay45 Lay46 Lay67 Lay81 Lay82 Lay83 Lay84 Lay85 Lay86 Lay87 Lay90 Lay93 Lay94 Lay116 Lay132 Lay138 Lay145 Lay162 Lay163 Lay201 qexec_seq qexec_skip qexec_exit qexec_ret qexec_block qexec_loop qexec_range qexec_cond qexec_region qexec_drawn qops_nil qops_none qops_some put_some put_none pblk_exit pblk_other newDsts_nil sget_cons sget_nil qval_some qbool_some qgs_bool qgs_und qfree_some qgrd_true qgrd_false qif_true qif_false qval_ite qval_itn qand_true map_ite map_some' map_none' qdo_move qdo_assign qdo_binOp qdo_pick qdo_unOp qdo_convert qdo_extract qdo_field qdo_fieldAddr qdo_alloc qdo_box qdo_build qdo_buildSlice qdo_load qdo_store qdo_nilCheck qdo_makeFunc qdo_makeSlice qdo_slice qdo_indexAddr qdo_call qcont_val qcont_new qcont_st qcont_app0 qcont_app qcont_inl qcont_call njSV_val njSV_nil njSV_row njSV_ptr njSV_sub binV_val binV_nil binV_nn nilCmp bin_add bin_sub bin_mul bin_quo bin_rem bin_and bin_or bin_xor bin_andNot bin_eql bin_neq bin_lss bin_leq bin_gtr bin_geq bin_shl bin_shr bin_seql bin_sneq bin_sadd bin_beql bin_aeql bin_aneq eqAnd_some eqCells_nil eqCells_cons fieldTypes isStruct eqCell bin_bneq un_not un_neg nj_ite Nat.beq stepA stepR isNew opSV constSV RV.sv allSome E_mu E_own qkeyIn_none qkeyIn_some qkeyAt_none qkeyAt_some Bool.or_false Bool.false_or Bool.or_true Bool.true_or cst setB res resSV pstart startL killL kill1 eraL frzL svPV rvPV rvInt rvSlice frzOf close closeL pconv pbuiltin pmax2 partPV setCells fillPV zrow bound newSV PV.cells Bk.cells Bk.with SV.key pres presL_nil presL_tmp presL_cell presC2_some cellPV_ptr presC List.toList_toArray List.size_toArray List.getElem?_drop Nat.mul_one Int.toNat_natCast Nat.not_lt_zero Nat.lt_irrefl decide_true decide_false Nat.not_lt Option.some.injEq PV.lst.injEq PV.int.injEq PV.bool.injEq PV.tuple.injEq List.cons.injEq Option.map_some Option.map_none Option.bind_some Option.toList List.map_cons List.map_nil List.nil_append List.cons_append List.append_nil List.zip_cons_cons List.zip_nil_left List.zip_nil_right List.getElem?_cons_zero List.getElem?_cons_succ List.drop_zero List.drop_succ_cons List.take_succ_cons List.take_zero List.set_cons_zero List.set_cons_succ List.length_cons List.length_nil List.length_set List.replicate_one List.replicate_zero bne_self_eq_false beq_self_eq_true Nat.zero_add Nat.add_zero Nat.zero_mul Bool.false_eq_true Bool.true_eq_false Bool.not_true Bool.not_false and_true true_and false_and and_false or_false false_or or_true true_or not_true_eq_false not_false_eq_true ne_eq gt_iff_lt List.mem_cons List.not_mem_nil
attribute [local go_sem ↓] pseq_normal pseq_ret pseq_exit pblk_normal pblk_ret newDsts_cons gdst_zero gdst_succ retQ_normal retQ_ret qneed_nil qneed_cons retM_normal retM_ret endR_normal endR_ret endR_exit

theorem c_inner {p : PV} {i : Iv} {K u : Nat} (h : RI p i) (hl : i.lim K) (hK : K ≤ 30000) (hr : i.right) (hu : u < 256) : PC E 37 [p, .int .u8 u] (innerD i u).pv := by
  have k1 := q_Wide h hl (by omega)
  rw [if_pos hr] at k1
  obtain ⟨s1, P1, e1, s2, P2, e2, rfl, h1, h2⟩ := h
  have k2 := c_dOf (u : Int) (by omega) (by omega)
  have k3 := r_Mul ((inner_w hl hK).RD (by omega)) ((inner_n hu).RD (by decide))
  rw [mulV_lim (inner_w hl hK) (inner_n hu) (by omega)] at k3
  have k4 := r_Scale ((inner_m hl hK hu).RD (by omega)) (-8)
  rw [scaleV_lim (J := 8) (inner_m hl hK hu) (by decide) (by omega)] at k4
  have k5 := r_Add h1 ((inner_s hl hK hu).RD (by omega))
  rw [addV_lim (hl.1.mono (J := K + 17) (by omega)) (inner_s hl hK hu) (by omega)] at k5
  have w1 : IntKind.wrap .i64 (u : Int) = u := wrap64 (by omega) (by omega)
  unfold innerD
  generalize (mulS (addS i.hi i.lo.neg) (norm (u : Int) 0)).sc (-8) = x1 at *
  generalize mulS (addS i.hi i.lo.neg) (norm (u : Int) 0) = x2 at *
  generalize addS i.hi i.lo.neg = x3 at *
  generalize norm (u : Int) 0 = x4 at *
  generalize addS i.lo x1 = x5 at *
  refine PC.of_body follows Tryd.func37 (by decide +kernel) rfl (by kernel_rfl) (Nat.le_of_ble_eq_true rfl) (walk ?_)
  simp only [Dy.pv, DP] at k1 k2 k3 k4 k5
  simp only [Tryd.f37, go_sem, Int.reduceToNat, Int.reduceEq, Int.reduceNe, Int.reduceLT, Int.reduceLE, Int.reduceNeg, Int.reduceAdd, ↓reduceIte, ↓reduceCtorEq, Nat.reduceEqDiff, Nat.reduceAdd, Nat.reduceSub, Nat.reduceMul, Nat.reduceLeDiff, Nat.reduceLT]
  refine qcall_i (k1) ?_; simp only [Tryd.f37, w1, go_sem, Int.reduceToNat, Int.reduceEq, Int.reduceNe, Int.reduceLT, Int.reduceLE, Int.reduceNeg, Int.reduceAdd, ↓reduceIte, ↓reduceCtorEq, Nat.reduceEqDiff, Nat.reduceAdd, Nat.reduceSub, Nat.reduceMul, Nat.reduceLeDiff, Nat.reduceLT]
  refine qcall_i (k2) ?_; simp only [Tryd.f37, go_sem, Int.reduceToNat, Int.reduceEq, Int.reduceNe, Int.reduceLT, Int.reduceLE, Int.reduceNeg, Int.reduceAdd, ↓reduceIte, ↓reduceCtorEq, Nat.reduceEqDiff, Nat.reduceAdd, Nat.reduceSub, Nat.reduceMul, Nat.reduceLeDiff, Nat.reduceLT]
  refine qcall_i (k3) ?_; simp only [Tryd.f37, go_sem, Int.reduceToNat, Int.reduceEq, Int.reduceNe, Int.reduceLT, Int.reduceLE, Int.reduceNeg, Int.reduceAdd, ↓reduceIte, ↓reduceCtorEq, Nat.reduceEqDiff, Nat.reduceAdd, Nat.reduceSub, Nat.reduceMul, Nat.reduceLeDiff, Nat.reduceLT]
  refine qcall_i (k4) ?_; simp only [Tryd.f37, go_sem, Int.reduceToNat, Int.reduceEq, Int.reduceNe, Int.reduceLT, Int.reduceLE, Int.reduceNeg, Int.reduceAdd, ↓reduceIte, ↓reduceCtorEq, Nat.reduceEqDiff, Nat.reduceAdd, Nat.reduceSub, Nat.reduceMul, Nat.reduceLeDiff, Nat.reduceLT]
  refine qcall_i (k5) ?_; simp only [Tryd.f37, go_sem, Int.reduceToNat, Int.reduceEq, Int.reduceNe, Int.reduceLT, Int.reduceLE, Int.reduceNeg, Int.reduceAdd, ↓reduceIte, ↓reduceCtorEq, Nat.reduceEqDiff, Nat.reduceAdd, Nat.reduceSub, Nat.reduceMul, Nat.reduceLeDiff, Nat.reduceLT]
  try rfl

set_option maxHeartbeats 2000000 in
theorem law_IvRules (pvs : List PV) (h : Fits [qJ, qJ, qU8, qU8] pvs) : PC E 5 pvs (.bool true) := by
  obtain ⟨_, _, _, _, rfl, ⟨s1, l1, e1, s2, l2, e2, rfl, o1, o2⟩, ⟨s3, l3, e3, s4, l4, e4, rfl, o3, o4⟩, ⟨u, rfl, hu⟩, ⟨v, rfl, hv⟩⟩ := fits4 h
  simp only [NL]
  refine PC.of_sem Tryd.func5 (by decide +kernel) rfl (Nat.le_of_ble_eq_true rfl) ?_
  refine PSem.cut follows (by kernel_rfl) 3 (fun _ : Unit => ⟨[(2, .val (.int .u8 u)), (3, .val (.int .u8 v)), (4, .ptr 4 0), (5, .ptr 5 0)],
    [(4, (.box [.bool s1, .lst l1.length (U l1), .int .i64 e1, .bool s2, .lst l2.length (U l2), .int .i64 e2], false)), (5, (.box [.bool s3, .lst l3.length (U l3), .int .i64 e3, .bool s4, .lst l4.length (U l4), .int .i64 e4], false))]⟩)
    (fun _ => (nearP l1.length e1 ∧ nearP l2.length e2) ∧ (nearP l3.length e3 ∧ nearP l4.length e4) ∧ Iv.right ⟨mkD s1 (vl l1) e1, mkD s2 (vl l2) e2⟩ ∧ Iv.right ⟨mkD s3 (vl l3) e3, mkD s4 (vl l4) e4⟩) ?_ (fun _ hJ => ?_)
  · simp only [Tryd.f5, qfirst_succ, qfirst_zero, after_succ, after_zero, go_sem, Int.reduceToNat, Int.reduceEq, Int.reduceNe, Int.reduceLT, Int.reduceLE, Int.reduceNeg, Int.reduceAdd, ↓reduceIte, ↓reduceCtorEq, Nat.reduceEqDiff, Nat.reduceAdd, Nat.reduceSub, Nat.reduceMul, Nat.reduceLeDiff, Nat.reduceLT]
    refine qcall_i (c_alive15) ?_; simp only [Tryd.f5, qfirst_succ, qfirst_zero, after_succ, after_zero, go_sem, Int.reduceToNat, Int.reduceEq, Int.reduceNe, Int.reduceLT, Int.reduceLE, Int.reduceNeg, Int.reduceAdd, ↓reduceIte, ↓reduceCtorEq, Nat.reduceEqDiff, Nat.reduceAdd, Nat.reduceSub, Nat.reduceMul, Nat.reduceLeDiff, Nat.reduceLT]
    refine qcall_i (c_15Near) ?_; simp only [Tryd.f5, qfirst_succ, qfirst_zero, after_succ, after_zero, go_sem, Int.reduceToNat, Int.reduceEq, Int.reduceNe, Int.reduceLT, Int.reduceLE, Int.reduceNeg, Int.reduceAdd, ↓reduceIte, ↓reduceCtorEq, Nat.reduceEqDiff, Nat.reduceAdd, Nat.reduceSub, Nat.reduceMul, Nat.reduceLeDiff, Nat.reduceLT]
    refine qif_i (fun h1 => ?_) (fun h1 => ?_)
    · simp only [Tryd.f5, qfirst_succ, qfirst_zero, after_succ, after_zero, go_sem, Int.reduceToNat, Int.reduceEq, Int.reduceNe, Int.reduceLT, Int.reduceLE, Int.reduceNeg, Int.reduceAdd, ↓reduceIte, ↓reduceCtorEq, Nat.reduceEqDiff, Nat.reduceAdd, Nat.reduceSub, Nat.reduceMul, Nat.reduceLeDiff, Nat.reduceLT]
    simp only [Tryd.f5, qfirst_succ, qfirst_zero, after_succ, after_zero, go_sem, Int.reduceToNat, Int.reduceEq, Int.reduceNe, Int.reduceLT, Int.reduceLE, Int.reduceNeg, Int.reduceAdd, ↓reduceIte, ↓reduceCtorEq, Nat.reduceEqDiff, Nat.reduceAdd, Nat.reduceSub, Nat.reduceMul, Nat.reduceLeDiff, Nat.reduceLT]
    refine qcall_i (c_15Near) ?_; simp only [Tryd.f5, qfirst_succ, qfirst_zero, after_succ, after_zero, go_sem, Int.reduceToNat, Int.reduceEq, Int.reduceNe, Int.reduceLT, Int.reduceLE, Int.reduceNeg, Int.reduceAdd, ↓reduceIte, ↓reduceCtorEq, Nat.reduceEqDiff, Nat.reduceAdd, Nat.reduceSub, Nat.reduceMul, Nat.reduceLeDiff, Nat.reduceLT]
    refine qif_i (fun h2 => ?_) (fun h2 => ?_)
    · simp only [Tryd.f5, qfirst_succ, qfirst_zero, after_succ, after_zero, go_sem, Int.reduceToNat, Int.reduceEq, Int.reduceNe, Int.reduceLT, Int.reduceLE, Int.reduceNeg, Int.reduceAdd, ↓reduceIte, ↓reduceCtorEq, Nat.reduceEqDiff, Nat.reduceAdd, Nat.reduceSub, Nat.reduceMul, Nat.reduceLeDiff, Nat.reduceLT]
    have h1 : nearP l1.length e1 ∧ nearP l2.length e2 := by simpa using h1
    have h2 : nearP l3.length e3 ∧ nearP l4.length e4 := by simpa using h2
    have ri : RI (.agg [.bool s1, NL l1, .int .i64 e1, .bool s2, NL l2, .int .i64 e2]) ⟨mkD s1 (vl l1) e1, mkD s2 (vl l2) e2⟩ := ⟨_, _, _, _, _, _, rfl, near_rd h1.1 o1, near_rd h1.2 o2⟩
    have rk : RI (.agg [.bool s3, NL l3, .int .i64 e3, .bool s4, NL l4, .int .i64 e4]) ⟨mkD s3 (vl l3) e3, mkD s4 (vl l4) e4⟩ := ⟨_, _, _, _, _, _, rfl, near_rd h2.1 o3, near_rd h2.2 o4⟩
    have k1 := q_Right ri
    have k2 := q_Right rk
    simp only [NL] at k1 k2
    simp only [Tryd.f5, qfirst_succ, qfirst_zero, after_succ, after_zero, go_sem, Int.reduceToNat, Int.reduceEq, Int.reduceNe, Int.reduceLT, Int.reduceLE, Int.reduceNeg, Int.reduceAdd, ↓reduceIte, ↓reduceCtorEq, Nat.reduceEqDiff, Nat.reduceAdd, Nat.reduceSub, Nat.reduceMul, Nat.reduceLeDiff, Nat.reduceLT]
    refine qcall_i (q_15Of (l := [])) ?_; simp only [Tryd.f5, qfirst_succ, qfirst_zero, after_succ, after_zero, go_sem, Int.reduceToNat, Int.reduceEq, Int.reduceNe, Int.reduceLT, Int.reduceLE, Int.reduceNeg, Int.reduceAdd, ↓reduceIte, ↓reduceCtorEq, Nat.reduceEqDiff, Nat.reduceAdd, Nat.reduceSub, Nat.reduceMul, Nat.reduceLeDiff, Nat.reduceLT]
    refine qcall_i (k1) ?_; simp only [Tryd.f5, qfirst_succ, qfirst_zero, after_succ, after_zero, go_sem, Int.reduceToNat, Int.reduceEq, Int.reduceNe, Int.reduceLT, Int.reduceLE, Int.reduceNeg, Int.reduceAdd, ↓reduceIte, ↓reduceCtorEq, Nat.reduceEqDiff, Nat.reduceAdd, Nat.reduceSub, Nat.reduceMul, Nat.reduceLeDiff, Nat.reduceLT]
    refine qif_i (fun h3 => ?_) (fun h3 => ?_)
    · simp only [Tryd.f5, qfirst_succ, qfirst_zero, after_succ, after_zero, go_sem, Int.reduceToNat, Int.reduceEq, Int.reduceNe, Int.reduceLT, Int.reduceLE, Int.reduceNeg, Int.reduceAdd, ↓reduceIte, ↓reduceCtorEq, Nat.reduceEqDiff, Nat.reduceAdd, Nat.reduceSub, Nat.reduceMul, Nat.reduceLeDiff, Nat.reduceLT]
    simp only [Tryd.f5, qfirst_succ, qfirst_zero, after_succ, after_zero, go_sem, Int.reduceToNat, Int.reduceEq, Int.reduceNe, Int.reduceLT, Int.reduceLE, Int.reduceNeg, Int.reduceAdd, ↓reduceIte, ↓reduceCtorEq, Nat.reduceEqDiff, Nat.reduceAdd, Nat.reduceSub, Nat.reduceMul, Nat.reduceLeDiff, Nat.reduceLT]
    refine qcall_i (q_15Of (l := [])) ?_; simp only [Tryd.f5, qfirst_succ, qfirst_zero, after_succ, after_zero, go_sem, Int.reduceToNat, Int.reduceEq, Int.reduceNe, Int.reduceLT, Int.reduceLE, Int.reduceNeg, Int.reduceAdd, ↓reduceIte, ↓reduceCtorEq, Nat.reduceEqDiff, Nat.reduceAdd, Nat.reduceSub, Nat.reduceMul, Nat.reduceLeDiff, Nat.reduceLT]
    refine qcall_i (k2) ?_; simp only [Tryd.f5, qfirst_succ, qfirst_zero, after_succ, after_zero, go_sem, Int.reduceToNat, Int.reduceEq, Int.reduceNe, Int.reduceLT, Int.reduceLE, Int.reduceNeg, Int.reduceAdd, ↓reduceIte, ↓reduceCtorEq, Nat.reduceEqDiff, Nat.reduceAdd, Nat.reduceSub, Nat.reduceMul, Nat.reduceLeDiff, Nat.reduceLT]
    refine qif_i (fun h4 => ?_) (fun h4 => ?_)
    · simp only [Tryd.f5, qfirst_succ, qfirst_zero, after_succ, after_zero, go_sem, Int.reduceToNat, Int.reduceEq, Int.reduceNe, Int.reduceLT, Int.reduceLE, Int.reduceNeg, Int.reduceAdd, ↓reduceIte, ↓reduceCtorEq, Nat.reduceEqDiff, Nat.reduceAdd, Nat.reduceSub, Nat.reduceMul, Nat.reduceLeDiff, Nat.reduceLT]
    simp only [Tryd.f5, qfirst_succ, qfirst_zero, after_succ, after_zero, go_sem, Int.reduceToNat, Int.reduceEq, Int.reduceNe, Int.reduceLT, Int.reduceLE, Int.reduceNeg, Int.reduceAdd, ↓reduceIte, ↓reduceCtorEq, Nat.reduceEqDiff, Nat.reduceAdd, Nat.reduceSub, Nat.reduceMul, Nat.reduceLeDiff, Nat.reduceLT]
    refine ⟨(), ⟨h1, h2, by simpa using h3, by simpa using h4⟩, ?_⟩
    simp [Wk, sget, killL, kill1, SV.key, setCells]
  obtain ⟨⟨n1, n2⟩, ⟨n3, n4⟩, hri, hrk⟩ := hJ
  have r1 := near_rd (s := s1) n1 o1
  have r2 := near_rd (s := s2) n2 o2
  have r3 := near_rd (s := s3) n3 o3
  have r4 := near_rd (s := s4) n4 o4
  have L1 := near_lim (s := s1) n1 o1
  have L2 := near_lim (s := s2) n2 o2
  have L3 := near_lim (s := s3) n3 o3
  have L4 := near_lim (s := s4) n4 o4
  generalize mkD s1 (vl l1) e1 = a1 at *
  generalize mkD s2 (vl l2) e2 = a2 at *
  generalize mkD s3 (vl l3) e3 = b1 at *
  generalize mkD s4 (vl l4) e4 = b2 at *
  simp only [DP, NL] at r1 r2 r3 r4
  generalize PV.lst l1.length (U l1) = P1 at *
  generalize PV.lst l2.length (U l2) = P2 at *
  generalize PV.lst l3.length (U l3) = P3 at *
  generalize PV.lst l4.length (U l4) = P4 at *
  clear n1 n2 n3 n4 o1 o2 o3 o4 h
  have ri : RI (.agg [.bool s1, P1, .int .i64 e1, .bool s2, P2, .int .i64 e2]) ⟨a1, a2⟩ := ⟨_, _, _, _, _, _, rfl, r1, r2⟩
  have rk : RI (.agg [.bool s3, P3, .int .i64 e3, .bool s4, P4, .int .i64 e4]) ⟨b1, b2⟩ := ⟨_, _, _, _, _, _, rfl, r3, r4⟩
  have Li : Iv.lim 3640 ⟨a1, a2⟩ := ⟨L1, L2⟩
  have Lk : Iv.lim 3640 ⟨b1, b2⟩ := ⟨L3, L4⟩
  have kO := fun s1 P1 e1 s2 P2 e2 => q_15Of (l := []) (s1 := s1) (P1 := P1) (e1 := e1) (s2 := s2) (P2 := P2) (e2 := e2)
  have k1 := c_inner ri Li (by decide) hri hu
  have k2 := c_inner rk Lk (by decide) hrk hv
  have Lx := inner_lim Li (by decide) hu
  have Ly := inner_lim Lk (by decide) hv
  have hx := inner_has Li (by decide) hri hu
  have hy := inner_has Lk (by decide) hrk hv
  generalize innerD ⟨a1, a2⟩ u = x at *
  generalize innerD ⟨b1, b2⟩ v = y at *
  have Li' := Li.mono (J := 3658) (by decide)
  have Lk' := Lk.mono (J := 3658) (by decide)
  have rx := Lx.RD (by decide)
  have ry := Ly.RD (by decide)
  have k3 := q_Has ri rx
  have k4 := q_Has rk ry
  rw [decide_eq_true hx] at k3
  rw [decide_eq_true hy] at k4
  have k5 := r_Add rx ry
  rw [addV_lim Lx Ly (by decide)] at k5
  have k6 := r_Mul rx ry
  rw [mulV_lim Lx Ly (by decide)] at k6
  have k7 := q_Add ri rk Li' Lk' (by decide)
  have k8 := q_Mul ri rk Li' Lk' (by decide)
  have k9 := q_Mul rk ri Lk' Li' (by decide)
  rw [← mulI_comm Li' Lk'] at k9
  unfold ivV at k7 k8 k9
  rw [if_pos ⟨hri, hrk⟩] at k7 k8
  rw [if_pos ⟨hrk, hri⟩] at k9
  have ha := has_add Li' Lk' (by decide) Lx Ly hx hy
  have hm := has_mul Li' Lk' (by decide) Lx Ly hx hy
  have Ls := Lx.add Ly (by decide)
  have Lp := Lx.mul Ly
  have LA := Li'.add Lk' (by decide)
  have LM := Li'.mul Lk'
  have k10 := q_Has (LA.RI (by decide)) (Ls.RD (by decide))
  have k11 := q_Has (LM.RI (by decide)) (Lp.RD (by decide))
  rw [decide_eq_true ha] at k10
  rw [decide_eq_true hm] at k11
  have k12 := r_Cmp (LM.1.RD (by decide)) (LM.1.RD (by decide))
  have k13 := r_Cmp (LM.2.RD (by decide)) (LM.2.RD (by decide))
  rw [cmp_self] at k12 k13
  have k14 := q_At (s := x.s) (P := NN x.m) (e := x.e)
  have rxx : RI (.agg [.bool x.s, NN x.m, .int .i64 x.e, .bool x.s, NN x.m, .int .i64 x.e]) ⟨x, x⟩ := ⟨_, _, _, _, _, _, rfl, rx, rx⟩
  have k15 := q_Inside rxx ri
  rw [decide_eq_true (inside_pt hx)] at k15
  clear hx hy ha hm
  generalize addS x y = S at *
  generalize mulS x y = M at *
  generalize addI ⟨a1, a2⟩ ⟨b1, b2⟩ = A at *
  generalize mulI ⟨a1, a2⟩ ⟨b1, b2⟩ = B' at *
  simp only [Iv.pv, Dy.pv, DP] at k1 k2 k3 k4 k5 k6 k7 k8 k9 k10 k11 k12 k13 k14 k15
  refine PSem.last follows (by kernel_rfl) ?_
  simp only [Tryd.f5, after_succ, after_zero, go_sem, Int.reduceToNat, Int.reduceEq, Int.reduceNe, Int.reduceLT, Int.reduceLE, Int.reduceNeg, Int.reduceAdd, ↓reduceIte, ↓reduceCtorEq, Nat.reduceEqDiff, Nat.reduceAdd, Nat.reduceSub, Nat.reduceMul, Nat.reduceLeDiff, Nat.reduceLT]
  refine qcall_i (kO _ _ _ _ _ _) ?_; simp only [Tryd.f5, go_sem, Int.reduceToNat, Int.reduceEq, Int.reduceNe, Int.reduceLT, Int.reduceLE, Int.reduceNeg, Int.reduceAdd, ↓reduceIte, ↓reduceCtorEq, Nat.reduceEqDiff, Nat.reduceAdd, Nat.reduceSub, Nat.reduceMul, Nat.reduceLeDiff, Nat.reduceLT]
  refine qcall_i (k1) ?_; simp only [Tryd.f5, go_sem, Int.reduceToNat, Int.reduceEq, Int.reduceNe, Int.reduceLT, Int.reduceLE, Int.reduceNeg, Int.reduceAdd, ↓reduceIte, ↓reduceCtorEq, Nat.reduceEqDiff, Nat.reduceAdd, Nat.reduceSub, Nat.reduceMul, Nat.reduceLeDiff, Nat.reduceLT]
  refine qcall_i (kO _ _ _ _ _ _) ?_; simp only [Tryd.f5, go_sem, Int.reduceToNat, Int.reduceEq, Int.reduceNe, Int.reduceLT, Int.reduceLE, Int.reduceNeg, Int.reduceAdd, ↓reduceIte, ↓reduceCtorEq, Nat.reduceEqDiff, Nat.reduceAdd, Nat.reduceSub, Nat.reduceMul, Nat.reduceLeDiff, Nat.reduceLT]
  refine qcall_i (k2) ?_; simp only [Tryd.f5, go_sem, Int.reduceToNat, Int.reduceEq, Int.reduceNe, Int.reduceLT, Int.reduceLE, Int.reduceNeg, Int.reduceAdd, ↓reduceIte, ↓reduceCtorEq, Nat.reduceEqDiff, Nat.reduceAdd, Nat.reduceSub, Nat.reduceMul, Nat.reduceLeDiff, Nat.reduceLT]
  refine qcall_i (kO _ _ _ _ _ _) ?_; simp only [Tryd.f5, go_sem, Int.reduceToNat, Int.reduceEq, Int.reduceNe, Int.reduceLT, Int.reduceLE, Int.reduceNeg, Int.reduceAdd, ↓reduceIte, ↓reduceCtorEq, Nat.reduceEqDiff, Nat.reduceAdd, Nat.reduceSub, Nat.reduceMul, Nat.reduceLeDiff, Nat.reduceLT]
  refine qcall_i (k3) ?_; simp only [Tryd.f5, go_sem, Int.reduceToNat, Int.reduceEq, Int.reduceNe, Int.reduceLT, Int.reduceLE, Int.reduceNeg, Int.reduceAdd, ↓reduceIte, ↓reduceCtorEq, Nat.reduceEqDiff, Nat.reduceAdd, Nat.reduceSub, Nat.reduceMul, Nat.reduceLeDiff, Nat.reduceLT]
  refine qcall_i (kO _ _ _ _ _ _) ?_; simp only [Tryd.f5, go_sem, Int.reduceToNat, Int.reduceEq, Int.reduceNe, Int.reduceLT, Int.reduceLE, Int.reduceNeg, Int.reduceAdd, ↓reduceIte, ↓reduceCtorEq, Nat.reduceEqDiff, Nat.reduceAdd, Nat.reduceSub, Nat.reduceMul, Nat.reduceLeDiff, Nat.reduceLT]
  refine qcall_i (k4) ?_; simp only [Tryd.f5, go_sem, Int.reduceToNat, Int.reduceEq, Int.reduceNe, Int.reduceLT, Int.reduceLE, Int.reduceNeg, Int.reduceAdd, ↓reduceIte, ↓reduceCtorEq, Nat.reduceEqDiff, Nat.reduceAdd, Nat.reduceSub, Nat.reduceMul, Nat.reduceLeDiff, Nat.reduceLT]
  refine qcall_i (k5) ?_; simp only [Tryd.f5, go_sem, Int.reduceToNat, Int.reduceEq, Int.reduceNe, Int.reduceLT, Int.reduceLE, Int.reduceNeg, Int.reduceAdd, ↓reduceIte, ↓reduceCtorEq, Nat.reduceEqDiff, Nat.reduceAdd, Nat.reduceSub, Nat.reduceMul, Nat.reduceLeDiff, Nat.reduceLT]
  refine qcall_i (k6) ?_; simp only [Tryd.f5, go_sem, Int.reduceToNat, Int.reduceEq, Int.reduceNe, Int.reduceLT, Int.reduceLE, Int.reduceNeg, Int.reduceAdd, ↓reduceIte, ↓reduceCtorEq, Nat.reduceEqDiff, Nat.reduceAdd, Nat.reduceSub, Nat.reduceMul, Nat.reduceLeDiff, Nat.reduceLT]
  refine qcall_i (kO _ _ _ _ _ _) ?_; simp only [Tryd.f5, go_sem, Int.reduceToNat, Int.reduceEq, Int.reduceNe, Int.reduceLT, Int.reduceLE, Int.reduceNeg, Int.reduceAdd, ↓reduceIte, ↓reduceCtorEq, Nat.reduceEqDiff, Nat.reduceAdd, Nat.reduceSub, Nat.reduceMul, Nat.reduceLeDiff, Nat.reduceLT]
  refine qcall_i (kO _ _ _ _ _ _) ?_; simp only [Tryd.f5, go_sem, Int.reduceToNat, Int.reduceEq, Int.reduceNe, Int.reduceLT, Int.reduceLE, Int.reduceNeg, Int.reduceAdd, ↓reduceIte, ↓reduceCtorEq, Nat.reduceEqDiff, Nat.reduceAdd, Nat.reduceSub, Nat.reduceMul, Nat.reduceLeDiff, Nat.reduceLT]
  refine qcall_i (k7) ?_; simp only [Tryd.f5, go_sem, Int.reduceToNat, Int.reduceEq, Int.reduceNe, Int.reduceLT, Int.reduceLE, Int.reduceNeg, Int.reduceAdd, ↓reduceIte, ↓reduceCtorEq, Nat.reduceEqDiff, Nat.reduceAdd, Nat.reduceSub, Nat.reduceMul, Nat.reduceLeDiff, Nat.reduceLT]
  refine qcall_i (kO _ _ _ _ _ _) ?_; simp only [Tryd.f5, go_sem, Int.reduceToNat, Int.reduceEq, Int.reduceNe, Int.reduceLT, Int.reduceLE, Int.reduceNeg, Int.reduceAdd, ↓reduceIte, ↓reduceCtorEq, Nat.reduceEqDiff, Nat.reduceAdd, Nat.reduceSub, Nat.reduceMul, Nat.reduceLeDiff, Nat.reduceLT]
  refine qcall_i (kO _ _ _ _ _ _) ?_; simp only [Tryd.f5, go_sem, Int.reduceToNat, Int.reduceEq, Int.reduceNe, Int.reduceLT, Int.reduceLE, Int.reduceNeg, Int.reduceAdd, ↓reduceIte, ↓reduceCtorEq, Nat.reduceEqDiff, Nat.reduceAdd, Nat.reduceSub, Nat.reduceMul, Nat.reduceLeDiff, Nat.reduceLT]
  refine qcall_i (k8) ?_; simp only [Tryd.f5, go_sem, Int.reduceToNat, Int.reduceEq, Int.reduceNe, Int.reduceLT, Int.reduceLE, Int.reduceNeg, Int.reduceAdd, ↓reduceIte, ↓reduceCtorEq, Nat.reduceEqDiff, Nat.reduceAdd, Nat.reduceSub, Nat.reduceMul, Nat.reduceLeDiff, Nat.reduceLT]
  refine qcall_i (kO _ _ _ _ _ _) ?_; simp only [Tryd.f5, go_sem, Int.reduceToNat, Int.reduceEq, Int.reduceNe, Int.reduceLT, Int.reduceLE, Int.reduceNeg, Int.reduceAdd, ↓reduceIte, ↓reduceCtorEq, Nat.reduceEqDiff, Nat.reduceAdd, Nat.reduceSub, Nat.reduceMul, Nat.reduceLeDiff, Nat.reduceLT]
  refine qcall_i (kO _ _ _ _ _ _) ?_; simp only [Tryd.f5, go_sem, Int.reduceToNat, Int.reduceEq, Int.reduceNe, Int.reduceLT, Int.reduceLE, Int.reduceNeg, Int.reduceAdd, ↓reduceIte, ↓reduceCtorEq, Nat.reduceEqDiff, Nat.reduceAdd, Nat.reduceSub, Nat.reduceMul, Nat.reduceLeDiff, Nat.reduceLT]
  refine qcall_i (k9) ?_; simp only [Tryd.f5, go_sem, Int.reduceToNat, Int.reduceEq, Int.reduceNe, Int.reduceLT, Int.reduceLE, Int.reduceNeg, Int.reduceAdd, ↓reduceIte, ↓reduceCtorEq, Nat.reduceEqDiff, Nat.reduceAdd, Nat.reduceSub, Nat.reduceMul, Nat.reduceLeDiff, Nat.reduceLT]
  refine qcall_i (k10) ?_; simp only [Tryd.f5, go_sem, Int.reduceToNat, Int.reduceEq, Int.reduceNe, Int.reduceLT, Int.reduceLE, Int.reduceNeg, Int.reduceAdd, ↓reduceIte, ↓reduceCtorEq, Nat.reduceEqDiff, Nat.reduceAdd, Nat.reduceSub, Nat.reduceMul, Nat.reduceLeDiff, Nat.reduceLT]
  refine qcall_i (k11) ?_; simp only [Tryd.f5, go_sem, Int.reduceToNat, Int.reduceEq, Int.reduceNe, Int.reduceLT, Int.reduceLE, Int.reduceNeg, Int.reduceAdd, ↓reduceIte, ↓reduceCtorEq, Nat.reduceEqDiff, Nat.reduceAdd, Nat.reduceSub, Nat.reduceMul, Nat.reduceLeDiff, Nat.reduceLT]
  refine qcall_i (k12) ?_; simp only [Tryd.f5, go_sem, Int.reduceToNat, Int.reduceEq, Int.reduceNe, Int.reduceLT, Int.reduceLE, Int.reduceNeg, Int.reduceAdd, ↓reduceIte, ↓reduceCtorEq, Nat.reduceEqDiff, Nat.reduceAdd, Nat.reduceSub, Nat.reduceMul, Nat.reduceLeDiff, Nat.reduceLT]
  refine qcall_i (k13) ?_; simp only [Tryd.f5, go_sem, Int.reduceToNat, Int.reduceEq, Int.reduceNe, Int.reduceLT, Int.reduceLE, Int.reduceNeg, Int.reduceAdd, ↓reduceIte, ↓reduceCtorEq, Nat.reduceEqDiff, Nat.reduceAdd, Nat.reduceSub, Nat.reduceMul, Nat.reduceLeDiff, Nat.reduceLT]
  refine qcall_i (k14) ?_; simp only [Tryd.f5, go_sem, Int.reduceToNat, Int.reduceEq, Int.reduceNe, Int.reduceLT, Int.reduceLE, Int.reduceNeg, Int.reduceAdd, ↓reduceIte, ↓reduceCtorEq, Nat.reduceEqDiff, Nat.reduceAdd, Nat.reduceSub, Nat.reduceMul, Nat.reduceLeDiff, Nat.reduceLT]
  refine qcall_i (kO _ _ _ _ _ _) ?_; simp only [Tryd.f5, go_sem, Int.reduceToNat, Int.reduceEq, Int.reduceNe, Int.reduceLT, Int.reduceLE, Int.reduceNeg, Int.reduceAdd, ↓reduceIte, ↓reduceCtorEq, Nat.reduceEqDiff, Nat.reduceAdd, Nat.reduceSub, Nat.reduceMul, Nat.reduceLeDiff, Nat.reduceLT]
  refine qcall_i (k15) ?_; simp only [Tryd.f5, go_sem, Int.reduceToNat, Int.reduceEq, Int.reduceNe, Int.reduceLT, Int.reduceLE, Int.reduceNeg, Int.reduceAdd, ↓reduceIte, ↓reduceCtorEq, Nat.reduceEqDiff, Nat.reduceAdd, Nat.reduceSub, Nat.reduceMul, Nat.reduceLeDiff, Nat.reduceLT]
end Go.Proofs.YtfogjddcagckaaaDoor
