/- The contract of the law IvNest: at whatever reads as its arguments it returns true. -/
import Derived.Test.YtfogjddcagckaaaDoorLIvRules
open Go PG Go.Proofs
set_option maxRecDepth 100000
set_option linter.unusedSimpArgs false
set_option linter.unusedVariables false
namespace Go.Proofs.YtfogjddcagckaaaDoor
attribute [local go_sem] Lay2 Lay3 Lay4 Lay5 Lay6 Lay7 Lay8 Lay9 Lay10 Lay11 Lay12 Lay13 Lay14 Lay21 Lay22 Lay23 Lay24 Lay27 Lay28 Lay29 Lay35 Lay36 Lay38 Lay39 Lay40 Lay42 Lay43 Lay45 Lay46 Lay67 Lay81 Lay82 Lay83 Lay84 Lay85 Lay86 Lay87 Lay90 Lay93 Lay94 Lay116 Lay132 Lay138 Lay145 Lay162 Lay163 Lay201 qexec_seq qexec_skip qexec_exit qexec_ret qexec_block qexec_loop qexec_range qexec_cond qexec_region qexec_drawn qops_nil qops_none qops_some put_some put_none pblk_exit pblk_other newDsts_nil sget_cons sget_nil qval_some qbool_some qgs_bool qgs_und qfree_some qgrd_true qgrd_false qif_true qif_false qval_ite qval_itn qand_true map_ite map_some' map_none' qdo_move qdo_assign qdo_binOp qdo_pick qdo_unOp qdo_convert qdo_extract qdo_field qdo_fieldAddr qdo_alloc qdo_box qdo_build qdo_buildSlice qdo_load qdo_store qdo_nilCheck qdo_makeFunc qdo_makeSlice qdo_slice qdo_indexAddr qdo_call qcont_val qcont_new qcont_st qcont_app0 qcont_app qcont_inl qcont_call njSV_val njSV_nil njSV_row njSV_ptr njSV_sub binV_val binV_nil binV_nn nilCmp bin_add bin_sub bin_mul bin_quo bin_rem bin_and bin_or bin_xor bin_andNot bin_eql bin_neq bin_lss bin_leq bin_gtr bin_geq bin_shl bin_shr bin_seql bin_sneq bin_sadd bin_beql bin_aeql bin_aneq eqAnd_some eqCells_nil eqCells_cons fieldTypes isStruct eqCell bin_bneq un_not un_neg nj_ite Nat.beq stepA stepR isNew opSV constSV RV.sv allSome E_mu E_own qkeyIn_none qkeyIn_some qkeyAt_none qkeyAt_some Bool.or_false Bool.false_or Bool.or_true Bool.true_or cst setB res resSV pstart startL killL kill1 eraL frzL svPV rvPV rvInt rvSlice frzOf close closeL pconv pbuiltin pmax2 partPV setCells fillPV zrow bound newSV PV.cells Bk.cells Bk.with SV.key pres presL_nil presL_tmp presL_cell presC2_some cellPV_ptr presC List.toList_toArray List.size_toArray List.getElem?_drop Nat.mul_one Int.toNat_natCast Nat.not_lt_zero Nat.lt_irrefl decide_true decide_false Nat.not_lt Option.some.injEq PV.lst.injEq PV.int.injEq PV.bool.injEq PV.tuple.injEq List.cons.injEq Option.map_some Option.map_none Option.bind_some Option.toList List.map_cons List.map_nil List.nil_append List.cons_append List.append_nil List.zip_cons_cons List.zip_nil_left List.zip_nil_right List.getElem?_cons_zero List.getElem?_cons_succ List.drop_zero List.drop_succ_cons List.take_succ_cons List.take_zero List.set_cons_zero List.set_cons_succ List.length_cons List.length_nil List.length_set List.replicate_one List.replicate_zero bne_self_eq_false beq_self_eq_true Nat.zero_add Nat.add_zero Nat.zero_mul Bool.false_eq_true Bool.true_eq_false Bool.not_true Bool.not_false and_true true_and false_and and_false or_false false_or or_true true_or not_true_eq_false not_false_eq_true ne_eq gt_iff_lt List.mem_cons List.not_mem_nil
attribute [local go_sem ↓] pseq_normal pseq_ret pseq_exit pblk_normal pblk_ret newDsts_cons gdst_zero gdst_succ retQ_normal retQ_ret qneed_nil qneed_cons retM_normal retM_ret endR_normal endR_ret endR_exit

theorem fits5 {Q1 Q2 Q3 Q4 Q5 : PV → Prop} {pvs : List PV} (h : Fits [Q1, Q2, Q3, Q4, Q5] pvs) : ∃ p q r s t, pvs = [p, q, r, s, t] ∧ Q1 p ∧ Q2 q ∧ Q3 r ∧ Q4 s ∧ Q5 t := by
  obtain ⟨p, ps, rfl, h1, h⟩ := fits_cons h
  obtain ⟨q, r, s, t, rfl, h2, h3, h4, h5⟩ := fits4 h; exact ⟨p, q, r, s, t, rfl, h1, h2, h3, h4, h5⟩

set_option maxHeartbeats 2000000 in
theorem law_IvNest (pvs : List PV) (h : Fits [qJ, qJ, qU8, qU8, qD] pvs) : PC E 6 pvs (.bool true) := by
  obtain ⟨_, _, _, _, _, rfl, ⟨s1, l1, e1, s2, l2, e2, rfl, o1, o2⟩, ⟨s3, l3, e3, s4, l4, e4, rfl, o3, o4⟩, ⟨u, rfl, hu⟩, ⟨v, rfl, hv⟩, ⟨s5, l5, e5, rfl, o5, -, -⟩⟩ := fits5 h
  simp only [DP, NL]
  refine PC.of_sem Tryd.func6 (by decide +kernel) rfl (Nat.le_of_ble_eq_true rfl) ?_
  refine PSem.cut follows (by kernel_rfl) 3 (fun _ : Unit => ⟨[(2, .val (.int .u8 u)), (3, .val (.int .u8 v)), (5, .ptr 5 0), (6, .ptr 6 0), (9, .ptr 9 0)],
    [(5, (.box [.bool s1, .lst l1.length (U l1), .int .i64 e1, .bool s2, .lst l2.length (U l2), .int .i64 e2], false)), (6, (.box [.bool s3, .lst l3.length (U l3), .int .i64 e3, .bool s4, .lst l4.length (U l4), .int .i64 e4], false)), (9, (.box [.bool s5, .lst l5.length (U l5), .int .i64 e5], false))]⟩)
    (fun _ => (nearP l1.length e1 ∧ nearP l2.length e2) ∧ (nearP l3.length e3 ∧ nearP l4.length e4) ∧ nearP l5.length e5 ∧ Iv.right ⟨mkD s1 (vl l1) e1, mkD s2 (vl l2) e2⟩ ∧ Iv.right ⟨mkD s3 (vl l3) e3, mkD s4 (vl l4) e4⟩) ?_ (fun _ hJ => ?_)
  · simp only [Tryd.f6, qfirst_succ, qfirst_zero, after_succ, after_zero, go_sem, Int.reduceToNat, Int.reduceEq, Int.reduceNe, Int.reduceLT, Int.reduceLE, Int.reduceNeg, Int.reduceAdd, ↓reduceIte, ↓reduceCtorEq, Nat.reduceEqDiff, Nat.reduceAdd, Nat.reduceSub, Nat.reduceMul, Nat.reduceLeDiff, Nat.reduceLT]
    refine qcall_i (c_alive15) ?_; simp only [Tryd.f6, qfirst_succ, qfirst_zero, after_succ, after_zero, go_sem, Int.reduceToNat, Int.reduceEq, Int.reduceNe, Int.reduceLT, Int.reduceLE, Int.reduceNeg, Int.reduceAdd, ↓reduceIte, ↓reduceCtorEq, Nat.reduceEqDiff, Nat.reduceAdd, Nat.reduceSub, Nat.reduceMul, Nat.reduceLeDiff, Nat.reduceLT]
    refine qcall_i (c_15Near) ?_; simp only [Tryd.f6, qfirst_succ, qfirst_zero, after_succ, after_zero, go_sem, Int.reduceToNat, Int.reduceEq, Int.reduceNe, Int.reduceLT, Int.reduceLE, Int.reduceNeg, Int.reduceAdd, ↓reduceIte, ↓reduceCtorEq, Nat.reduceEqDiff, Nat.reduceAdd, Nat.reduceSub, Nat.reduceMul, Nat.reduceLeDiff, Nat.reduceLT]
    refine qif_i (fun h1 => ?_) (fun h1 => ?_)
    · simp only [Tryd.f6, qfirst_succ, qfirst_zero, after_succ, after_zero, go_sem, Int.reduceToNat, Int.reduceEq, Int.reduceNe, Int.reduceLT, Int.reduceLE, Int.reduceNeg, Int.reduceAdd, ↓reduceIte, ↓reduceCtorEq, Nat.reduceEqDiff, Nat.reduceAdd, Nat.reduceSub, Nat.reduceMul, Nat.reduceLeDiff, Nat.reduceLT]
    simp only [Tryd.f6, qfirst_succ, qfirst_zero, after_succ, after_zero, go_sem, Int.reduceToNat, Int.reduceEq, Int.reduceNe, Int.reduceLT, Int.reduceLE, Int.reduceNeg, Int.reduceAdd, ↓reduceIte, ↓reduceCtorEq, Nat.reduceEqDiff, Nat.reduceAdd, Nat.reduceSub, Nat.reduceMul, Nat.reduceLeDiff, Nat.reduceLT]
    refine qcall_i (c_15Near) ?_; simp only [Tryd.f6, qfirst_succ, qfirst_zero, after_succ, after_zero, go_sem, Int.reduceToNat, Int.reduceEq, Int.reduceNe, Int.reduceLT, Int.reduceLE, Int.reduceNeg, Int.reduceAdd, ↓reduceIte, ↓reduceCtorEq, Nat.reduceEqDiff, Nat.reduceAdd, Nat.reduceSub, Nat.reduceMul, Nat.reduceLeDiff, Nat.reduceLT]
    refine qif_i (fun h2 => ?_) (fun h2 => ?_)
    · simp only [Tryd.f6, qfirst_succ, qfirst_zero, after_succ, after_zero, go_sem, Int.reduceToNat, Int.reduceEq, Int.reduceNe, Int.reduceLT, Int.reduceLE, Int.reduceNeg, Int.reduceAdd, ↓reduceIte, ↓reduceCtorEq, Nat.reduceEqDiff, Nat.reduceAdd, Nat.reduceSub, Nat.reduceMul, Nat.reduceLeDiff, Nat.reduceLT]
    simp only [Tryd.f6, qfirst_succ, qfirst_zero, after_succ, after_zero, go_sem, Int.reduceToNat, Int.reduceEq, Int.reduceNe, Int.reduceLT, Int.reduceLE, Int.reduceNeg, Int.reduceAdd, ↓reduceIte, ↓reduceCtorEq, Nat.reduceEqDiff, Nat.reduceAdd, Nat.reduceSub, Nat.reduceMul, Nat.reduceLeDiff, Nat.reduceLT]
    refine qcall_i (c_15Near) ?_; simp only [Tryd.f6, qfirst_succ, qfirst_zero, after_succ, after_zero, go_sem, Int.reduceToNat, Int.reduceEq, Int.reduceNe, Int.reduceLT, Int.reduceLE, Int.reduceNeg, Int.reduceAdd, ↓reduceIte, ↓reduceCtorEq, Nat.reduceEqDiff, Nat.reduceAdd, Nat.reduceSub, Nat.reduceMul, Nat.reduceLeDiff, Nat.reduceLT]
    refine qif_i (fun h5 => ?_) (fun h5 => ?_)
    · simp only [Tryd.f6, qfirst_succ, qfirst_zero, after_succ, after_zero, go_sem, Int.reduceToNat, Int.reduceEq, Int.reduceNe, Int.reduceLT, Int.reduceLE, Int.reduceNeg, Int.reduceAdd, ↓reduceIte, ↓reduceCtorEq, Nat.reduceEqDiff, Nat.reduceAdd, Nat.reduceSub, Nat.reduceMul, Nat.reduceLeDiff, Nat.reduceLT]
    have h1 : nearP l1.length e1 ∧ nearP l2.length e2 := by simpa using h1
    have h5 : nearP l5.length e5 ∧ nearP l5.length e5 := by simpa using h5
    have h2 : nearP l3.length e3 ∧ nearP l4.length e4 := by simpa using h2
    have ri : RI (.agg [.bool s1, NL l1, .int .i64 e1, .bool s2, NL l2, .int .i64 e2]) ⟨mkD s1 (vl l1) e1, mkD s2 (vl l2) e2⟩ := ⟨_, _, _, _, _, _, rfl, near_rd h1.1 o1, near_rd h1.2 o2⟩
    have rk : RI (.agg [.bool s3, NL l3, .int .i64 e3, .bool s4, NL l4, .int .i64 e4]) ⟨mkD s3 (vl l3) e3, mkD s4 (vl l4) e4⟩ := ⟨_, _, _, _, _, _, rfl, near_rd h2.1 o3, near_rd h2.2 o4⟩
    have k1 := q_Right ri
    have k2 := q_Right rk
    simp only [NL] at k1 k2
    simp only [Tryd.f6, qfirst_succ, qfirst_zero, after_succ, after_zero, go_sem, Int.reduceToNat, Int.reduceEq, Int.reduceNe, Int.reduceLT, Int.reduceLE, Int.reduceNeg, Int.reduceAdd, ↓reduceIte, ↓reduceCtorEq, Nat.reduceEqDiff, Nat.reduceAdd, Nat.reduceSub, Nat.reduceMul, Nat.reduceLeDiff, Nat.reduceLT]
    refine qcall_i (q_15Of (l := [])) ?_; simp only [Tryd.f6, qfirst_succ, qfirst_zero, after_succ, after_zero, go_sem, Int.reduceToNat, Int.reduceEq, Int.reduceNe, Int.reduceLT, Int.reduceLE, Int.reduceNeg, Int.reduceAdd, ↓reduceIte, ↓reduceCtorEq, Nat.reduceEqDiff, Nat.reduceAdd, Nat.reduceSub, Nat.reduceMul, Nat.reduceLeDiff, Nat.reduceLT]
    refine qcall_i (k1) ?_; simp only [Tryd.f6, qfirst_succ, qfirst_zero, after_succ, after_zero, go_sem, Int.reduceToNat, Int.reduceEq, Int.reduceNe, Int.reduceLT, Int.reduceLE, Int.reduceNeg, Int.reduceAdd, ↓reduceIte, ↓reduceCtorEq, Nat.reduceEqDiff, Nat.reduceAdd, Nat.reduceSub, Nat.reduceMul, Nat.reduceLeDiff, Nat.reduceLT]
    refine qif_i (fun h3 => ?_) (fun h3 => ?_)
    · simp only [Tryd.f6, qfirst_succ, qfirst_zero, after_succ, after_zero, go_sem, Int.reduceToNat, Int.reduceEq, Int.reduceNe, Int.reduceLT, Int.reduceLE, Int.reduceNeg, Int.reduceAdd, ↓reduceIte, ↓reduceCtorEq, Nat.reduceEqDiff, Nat.reduceAdd, Nat.reduceSub, Nat.reduceMul, Nat.reduceLeDiff, Nat.reduceLT]
    simp only [Tryd.f6, qfirst_succ, qfirst_zero, after_succ, after_zero, go_sem, Int.reduceToNat, Int.reduceEq, Int.reduceNe, Int.reduceLT, Int.reduceLE, Int.reduceNeg, Int.reduceAdd, ↓reduceIte, ↓reduceCtorEq, Nat.reduceEqDiff, Nat.reduceAdd, Nat.reduceSub, Nat.reduceMul, Nat.reduceLeDiff, Nat.reduceLT]
    refine qcall_i (q_15Of (l := [])) ?_; simp only [Tryd.f6, qfirst_succ, qfirst_zero, after_succ, after_zero, go_sem, Int.reduceToNat, Int.reduceEq, Int.reduceNe, Int.reduceLT, Int.reduceLE, Int.reduceNeg, Int.reduceAdd, ↓reduceIte, ↓reduceCtorEq, Nat.reduceEqDiff, Nat.reduceAdd, Nat.reduceSub, Nat.reduceMul, Nat.reduceLeDiff, Nat.reduceLT]
    refine qcall_i (k2) ?_; simp only [Tryd.f6, qfirst_succ, qfirst_zero, after_succ, after_zero, go_sem, Int.reduceToNat, Int.reduceEq, Int.reduceNe, Int.reduceLT, Int.reduceLE, Int.reduceNeg, Int.reduceAdd, ↓reduceIte, ↓reduceCtorEq, Nat.reduceEqDiff, Nat.reduceAdd, Nat.reduceSub, Nat.reduceMul, Nat.reduceLeDiff, Nat.reduceLT]
    refine qif_i (fun h4 => ?_) (fun h4 => ?_)
    · simp only [Tryd.f6, qfirst_succ, qfirst_zero, after_succ, after_zero, go_sem, Int.reduceToNat, Int.reduceEq, Int.reduceNe, Int.reduceLT, Int.reduceLE, Int.reduceNeg, Int.reduceAdd, ↓reduceIte, ↓reduceCtorEq, Nat.reduceEqDiff, Nat.reduceAdd, Nat.reduceSub, Nat.reduceMul, Nat.reduceLeDiff, Nat.reduceLT]
    simp only [Tryd.f6, qfirst_succ, qfirst_zero, after_succ, after_zero, go_sem, Int.reduceToNat, Int.reduceEq, Int.reduceNe, Int.reduceLT, Int.reduceLE, Int.reduceNeg, Int.reduceAdd, ↓reduceIte, ↓reduceCtorEq, Nat.reduceEqDiff, Nat.reduceAdd, Nat.reduceSub, Nat.reduceMul, Nat.reduceLeDiff, Nat.reduceLT]
    refine ⟨(), ⟨h1, h2, h5.1, by simpa using h3, by simpa using h4⟩, ?_⟩
    simp [Wk, sget, killL, kill1, SV.key, setCells]
  obtain ⟨⟨n1, n2⟩, ⟨n3, n4⟩, n5, hri, hrk⟩ := hJ
  have r1 := near_rd (s := s1) n1 o1
  have r2 := near_rd (s := s2) n2 o2
  have r3 := near_rd (s := s3) n3 o3
  have r4 := near_rd (s := s4) n4 o4
  have r5 := near_rd (s := s5) n5 o5
  have L1 := near_lim (s := s1) n1 o1
  have L2 := near_lim (s := s2) n2 o2
  have L3 := near_lim (s := s3) n3 o3
  have L4 := near_lim (s := s4) n4 o4
  have L5 := near_lim (s := s5) n5 o5
  generalize mkD s1 (vl l1) e1 = a1 at *
  generalize mkD s2 (vl l2) e2 = a2 at *
  generalize mkD s3 (vl l3) e3 = b1 at *
  generalize mkD s4 (vl l4) e4 = b2 at *
  generalize mkD s5 (vl l5) e5 = d at *
  simp only [DP, NL] at r1 r2 r3 r4 r5
  generalize PV.lst l1.length (U l1) = P1 at *
  generalize PV.lst l2.length (U l2) = P2 at *
  generalize PV.lst l3.length (U l3) = P3 at *
  generalize PV.lst l4.length (U l4) = P4 at *
  generalize PV.lst l5.length (U l5) = P5 at *
  clear n1 n2 n3 n4 n5 o1 o2 o3 o4 o5 h
  have ri : RI (.agg [.bool s1, P1, .int .i64 e1, .bool s2, P2, .int .i64 e2]) ⟨a1, a2⟩ := ⟨_, _, _, _, _, _, rfl, r1, r2⟩
  have rk : RI (.agg [.bool s3, P3, .int .i64 e3, .bool s4, P4, .int .i64 e4]) ⟨b1, b2⟩ := ⟨_, _, _, _, _, _, rfl, r3, r4⟩
  have Li : Iv.lim 3640 ⟨a1, a2⟩ := ⟨L1, L2⟩
  have Lk : Iv.lim 3640 ⟨b1, b2⟩ := ⟨L3, L4⟩
  have kO := fun s1 P1 e1 s2 P2 e2 => q_15Of (l := []) (s1 := s1) (P1 := P1) (e1 := e1) (s2 := s2) (P2 := P2) (e2 := e2)
  have k1 := c_inner ri Li (by decide) hri (u := min u v) (by omega)
  have k2 := c_inner ri Li (by decide) hri (u := max u v) (by omega)
  have m1 : ((min u v : Nat) : Int) = min (u : Int) (v : Int) := by omega
  have m2 : ((max u v : Nat) : Int) = max (u : Int) (v : Int) := by omega
  have Lx := inner_lim Li (by decide) (u := min u v) (by omega)
  have Ly := inner_lim Li (by decide) (u := max u v) (by omega)
  have hin := inner_inside Li (by decide) hri (show min u v ≤ max u v by omega) (by omega)
  generalize innerD ⟨a1, a2⟩ (min u v) = x at *
  generalize innerD ⟨a1, a2⟩ (max u v) = y at *
  rw [m1] at k1
  rw [m2] at k2
  have Li' := Li.mono (J := 3658) (by decide)
  have Lk' := Lk.mono (J := 3658) (by decide)
  have Lj : Iv.lim 3658 ⟨x, y⟩ := ⟨Lx, Ly⟩
  have rj := Lj.RI (by decide)
  have k3 := q_Add rj rk Lj Lk' (by decide)
  have k4 := q_Add ri rk Li' Lk' (by decide)
  have k5 := q_Mul rj rk Lj Lk' (by decide)
  have k6 := q_Mul ri rk Li' Lk' (by decide)
  unfold ivV at k3 k4 k5 k6
  rw [if_pos ⟨hin.1, hrk⟩] at k3 k5
  rw [if_pos ⟨hri, hrk⟩] at k4 k6
  have k7 := q_Inside rj ri
  rw [decide_eq_true hin] at k7
  have LA := Lj.add Lk' (by decide)
  have LB := Li'.add Lk' (by decide)
  have LC := Lj.mul Lk'
  have LD := Li'.mul Lk'
  have k8 := q_Inside (LA.RI (by decide)) (LB.RI (by decide))
  have k9 := q_Inside (LC.RI (by decide)) (LD.RI (by decide))
  rw [decide_eq_true (inside_add Lj Li' Lk' (by decide) hin hrk)] at k8
  rw [decide_eq_true (inside_mul Lj Li' Lk' (by decide) hin hrk)] at k9
  have rdd : RI (.agg [.bool s5, P5, .int .i64 e5, .bool s5, P5, .int .i64 e5]) ⟨d, d⟩ := ⟨_, _, _, _, _, _, rfl, r5, r5⟩
  have hrd : Iv.right ⟨d, d⟩ := ⟨L5.fits (by decide), L5.fits (by decide), by rw [cmp_self]; decide⟩
  have k10 := q_At (s := s5) (P := P5) (e := e5)
  have k11 := q_Wide rdd ⟨L5, L5⟩ (by decide)
  rw [if_pos hrd] at k11
  have ew : addS d d.neg = .zero := by
    refine eq_of_at (k := -((3640 : Nat) : Int)) (addS_ok _ _) Dy.zero_ok (addS_ge L5.ok L5.neg.ok (L5.fits (by decide)) (L5.neg.fits (by decide)) L5.ge L5.neg.ge) (Dy.zero_ge _) ?_
    rw [addS_at L5.ok L5.neg.ok (L5.fits (by decide)) (L5.neg.fits (by decide)) L5.ge L5.neg.ge, neg_at, at_zero (d := .zero) rfl]
    omega
  rw [ew] at k11
  have k12 := r_Sign RD.zero
  rw [show Dy.zero.sg = 0 from rfl] at k12
  have k13 := q_Has rdd r5
  rw [decide_eq_true (has_ends hrd).1] at k13
  have k14 := q_Inside rdd rdd
  rw [decide_eq_true (inside_pt (has_ends hrd).1)] at k14
  have k15 := q_Has ri r5
  have k16 := q_Inside rdd ri
  rw [show decide (Iv.inside ⟨d, d⟩ ⟨a1, a2⟩) = decide (Iv.has ⟨a1, a2⟩ d) from decide_eq_decide.2 inside_pt_iff] at k16
  generalize addI ⟨x, y⟩ ⟨b1, b2⟩ = A at *
  generalize addI ⟨a1, a2⟩ ⟨b1, b2⟩ = B' at *
  generalize mulI ⟨x, y⟩ ⟨b1, b2⟩ = C at *
  generalize mulI ⟨a1, a2⟩ ⟨b1, b2⟩ = D at *
  generalize decide (Iv.has ⟨a1, a2⟩ d) = X at *
  have hX : (X == X) = true := by cases X <;> rfl
  simp only [Iv.pv, Dy.pv, Dy.zero, DP] at k1 k2 k3 k4 k5 k6 k7 k8 k9 k10 k11 k12 k13 k14 k15 k16
  refine PSem.cut follows (by kernel_rfl) 7 (fun _ : Unit => ⟨[(9, .ptr 9 0), (11, .ptr 11 0)], [(9, (.box [.bool s5, P5, .int .i64 e5], false)), (11, (.box [.bool s1, P1, .int .i64 e1, .bool s2, P2, .int .i64 e2], false))]⟩) (fun _ => True) ?_ (fun _ _ => ?_)
  · simp only [Tryd.f6, qfirst_succ, qfirst_zero, after_succ, after_zero, go_sem, Int.reduceToNat, Int.reduceEq, Int.reduceNe, Int.reduceLT, Int.reduceLE, Int.reduceNeg, Int.reduceAdd, ↓reduceIte, ↓reduceCtorEq, Nat.reduceEqDiff, Nat.reduceAdd, Nat.reduceSub, Nat.reduceMul, Nat.reduceLeDiff, Nat.reduceLT]
    refine qcall_i (kO _ _ _ _ _ _) ?_; simp only [Tryd.f6, qfirst_succ, qfirst_zero, after_succ, after_zero, go_sem, Int.reduceToNat, Int.reduceEq, Int.reduceNe, Int.reduceLT, Int.reduceLE, Int.reduceNeg, Int.reduceAdd, ↓reduceIte, ↓reduceCtorEq, Nat.reduceEqDiff, Nat.reduceAdd, Nat.reduceSub, Nat.reduceMul, Nat.reduceLeDiff, Nat.reduceLT]
    refine qcall_i (kO _ _ _ _ _ _) ?_; simp only [Tryd.f6, qfirst_succ, qfirst_zero, after_succ, after_zero, go_sem, Int.reduceToNat, Int.reduceEq, Int.reduceNe, Int.reduceLT, Int.reduceLE, Int.reduceNeg, Int.reduceAdd, ↓reduceIte, ↓reduceCtorEq, Nat.reduceEqDiff, Nat.reduceAdd, Nat.reduceSub, Nat.reduceMul, Nat.reduceLeDiff, Nat.reduceLT]
    refine qcall_i (k1) ?_; simp only [Tryd.f6, qfirst_succ, qfirst_zero, after_succ, after_zero, go_sem, Int.reduceToNat, Int.reduceEq, Int.reduceNe, Int.reduceLT, Int.reduceLE, Int.reduceNeg, Int.reduceAdd, ↓reduceIte, ↓reduceCtorEq, Nat.reduceEqDiff, Nat.reduceAdd, Nat.reduceSub, Nat.reduceMul, Nat.reduceLeDiff, Nat.reduceLT]
    refine qcall_i (k2) ?_; simp only [Tryd.f6, qfirst_succ, qfirst_zero, after_succ, after_zero, go_sem, Int.reduceToNat, Int.reduceEq, Int.reduceNe, Int.reduceLT, Int.reduceLE, Int.reduceNeg, Int.reduceAdd, ↓reduceIte, ↓reduceCtorEq, Nat.reduceEqDiff, Nat.reduceAdd, Nat.reduceSub, Nat.reduceMul, Nat.reduceLeDiff, Nat.reduceLT]
    refine qcall_i (k3) ?_; simp only [Tryd.f6, qfirst_succ, qfirst_zero, after_succ, after_zero, go_sem, Int.reduceToNat, Int.reduceEq, Int.reduceNe, Int.reduceLT, Int.reduceLE, Int.reduceNeg, Int.reduceAdd, ↓reduceIte, ↓reduceCtorEq, Nat.reduceEqDiff, Nat.reduceAdd, Nat.reduceSub, Nat.reduceMul, Nat.reduceLeDiff, Nat.reduceLT]
    refine qcall_i (k4) ?_; simp only [Tryd.f6, qfirst_succ, qfirst_zero, after_succ, after_zero, go_sem, Int.reduceToNat, Int.reduceEq, Int.reduceNe, Int.reduceLT, Int.reduceLE, Int.reduceNeg, Int.reduceAdd, ↓reduceIte, ↓reduceCtorEq, Nat.reduceEqDiff, Nat.reduceAdd, Nat.reduceSub, Nat.reduceMul, Nat.reduceLeDiff, Nat.reduceLT]
    refine qcall_i (k5) ?_; simp only [Tryd.f6, qfirst_succ, qfirst_zero, after_succ, after_zero, go_sem, Int.reduceToNat, Int.reduceEq, Int.reduceNe, Int.reduceLT, Int.reduceLE, Int.reduceNeg, Int.reduceAdd, ↓reduceIte, ↓reduceCtorEq, Nat.reduceEqDiff, Nat.reduceAdd, Nat.reduceSub, Nat.reduceMul, Nat.reduceLeDiff, Nat.reduceLT]
    refine qcall_i (k6) ?_; simp only [Tryd.f6, qfirst_succ, qfirst_zero, after_succ, after_zero, go_sem, Int.reduceToNat, Int.reduceEq, Int.reduceNe, Int.reduceLT, Int.reduceLE, Int.reduceNeg, Int.reduceAdd, ↓reduceIte, ↓reduceCtorEq, Nat.reduceEqDiff, Nat.reduceAdd, Nat.reduceSub, Nat.reduceMul, Nat.reduceLeDiff, Nat.reduceLT]
    refine qcall_i (k7) ?_; simp only [Tryd.f6, qfirst_succ, qfirst_zero, after_succ, after_zero, go_sem, Int.reduceToNat, Int.reduceEq, Int.reduceNe, Int.reduceLT, Int.reduceLE, Int.reduceNeg, Int.reduceAdd, ↓reduceIte, ↓reduceCtorEq, Nat.reduceEqDiff, Nat.reduceAdd, Nat.reduceSub, Nat.reduceMul, Nat.reduceLeDiff, Nat.reduceLT]
    refine qcall_i (k8) ?_; simp only [Tryd.f6, qfirst_succ, qfirst_zero, after_succ, after_zero, go_sem, Int.reduceToNat, Int.reduceEq, Int.reduceNe, Int.reduceLT, Int.reduceLE, Int.reduceNeg, Int.reduceAdd, ↓reduceIte, ↓reduceCtorEq, Nat.reduceEqDiff, Nat.reduceAdd, Nat.reduceSub, Nat.reduceMul, Nat.reduceLeDiff, Nat.reduceLT]
    refine qcall_i (k9) ?_; simp only [Tryd.f6, qfirst_succ, qfirst_zero, after_succ, after_zero, go_sem, Int.reduceToNat, Int.reduceEq, Int.reduceNe, Int.reduceLT, Int.reduceLE, Int.reduceNeg, Int.reduceAdd, ↓reduceIte, ↓reduceCtorEq, Nat.reduceEqDiff, Nat.reduceAdd, Nat.reduceSub, Nat.reduceMul, Nat.reduceLeDiff, Nat.reduceLT]
    refine ⟨(), ?_⟩
    simp [Wk, sget, killL, kill1, SV.key, setCells]
  refine PSem.last follows (by kernel_rfl) ?_
  simp only [Tryd.f6, after_succ, after_zero, go_sem, Int.reduceToNat, Int.reduceEq, Int.reduceNe, Int.reduceLT, Int.reduceLE, Int.reduceNeg, Int.reduceAdd, ↓reduceIte, ↓reduceCtorEq, Nat.reduceEqDiff, Nat.reduceAdd, Nat.reduceSub, Nat.reduceMul, Nat.reduceLeDiff, Nat.reduceLT]
  refine qcall_i (k10) ?_; simp only [Tryd.f6, go_sem, Int.reduceToNat, Int.reduceEq, Int.reduceNe, Int.reduceLT, Int.reduceLE, Int.reduceNeg, Int.reduceAdd, ↓reduceIte, ↓reduceCtorEq, Nat.reduceEqDiff, Nat.reduceAdd, Nat.reduceSub, Nat.reduceMul, Nat.reduceLeDiff, Nat.reduceLT]
  refine qcall_i (k11) ?_; simp only [Tryd.f6, go_sem, Int.reduceToNat, Int.reduceEq, Int.reduceNe, Int.reduceLT, Int.reduceLE, Int.reduceNeg, Int.reduceAdd, ↓reduceIte, ↓reduceCtorEq, Nat.reduceEqDiff, Nat.reduceAdd, Nat.reduceSub, Nat.reduceMul, Nat.reduceLeDiff, Nat.reduceLT]
  refine qcall_i (k12) ?_; simp only [Tryd.f6, go_sem, Int.reduceToNat, Int.reduceEq, Int.reduceNe, Int.reduceLT, Int.reduceLE, Int.reduceNeg, Int.reduceAdd, ↓reduceIte, ↓reduceCtorEq, Nat.reduceEqDiff, Nat.reduceAdd, Nat.reduceSub, Nat.reduceMul, Nat.reduceLeDiff, Nat.reduceLT]
  refine qcall_i (k10) ?_; simp only [Tryd.f6, go_sem, Int.reduceToNat, Int.reduceEq, Int.reduceNe, Int.reduceLT, Int.reduceLE, Int.reduceNeg, Int.reduceAdd, ↓reduceIte, ↓reduceCtorEq, Nat.reduceEqDiff, Nat.reduceAdd, Nat.reduceSub, Nat.reduceMul, Nat.reduceLeDiff, Nat.reduceLT]
  refine qcall_i (k13) ?_; simp only [Tryd.f6, go_sem, Int.reduceToNat, Int.reduceEq, Int.reduceNe, Int.reduceLT, Int.reduceLE, Int.reduceNeg, Int.reduceAdd, ↓reduceIte, ↓reduceCtorEq, Nat.reduceEqDiff, Nat.reduceAdd, Nat.reduceSub, Nat.reduceMul, Nat.reduceLeDiff, Nat.reduceLT]
  refine qcall_i (k10) ?_; simp only [Tryd.f6, go_sem, Int.reduceToNat, Int.reduceEq, Int.reduceNe, Int.reduceLT, Int.reduceLE, Int.reduceNeg, Int.reduceAdd, ↓reduceIte, ↓reduceCtorEq, Nat.reduceEqDiff, Nat.reduceAdd, Nat.reduceSub, Nat.reduceMul, Nat.reduceLeDiff, Nat.reduceLT]
  refine qcall_i (k10) ?_; simp only [Tryd.f6, go_sem, Int.reduceToNat, Int.reduceEq, Int.reduceNe, Int.reduceLT, Int.reduceLE, Int.reduceNeg, Int.reduceAdd, ↓reduceIte, ↓reduceCtorEq, Nat.reduceEqDiff, Nat.reduceAdd, Nat.reduceSub, Nat.reduceMul, Nat.reduceLeDiff, Nat.reduceLT]
  refine qcall_i (k14) ?_; simp only [Tryd.f6, go_sem, Int.reduceToNat, Int.reduceEq, Int.reduceNe, Int.reduceLT, Int.reduceLE, Int.reduceNeg, Int.reduceAdd, ↓reduceIte, ↓reduceCtorEq, Nat.reduceEqDiff, Nat.reduceAdd, Nat.reduceSub, Nat.reduceMul, Nat.reduceLeDiff, Nat.reduceLT]
  refine qcall_i (k15) ?_; simp only [Tryd.f6, go_sem, Int.reduceToNat, Int.reduceEq, Int.reduceNe, Int.reduceLT, Int.reduceLE, Int.reduceNeg, Int.reduceAdd, ↓reduceIte, ↓reduceCtorEq, Nat.reduceEqDiff, Nat.reduceAdd, Nat.reduceSub, Nat.reduceMul, Nat.reduceLeDiff, Nat.reduceLT]
  refine qcall_i (k10) ?_; simp only [Tryd.f6, go_sem, Int.reduceToNat, Int.reduceEq, Int.reduceNe, Int.reduceLT, Int.reduceLE, Int.reduceNeg, Int.reduceAdd, ↓reduceIte, ↓reduceCtorEq, Nat.reduceEqDiff, Nat.reduceAdd, Nat.reduceSub, Nat.reduceMul, Nat.reduceLeDiff, Nat.reduceLT]
  refine qcall_i (k16) ?_; simp only [Tryd.f6, hX, go_sem, Int.reduceToNat, Int.reduceEq, Int.reduceNe, Int.reduceLT, Int.reduceLE, Int.reduceNeg, Int.reduceAdd, ↓reduceIte, ↓reduceCtorEq, Nat.reduceEqDiff, Nat.reduceAdd, Nat.reduceSub, Nat.reduceMul, Nat.reduceLeDiff, Nat.reduceLT]
end Go.Proofs.YtfogjddcagckaaaDoor
