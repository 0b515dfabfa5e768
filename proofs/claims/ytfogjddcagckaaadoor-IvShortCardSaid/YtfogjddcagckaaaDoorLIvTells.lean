/- The contract of the law IvTells: at whatever reads as its arguments it returns true. -/
import Derived.Test.YtfogjddcagckaaaDoorLIvA
open Go PG Go.Proofs
set_option maxRecDepth 100000
set_option linter.unusedSimpArgs false
set_option linter.unusedVariables false
namespace Go.Proofs.YtfogjddcagckaaaDoor
attribute [local go_sem] Lay2 Lay3 Lay4 Lay5 Lay6 Lay7 Lay8 Lay9 Lay10 Lay11 Lay12 Lay13 Lay14 Lay21 Lay22 Lay23 Lay24 Lay27 Lay28 Lay29 Lay35 Lay36 Lay38 Lay39 Lay40 Lay42 Lay43 Lay45 Lay46 Lay67 Lay81 Lay82 Lay83 Lay84 Lay85 Lay86 Lay87 Lay90 Lay93 Lay94 Lay116 Lay132 Lay138 Lay145 Lay162 Lay163 Lay201 qexec_seq qexec_skip qexec_exit qexec_ret qexec_block qexec_loop qexec_range qexec_cond qexec_region qexec_drawn qops_nil qops_none qops_some put_some put_none pblk_exit pblk_other newDsts_nil sget_cons sget_nil qval_some qbool_some qgs_bool qgs_und qfree_some qgrd_true qgrd_false qif_true qif_false qval_ite qval_itn qand_true map_ite map_some' map_none' qdo_move qdo_assign qdo_binOp qdo_pick qdo_unOp qdo_convert qdo_extract qdo_field qdo_fieldAddr qdo_alloc qdo_box qdo_build qdo_buildSlice qdo_load qdo_store qdo_nilCheck qdo_makeFunc qdo_makeSlice qdo_slice qdo_indexAddr qdo_call qcont_val qcont_new qcont_st qcont_app0 qcont_app qcont_inl qcont_call njSV_val njSV_nil njSV_row njSV_ptr njSV_sub binV_val binV_nil binV_nn nilCmp bin_add bin_sub bin_mul bin_quo bin_rem bin_and bin_or bin_xor bin_andNot bin_eql bin_neq bin_lss bin_leq bin_gtr bin_geq bin_shl bin_shr bin_seql bin_sneq bin_sadd bin_beql bin_aeql bin_aneq eqAnd_some eqCells_nil eqCells_cons fieldTypes isStruct eqCell bin_bneq un_not un_neg nj_ite Nat.beq stepA stepR isNew opSV constSV RV.sv allSome E_mu E_own qkeyIn_none qkeyIn_some qkeyAt_none qkeyAt_some Bool.or_false Bool.false_or Bool.or_true Bool.true_or cst setB res resSV pstart startL killL kill1 eraL frzL svPV rvPV rvInt rvSlice frzOf close closeL pconv pbuiltin pmax2 partPV setCells fillPV zrow bound newSV PV.cells Bk.cells Bk.with SV.key pres presL_nil presL_tmp presL_cell presC2_some cellPV_ptr presC List.toList_toArray List.size_toArray List.getElem?_drop Nat.mul_one Int.toNat_natCast Nat.not_lt_zero Nat.lt_irrefl decide_true decide_false Nat.not_lt Option.some.injEq PV.lst.injEq PV.int.injEq PV.bool.injEq PV.tuple.injEq List.cons.injEq Option.map_some Option.map_none Option.bind_some Option.toList List.map_cons List.map_nil List.nil_append List.cons_append List.append_nil List.zip_cons_cons List.zip_nil_left List.zip_nil_right List.getElem?_cons_zero List.getElem?_cons_succ List.drop_zero List.drop_succ_cons List.take_succ_cons List.take_zero List.set_cons_zero List.set_cons_succ List.length_cons List.length_nil List.length_set List.replicate_one List.replicate_zero bne_self_eq_false beq_self_eq_true Nat.zero_add Nat.add_zero Nat.zero_mul Bool.false_eq_true Bool.true_eq_false Bool.not_true Bool.not_false and_true true_and false_and and_false or_false false_or or_true true_or not_true_eq_false not_false_eq_true ne_eq gt_iff_lt List.mem_cons List.not_mem_nil
attribute [local go_sem ↓] pseq_normal pseq_ret pseq_exit pblk_normal pblk_ret newDsts_cons gdst_zero gdst_succ retQ_normal retQ_ret qneed_nil qneed_cons retM_normal retM_ret endR_normal endR_ret endR_exit

theorem ivV_eq (c : Prop) [Decidable c] (i : Iv) : ivV c i = .tuple [(if c then i else Iv.zero).pv, .int .i64 (if c then 0 else 1)] := by unfold ivV; split <;> rfl
/-- Within the bounds that the laws look at. -/
theorem near_lim {s : Bool} {l : List Nat} {e : Int} (h : nearP l.length e) (ol : Ok W l) : Lim 3640 (mkD s (vl l) e) :=
  Lim.mk (n := 640) (J := 3000) (by have := bits_of_vl ol; have := h.1; omega) (by have := h.2; omega) (by decide)
theorem near_rd {s : Bool} {l : List Nat} {e : Int} (h : nearP l.length e) (ol : Ok W l) : RD (DP s (NL l) e) (mkD s (vl l) e) := RD.arg ol (by have := h.1; omega)

set_option maxHeartbeats 2000000 in
theorem law_IvTells (pvs : List PV) (h : Fits [qJ, qJ, qD] pvs) : PC E 4 pvs (.bool true) := by
  obtain ⟨_, _, _, rfl, ⟨s1, l1, e1, s2, l2, e2, rfl, o1, o2⟩, ⟨s3, l3, e3, s4, l4, e4, rfl, o3, o4⟩, ⟨s5, l5, e5, rfl, o5, -, -⟩⟩ := fits3 h
  simp only [DP, NL]
  refine PC.of_sem Tryd.func4 (by decide +kernel) rfl (Nat.le_of_ble_eq_true rfl) ?_
  refine PSem.cut follows (by kernel_rfl) 6 (fun _ : Unit => ⟨[(3, .ptr 3 0), (4, .ptr 4 0), (5, .ptr 5 0), (7, .ptr 7 0), (8, .ptr 8 0), (9, .ptr 9 0)],
    [(3, (.box [.bool s1, .lst l1.length (U l1), .int .i64 e1, .bool s2, .lst l2.length (U l2), .int .i64 e2], false)), (4, (.box [.bool s3, .lst l3.length (U l3), .int .i64 e3, .bool s4, .lst l4.length (U l4), .int .i64 e4], false)), (5, (.box [.bool s5, .lst l5.length (U l5), .int .i64 e5], false)),
     (7, (.box [.bool (mkD s1 (vl l1) e1).s, VN (mkD s1 (vl l1) e1).m, .int .i64 (mkD s1 (vl l1) e1).e, .bool (mkD s2 (vl l2) e2).s, VN (mkD s2 (vl l2) e2).m, .int .i64 (mkD s2 (vl l2) e2).e], false)),
     (8, (.box [.bool (mkD s3 (vl l3) e3).s, VN (mkD s3 (vl l3) e3).m, .int .i64 (mkD s3 (vl l3) e3).e, .bool (mkD s4 (vl l4) e4).s, VN (mkD s4 (vl l4) e4).m, .int .i64 (mkD s4 (vl l4) e4).e], false)),
     (9, (.box [.bool (mkD s5 (vl l5) e5).s, VN (mkD s5 (vl l5) e5).m, .int .i64 (mkD s5 (vl l5) e5).e], false))]⟩) (fun _ => (nearP l1.length e1 ∧ nearP l2.length e2) ∧ (nearP l3.length e3 ∧ nearP l4.length e4) ∧ nearP l5.length e5) ?_ (fun _ hJ => ?_)
  · simp only [Tryd.f4, qfirst_succ, qfirst_zero, after_succ, after_zero, go_sem, Int.reduceToNat, Int.reduceEq, Int.reduceNe, Int.reduceLT, Int.reduceLE, Int.reduceNeg, Int.reduceAdd, ↓reduceIte, ↓reduceCtorEq, Nat.reduceEqDiff, Nat.reduceAdd, Nat.reduceSub, Nat.reduceMul, Nat.reduceLeDiff, Nat.reduceLT]
    refine qcall_i (c_alive15) ?_; simp only [Tryd.f4, qfirst_succ, qfirst_zero, after_succ, after_zero, go_sem, Int.reduceToNat, Int.reduceEq, Int.reduceNe, Int.reduceLT, Int.reduceLE, Int.reduceNeg, Int.reduceAdd, ↓reduceIte, ↓reduceCtorEq, Nat.reduceEqDiff, Nat.reduceAdd, Nat.reduceSub, Nat.reduceMul, Nat.reduceLeDiff, Nat.reduceLT]
    refine qcall_i (c_15Near) ?_; simp only [Tryd.f4, qfirst_succ, qfirst_zero, after_succ, after_zero, go_sem, Int.reduceToNat, Int.reduceEq, Int.reduceNe, Int.reduceLT, Int.reduceLE, Int.reduceNeg, Int.reduceAdd, ↓reduceIte, ↓reduceCtorEq, Nat.reduceEqDiff, Nat.reduceAdd, Nat.reduceSub, Nat.reduceMul, Nat.reduceLeDiff, Nat.reduceLT]
    refine qif_i (fun h1 => ?_) (fun h1 => ?_)
    · simp only [Tryd.f4, qfirst_succ, qfirst_zero, after_succ, after_zero, go_sem, Int.reduceToNat, Int.reduceEq, Int.reduceNe, Int.reduceLT, Int.reduceLE, Int.reduceNeg, Int.reduceAdd, ↓reduceIte, ↓reduceCtorEq, Nat.reduceEqDiff, Nat.reduceAdd, Nat.reduceSub, Nat.reduceMul, Nat.reduceLeDiff, Nat.reduceLT]
    simp only [Tryd.f4, qfirst_succ, qfirst_zero, after_succ, after_zero, go_sem, Int.reduceToNat, Int.reduceEq, Int.reduceNe, Int.reduceLT, Int.reduceLE, Int.reduceNeg, Int.reduceAdd, ↓reduceIte, ↓reduceCtorEq, Nat.reduceEqDiff, Nat.reduceAdd, Nat.reduceSub, Nat.reduceMul, Nat.reduceLeDiff, Nat.reduceLT]
    refine qcall_i (c_15Near) ?_; simp only [Tryd.f4, qfirst_succ, qfirst_zero, after_succ, after_zero, go_sem, Int.reduceToNat, Int.reduceEq, Int.reduceNe, Int.reduceLT, Int.reduceLE, Int.reduceNeg, Int.reduceAdd, ↓reduceIte, ↓reduceCtorEq, Nat.reduceEqDiff, Nat.reduceAdd, Nat.reduceSub, Nat.reduceMul, Nat.reduceLeDiff, Nat.reduceLT]
    refine qif_i (fun h2 => ?_) (fun h2 => ?_)
    · simp only [Tryd.f4, qfirst_succ, qfirst_zero, after_succ, after_zero, go_sem, Int.reduceToNat, Int.reduceEq, Int.reduceNe, Int.reduceLT, Int.reduceLE, Int.reduceNeg, Int.reduceAdd, ↓reduceIte, ↓reduceCtorEq, Nat.reduceEqDiff, Nat.reduceAdd, Nat.reduceSub, Nat.reduceMul, Nat.reduceLeDiff, Nat.reduceLT]
    simp only [Tryd.f4, qfirst_succ, qfirst_zero, after_succ, after_zero, go_sem, Int.reduceToNat, Int.reduceEq, Int.reduceNe, Int.reduceLT, Int.reduceLE, Int.reduceNeg, Int.reduceAdd, ↓reduceIte, ↓reduceCtorEq, Nat.reduceEqDiff, Nat.reduceAdd, Nat.reduceSub, Nat.reduceMul, Nat.reduceLeDiff, Nat.reduceLT]
    refine qcall_i (c_15Near) ?_; simp only [Tryd.f4, qfirst_succ, qfirst_zero, after_succ, after_zero, go_sem, Int.reduceToNat, Int.reduceEq, Int.reduceNe, Int.reduceLT, Int.reduceLE, Int.reduceNeg, Int.reduceAdd, ↓reduceIte, ↓reduceCtorEq, Nat.reduceEqDiff, Nat.reduceAdd, Nat.reduceSub, Nat.reduceMul, Nat.reduceLeDiff, Nat.reduceLT]
    refine qif_i (fun h3 => ?_) (fun h3 => ?_)
    · simp only [Tryd.f4, qfirst_succ, qfirst_zero, after_succ, after_zero, go_sem, Int.reduceToNat, Int.reduceEq, Int.reduceNe, Int.reduceLT, Int.reduceLE, Int.reduceNeg, Int.reduceAdd, ↓reduceIte, ↓reduceCtorEq, Nat.reduceEqDiff, Nat.reduceAdd, Nat.reduceSub, Nat.reduceMul, Nat.reduceLeDiff, Nat.reduceLT]
    have h1 : nearP l1.length e1 ∧ nearP l2.length e2 := by simpa using h1
    have h2 : nearP l3.length e3 ∧ nearP l4.length e4 := by simpa using h2
    have h3 : nearP l5.length e5 ∧ nearP l5.length e5 := by simpa using h3
    have k1 := r_5Of (near_rd (s := s1) h1.1 o1)
    have k2 := r_5Of (near_rd (s := s2) h1.2 o2)
    have k3 := r_5Of (near_rd (s := s3) h2.1 o3)
    have k4 := r_5Of (near_rd (s := s4) h2.2 o4)
    have k5 := r_5Of (near_rd (s := s5) h3.1 o5)
    simp only [Dy.nv, DP, NL] at k1 k2 k3 k4 k5
    simp only [Tryd.f4, qfirst_succ, qfirst_zero, after_succ, after_zero, go_sem, Int.reduceToNat, Int.reduceEq, Int.reduceNe, Int.reduceLT, Int.reduceLE, Int.reduceNeg, Int.reduceAdd, ↓reduceIte, ↓reduceCtorEq, Nat.reduceEqDiff, Nat.reduceAdd, Nat.reduceSub, Nat.reduceMul, Nat.reduceLeDiff, Nat.reduceLT]
    refine qcall_i (k1) ?_; simp only [Tryd.f4, qfirst_succ, qfirst_zero, after_succ, after_zero, go_sem, Int.reduceToNat, Int.reduceEq, Int.reduceNe, Int.reduceLT, Int.reduceLE, Int.reduceNeg, Int.reduceAdd, ↓reduceIte, ↓reduceCtorEq, Nat.reduceEqDiff, Nat.reduceAdd, Nat.reduceSub, Nat.reduceMul, Nat.reduceLeDiff, Nat.reduceLT]
    refine qcall_i (k2) ?_; simp only [Tryd.f4, qfirst_succ, qfirst_zero, after_succ, after_zero, go_sem, Int.reduceToNat, Int.reduceEq, Int.reduceNe, Int.reduceLT, Int.reduceLE, Int.reduceNeg, Int.reduceAdd, ↓reduceIte, ↓reduceCtorEq, Nat.reduceEqDiff, Nat.reduceAdd, Nat.reduceSub, Nat.reduceMul, Nat.reduceLeDiff, Nat.reduceLT]
    refine qcall_i (k3) ?_; simp only [Tryd.f4, qfirst_succ, qfirst_zero, after_succ, after_zero, go_sem, Int.reduceToNat, Int.reduceEq, Int.reduceNe, Int.reduceLT, Int.reduceLE, Int.reduceNeg, Int.reduceAdd, ↓reduceIte, ↓reduceCtorEq, Nat.reduceEqDiff, Nat.reduceAdd, Nat.reduceSub, Nat.reduceMul, Nat.reduceLeDiff, Nat.reduceLT]
    refine qcall_i (k4) ?_; simp only [Tryd.f4, qfirst_succ, qfirst_zero, after_succ, after_zero, go_sem, Int.reduceToNat, Int.reduceEq, Int.reduceNe, Int.reduceLT, Int.reduceLE, Int.reduceNeg, Int.reduceAdd, ↓reduceIte, ↓reduceCtorEq, Nat.reduceEqDiff, Nat.reduceAdd, Nat.reduceSub, Nat.reduceMul, Nat.reduceLeDiff, Nat.reduceLT]
    refine qcall_i (k5) ?_; simp only [Tryd.f4, qfirst_succ, qfirst_zero, after_succ, after_zero, go_sem, Int.reduceToNat, Int.reduceEq, Int.reduceNe, Int.reduceLT, Int.reduceLE, Int.reduceNeg, Int.reduceAdd, ↓reduceIte, ↓reduceCtorEq, Nat.reduceEqDiff, Nat.reduceAdd, Nat.reduceSub, Nat.reduceMul, Nat.reduceLeDiff, Nat.reduceLT]
    refine ⟨(), ⟨h1, h2, h3.1⟩, ?_⟩
    simp [Wk, sget, killL, kill1, SV.key, setCells]
  obtain ⟨⟨n1, n2⟩, ⟨n3, n4⟩, n5⟩ := hJ
  have r1 := near_rd (s := s1) n1 o1
  have r2 := near_rd (s := s2) n2 o2
  have r3 := near_rd (s := s3) n3 o3
  have r4 := near_rd (s := s4) n4 o4
  have r5 := near_rd (s := s5) n5 o5
  have L1 := near_lim (s := s1) n1 o1
  have L2 := near_lim (s := s2) n2 o2
  have L3 := near_lim (s := s3) n3 o3
  have L4 := near_lim (s := s4) n4 o4
  have L5 := near_lim (s := s5) n5 o5
  generalize mkD s1 (vl l1) e1 = a1 at *
  generalize mkD s2 (vl l2) e2 = a2 at *
  generalize mkD s3 (vl l3) e3 = b1 at *
  generalize mkD s4 (vl l4) e4 = b2 at *
  generalize mkD s5 (vl l5) e5 = d at *
  simp only [DP, NL] at r1 r2 r3 r4 r5
  generalize PV.lst l1.length (U l1) = P1 at *
  generalize PV.lst l2.length (U l2) = P2 at *
  generalize PV.lst l3.length (U l3) = P3 at *
  generalize PV.lst l4.length (U l4) = P4 at *
  generalize PV.lst l5.length (U l5) = P5 at *
  clear n1 n2 n3 n4 n5 o1 o2 o3 o4 o5 h
  have ri : RI (.agg [.bool s1, P1, .int .i64 e1, .bool s2, P2, .int .i64 e2]) ⟨a1, a2⟩ := ⟨_, _, _, _, _, _, rfl, r1, r2⟩
  have rk : RI (.agg [.bool s3, P3, .int .i64 e3, .bool s4, P4, .int .i64 e4]) ⟨b1, b2⟩ := ⟨_, _, _, _, _, _, rfl, r3, r4⟩
  have Li : Iv.lim 3640 ⟨a1, a2⟩ := ⟨L1, L2⟩
  have Lk : Iv.lim 3640 ⟨b1, b2⟩ := ⟨L3, L4⟩
  have hp : decide (cmpD a1 a2 ≤ 0) = decide (Iv.right ⟨a1, a2⟩) := decide_eq_decide.2 (Li.right (by decide)).symm
  have hq : decide (cmpD b1 b2 ≤ 0) = decide (Iv.right ⟨b1, b2⟩) := decide_eq_decide.2 (Lk.right (by decide)).symm
  have hhas : Iv.has ⟨a1, a2⟩ d ↔ Iv.right ⟨a1, a2⟩ ∧ cmpD a1 d ≤ 0 ∧ cmpD d a2 ≤ 0 := ⟨fun h => ⟨h.1, h.2.2⟩, fun h => ⟨h.1, L5.fits (by decide), h.2⟩⟩
  have hins : Iv.inside ⟨a1, a2⟩ ⟨b1, b2⟩ ↔ Iv.right ⟨a1, a2⟩ ∧ Iv.right ⟨b1, b2⟩ ∧ cmpD b1 a1 ≤ 0 ∧ cmpD a2 b2 ≤ 0 := by
    constructor
    · intro h; exact ⟨h.1, h.2.1.1, h.2.1.2.2.1, h.2.2.2.2.2⟩
    · rintro ⟨h1, h2, h3, h4⟩
      exact ⟨h1, ⟨h2, L1.fits (by decide), h3, cmp_trans ((Li.right (by decide)).1 h1) h4⟩, h2, L2.fits (by decide), cmp_trans h3 ((Li.right (by decide)).1 h1), h4⟩
  have c1 := l_Cmp L1.N L2.N (by decide)
  have c2 := l_Cmp L3.N L4.N (by decide)
  have c3 := l_Cmp L1.N L5.N (by decide)
  have c4 := l_Cmp L5.N L2.N (by decide)
  have c5 := l_Cmp L3.N L1.N (by decide)
  have c6 := l_Cmp L2.N L4.N (by decide)
  have kO := fun s1 P1 e1 s2 P2 e2 => q_15Of (l := []) (s1 := s1) (P1 := P1) (e1 := e1) (s2 := s2) (P2 := P2) (e2 := e2)
  have kA := q_Add ri rk Li Lk (by decide)
  have kM := q_Mul ri rk Li Lk (by decide)
  have kT := q_Times ri r5 Li L5 (by decide)
  have kW := q_Wide ri Li (by decide)
  have kR := q_Right ri
  have kH := q_Has ri r5
  have kI := q_Inside ri rk
  rw [ivV_eq] at kA kM kT
  have kW : PC E 28 [.agg [.bool s1, P1, .int .i64 e1, .bool s2, P2, .int .i64 e2]] (.tuple [(if Iv.right ⟨a1, a2⟩ then addS a2 a1.neg else Dy.zero).pv, .int .i64 (if Iv.right ⟨a1, a2⟩ then 0 else 1)]) := PC.cast kW (by split <;> rfl)
  generalize hS : (if Iv.right ⟨a1, a2⟩ ∧ Iv.right ⟨b1, b2⟩ then addI ⟨a1, a2⟩ ⟨b1, b2⟩ else Iv.zero) = S at *
  generalize hM : (if Iv.right ⟨a1, a2⟩ ∧ Iv.right ⟨b1, b2⟩ then mulI ⟨a1, a2⟩ ⟨b1, b2⟩ else Iv.zero) = M at *
  generalize hse : (if Iv.right ⟨a1, a2⟩ ∧ Iv.right ⟨b1, b2⟩ then (0 : Int) else 1) = se at *
  generalize hT : (if Iv.right ⟨a1, a2⟩ then mulI ⟨a1, a2⟩ ⟨d, d⟩ else Iv.zero) = T at *
  generalize hte : (if Iv.right ⟨a1, a2⟩ then (0 : Int) else 1) = te at *
  generalize hw : (if Iv.right ⟨a1, a2⟩ then addS a2 a1.neg else Dy.zero) = w at *
  simp only [Iv.pv, Dy.pv, Dy.nv, DP] at c1 c2 c3 c4 c5 c6 kA kM kT kW kR kH kI kO
  refine PSem.cut follows (by kernel_rfl) 5 (fun _ : Unit => ⟨[(3, .ptr 3 0), (4, .ptr 4 0), (5, .ptr 5 0), (7, .ptr 7 0), (8, .ptr 8 0), (9, .ptr 9 0), (10, .val (.bool (decide (Iv.right ⟨a1, a2⟩)))), (11, .val (.bool (decide (Iv.right ⟨b1, b2⟩)))), (12, .ptr 12 0), (13, .val (.int .i64 se)), (14, .ptr 14 0), (15, .val (.int .i64 se)), (16, .ptr 16 0), (17, .val (.int .i64 te)), (18, .ptr 18 0), (19, .val (.int .i64 te))],
    [(3, (.box [.bool s1, P1, .int .i64 e1, .bool s2, P2, .int .i64 e2], false)), (4, (.box [.bool s3, P3, .int .i64 e3, .bool s4, P4, .int .i64 e4], false)), (5, (.box [.bool s5, P5, .int .i64 e5], false)),
     (7, (.box [.bool a1.s, VN a1.m, .int .i64 a1.e, .bool a2.s, VN a2.m, .int .i64 a2.e], false)), (8, (.box [.bool b1.s, VN b1.m, .int .i64 b1.e, .bool b2.s, VN b2.m, .int .i64 b2.e], false)), (9, (.box [.bool d.s, VN d.m, .int .i64 d.e], false)),
     (12, (.box [.bool S.lo.s, NN S.lo.m, .int .i64 S.lo.e, .bool S.hi.s, NN S.hi.m, .int .i64 S.hi.e], false)), (14, (.box [.bool M.lo.s, NN M.lo.m, .int .i64 M.lo.e, .bool M.hi.s, NN M.hi.m, .int .i64 M.hi.e], false)),
     (16, (.box [.bool T.lo.s, NN T.lo.m, .int .i64 T.lo.e, .bool T.hi.s, NN T.hi.m, .int .i64 T.hi.e], false)), (18, (.box [.bool w.s, NN w.m, .int .i64 w.e], false))]⟩) (fun _ => True) ?_ (fun _ _ => ?_)
  · simp only [Tryd.f4, qfirst_succ, qfirst_zero, after_succ, after_zero, go_sem, Int.reduceToNat, Int.reduceEq, Int.reduceNe, Int.reduceLT, Int.reduceLE, Int.reduceNeg, Int.reduceAdd, ↓reduceIte, ↓reduceCtorEq, Nat.reduceEqDiff, Nat.reduceAdd, Nat.reduceSub, Nat.reduceMul, Nat.reduceLeDiff, Nat.reduceLT]
    refine qcall_i (c1) ?_; simp only [Tryd.f4, qfirst_succ, qfirst_zero, after_succ, after_zero, hp, go_sem, Int.reduceToNat, Int.reduceEq, Int.reduceNe, Int.reduceLT, Int.reduceLE, Int.reduceNeg, Int.reduceAdd, ↓reduceIte, ↓reduceCtorEq, Nat.reduceEqDiff, Nat.reduceAdd, Nat.reduceSub, Nat.reduceMul, Nat.reduceLeDiff, Nat.reduceLT]
    refine qcall_i (c2) ?_; simp only [Tryd.f4, qfirst_succ, qfirst_zero, after_succ, after_zero, hq, go_sem, Int.reduceToNat, Int.reduceEq, Int.reduceNe, Int.reduceLT, Int.reduceLE, Int.reduceNeg, Int.reduceAdd, ↓reduceIte, ↓reduceCtorEq, Nat.reduceEqDiff, Nat.reduceAdd, Nat.reduceSub, Nat.reduceMul, Nat.reduceLeDiff, Nat.reduceLT]
    refine qcall_i (kO _ _ _ _ _ _) ?_; simp only [Tryd.f4, qfirst_succ, qfirst_zero, after_succ, after_zero, go_sem, Int.reduceToNat, Int.reduceEq, Int.reduceNe, Int.reduceLT, Int.reduceLE, Int.reduceNeg, Int.reduceAdd, ↓reduceIte, ↓reduceCtorEq, Nat.reduceEqDiff, Nat.reduceAdd, Nat.reduceSub, Nat.reduceMul, Nat.reduceLeDiff, Nat.reduceLT]
    refine qcall_i (kO _ _ _ _ _ _) ?_; simp only [Tryd.f4, qfirst_succ, qfirst_zero, after_succ, after_zero, go_sem, Int.reduceToNat, Int.reduceEq, Int.reduceNe, Int.reduceLT, Int.reduceLE, Int.reduceNeg, Int.reduceAdd, ↓reduceIte, ↓reduceCtorEq, Nat.reduceEqDiff, Nat.reduceAdd, Nat.reduceSub, Nat.reduceMul, Nat.reduceLeDiff, Nat.reduceLT]
    refine qcall_i (kA) ?_; simp only [Tryd.f4, qfirst_succ, qfirst_zero, after_succ, after_zero, go_sem, Int.reduceToNat, Int.reduceEq, Int.reduceNe, Int.reduceLT, Int.reduceLE, Int.reduceNeg, Int.reduceAdd, ↓reduceIte, ↓reduceCtorEq, Nat.reduceEqDiff, Nat.reduceAdd, Nat.reduceSub, Nat.reduceMul, Nat.reduceLeDiff, Nat.reduceLT]
    refine qcall_i (kO _ _ _ _ _ _) ?_; simp only [Tryd.f4, qfirst_succ, qfirst_zero, after_succ, after_zero, go_sem, Int.reduceToNat, Int.reduceEq, Int.reduceNe, Int.reduceLT, Int.reduceLE, Int.reduceNeg, Int.reduceAdd, ↓reduceIte, ↓reduceCtorEq, Nat.reduceEqDiff, Nat.reduceAdd, Nat.reduceSub, Nat.reduceMul, Nat.reduceLeDiff, Nat.reduceLT]
    refine qcall_i (kO _ _ _ _ _ _) ?_; simp only [Tryd.f4, qfirst_succ, qfirst_zero, after_succ, after_zero, go_sem, Int.reduceToNat, Int.reduceEq, Int.reduceNe, Int.reduceLT, Int.reduceLE, Int.reduceNeg, Int.reduceAdd, ↓reduceIte, ↓reduceCtorEq, Nat.reduceEqDiff, Nat.reduceAdd, Nat.reduceSub, Nat.reduceMul, Nat.reduceLeDiff, Nat.reduceLT]
    refine qcall_i (kM) ?_; simp only [Tryd.f4, qfirst_succ, qfirst_zero, after_succ, after_zero, go_sem, Int.reduceToNat, Int.reduceEq, Int.reduceNe, Int.reduceLT, Int.reduceLE, Int.reduceNeg, Int.reduceAdd, ↓reduceIte, ↓reduceCtorEq, Nat.reduceEqDiff, Nat.reduceAdd, Nat.reduceSub, Nat.reduceMul, Nat.reduceLeDiff, Nat.reduceLT]
    refine qcall_i (kO _ _ _ _ _ _) ?_; simp only [Tryd.f4, qfirst_succ, qfirst_zero, after_succ, after_zero, go_sem, Int.reduceToNat, Int.reduceEq, Int.reduceNe, Int.reduceLT, Int.reduceLE, Int.reduceNeg, Int.reduceAdd, ↓reduceIte, ↓reduceCtorEq, Nat.reduceEqDiff, Nat.reduceAdd, Nat.reduceSub, Nat.reduceMul, Nat.reduceLeDiff, Nat.reduceLT]
    refine qcall_i (kT) ?_; simp only [Tryd.f4, qfirst_succ, qfirst_zero, after_succ, after_zero, go_sem, Int.reduceToNat, Int.reduceEq, Int.reduceNe, Int.reduceLT, Int.reduceLE, Int.reduceNeg, Int.reduceAdd, ↓reduceIte, ↓reduceCtorEq, Nat.reduceEqDiff, Nat.reduceAdd, Nat.reduceSub, Nat.reduceMul, Nat.reduceLeDiff, Nat.reduceLT]
    refine qcall_i (kO _ _ _ _ _ _) ?_; simp only [Tryd.f4, qfirst_succ, qfirst_zero, after_succ, after_zero, go_sem, Int.reduceToNat, Int.reduceEq, Int.reduceNe, Int.reduceLT, Int.reduceLE, Int.reduceNeg, Int.reduceAdd, ↓reduceIte, ↓reduceCtorEq, Nat.reduceEqDiff, Nat.reduceAdd, Nat.reduceSub, Nat.reduceMul, Nat.reduceLeDiff, Nat.reduceLT]
    refine qcall_i (kW) ?_; simp only [Tryd.f4, qfirst_succ, qfirst_zero, after_succ, after_zero, go_sem, Int.reduceToNat, Int.reduceEq, Int.reduceNe, Int.reduceLT, Int.reduceLE, Int.reduceNeg, Int.reduceAdd, ↓reduceIte, ↓reduceCtorEq, Nat.reduceEqDiff, Nat.reduceAdd, Nat.reduceSub, Nat.reduceMul, Nat.reduceLeDiff, Nat.reduceLT]
    refine ⟨(), ?_⟩
    simp [Wk, sget, killL, kill1, SV.key, setCells]
  refine PSem.cut follows (by kernel_rfl) 1 (fun b : Bool => ⟨[(3, .ptr 3 0), (4, .ptr 4 0), (5, .ptr 5 0), (7, .ptr 7 0), (8, .ptr 8 0), (9, .ptr 9 0), (10, .val (.bool (decide (Iv.right ⟨a1, a2⟩)))), (11, .val (.bool (decide (Iv.right ⟨b1, b2⟩)))), (12, .ptr 12 0), (13, .val (.int .i64 se)), (14, .ptr 14 0), (15, .val (.int .i64 se)), (16, .ptr 16 0), (17, .val (.int .i64 te)), (18, .ptr 18 0), (19, .val (.int .i64 te)), (20, .val (.bool b))],
    [(3, (.box [.bool s1, P1, .int .i64 e1, .bool s2, P2, .int .i64 e2], false)), (4, (.box [.bool s3, P3, .int .i64 e3, .bool s4, P4, .int .i64 e4], false)), (5, (.box [.bool s5, P5, .int .i64 e5], false)),
     (7, (.box [.bool a1.s, VN a1.m, .int .i64 a1.e, .bool a2.s, VN a2.m, .int .i64 a2.e], false)), (8, (.box [.bool b1.s, VN b1.m, .int .i64 b1.e, .bool b2.s, VN b2.m, .int .i64 b2.e], false)), (9, (.box [.bool d.s, VN d.m, .int .i64 d.e], false)),
     (12, (.box [.bool S.lo.s, NN S.lo.m, .int .i64 S.lo.e, .bool S.hi.s, NN S.hi.m, .int .i64 S.hi.e], false)), (14, (.box [.bool M.lo.s, NN M.lo.m, .int .i64 M.lo.e, .bool M.hi.s, NN M.hi.m, .int .i64 M.hi.e], false)),
     (16, (.box [.bool T.lo.s, NN T.lo.m, .int .i64 T.lo.e, .bool T.hi.s, NN T.hi.m, .int .i64 T.hi.e], false)), (18, (.box [.bool w.s, NN w.m, .int .i64 w.e], false))]⟩) (fun b => b = decide (Iv.has ⟨a1, a2⟩ d)) ?_ (fun b hb => ?_)
  · simp only [Tryd.f4, qfirst_succ, qfirst_zero, after_succ, after_zero, go_sem, Int.reduceToNat, Int.reduceEq, Int.reduceNe, Int.reduceLT, Int.reduceLE, Int.reduceNeg, Int.reduceAdd, ↓reduceIte, ↓reduceCtorEq, Nat.reduceEqDiff, Nat.reduceAdd, Nat.reduceSub, Nat.reduceMul, Nat.reduceLeDiff, Nat.reduceLT]
    refine qif_d (fun g1 => ?_) (fun g1 => ?_)
    · simp only [Tryd.f4, qfirst_succ, qfirst_zero, after_succ, after_zero, go_sem, Int.reduceToNat, Int.reduceEq, Int.reduceNe, Int.reduceLT, Int.reduceLE, Int.reduceNeg, Int.reduceAdd, ↓reduceIte, ↓reduceCtorEq, Nat.reduceEqDiff, Nat.reduceAdd, Nat.reduceSub, Nat.reduceMul, Nat.reduceLeDiff, Nat.reduceLT]
      refine qcall_i (c3) ?_; simp only [Tryd.f4, qfirst_succ, qfirst_zero, after_succ, after_zero, go_sem, Int.reduceToNat, Int.reduceEq, Int.reduceNe, Int.reduceLT, Int.reduceLE, Int.reduceNeg, Int.reduceAdd, ↓reduceIte, ↓reduceCtorEq, Nat.reduceEqDiff, Nat.reduceAdd, Nat.reduceSub, Nat.reduceMul, Nat.reduceLeDiff, Nat.reduceLT]
      refine qif_d (fun g2 => ?_) (fun g2 => ?_)
      · simp only [Tryd.f4, qfirst_succ, qfirst_zero, after_succ, after_zero, go_sem, Int.reduceToNat, Int.reduceEq, Int.reduceNe, Int.reduceLT, Int.reduceLE, Int.reduceNeg, Int.reduceAdd, ↓reduceIte, ↓reduceCtorEq, Nat.reduceEqDiff, Nat.reduceAdd, Nat.reduceSub, Nat.reduceMul, Nat.reduceLeDiff, Nat.reduceLT]
        refine qcall_i (c4) ?_; simp only [Tryd.f4, qfirst_succ, qfirst_zero, after_succ, after_zero, go_sem, Int.reduceToNat, Int.reduceEq, Int.reduceNe, Int.reduceLT, Int.reduceLE, Int.reduceNeg, Int.reduceAdd, ↓reduceIte, ↓reduceCtorEq, Nat.reduceEqDiff, Nat.reduceAdd, Nat.reduceSub, Nat.reduceMul, Nat.reduceLeDiff, Nat.reduceLT]
        refine ⟨decide (cmpD d a2 ≤ 0), decide_eq_decide.2 ⟨fun g3 => hhas.2 ⟨g1, g2, g3⟩, fun g3 => (hhas.1 g3).2.2⟩, ?_⟩
        simp [Wk, sget, killL, kill1, SV.key, setCells, g1]
      · simp only [Tryd.f4, qfirst_succ, qfirst_zero, after_succ, after_zero, go_sem, Int.reduceToNat, Int.reduceEq, Int.reduceNe, Int.reduceLT, Int.reduceLE, Int.reduceNeg, Int.reduceAdd, ↓reduceIte, ↓reduceCtorEq, Nat.reduceEqDiff, Nat.reduceAdd, Nat.reduceSub, Nat.reduceMul, Nat.reduceLeDiff, Nat.reduceLT]
        refine ⟨false, (decide_eq_false (fun g3 => g2 (hhas.1 g3).2.1)).symm, ?_⟩
        simp [Wk, sget, killL, kill1, SV.key, setCells, g1]
    · simp only [Tryd.f4, qfirst_succ, qfirst_zero, after_succ, after_zero, go_sem, Int.reduceToNat, Int.reduceEq, Int.reduceNe, Int.reduceLT, Int.reduceLE, Int.reduceNeg, Int.reduceAdd, ↓reduceIte, ↓reduceCtorEq, Nat.reduceEqDiff, Nat.reduceAdd, Nat.reduceSub, Nat.reduceMul, Nat.reduceLeDiff, Nat.reduceLT]
      refine ⟨false, (decide_eq_false (fun g3 => g1 (hhas.1 g3).1)).symm, ?_⟩
      simp [Wk, sget, killL, kill1, SV.key, setCells, g1]
  subst hb
  refine PSem.cut follows (by kernel_rfl) 1 (fun b : Bool => ⟨[(3, .ptr 3 0), (4, .ptr 4 0), (5, .ptr 5 0), (7, .ptr 7 0), (8, .ptr 8 0), (9, .ptr 9 0), (10, .val (.bool (decide (Iv.right ⟨a1, a2⟩)))), (11, .val (.bool (decide (Iv.right ⟨b1, b2⟩)))), (12, .ptr 12 0), (13, .val (.int .i64 se)), (14, .ptr 14 0), (15, .val (.int .i64 se)), (16, .ptr 16 0), (17, .val (.int .i64 te)), (18, .ptr 18 0), (19, .val (.int .i64 te)), (20, .val (.bool (decide (Iv.has ⟨a1, a2⟩ d)))), (21, .val (.bool b))],
    [(3, (.box [.bool s1, P1, .int .i64 e1, .bool s2, P2, .int .i64 e2], false)), (4, (.box [.bool s3, P3, .int .i64 e3, .bool s4, P4, .int .i64 e4], false)), (5, (.box [.bool s5, P5, .int .i64 e5], false)),
     (7, (.box [.bool a1.s, VN a1.m, .int .i64 a1.e, .bool a2.s, VN a2.m, .int .i64 a2.e], false)), (8, (.box [.bool b1.s, VN b1.m, .int .i64 b1.e, .bool b2.s, VN b2.m, .int .i64 b2.e], false)), (9, (.box [.bool d.s, VN d.m, .int .i64 d.e], false)),
     (12, (.box [.bool S.lo.s, NN S.lo.m, .int .i64 S.lo.e, .bool S.hi.s, NN S.hi.m, .int .i64 S.hi.e], false)), (14, (.box [.bool M.lo.s, NN M.lo.m, .int .i64 M.lo.e, .bool M.hi.s, NN M.hi.m, .int .i64 M.hi.e], false)),
     (16, (.box [.bool T.lo.s, NN T.lo.m, .int .i64 T.lo.e, .bool T.hi.s, NN T.hi.m, .int .i64 T.hi.e], false)), (18, (.box [.bool w.s, NN w.m, .int .i64 w.e], false))]⟩) (fun b => b = decide (Iv.inside ⟨a1, a2⟩ ⟨b1, b2⟩)) ?_ (fun b hb => ?_)
  · simp only [Tryd.f4, qfirst_succ, qfirst_zero, after_succ, after_zero, go_sem, Int.reduceToNat, Int.reduceEq, Int.reduceNe, Int.reduceLT, Int.reduceLE, Int.reduceNeg, Int.reduceAdd, ↓reduceIte, ↓reduceCtorEq, Nat.reduceEqDiff, Nat.reduceAdd, Nat.reduceSub, Nat.reduceMul, Nat.reduceLeDiff, Nat.reduceLT]
    refine qif_d (fun g1 => ?_) (fun g1 => ?_)
    case refine_2 =>
      simp only [Tryd.f4, qfirst_succ, qfirst_zero, after_succ, after_zero, go_sem, Int.reduceToNat, Int.reduceEq, Int.reduceNe, Int.reduceLT, Int.reduceLE, Int.reduceNeg, Int.reduceAdd, ↓reduceIte, ↓reduceCtorEq, Nat.reduceEqDiff, Nat.reduceAdd, Nat.reduceSub, Nat.reduceMul, Nat.reduceLeDiff, Nat.reduceLT]
      refine ⟨false, (decide_eq_false (fun g3 => g1 (hins.1 g3).1)).symm, ?_⟩
      simp [Wk, sget, killL, kill1, SV.key, setCells, g1]
    simp only [Tryd.f4, qfirst_succ, qfirst_zero, after_succ, after_zero, go_sem, Int.reduceToNat, Int.reduceEq, Int.reduceNe, Int.reduceLT, Int.reduceLE, Int.reduceNeg, Int.reduceAdd, ↓reduceIte, ↓reduceCtorEq, Nat.reduceEqDiff, Nat.reduceAdd, Nat.reduceSub, Nat.reduceMul, Nat.reduceLeDiff, Nat.reduceLT]
    refine qif_d (fun g2 => ?_) (fun g2 => ?_)
    case refine_2 =>
      simp only [Tryd.f4, qfirst_succ, qfirst_zero, after_succ, after_zero, go_sem, Int.reduceToNat, Int.reduceEq, Int.reduceNe, Int.reduceLT, Int.reduceLE, Int.reduceNeg, Int.reduceAdd, ↓reduceIte, ↓reduceCtorEq, Nat.reduceEqDiff, Nat.reduceAdd, Nat.reduceSub, Nat.reduceMul, Nat.reduceLeDiff, Nat.reduceLT]
      refine ⟨false, (decide_eq_false (fun g3 => g2 (hins.1 g3).2.1)).symm, ?_⟩
      simp [Wk, sget, killL, kill1, SV.key, setCells, g1, g2]
    simp only [Tryd.f4, qfirst_succ, qfirst_zero, after_succ, after_zero, go_sem, Int.reduceToNat, Int.reduceEq, Int.reduceNe, Int.reduceLT, Int.reduceLE, Int.reduceNeg, Int.reduceAdd, ↓reduceIte, ↓reduceCtorEq, Nat.reduceEqDiff, Nat.reduceAdd, Nat.reduceSub, Nat.reduceMul, Nat.reduceLeDiff, Nat.reduceLT]
    refine qcall_i (c5) ?_; simp only [Tryd.f4, qfirst_succ, qfirst_zero, after_succ, after_zero, go_sem, Int.reduceToNat, Int.reduceEq, Int.reduceNe, Int.reduceLT, Int.reduceLE, Int.reduceNeg, Int.reduceAdd, ↓reduceIte, ↓reduceCtorEq, Nat.reduceEqDiff, Nat.reduceAdd, Nat.reduceSub, Nat.reduceMul, Nat.reduceLeDiff, Nat.reduceLT]
    refine qif_d (fun g4 => ?_) (fun g4 => ?_)
    case refine_2 =>
      simp only [Tryd.f4, qfirst_succ, qfirst_zero, after_succ, after_zero, go_sem, Int.reduceToNat, Int.reduceEq, Int.reduceNe, Int.reduceLT, Int.reduceLE, Int.reduceNeg, Int.reduceAdd, ↓reduceIte, ↓reduceCtorEq, Nat.reduceEqDiff, Nat.reduceAdd, Nat.reduceSub, Nat.reduceMul, Nat.reduceLeDiff, Nat.reduceLT]
      refine ⟨false, (decide_eq_false (fun g3 => g4 (hins.1 g3).2.2.1)).symm, ?_⟩
      simp [Wk, sget, killL, kill1, SV.key, setCells, g1, g2]
    simp only [Tryd.f4, qfirst_succ, qfirst_zero, after_succ, after_zero, go_sem, Int.reduceToNat, Int.reduceEq, Int.reduceNe, Int.reduceLT, Int.reduceLE, Int.reduceNeg, Int.reduceAdd, ↓reduceIte, ↓reduceCtorEq, Nat.reduceEqDiff, Nat.reduceAdd, Nat.reduceSub, Nat.reduceMul, Nat.reduceLeDiff, Nat.reduceLT]
    refine qcall_i (c6) ?_; simp only [Tryd.f4, qfirst_succ, qfirst_zero, after_succ, after_zero, go_sem, Int.reduceToNat, Int.reduceEq, Int.reduceNe, Int.reduceLT, Int.reduceLE, Int.reduceNeg, Int.reduceAdd, ↓reduceIte, ↓reduceCtorEq, Nat.reduceEqDiff, Nat.reduceAdd, Nat.reduceSub, Nat.reduceMul, Nat.reduceLeDiff, Nat.reduceLT]
    refine ⟨decide (cmpD a2 b2 ≤ 0), decide_eq_decide.2 ⟨fun g3 => hins.2 ⟨g1, g2, g4, g3⟩, fun g3 => (hins.1 g3).2.2.2⟩, ?_⟩
    simp [Wk, sget, killL, kill1, SV.key, setCells, g1, g2]
  subst hb
  refine PSem.cut follows (by kernel_rfl) 1 (fun _ : Unit => ⟨[(7, .ptr 7 0), (8, .ptr 8 0), (9, .ptr 9 0), (10, .val (.bool (decide (Iv.right ⟨a1, a2⟩)))), (11, .val (.bool (decide (Iv.right ⟨b1, b2⟩)))), (12, .ptr 12 0), (13, .val (.int .i64 se)), (14, .ptr 14 0), (15, .val (.int .i64 se)), (16, .ptr 16 0), (17, .val (.int .i64 te)), (18, .ptr 18 0), (19, .val (.int .i64 te))],
    [(7, (.box [.bool a1.s, VN a1.m, .int .i64 a1.e, .bool a2.s, VN a2.m, .int .i64 a2.e], false)), (8, (.box [.bool b1.s, VN b1.m, .int .i64 b1.e, .bool b2.s, VN b2.m, .int .i64 b2.e], false)), (9, (.box [.bool d.s, VN d.m, .int .i64 d.e], false)),
     (12, (.box [.bool S.lo.s, NN S.lo.m, .int .i64 S.lo.e, .bool S.hi.s, NN S.hi.m, .int .i64 S.hi.e], false)), (14, (.box [.bool M.lo.s, NN M.lo.m, .int .i64 M.lo.e, .bool M.hi.s, NN M.hi.m, .int .i64 M.hi.e], false)),
     (16, (.box [.bool T.lo.s, NN T.lo.m, .int .i64 T.lo.e, .bool T.hi.s, NN T.hi.m, .int .i64 T.hi.e], false)), (18, (.box [.bool w.s, NN w.m, .int .i64 w.e], false))]⟩) (fun _ => True) ?_ (fun _ _ => ?_)
  · simp only [Tryd.f4, qfirst_succ, qfirst_zero, after_succ, after_zero, go_sem, Int.reduceToNat, Int.reduceEq, Int.reduceNe, Int.reduceLT, Int.reduceLE, Int.reduceNeg, Int.reduceAdd, ↓reduceIte, ↓reduceCtorEq, Nat.reduceEqDiff, Nat.reduceAdd, Nat.reduceSub, Nat.reduceMul, Nat.reduceLeDiff, Nat.reduceLT]
    refine qcall_i (kO _ _ _ _ _ _) ?_; simp only [Tryd.f4, qfirst_succ, qfirst_zero, after_succ, after_zero, go_sem, Int.reduceToNat, Int.reduceEq, Int.reduceNe, Int.reduceLT, Int.reduceLE, Int.reduceNeg, Int.reduceAdd, ↓reduceIte, ↓reduceCtorEq, Nat.reduceEqDiff, Nat.reduceAdd, Nat.reduceSub, Nat.reduceMul, Nat.reduceLeDiff, Nat.reduceLT]
    refine qcall_i (kR) ?_; simp only [Tryd.f4, qfirst_succ, qfirst_zero, after_succ, after_zero, go_sem, Int.reduceToNat, Int.reduceEq, Int.reduceNe, Int.reduceLT, Int.reduceLE, Int.reduceNeg, Int.reduceAdd, ↓reduceIte, ↓reduceCtorEq, Nat.reduceEqDiff, Nat.reduceAdd, Nat.reduceSub, Nat.reduceMul, Nat.reduceLeDiff, Nat.reduceLT]
    refine qcall_i (kO _ _ _ _ _ _) ?_; simp only [Tryd.f4, qfirst_succ, qfirst_zero, after_succ, after_zero, go_sem, Int.reduceToNat, Int.reduceEq, Int.reduceNe, Int.reduceLT, Int.reduceLE, Int.reduceNeg, Int.reduceAdd, ↓reduceIte, ↓reduceCtorEq, Nat.reduceEqDiff, Nat.reduceAdd, Nat.reduceSub, Nat.reduceMul, Nat.reduceLeDiff, Nat.reduceLT]
    refine qcall_i (kH) ?_; simp only [Tryd.f4, qfirst_succ, qfirst_zero, after_succ, after_zero, go_sem, Int.reduceToNat, Int.reduceEq, Int.reduceNe, Int.reduceLT, Int.reduceLE, Int.reduceNeg, Int.reduceAdd, ↓reduceIte, ↓reduceCtorEq, Nat.reduceEqDiff, Nat.reduceAdd, Nat.reduceSub, Nat.reduceMul, Nat.reduceLeDiff, Nat.reduceLT]
    refine qcall_i (kO _ _ _ _ _ _) ?_; simp only [Tryd.f4, qfirst_succ, qfirst_zero, after_succ, after_zero, go_sem, Int.reduceToNat, Int.reduceEq, Int.reduceNe, Int.reduceLT, Int.reduceLE, Int.reduceNeg, Int.reduceAdd, ↓reduceIte, ↓reduceCtorEq, Nat.reduceEqDiff, Nat.reduceAdd, Nat.reduceSub, Nat.reduceMul, Nat.reduceLeDiff, Nat.reduceLT]
    refine qcall_i (kO _ _ _ _ _ _) ?_; simp only [Tryd.f4, qfirst_succ, qfirst_zero, after_succ, after_zero, go_sem, Int.reduceToNat, Int.reduceEq, Int.reduceNe, Int.reduceLT, Int.reduceLE, Int.reduceNeg, Int.reduceAdd, ↓reduceIte, ↓reduceCtorEq, Nat.reduceEqDiff, Nat.reduceAdd, Nat.reduceSub, Nat.reduceMul, Nat.reduceLeDiff, Nat.reduceLT]
    refine qcall_i (kI) ?_; simp only [Tryd.f4, qfirst_succ, qfirst_zero, after_succ, after_zero, go_sem, Int.reduceToNat, Int.reduceEq, Int.reduceNe, Int.reduceLT, Int.reduceLE, Int.reduceNeg, Int.reduceAdd, ↓reduceIte, ↓reduceCtorEq, Nat.reduceEqDiff, Nat.reduceAdd, Nat.reduceSub, Nat.reduceMul, Nat.reduceLeDiff, Nat.reduceLT]
    refine ⟨(), ?_⟩
    simp [Wk, sget, killL, kill1, SV.key, setCells]
  clear kA kM kT kW kR kH kI kO c1 c2 c3 c4 c5 c6 hhas hins
  refine PSem.last follows (by kernel_rfl) ?_
  by_cases hr : Iv.right ⟨a1, a2⟩
  case neg =>
    rw [if_neg (fun h => hr h.1)] at hS hM hse
    rw [if_neg hr] at hT hte hw
    rw [decide_eq_false hr]
    subst hS hM hse hT hte hw
    simp only [Iv.zero, Dy.zero, NN_zero]
    simp only [Tryd.f4, after_succ, after_zero, go_sem, Int.reduceToNat, Int.reduceEq, Int.reduceNe, Int.reduceLT, Int.reduceLE, Int.reduceNeg, Int.reduceAdd, ↓reduceIte, ↓reduceCtorEq, Nat.reduceEqDiff, Nat.reduceAdd, Nat.reduceSub, Nat.reduceMul, Nat.reduceLeDiff, Nat.reduceLT]
    try decide
  rw [if_pos hr] at hT hte hw
  rw [decide_eq_true hr]
  subst hT hte hw
  have t1 := l_Add L2.N L1.N.negN (by decide)
  have t2 := l_To (L2.N.add L1.N.negN) (by decide)
  rw [addD_bare L2.N L1.N.negN (by decide), negN_bare L1.N (by decide), L2.bare (by decide), L1.bare (by decide)] at t2
  have t3 := l_Ends (i := ⟨a1, a2⟩) (k := ⟨d, d⟩) L1.N L2.N L5.N L5.N (by decide)
  have t4 := c_5Same (addS a2 a1.neg) (addS a2 a1.neg) (by have := (L2.add L1.neg (by decide)).bits; omega)
  rw [decide_eq_true rfl] at t4
  have Lm := Li.mul (k := ⟨d, d⟩) (J := 3640) ⟨L5, L5⟩
  have t5 := c_15tells Lm Lm.1.N Lm.2.N (by decide)
  rw [Lm.1.bare (by decide), Lm.2.bare (by decide), decide_eq_true ⟨rfl, rfl⟩] at t5
  generalize addD a2 a1.negN = u1 at *
  generalize addS a2 a1.neg = u2 at *
  generalize mulI ⟨a1, a2⟩ ⟨d, d⟩ = u3 at *
  simp only [Iv.pv, Iv.nv, Dy.pv, Dy.nv, DP, Dy.negN] at t1 t2 t3 t4 t5
  by_cases hq' : Iv.right ⟨b1, b2⟩
  case neg =>
    rw [if_neg (fun h => hq' h.2)] at hS hM hse
    rw [decide_eq_false hq']
    subst hS hM hse
    simp only [Iv.zero, Dy.zero, NN_zero]
    simp only [Tryd.f4, after_succ, after_zero, go_sem, Int.reduceToNat, Int.reduceEq, Int.reduceNe, Int.reduceLT, Int.reduceLE, Int.reduceNeg, Int.reduceAdd, ↓reduceIte, ↓reduceCtorEq, Nat.reduceEqDiff, Nat.reduceAdd, Nat.reduceSub, Nat.reduceMul, Nat.reduceLeDiff, Nat.reduceLT]
    refine qcall_i (t1) ?_; simp only [Tryd.f4, go_sem, Int.reduceToNat, Int.reduceEq, Int.reduceNe, Int.reduceLT, Int.reduceLE, Int.reduceNeg, Int.reduceAdd, ↓reduceIte, ↓reduceCtorEq, Nat.reduceEqDiff, Nat.reduceAdd, Nat.reduceSub, Nat.reduceMul, Nat.reduceLeDiff, Nat.reduceLT]
    refine qcall_i (t2) ?_; simp only [Tryd.f4, go_sem, Int.reduceToNat, Int.reduceEq, Int.reduceNe, Int.reduceLT, Int.reduceLE, Int.reduceNeg, Int.reduceAdd, ↓reduceIte, ↓reduceCtorEq, Nat.reduceEqDiff, Nat.reduceAdd, Nat.reduceSub, Nat.reduceMul, Nat.reduceLeDiff, Nat.reduceLT]
    refine qcall_i (t3) ?_; simp only [Tryd.f4, go_sem, Int.reduceToNat, Int.reduceEq, Int.reduceNe, Int.reduceLT, Int.reduceLE, Int.reduceNeg, Int.reduceAdd, ↓reduceIte, ↓reduceCtorEq, Nat.reduceEqDiff, Nat.reduceAdd, Nat.reduceSub, Nat.reduceMul, Nat.reduceLeDiff, Nat.reduceLT]
    refine qcall_i (t4) ?_; simp only [Tryd.f4, go_sem, Int.reduceToNat, Int.reduceEq, Int.reduceNe, Int.reduceLT, Int.reduceLE, Int.reduceNeg, Int.reduceAdd, ↓reduceIte, ↓reduceCtorEq, Nat.reduceEqDiff, Nat.reduceAdd, Nat.reduceSub, Nat.reduceMul, Nat.reduceLeDiff, Nat.reduceLT]
    refine qcall_i (t5) ?_; simp only [Tryd.f4, go_sem, Int.reduceToNat, Int.reduceEq, Int.reduceNe, Int.reduceLT, Int.reduceLE, Int.reduceNeg, Int.reduceAdd, ↓reduceIte, ↓reduceCtorEq, Nat.reduceEqDiff, Nat.reduceAdd, Nat.reduceSub, Nat.reduceMul, Nat.reduceLeDiff, Nat.reduceLT]
    try exact decide_eq_true rfl
  rw [if_pos ⟨hr, hq'⟩] at hS hM hse
  rw [decide_eq_true hq']
  subst hS hM hse
  have t6 := l_Ends (i := ⟨a1, a2⟩) (k := ⟨b1, b2⟩) L1.N L2.N L3.N L4.N (by decide)
  have t7 := l_Add L1.N L3.N (by decide)
  have t8 := l_Add L2.N L4.N (by decide)
  have t9 := c_15tells (Li.add Lk (by decide)) (L1.N.add L3.N) (L2.N.add L4.N) (by decide)
  rw [addD_bare L1.N L3.N (by decide), addD_bare L2.N L4.N (by decide), L1.bare (by decide), L2.bare (by decide), L3.bare (by decide), L4.bare (by decide), decide_eq_true ⟨rfl, rfl⟩] at t9
  have Ln := Li.mul Lk
  have t10 := c_15tells Ln Ln.1.N Ln.2.N (by decide)
  rw [Ln.1.bare (by decide), Ln.2.bare (by decide), decide_eq_true ⟨rfl, rfl⟩] at t10
  unfold addI at t9 ⊢
  generalize addD a1 b1 = u4 at *
  generalize addD a2 b2 = u5 at *
  generalize addS a1 b1 = u6 at *
  generalize addS a2 b2 = u7 at *
  generalize mulI ⟨a1, a2⟩ ⟨b1, b2⟩ = u8 at *
  simp only [Iv.pv, Iv.nv, Dy.pv, Dy.nv, DP] at t6 t7 t8 t9 t10
  simp only [Tryd.f4, after_succ, after_zero, go_sem, Int.reduceToNat, Int.reduceEq, Int.reduceNe, Int.reduceLT, Int.reduceLE, Int.reduceNeg, Int.reduceAdd, ↓reduceIte, ↓reduceCtorEq, Nat.reduceEqDiff, Nat.reduceAdd, Nat.reduceSub, Nat.reduceMul, Nat.reduceLeDiff, Nat.reduceLT]
  refine qcall_i (t1) ?_; simp only [Tryd.f4, go_sem, Int.reduceToNat, Int.reduceEq, Int.reduceNe, Int.reduceLT, Int.reduceLE, Int.reduceNeg, Int.reduceAdd, ↓reduceIte, ↓reduceCtorEq, Nat.reduceEqDiff, Nat.reduceAdd, Nat.reduceSub, Nat.reduceMul, Nat.reduceLeDiff, Nat.reduceLT]
  refine qcall_i (t2) ?_; simp only [Tryd.f4, go_sem, Int.reduceToNat, Int.reduceEq, Int.reduceNe, Int.reduceLT, Int.reduceLE, Int.reduceNeg, Int.reduceAdd, ↓reduceIte, ↓reduceCtorEq, Nat.reduceEqDiff, Nat.reduceAdd, Nat.reduceSub, Nat.reduceMul, Nat.reduceLeDiff, Nat.reduceLT]
  refine qcall_i (t3) ?_; simp only [Tryd.f4, go_sem, Int.reduceToNat, Int.reduceEq, Int.reduceNe, Int.reduceLT, Int.reduceLE, Int.reduceNeg, Int.reduceAdd, ↓reduceIte, ↓reduceCtorEq, Nat.reduceEqDiff, Nat.reduceAdd, Nat.reduceSub, Nat.reduceMul, Nat.reduceLeDiff, Nat.reduceLT]
  refine qcall_i (t4) ?_; simp only [Tryd.f4, go_sem, Int.reduceToNat, Int.reduceEq, Int.reduceNe, Int.reduceLT, Int.reduceLE, Int.reduceNeg, Int.reduceAdd, ↓reduceIte, ↓reduceCtorEq, Nat.reduceEqDiff, Nat.reduceAdd, Nat.reduceSub, Nat.reduceMul, Nat.reduceLeDiff, Nat.reduceLT]
  refine qcall_i (t5) ?_; simp only [Tryd.f4, go_sem, Int.reduceToNat, Int.reduceEq, Int.reduceNe, Int.reduceLT, Int.reduceLE, Int.reduceNeg, Int.reduceAdd, ↓reduceIte, ↓reduceCtorEq, Nat.reduceEqDiff, Nat.reduceAdd, Nat.reduceSub, Nat.reduceMul, Nat.reduceLeDiff, Nat.reduceLT]
  refine qcall_i (t6) ?_; simp only [Tryd.f4, go_sem, Int.reduceToNat, Int.reduceEq, Int.reduceNe, Int.reduceLT, Int.reduceLE, Int.reduceNeg, Int.reduceAdd, ↓reduceIte, ↓reduceCtorEq, Nat.reduceEqDiff, Nat.reduceAdd, Nat.reduceSub, Nat.reduceMul, Nat.reduceLeDiff, Nat.reduceLT]
  refine qcall_i (t7) ?_; simp only [Tryd.f4, go_sem, Int.reduceToNat, Int.reduceEq, Int.reduceNe, Int.reduceLT, Int.reduceLE, Int.reduceNeg, Int.reduceAdd, ↓reduceIte, ↓reduceCtorEq, Nat.reduceEqDiff, Nat.reduceAdd, Nat.reduceSub, Nat.reduceMul, Nat.reduceLeDiff, Nat.reduceLT]
  refine qcall_i (t8) ?_; simp only [Tryd.f4, go_sem, Int.reduceToNat, Int.reduceEq, Int.reduceNe, Int.reduceLT, Int.reduceLE, Int.reduceNeg, Int.reduceAdd, ↓reduceIte, ↓reduceCtorEq, Nat.reduceEqDiff, Nat.reduceAdd, Nat.reduceSub, Nat.reduceMul, Nat.reduceLeDiff, Nat.reduceLT]
  refine qcall_i (t9) ?_; simp only [Tryd.f4, go_sem, Int.reduceToNat, Int.reduceEq, Int.reduceNe, Int.reduceLT, Int.reduceLE, Int.reduceNeg, Int.reduceAdd, ↓reduceIte, ↓reduceCtorEq, Nat.reduceEqDiff, Nat.reduceAdd, Nat.reduceSub, Nat.reduceMul, Nat.reduceLeDiff, Nat.reduceLT]
  refine qcall_i (t10) ?_; simp only [Tryd.f4, go_sem, Int.reduceToNat, Int.reduceEq, Int.reduceNe, Int.reduceLT, Int.reduceLE, Int.reduceNeg, Int.reduceAdd, ↓reduceIte, ↓reduceCtorEq, Nat.reduceEqDiff, Nat.reduceAdd, Nat.reduceSub, Nat.reduceMul, Nat.reduceLeDiff, Nat.reduceLT]
end Go.Proofs.YtfogjddcagckaaaDoor
