/- The contract of the law IvShort: at whatever reads as its arguments it returns true. -/
import Derived.Test.YtfogjddcagckaaaDoorSh2
import Derived.Test.YtfogjddcagckaaaDoorLIvTells
open Go PG Go.Proofs
set_option maxRecDepth 100000
set_option linter.unusedSimpArgs false
set_option linter.unusedVariables false
namespace Go.Proofs.YtfogjddcagckaaaDoor
attribute [local go_sem] Lay2 Lay3 Lay4 Lay5 Lay6 Lay7 Lay8 Lay9 Lay10 Lay11 Lay12 Lay13 Lay14 Lay21 Lay22 Lay23 Lay24 Lay27 Lay28 Lay29 Lay35 Lay36 Lay38 Lay39 Lay40 Lay42 Lay43 Lay45 Lay46 Lay67 Lay81 Lay82 Lay83 Lay84 Lay85 Lay86 Lay87 Lay90 Lay93 Lay94 Lay116 Lay132 Lay138 Lay145 Lay162 Lay163 Lay201 qexec_seq qexec_skip qexec_exit qexec_ret qexec_block qexec_loop qexec_range qexec_cond qexec_region qexec_drawn qops_nil qops_none qops_some put_some put_none pblk_exit pblk_other newDsts_nil sget_cons sget_nil qval_some qbool_some qgs_bool qgs_und qfree_some qgrd_true qgrd_false qif_true qif_false qval_ite qval_itn qand_true map_ite map_some' map_none' qdo_move qdo_assign qdo_binOp qdo_pick qdo_unOp qdo_convert qdo_extract qdo_field qdo_fieldAddr qdo_alloc qdo_box qdo_build qdo_buildSlice qdo_load qdo_store qdo_nilCheck qdo_makeFunc qdo_makeSlice qdo_slice qdo_indexAddr qdo_call qcont_val qcont_new qcont_st qcont_app0 qcont_app qcont_inl qcont_call njSV_val njSV_nil njSV_row njSV_ptr njSV_sub binV_val binV_nil binV_nn nilCmp bin_add bin_sub bin_mul bin_quo bin_rem bin_and bin_or bin_xor bin_andNot bin_eql bin_neq bin_lss bin_leq bin_gtr bin_geq bin_shl bin_shr bin_seql bin_sneq bin_sadd bin_beql bin_aeql bin_aneq eqAnd_some eqCells_nil eqCells_cons fieldTypes isStruct eqCell bin_bneq un_not un_neg nj_ite Nat.beq stepA stepR isNew opSV constSV RV.sv allSome E_mu E_own qkeyIn_none qkeyIn_some qkeyAt_none qkeyAt_some Bool.or_false Bool.false_or Bool.or_true Bool.true_or cst setB res resSV pstart startL killL kill1 eraL frzL svPV rvPV rvInt rvSlice frzOf close closeL pconv pbuiltin pmax2 partPV setCells fillPV zrow bound newSV PV.cells Bk.cells Bk.with SV.key pres presL_nil presL_tmp presL_cell presC2_some cellPV_ptr presC List.toList_toArray List.size_toArray List.getElem?_drop Nat.mul_one Int.toNat_natCast Nat.not_lt_zero Nat.lt_irrefl decide_true decide_false Nat.not_lt Option.some.injEq PV.lst.injEq PV.int.injEq PV.bool.injEq PV.tuple.injEq List.cons.injEq Option.map_some Option.map_none Option.bind_some Option.toList List.map_cons List.map_nil List.nil_append List.cons_append List.append_nil List.zip_cons_cons List.zip_nil_left List.zip_nil_right List.getElem?_cons_zero List.getElem?_cons_succ List.drop_zero List.drop_succ_cons List.take_succ_cons List.take_zero List.set_cons_zero List.set_cons_succ List.length_cons List.length_nil List.length_set List.replicate_one List.replicate_zero bne_self_eq_false beq_self_eq_true Nat.zero_add Nat.add_zero Nat.zero_mul Bool.false_eq_true Bool.true_eq_false Bool.not_true Bool.not_false and_true true_and false_and and_false or_false false_or or_true true_or not_true_eq_false not_false_eq_true ne_eq gt_iff_lt List.mem_cons List.not_mem_nil
attribute [local go_sem ↓] pseq_normal pseq_ret pseq_exit pblk_normal pblk_ret newDsts_cons gdst_zero gdst_succ retQ_normal retQ_ret qneed_nil qneed_cons retM_normal retM_ret endR_normal endR_ret endR_exit

set_option maxHeartbeats 2000000 in
theorem law_IvShort (pvs : List PV) (h : Fits [qJ, qInt] pvs) : PC E 8 pvs (.bool true) := by
  obtain ⟨_, _, rfl, ⟨s1, l1, e1, s2, l2, e2, rfl, o1, o2⟩, ⟨b, rfl, hb0, hb1⟩⟩ := fits2 h
  simp only [NL]
  refine PC.of_sem Tryd.func8 (by decide +kernel) rfl (Nat.le_of_ble_eq_true rfl) ?_
  refine PSem.cut follows (by kernel_rfl) 3 (fun _ : Unit => ⟨[(1, .val (.int .i64 b)), (2, .ptr 2 0)],
    [(2, (.box [.bool s1, .lst l1.length (U l1), .int .i64 e1, .bool s2, .lst l2.length (U l2), .int .i64 e2], false))]⟩)
    (fun _ => nearP l1.length e1 ∧ nearP l2.length e2) ?_ (fun _ hJ => ?_)
  · simp only [Tryd.f8, qfirst_succ, qfirst_zero, after_succ, after_zero, go_sem, Int.reduceToNat, Int.reduceEq, Int.reduceNe, Int.reduceLT, Int.reduceLE, Int.reduceNeg, Int.reduceAdd, ↓reduceIte, ↓reduceCtorEq, Nat.reduceEqDiff, Nat.reduceAdd, Nat.reduceSub, Nat.reduceMul, Nat.reduceLeDiff, Nat.reduceLT]
    refine qcall_i (c_alive15) ?_; simp only [Tryd.f8, qfirst_succ, qfirst_zero, after_succ, after_zero, go_sem, Int.reduceToNat, Int.reduceEq, Int.reduceNe, Int.reduceLT, Int.reduceLE, Int.reduceNeg, Int.reduceAdd, ↓reduceIte, ↓reduceCtorEq, Nat.reduceEqDiff, Nat.reduceAdd, Nat.reduceSub, Nat.reduceMul, Nat.reduceLeDiff, Nat.reduceLT]
    refine qcall_i (c_15Near) ?_; simp only [Tryd.f8, qfirst_succ, qfirst_zero, after_succ, after_zero, go_sem, Int.reduceToNat, Int.reduceEq, Int.reduceNe, Int.reduceLT, Int.reduceLE, Int.reduceNeg, Int.reduceAdd, ↓reduceIte, ↓reduceCtorEq, Nat.reduceEqDiff, Nat.reduceAdd, Nat.reduceSub, Nat.reduceMul, Nat.reduceLeDiff, Nat.reduceLT]
    refine qif_i (fun h1 => ?_) (fun h1 => ?_)
    · simp only [Tryd.f8, qfirst_succ, qfirst_zero, after_succ, after_zero, go_sem, Int.reduceToNat, Int.reduceEq, Int.reduceNe, Int.reduceLT, Int.reduceLE, Int.reduceNeg, Int.reduceAdd, ↓reduceIte, ↓reduceCtorEq, Nat.reduceEqDiff, Nat.reduceAdd, Nat.reduceSub, Nat.reduceMul, Nat.reduceLeDiff, Nat.reduceLT]
    have h1 : nearP l1.length e1 ∧ nearP l2.length e2 := by simpa using h1
    simp only [Tryd.f8, qfirst_succ, qfirst_zero, after_succ, after_zero, go_sem, Int.reduceToNat, Int.reduceEq, Int.reduceNe, Int.reduceLT, Int.reduceLE, Int.reduceNeg, Int.reduceAdd, ↓reduceIte, ↓reduceCtorEq, Nat.reduceEqDiff, Nat.reduceAdd, Nat.reduceSub, Nat.reduceMul, Nat.reduceLeDiff, Nat.reduceLT]
    refine ⟨(), h1, ?_⟩
    simp [Wk, sget, killL, kill1, SV.key, setCells]
  obtain ⟨n1, n2⟩ := hJ
  have r1 := near_rd (s := s1) n1 o1
  have r2 := near_rd (s := s2) n2 o2
  have L1 := near_lim (s := s1) n1 o1
  have L2 := near_lim (s := s2) n2 o2
  have m1 : bitLen (mkD s1 (vl l1) e1).m ≤ 640 := Nat.le_trans (mkD_bits _ _ _) (by have := bits_of_vl o1; have := n1.1; omega)
  have m2 : bitLen (mkD s2 (vl l2) e2).m ≤ 640 := Nat.le_trans (mkD_bits _ _ _) (by have := bits_of_vl o2; have := n2.1; omega)
  generalize mkD s1 (vl l1) e1 = a1 at *
  generalize mkD s2 (vl l2) e2 = a2 at *
  simp only [DP, NL] at r1 r2
  generalize PV.lst l1.length (U l1) = P1 at *
  generalize PV.lst l2.length (U l2) = P2 at *
  clear n1 n2 o1 o2 h
  have ri : RI (.agg [.bool s1, P1, .int .i64 e1, .bool s2, P2, .int .i64 e2]) ⟨a1, a2⟩ := ⟨_, _, _, _, _, _, rfl, r1, r2⟩
  have Li : Iv.lim 3640 ⟨a1, a2⟩ := ⟨L1, L2⟩
  have kO := fun s1 P1 e1 s2 P2 e2 => q_15Of (l := []) (s1 := s1) (P1 := P1) (e1 := e1) (s2 := s2) (P2 := P2) (e2 := e2)
  have kR := q_Right ri
  have kF1 := r_5Of r1
  have kF2 := r_5Of r2
  refine PSem.last follows (by kernel_rfl) ?_
  by_cases hc : Iv.right ⟨a1, a2⟩ ∧ 1 ≤ b ∧ b ≤ 4096
  case neg =>
    have kS := q_ShortN ri hc
    simp only [Iv.pv, Iv.zero, Dy.zero, NN_zero, DP] at kO kR kS
    by_cases hr : Iv.right ⟨a1, a2⟩
    · rw [decide_eq_true hr] at kR
      simp only [Tryd.f8, after_succ, after_zero, go_sem, Int.reduceToNat, Int.reduceEq, Int.reduceNe, Int.reduceLT, Int.reduceLE, Int.reduceNeg, Int.reduceAdd, ↓reduceIte, ↓reduceCtorEq, Nat.reduceEqDiff, Nat.reduceAdd, Nat.reduceSub, Nat.reduceMul, Nat.reduceLeDiff, Nat.reduceLT]
      refine qcall_i (kO _ _ _ _ _ _) ?_; simp only [Tryd.f8, go_sem, Int.reduceToNat, Int.reduceEq, Int.reduceNe, Int.reduceLT, Int.reduceLE, Int.reduceNeg, Int.reduceAdd, ↓reduceIte, ↓reduceCtorEq, Nat.reduceEqDiff, Nat.reduceAdd, Nat.reduceSub, Nat.reduceMul, Nat.reduceLeDiff, Nat.reduceLT]
      refine qcall_i (kS) ?_; simp only [Tryd.f8, go_sem, Int.reduceToNat, Int.reduceEq, Int.reduceNe, Int.reduceLT, Int.reduceLE, Int.reduceNeg, Int.reduceAdd, ↓reduceIte, ↓reduceCtorEq, Nat.reduceEqDiff, Nat.reduceAdd, Nat.reduceSub, Nat.reduceMul, Nat.reduceLeDiff, Nat.reduceLT]
      refine qcall_i (kO _ _ _ _ _ _) ?_; simp only [Tryd.f8, go_sem, Int.reduceToNat, Int.reduceEq, Int.reduceNe, Int.reduceLT, Int.reduceLE, Int.reduceNeg, Int.reduceAdd, ↓reduceIte, ↓reduceCtorEq, Nat.reduceEqDiff, Nat.reduceAdd, Nat.reduceSub, Nat.reduceMul, Nat.reduceLeDiff, Nat.reduceLT]
      refine qcall_i (kR) ?_; simp only [Tryd.f8, go_sem, Int.reduceToNat, Int.reduceEq, Int.reduceNe, Int.reduceLT, Int.reduceLE, Int.reduceNeg, Int.reduceAdd, ↓reduceIte, ↓reduceCtorEq, Nat.reduceEqDiff, Nat.reduceAdd, Nat.reduceSub, Nat.reduceMul, Nat.reduceLeDiff, Nat.reduceLT]
      by_cases hb2 : b < 1
      · refine qif_dt hb2 ?_
        simp only [Tryd.f8, go_sem, Int.reduceToNat, Int.reduceEq, Int.reduceNe, Int.reduceLT, Int.reduceLE, Int.reduceNeg, Int.reduceAdd, ↓reduceIte, ↓reduceCtorEq, Nat.reduceEqDiff, Nat.reduceAdd, Nat.reduceSub, Nat.reduceMul, Nat.reduceLeDiff, Nat.reduceLT]
        try exact decide_eq_true rfl
      · refine qif_df hb2 ?_
        simp only [Tryd.f8, go_sem, Int.reduceToNat, Int.reduceEq, Int.reduceNe, Int.reduceLT, Int.reduceLE, Int.reduceNeg, Int.reduceAdd, ↓reduceIte, ↓reduceCtorEq, Nat.reduceEqDiff, Nat.reduceAdd, Nat.reduceSub, Nat.reduceMul, Nat.reduceLeDiff, Nat.reduceLT]
        refine qif_dt (Int.not_le.1 fun h => hc ⟨hr, by omega, h⟩) ?_
        simp only [Tryd.f8, go_sem, Int.reduceToNat, Int.reduceEq, Int.reduceNe, Int.reduceLT, Int.reduceLE, Int.reduceNeg, Int.reduceAdd, ↓reduceIte, ↓reduceCtorEq, Nat.reduceEqDiff, Nat.reduceAdd, Nat.reduceSub, Nat.reduceMul, Nat.reduceLeDiff, Nat.reduceLT]
        try exact decide_eq_true rfl
    · rw [decide_eq_false hr] at kR
      simp only [Tryd.f8, after_succ, after_zero, go_sem, Int.reduceToNat, Int.reduceEq, Int.reduceNe, Int.reduceLT, Int.reduceLE, Int.reduceNeg, Int.reduceAdd, ↓reduceIte, ↓reduceCtorEq, Nat.reduceEqDiff, Nat.reduceAdd, Nat.reduceSub, Nat.reduceMul, Nat.reduceLeDiff, Nat.reduceLT]
      refine qcall_i (kO _ _ _ _ _ _) ?_; simp only [Tryd.f8, go_sem, Int.reduceToNat, Int.reduceEq, Int.reduceNe, Int.reduceLT, Int.reduceLE, Int.reduceNeg, Int.reduceAdd, ↓reduceIte, ↓reduceCtorEq, Nat.reduceEqDiff, Nat.reduceAdd, Nat.reduceSub, Nat.reduceMul, Nat.reduceLeDiff, Nat.reduceLT]
      refine qcall_i (kS) ?_; simp only [Tryd.f8, go_sem, Int.reduceToNat, Int.reduceEq, Int.reduceNe, Int.reduceLT, Int.reduceLE, Int.reduceNeg, Int.reduceAdd, ↓reduceIte, ↓reduceCtorEq, Nat.reduceEqDiff, Nat.reduceAdd, Nat.reduceSub, Nat.reduceMul, Nat.reduceLeDiff, Nat.reduceLT]
      refine qcall_i (kO _ _ _ _ _ _) ?_; simp only [Tryd.f8, go_sem, Int.reduceToNat, Int.reduceEq, Int.reduceNe, Int.reduceLT, Int.reduceLE, Int.reduceNeg, Int.reduceAdd, ↓reduceIte, ↓reduceCtorEq, Nat.reduceEqDiff, Nat.reduceAdd, Nat.reduceSub, Nat.reduceMul, Nat.reduceLeDiff, Nat.reduceLT]
      refine qcall_i (kR) ?_; simp only [Tryd.f8, go_sem, Int.reduceToNat, Int.reduceEq, Int.reduceNe, Int.reduceLT, Int.reduceLE, Int.reduceNeg, Int.reduceAdd, ↓reduceIte, ↓reduceCtorEq, Nat.reduceEqDiff, Nat.reduceAdd, Nat.reduceSub, Nat.reduceMul, Nat.reduceLeDiff, Nat.reduceLT]
      try exact decide_eq_true rfl
  obtain ⟨hr, hb⟩ := hc
  rw [decide_eq_true hr] at kR
  have hu : ∀ d : Dy, shU d b = d.top - b + 1 := fun _ => rfl
  have kS := q_Short ri Li (by decide) hb hr ⟨fun (h0 : a1.m ≠ 0) => by have := hu a1; have := top_of h0; show shU a1 b - a1.e ≤ 4096; omega, fun (h0 : a2.m ≠ 0) => by have := hu a2; have := top_of h0; show shU a2 b - a2.e ≤ 4096; omega⟩
  have Ls1 := shS_lim L1 (by decide) hb (dir := 3) (.inr rfl)
  have Ls2 := shS_lim L2 (by decide) hb (dir := 2) (.inl rfl)
  have i1 := shS_id L1 (by decide) hb (dir := 3) (.inr rfl)
  have i2 := shS_id L2 (by decide) hb (dir := 2) (.inl rfl)
  have c1 := (shS_le L1 (by decide) hb).1
  have c2 := (shS_le L2 (by decide) hb).2
  have hrr : Iv.right (shI ⟨a1, a2⟩ b) := ⟨Ls1.fits (by decide), Ls2.fits (by decide), cmp_trans c1 (cmp_trans hr.2.2 c2)⟩
  have Lt : (shI ⟨a1, a2⟩ b).lim 3641 := ⟨Ls1, Ls2⟩
  have hin : Iv.inside ⟨a1, a2⟩ (shI ⟨a1, a2⟩ b) := ⟨hr, ⟨hrr, hr.1, c1, cmp_trans hr.2.2 c2⟩, ⟨hrr, hr.2.1, cmp_trans c1 hr.2.2, c2⟩⟩
  have hUU : ∀ {d : Dy} {dir : Int}, shS d b dir = d → (d.m ≠ 0 → shU d b - d.e ≤ 4096) → True := fun _ _ => trivial
  have u1 : (shS a1 b 3).m ≠ 0 → shU (shS a1 b 3) b - (shS a1 b 3).e ≤ 4096 := fun hm => by
    by_cases h0 : a1.m = 0 ∨ shU a1 b ≤ a1.e
    · have e : shS a1 b 3 = a1 := by unfold shS; rw [if_pos h0]
      rw [e] at hm ⊢
      have := hu a1; have := top_of hm; omega
    · have := (shS_spec L1 (by decide) hb (dir := 3) (.inr rfl) (fun h => h0 (.inl h)) (by omega)).2.2.2.2.2.2 hm
      omega
  have u2 : (shS a2 b 2).m ≠ 0 → shU (shS a2 b 2) b - (shS a2 b 2).e ≤ 4096 := fun hm => by
    by_cases h0 : a2.m = 0 ∨ shU a2 b ≤ a2.e
    · have e : shS a2 b 2 = a2 := by unfold shS; rw [if_pos h0]
      rw [e] at hm ⊢
      have := hu a2; have := top_of hm; omega
    · have := (shS_spec L2 (by decide) hb (dir := 2) (.inl rfl) (fun h => h0 (.inl h)) (by omega)).2.2.2.2.2.2 hm
      omega
  have kT := q_Short (Lt.RI (by decide)) Lt (by decide) hb hrr ⟨u1, u2⟩
  have eT : shI (shI ⟨a1, a2⟩ b) b = shI ⟨a1, a2⟩ b := by
    show (⟨shS (shS a1 b 3) b 3, shS (shS a2 b 2) b 2⟩ : Iv) = ⟨shS a1 b 3, shS a2 b 2⟩
    rw [i1, i2]
  rw [eT] at kT
  have kI := q_Inside ri (Lt.RI (by decide))
  rw [decide_eq_true hin] at kI
  have kC1 := r_Cmp (Ls1.RD (by decide)) (Ls1.RD (by decide))
  have kC2 := r_Cmp (Ls2.RD (by decide)) (Ls2.RD (by decide))
  rw [cmp_self] at kC1 kC2
  have kG1 := r_5Of (Ls1.RD (by decide))
  have kG2 := r_5Of (Ls2.RD (by decide))
  have kE1 := c_end L1 (by decide) hb (dir := 3) (.inr rfl)
  have kE2 := c_end L2 (by decide) hb (dir := 2) (.inl rfl)
  unfold shI at kS kT kI
  generalize shS a1 b 3 = x at *
  generalize shS a2 b 2 = y at *
  simp only [Iv.pv, Dy.pv, Dy.nv, DP] at kO kR kS kT kI kC1 kC2 kF1 kF2 kG1 kG2 kE1 kE2
  simp only [Tryd.f8, after_succ, after_zero, go_sem, Int.reduceToNat, Int.reduceEq, Int.reduceNe, Int.reduceLT, Int.reduceLE, Int.reduceNeg, Int.reduceAdd, ↓reduceIte, ↓reduceCtorEq, Nat.reduceEqDiff, Nat.reduceAdd, Nat.reduceSub, Nat.reduceMul, Nat.reduceLeDiff, Nat.reduceLT]
  refine qcall_i (kO _ _ _ _ _ _) ?_; simp only [Tryd.f8, go_sem, Int.reduceToNat, Int.reduceEq, Int.reduceNe, Int.reduceLT, Int.reduceLE, Int.reduceNeg, Int.reduceAdd, ↓reduceIte, ↓reduceCtorEq, Nat.reduceEqDiff, Nat.reduceAdd, Nat.reduceSub, Nat.reduceMul, Nat.reduceLeDiff, Nat.reduceLT]
  refine qcall_i (kS) ?_; simp only [Tryd.f8, go_sem, Int.reduceToNat, Int.reduceEq, Int.reduceNe, Int.reduceLT, Int.reduceLE, Int.reduceNeg, Int.reduceAdd, ↓reduceIte, ↓reduceCtorEq, Nat.reduceEqDiff, Nat.reduceAdd, Nat.reduceSub, Nat.reduceMul, Nat.reduceLeDiff, Nat.reduceLT]
  refine qcall_i (kO _ _ _ _ _ _) ?_; simp only [Tryd.f8, go_sem, Int.reduceToNat, Int.reduceEq, Int.reduceNe, Int.reduceLT, Int.reduceLE, Int.reduceNeg, Int.reduceAdd, ↓reduceIte, ↓reduceCtorEq, Nat.reduceEqDiff, Nat.reduceAdd, Nat.reduceSub, Nat.reduceMul, Nat.reduceLeDiff, Nat.reduceLT]
  refine qcall_i (kR) ?_; simp only [Tryd.f8, go_sem, Int.reduceToNat, Int.reduceEq, Int.reduceNe, Int.reduceLT, Int.reduceLE, Int.reduceNeg, Int.reduceAdd, ↓reduceIte, ↓reduceCtorEq, Nat.reduceEqDiff, Nat.reduceAdd, Nat.reduceSub, Nat.reduceMul, Nat.reduceLeDiff, Nat.reduceLT]
  refine qif_df (by omega) ?_
  simp only [Tryd.f8, go_sem, Int.reduceToNat, Int.reduceEq, Int.reduceNe, Int.reduceLT, Int.reduceLE, Int.reduceNeg, Int.reduceAdd, ↓reduceIte, ↓reduceCtorEq, Nat.reduceEqDiff, Nat.reduceAdd, Nat.reduceSub, Nat.reduceMul, Nat.reduceLeDiff, Nat.reduceLT]
  refine qif_df (by omega) ?_
  simp only [Tryd.f8, go_sem, Int.reduceToNat, Int.reduceEq, Int.reduceNe, Int.reduceLT, Int.reduceLE, Int.reduceNeg, Int.reduceAdd, ↓reduceIte, ↓reduceCtorEq, Nat.reduceEqDiff, Nat.reduceAdd, Nat.reduceSub, Nat.reduceMul, Nat.reduceLeDiff, Nat.reduceLT]
  refine qcall_i (kT) ?_; simp only [Tryd.f8, go_sem, Int.reduceToNat, Int.reduceEq, Int.reduceNe, Int.reduceLT, Int.reduceLE, Int.reduceNeg, Int.reduceAdd, ↓reduceIte, ↓reduceCtorEq, Nat.reduceEqDiff, Nat.reduceAdd, Nat.reduceSub, Nat.reduceMul, Nat.reduceLeDiff, Nat.reduceLT]
  refine qcall_i (kO _ _ _ _ _ _) ?_; simp only [Tryd.f8, go_sem, Int.reduceToNat, Int.reduceEq, Int.reduceNe, Int.reduceLT, Int.reduceLE, Int.reduceNeg, Int.reduceAdd, ↓reduceIte, ↓reduceCtorEq, Nat.reduceEqDiff, Nat.reduceAdd, Nat.reduceSub, Nat.reduceMul, Nat.reduceLeDiff, Nat.reduceLT]
  refine qcall_i (kI) ?_; simp only [Tryd.f8, go_sem, Int.reduceToNat, Int.reduceEq, Int.reduceNe, Int.reduceLT, Int.reduceLE, Int.reduceNeg, Int.reduceAdd, ↓reduceIte, ↓reduceCtorEq, Nat.reduceEqDiff, Nat.reduceAdd, Nat.reduceSub, Nat.reduceMul, Nat.reduceLeDiff, Nat.reduceLT]
  refine qcall_i (kC1) ?_; simp only [Tryd.f8, go_sem, Int.reduceToNat, Int.reduceEq, Int.reduceNe, Int.reduceLT, Int.reduceLE, Int.reduceNeg, Int.reduceAdd, ↓reduceIte, ↓reduceCtorEq, Nat.reduceEqDiff, Nat.reduceAdd, Nat.reduceSub, Nat.reduceMul, Nat.reduceLeDiff, Nat.reduceLT]
  refine qcall_i (kC2) ?_; simp only [Tryd.f8, go_sem, Int.reduceToNat, Int.reduceEq, Int.reduceNe, Int.reduceLT, Int.reduceLE, Int.reduceNeg, Int.reduceAdd, ↓reduceIte, ↓reduceCtorEq, Nat.reduceEqDiff, Nat.reduceAdd, Nat.reduceSub, Nat.reduceMul, Nat.reduceLeDiff, Nat.reduceLT]
  refine qcall_i (kF1) ?_; simp only [Tryd.f8, go_sem, Int.reduceToNat, Int.reduceEq, Int.reduceNe, Int.reduceLT, Int.reduceLE, Int.reduceNeg, Int.reduceAdd, ↓reduceIte, ↓reduceCtorEq, Nat.reduceEqDiff, Nat.reduceAdd, Nat.reduceSub, Nat.reduceMul, Nat.reduceLeDiff, Nat.reduceLT]
  refine qcall_i (kG1) ?_; simp only [Tryd.f8, go_sem, Int.reduceToNat, Int.reduceEq, Int.reduceNe, Int.reduceLT, Int.reduceLE, Int.reduceNeg, Int.reduceAdd, ↓reduceIte, ↓reduceCtorEq, Nat.reduceEqDiff, Nat.reduceAdd, Nat.reduceSub, Nat.reduceMul, Nat.reduceLeDiff, Nat.reduceLT]
  refine qcall_i (kE1) ?_; simp only [Tryd.f8, go_sem, Int.reduceToNat, Int.reduceEq, Int.reduceNe, Int.reduceLT, Int.reduceLE, Int.reduceNeg, Int.reduceAdd, ↓reduceIte, ↓reduceCtorEq, Nat.reduceEqDiff, Nat.reduceAdd, Nat.reduceSub, Nat.reduceMul, Nat.reduceLeDiff, Nat.reduceLT]
  refine qcall_i (kF2) ?_; simp only [Tryd.f8, go_sem, Int.reduceToNat, Int.reduceEq, Int.reduceNe, Int.reduceLT, Int.reduceLE, Int.reduceNeg, Int.reduceAdd, ↓reduceIte, ↓reduceCtorEq, Nat.reduceEqDiff, Nat.reduceAdd, Nat.reduceSub, Nat.reduceMul, Nat.reduceLeDiff, Nat.reduceLT]
  refine qcall_i (kG2) ?_; simp only [Tryd.f8, go_sem, Int.reduceToNat, Int.reduceEq, Int.reduceNe, Int.reduceLT, Int.reduceLE, Int.reduceNeg, Int.reduceAdd, ↓reduceIte, ↓reduceCtorEq, Nat.reduceEqDiff, Nat.reduceAdd, Nat.reduceSub, Nat.reduceMul, Nat.reduceLeDiff, Nat.reduceLT]
  refine qcall_i (kE2) ?_; simp only [Tryd.f8, go_sem, Int.reduceToNat, Int.reduceEq, Int.reduceNe, Int.reduceLT, Int.reduceLE, Int.reduceNeg, Int.reduceAdd, ↓reduceIte, ↓reduceCtorEq, Nat.reduceEqDiff, Nat.reduceAdd, Nat.reduceSub, Nat.reduceMul, Nat.reduceLeDiff, Nat.reduceLT]
end Go.Proofs.YtfogjddcagckaaaDoor
