/- The contract of the law PolyOver: at whatever reads as its arguments it returns true. -/
import Derived.Test.YtejmlngnpekagaaGreatDoorPol4
import Derived.Test.YtejmlngnpekagaaGreatDoorLIvA
import Derived.Test.YtejmlngnpekagaaGreatDoorG7
import Derived.Test.YtejmlngnpekagaaGreatDoorCut
open Go PG Go.Proofs
set_option maxRecDepth 100000
set_option linter.unusedSimpArgs false
set_option linter.unusedVariables false
namespace Go.Proofs.YtejmlngnpekagaaGreatDoor
attribute [local go_sem] Lay2 Lay3 Lay4 Lay5 Lay6 Lay7 Lay8 Lay9 Lay10 Lay11 Lay12 Lay13 Lay14 Lay15 Lay16 Lay17 Lay18 Lay19 Lay21 Lay22 Lay23 Lay25 Lay26 Lay27 Lay30 Lay31 Lay32 Lay33 Lay36 Lay37 Lay41 Lay42 Lay43 Lay47 Lay56 Lay57 Lay59 Lay60 Lay65 Lay66 Lay74 Lay75 Lay105 Lay114 Lay145 Lay146 Lay149 Lay150 Lay151 Lay173 Lay185 Lay189 Lay204 Lay205 Lay208 Lay214 Lay215 Lay216 Lay217 Lay218 Lay220 Lay221 Lay223 Lay224 Lay225 Lay228 qexec_seq qexec_skip qexec_exit qexec_ret qexec_block qexec_loop qexec_range qexec_cond qexec_region qexec_drawn qops_nil qops_none qops_some put_some put_none pblk_exit pblk_other newDsts_nil sget_cons sget_nil qval_some qbool_some qgs_bool qgs_und qfree_some qgrd_true qgrd_false qif_true qif_false qval_ite qval_itn qand_true map_ite map_some' map_none' qdo_move qdo_assign qdo_binOp qdo_pick qdo_unOp qdo_convert qdo_extract qdo_field qdo_fieldAddr qdo_alloc qdo_box qdo_build qdo_buildSlice qdo_load qdo_store qdo_nilCheck qdo_makeFunc qdo_makeSlice qdo_slice qdo_indexAddr qdo_call qcont_val qcont_new qcont_st qcont_app0 qcont_app qcont_inl qcont_call njSV_val njSV_nil njSV_row njSV_ptr njSV_sub binV_val binV_nil binV_nn binV_ptr bin_np bin_nnp nilCmp bin_add bin_sub bin_mul bin_quo bin_rem bin_and bin_or bin_xor bin_andNot bin_eql bin_neq bin_lss bin_leq bin_gtr bin_geq bin_shl bin_shr bin_seql bin_sneq bin_sadd bin_beql bin_aeql bin_aneq eqAnd_some eqCells_nil eqCells_cons fieldTypes isStruct eqCell bin_bneq un_not un_neg nj_ite Nat.beq stepA stepR isNew opSV constSV RV.sv allSome E_mu E_own qkeyIn_none qkeyIn_some qkeyAt_none qkeyAt_some Bool.or_false Bool.false_or Bool.or_true Bool.true_or cst setB res resSV pstart startL killL kill1 eraL frzL svPV rvPV rvInt rvSlice frzOf close closeL pconv pbuiltin pmax2 partPV setCells fillPV zrow bound newSV PV.cells Bk.cells Bk.with SV.key pres presL_nil presL_tmp presL_cell presC2_some cellPV_ptr presC List.toList_toArray List.size_toArray List.getElem?_drop Nat.mul_one Int.toNat_natCast Nat.not_lt_zero Nat.lt_irrefl decide_true decide_false Nat.not_lt Option.some.injEq PV.lst.injEq PV.int.injEq PV.bool.injEq PV.tuple.injEq List.cons.injEq Option.map_some Option.map_none Option.bind_some Option.toList List.map_cons List.map_nil List.nil_append List.cons_append List.append_nil List.zip_cons_cons List.zip_nil_left List.zip_nil_right List.getElem?_cons_zero List.getElem?_cons_succ List.drop_zero List.drop_succ_cons List.take_succ_cons List.take_zero List.set_cons_zero List.set_cons_succ List.length_cons List.length_nil List.length_set List.replicate_one List.replicate_zero bne_self_eq_false beq_self_eq_true Nat.zero_add Nat.add_zero Nat.zero_mul Bool.false_eq_true Bool.true_eq_false Bool.not_true Bool.not_false and_true true_and false_and and_false or_false false_or or_true true_or not_true_eq_false not_false_eq_true ne_eq gt_iff_lt List.mem_cons List.not_mem_nil
attribute [local go_sem ↓] pseq_normal pseq_ret pseq_exit pblk_normal pblk_ret newDsts_cons gdst_zero gdst_succ retQ_normal retQ_ret qneed_nil qneed_cons retM_normal retM_ret endR_normal endR_ret endR_exit

/-- What the law looks at. -/
def smallJ (n : Nat) (e : Int) : Prop := n ≤ 4 ∧ -1000 ≤ e ∧ e ≤ 1000
theorem small_lim {s : Bool} {l : List Nat} {e : Int} (h : smallJ l.length e) (ol : Ok W l) : Lim 1256 (mkD s (vl l) e) ∧ bitLen (mkD s (vl l) e).m ≤ 256 := by
  have hb := bits_of_vl ol
  have h1 := h.1
  have h2 := mkD_bits s (vl l) e
  exact ⟨Lim.mk (n := 256) (J := 1000) (by omega) ⟨h.2.1, h.2.2⟩ (by decide), by omega⟩

set_option maxHeartbeats 4000000 in
theorem law_PolyOver (pvs : List PV) (h : Fits [qU64s, qJ, qU8] pvs) : PC E 4 pvs (.bool true) := by
  obtain ⟨_, _, _, rfl, ⟨l, rfl, ol⟩, ⟨s1, l1, e1, s2, l2, e2, rfl, o1, o2⟩, ⟨w, rfl, hw⟩⟩ := fits3 h
  simp only [NL]
  refine PC.of_sem Tryz.func4 (by decide +kernel) rfl (Nat.le_of_ble_eq_true rfl) ?_
  refine PSem.cut follows (by kernel_rfl) 3 (fun _ : Unit => ⟨[(0, .val (.lst l.length (U l))), (2, .val (.int .u8 w)), (4, .ptr 4 0)],
    [(4, (.box [.bool s1, .lst l1.length (U l1), .int .i64 e1, .bool s2, .lst l2.length (U l2), .int .i64 e2], false))]⟩)
    (fun _ => l.length ≤ 10 ∧ smallJ l1.length e1 ∧ smallJ l2.length e2) ?_ (fun _ hJ => ?_)
  · simp only [Tryz.f4, qfirst_succ, qfirst_zero, after_succ, after_zero, go_sem, Int.reduceToNat, Int.reduceEq, Int.reduceNe, Int.reduceLT, Int.reduceLE, Int.reduceNeg, Int.reduceAdd, ↓reduceIte, ↓reduceCtorEq, Nat.reduceEqDiff, Nat.reduceAdd, Nat.reduceSub, Nat.reduceMul, Nat.reduceLeDiff, Nat.reduceLT]
    refine qcall_i (c_alive35) ?_; simp only [Tryz.f4, qfirst_succ, qfirst_zero, after_succ, after_zero, go_sem, Int.reduceToNat, Int.reduceEq, Int.reduceNe, Int.reduceLT, Int.reduceLE, Int.reduceNeg, Int.reduceAdd, ↓reduceIte, ↓reduceCtorEq, Nat.reduceEqDiff, Nat.reduceAdd, Nat.reduceSub, Nat.reduceMul, Nat.reduceLeDiff, Nat.reduceLT]
    refine qif_d (fun h1 => ?_) (fun h1 => ?_)
    · simp only [Tryz.f4, qfirst_succ, qfirst_zero, after_succ, after_zero, go_sem, Int.reduceToNat, Int.reduceEq, Int.reduceNe, Int.reduceLT, Int.reduceLE, Int.reduceNeg, Int.reduceAdd, ↓reduceIte, ↓reduceCtorEq, Nat.reduceEqDiff, Nat.reduceAdd, Nat.reduceSub, Nat.reduceMul, Nat.reduceLeDiff, Nat.reduceLT]
    simp only [Tryz.f4, qfirst_succ, qfirst_zero, after_succ, after_zero, go_sem, Int.reduceToNat, Int.reduceEq, Int.reduceNe, Int.reduceLT, Int.reduceLE, Int.reduceNeg, Int.reduceAdd, ↓reduceIte, ↓reduceCtorEq, Nat.reduceEqDiff, Nat.reduceAdd, Nat.reduceSub, Nat.reduceMul, Nat.reduceLeDiff, Nat.reduceLT]
    refine qcall_i (c_15Near) ?_; simp only [Tryz.f4, qfirst_succ, qfirst_zero, after_succ, after_zero, go_sem, Int.reduceToNat, Int.reduceEq, Int.reduceNe, Int.reduceLT, Int.reduceLE, Int.reduceNeg, Int.reduceAdd, ↓reduceIte, ↓reduceCtorEq, Nat.reduceEqDiff, Nat.reduceAdd, Nat.reduceSub, Nat.reduceMul, Nat.reduceLeDiff, Nat.reduceLT]
    refine qif_i (fun h2 => ?_) (fun h2 => ?_)
    · simp only [Tryz.f4, qfirst_succ, qfirst_zero, after_succ, after_zero, go_sem, Int.reduceToNat, Int.reduceEq, Int.reduceNe, Int.reduceLT, Int.reduceLE, Int.reduceNeg, Int.reduceAdd, ↓reduceIte, ↓reduceCtorEq, Nat.reduceEqDiff, Nat.reduceAdd, Nat.reduceSub, Nat.reduceMul, Nat.reduceLeDiff, Nat.reduceLT]
    simp only [Tryz.f4, qfirst_succ, qfirst_zero, after_succ, after_zero, go_sem, Int.reduceToNat, Int.reduceEq, Int.reduceNe, Int.reduceLT, Int.reduceLE, Int.reduceNeg, Int.reduceAdd, ↓reduceIte, ↓reduceCtorEq, Nat.reduceEqDiff, Nat.reduceAdd, Nat.reduceSub, Nat.reduceMul, Nat.reduceLeDiff, Nat.reduceLT]
    refine qif_d (fun h3 => ?_) (fun h3 => ?_)
    · simp only [Tryz.f4, qfirst_succ, qfirst_zero, after_succ, after_zero, go_sem, Int.reduceToNat, Int.reduceEq, Int.reduceNe, Int.reduceLT, Int.reduceLE, Int.reduceNeg, Int.reduceAdd, ↓reduceIte, ↓reduceCtorEq, Nat.reduceEqDiff, Nat.reduceAdd, Nat.reduceSub, Nat.reduceMul, Nat.reduceLeDiff, Nat.reduceLT]
    simp only [Tryz.f4, qfirst_succ, qfirst_zero, after_succ, after_zero, go_sem, Int.reduceToNat, Int.reduceEq, Int.reduceNe, Int.reduceLT, Int.reduceLE, Int.reduceNeg, Int.reduceAdd, ↓reduceIte, ↓reduceCtorEq, Nat.reduceEqDiff, Nat.reduceAdd, Nat.reduceSub, Nat.reduceMul, Nat.reduceLeDiff, Nat.reduceLT]
    refine qif_d (fun h4 => ?_) (fun h4 => ?_)
    · simp only [Tryz.f4, qfirst_succ, qfirst_zero, after_succ, after_zero, go_sem, Int.reduceToNat, Int.reduceEq, Int.reduceNe, Int.reduceLT, Int.reduceLE, Int.reduceNeg, Int.reduceAdd, ↓reduceIte, ↓reduceCtorEq, Nat.reduceEqDiff, Nat.reduceAdd, Nat.reduceSub, Nat.reduceMul, Nat.reduceLeDiff, Nat.reduceLT]
    simp only [Tryz.f4, qfirst_succ, qfirst_zero, after_succ, after_zero, go_sem, Int.reduceToNat, Int.reduceEq, Int.reduceNe, Int.reduceLT, Int.reduceLE, Int.reduceNeg, Int.reduceAdd, ↓reduceIte, ↓reduceCtorEq, Nat.reduceEqDiff, Nat.reduceAdd, Nat.reduceSub, Nat.reduceMul, Nat.reduceLeDiff, Nat.reduceLT]
    refine qif_d (fun h5 => ?_) (fun h5 => ?_)
    · simp only [Tryz.f4, qfirst_succ, qfirst_zero, after_succ, after_zero, go_sem, Int.reduceToNat, Int.reduceEq, Int.reduceNe, Int.reduceLT, Int.reduceLE, Int.reduceNeg, Int.reduceAdd, ↓reduceIte, ↓reduceCtorEq, Nat.reduceEqDiff, Nat.reduceAdd, Nat.reduceSub, Nat.reduceMul, Nat.reduceLeDiff, Nat.reduceLT]
    simp only [Tryz.f4, qfirst_succ, qfirst_zero, after_succ, after_zero, go_sem, Int.reduceToNat, Int.reduceEq, Int.reduceNe, Int.reduceLT, Int.reduceLE, Int.reduceNeg, Int.reduceAdd, ↓reduceIte, ↓reduceCtorEq, Nat.reduceEqDiff, Nat.reduceAdd, Nat.reduceSub, Nat.reduceMul, Nat.reduceLeDiff, Nat.reduceLT]
    refine qif_d (fun h6 => ?_) (fun h6 => ?_)
    · simp only [Tryz.f4, qfirst_succ, qfirst_zero, after_succ, after_zero, go_sem, Int.reduceToNat, Int.reduceEq, Int.reduceNe, Int.reduceLT, Int.reduceLE, Int.reduceNeg, Int.reduceAdd, ↓reduceIte, ↓reduceCtorEq, Nat.reduceEqDiff, Nat.reduceAdd, Nat.reduceSub, Nat.reduceMul, Nat.reduceLeDiff, Nat.reduceLT]
    simp only [Tryz.f4, qfirst_succ, qfirst_zero, after_succ, after_zero, go_sem, Int.reduceToNat, Int.reduceEq, Int.reduceNe, Int.reduceLT, Int.reduceLE, Int.reduceNeg, Int.reduceAdd, ↓reduceIte, ↓reduceCtorEq, Nat.reduceEqDiff, Nat.reduceAdd, Nat.reduceSub, Nat.reduceMul, Nat.reduceLeDiff, Nat.reduceLT]
    refine qif_d (fun h7 => ?_) (fun h7 => ?_)
    · simp only [Tryz.f4, qfirst_succ, qfirst_zero, after_succ, after_zero, go_sem, Int.reduceToNat, Int.reduceEq, Int.reduceNe, Int.reduceLT, Int.reduceLE, Int.reduceNeg, Int.reduceAdd, ↓reduceIte, ↓reduceCtorEq, Nat.reduceEqDiff, Nat.reduceAdd, Nat.reduceSub, Nat.reduceMul, Nat.reduceLeDiff, Nat.reduceLT]
    simp only [Tryz.f4, qfirst_succ, qfirst_zero, after_succ, after_zero, go_sem, Int.reduceToNat, Int.reduceEq, Int.reduceNe, Int.reduceLT, Int.reduceLE, Int.reduceNeg, Int.reduceAdd, ↓reduceIte, ↓reduceCtorEq, Nat.reduceEqDiff, Nat.reduceAdd, Nat.reduceSub, Nat.reduceMul, Nat.reduceLeDiff, Nat.reduceLT]
    refine qif_d (fun h8 => ?_) (fun h8 => ?_)
    · simp only [Tryz.f4, qfirst_succ, qfirst_zero, after_succ, after_zero, go_sem, Int.reduceToNat, Int.reduceEq, Int.reduceNe, Int.reduceLT, Int.reduceLE, Int.reduceNeg, Int.reduceAdd, ↓reduceIte, ↓reduceCtorEq, Nat.reduceEqDiff, Nat.reduceAdd, Nat.reduceSub, Nat.reduceMul, Nat.reduceLeDiff, Nat.reduceLT]
    simp only [Tryz.f4, qfirst_succ, qfirst_zero, after_succ, after_zero, go_sem, Int.reduceToNat, Int.reduceEq, Int.reduceNe, Int.reduceLT, Int.reduceLE, Int.reduceNeg, Int.reduceAdd, ↓reduceIte, ↓reduceCtorEq, Nat.reduceEqDiff, Nat.reduceAdd, Nat.reduceSub, Nat.reduceMul, Nat.reduceLeDiff, Nat.reduceLT]
    refine ⟨(), ⟨by omega, ⟨by omega, by omega, by omega⟩, by omega, by omega, by omega⟩, ?_⟩
    simp [Wk, sget, killL, kill1, SV.key, setCells]
  obtain ⟨hn, hs1, hs2⟩ := hJ
  have r1 := RD.arg (s := s1) (e := e1) o1 (by have := hs1.1; omega)
  have r2 := RD.arg (s := s2) (e := e2) o2 (by have := hs2.1; omega)
  obtain ⟨L1, b1⟩ := small_lim (s := s1) hs1 o1
  obtain ⟨L2, b2⟩ := small_lim (s := s2) hs2 o2
  generalize mkD s1 (vl l1) e1 = a1 at *
  generalize mkD s2 (vl l2) e2 = a2 at *
  simp only [DP, NL] at r1 r2
  generalize PV.lst l1.length (U l1) = P1 at *
  generalize PV.lst l2.length (U l2) = P2 at *
  clear hs1 hs2 o1 o2 h
  have ri : RI (.agg [.bool s1, P1, .int .i64 e1, .bool s2, P2, .int .i64 e2]) ⟨a1, a2⟩ := ⟨_, _, _, _, _, _, rfl, r1, r2⟩
  have hl : Iv.lim 1256 ⟨a1, a2⟩ := ⟨L1, L2⟩
  have k1 := p_Over ol (by omega) ri hl (by decide) ⟨by dsimp only; omega, by have := L1.e0; dsimp only; omega⟩ ⟨by dsimp only; omega, by have := L2.e0; dsimp only; omega⟩
  have k2 := c_35Right ol (by omega)
  have k3 := q_Right ri
  refine PSem.last follows (by kernel_rfl) ?_
  by_cases hr : rightP l
  case neg =>
    rw [if_neg (fun h => hr h.1)] at k1
    rw [decide_eq_false hr] at k2
    have hz : Iv.zero.pv = .agg [.bool false, .lst 0 [], .int .i64 0, .bool false, .lst 0 [], .int .i64 0] := rfl
    rw [hz] at k1
    simp only [NL] at k1 k2
    simp only [Tryz.f4, after_succ, after_zero, Int.cast_ofNat_Int, go_sem, Int.reduceToNat, Int.reduceEq, Int.reduceNe, Int.reduceLT, Int.reduceLE, Int.reduceNeg, Int.reduceAdd, ↓reduceIte, ↓reduceCtorEq, Nat.reduceEqDiff, Nat.reduceAdd, Nat.reduceSub, Nat.reduceMul, Nat.reduceLeDiff, Nat.reduceLT]
    refine qcall_i (q_15Of (l := [])) ?_; simp only [Tryz.f4, Int.cast_ofNat_Int, go_sem, Int.reduceToNat, Int.reduceEq, Int.reduceNe, Int.reduceLT, Int.reduceLE, Int.reduceNeg, Int.reduceAdd, ↓reduceIte, ↓reduceCtorEq, Nat.reduceEqDiff, Nat.reduceAdd, Nat.reduceSub, Nat.reduceMul, Nat.reduceLeDiff, Nat.reduceLT]
    refine qcall_i (k1) ?_; simp only [Tryz.f4, Int.cast_ofNat_Int, go_sem, Int.reduceToNat, Int.reduceEq, Int.reduceNe, Int.reduceLT, Int.reduceLE, Int.reduceNeg, Int.reduceAdd, ↓reduceIte, ↓reduceCtorEq, Nat.reduceEqDiff, Nat.reduceAdd, Nat.reduceSub, Nat.reduceMul, Nat.reduceLeDiff, Nat.reduceLT]
    refine qcall_i (k2) ?_; simp only [Tryz.f4, Int.cast_ofNat_Int, go_sem, Int.reduceToNat, Int.reduceEq, Int.reduceNe, Int.reduceLT, Int.reduceLE, Int.reduceNeg, Int.reduceAdd, ↓reduceIte, ↓reduceCtorEq, Nat.reduceEqDiff, Nat.reduceAdd, Nat.reduceSub, Nat.reduceMul, Nat.reduceLeDiff, Nat.reduceLT]
    try first | rfl | exact decide_eq_true rfl
  rw [decide_eq_true hr] at k2
  by_cases hv : Iv.right ⟨a1, a2⟩
  case neg =>
    rw [if_neg (fun h => hv h.2)] at k1
    rw [decide_eq_false hv] at k3
    have hz : Iv.zero.pv = .agg [.bool false, .lst 0 [], .int .i64 0, .bool false, .lst 0 [], .int .i64 0] := rfl
    rw [hz] at k1
    simp only [NL] at k1 k2
    simp only [Tryz.f4, after_succ, after_zero, Int.cast_ofNat_Int, go_sem, Int.reduceToNat, Int.reduceEq, Int.reduceNe, Int.reduceLT, Int.reduceLE, Int.reduceNeg, Int.reduceAdd, ↓reduceIte, ↓reduceCtorEq, Nat.reduceEqDiff, Nat.reduceAdd, Nat.reduceSub, Nat.reduceMul, Nat.reduceLeDiff, Nat.reduceLT]
    refine qcall_i (q_15Of (l := [])) ?_; simp only [Tryz.f4, Int.cast_ofNat_Int, go_sem, Int.reduceToNat, Int.reduceEq, Int.reduceNe, Int.reduceLT, Int.reduceLE, Int.reduceNeg, Int.reduceAdd, ↓reduceIte, ↓reduceCtorEq, Nat.reduceEqDiff, Nat.reduceAdd, Nat.reduceSub, Nat.reduceMul, Nat.reduceLeDiff, Nat.reduceLT]
    refine qcall_i (k1) ?_; simp only [Tryz.f4, Int.cast_ofNat_Int, go_sem, Int.reduceToNat, Int.reduceEq, Int.reduceNe, Int.reduceLT, Int.reduceLE, Int.reduceNeg, Int.reduceAdd, ↓reduceIte, ↓reduceCtorEq, Nat.reduceEqDiff, Nat.reduceAdd, Nat.reduceSub, Nat.reduceMul, Nat.reduceLeDiff, Nat.reduceLT]
    refine qcall_i (k2) ?_; simp only [Tryz.f4, Int.cast_ofNat_Int, go_sem, Int.reduceToNat, Int.reduceEq, Int.reduceNe, Int.reduceLT, Int.reduceLE, Int.reduceNeg, Int.reduceAdd, ↓reduceIte, ↓reduceCtorEq, Nat.reduceEqDiff, Nat.reduceAdd, Nat.reduceSub, Nat.reduceMul, Nat.reduceLeDiff, Nat.reduceLT]
    refine qcall_i (k3) ?_; simp only [Tryz.f4, Int.cast_ofNat_Int, go_sem, Int.reduceToNat, Int.reduceEq, Int.reduceNe, Int.reduceLT, Int.reduceLE, Int.reduceNeg, Int.reduceAdd, ↓reduceIte, ↓reduceCtorEq, Nat.reduceEqDiff, Nat.reduceAdd, Nat.reduceSub, Nat.reduceMul, Nat.reduceLeDiff, Nat.reduceLT]
    try first | rfl | exact decide_eq_true rfl
  rw [decide_eq_true hv] at k3
  rw [if_pos ⟨hr, hv⟩] at k1
  have hn16 := hr.1
  have k4 := r_5Of r1
  have k5 := r_5Of r2
  have k6 := c_35Over ol hn16 (v := ⟨a1, a2⟩) L1.N L2.N (by decide)
  obtain ⟨N1, N2⟩ := ovN_lim (i := ⟨a1, a2⟩) L1.N L2.N l
  obtain ⟨V1, V2⟩ := ovN_val hl (by decide) l hn16 hr.2
  obtain ⟨hS, hSr⟩ := hornS_spec hl (by decide) l hn16
  have hB := hB_le (J := 1256) (by decide) hn16
  have k7 := l_To N1 (by omega)
  have k8 := l_To N2 (by omega)
  rw [N1.bare_of (by omega) hS.1.ok V1] at k7
  rw [N2.bare_of (by omega) hS.2.ok V2] at k8
  have k9 := c_5Same (hornS l ⟨a1, a2⟩).lo (hornS l ⟨a1, a2⟩).lo (by have := hS.1.bits; omega)
  have k10 := c_5Same (hornS l ⟨a1, a2⟩).hi (hornS l ⟨a1, a2⟩).hi (by have := hS.2.bits; omega)
  rw [decide_eq_true rfl] at k9 k10
  -- the number between
  have hw' : w < 256 := hw
  have m1 := q_Wide ri hl (by decide)
  rw [if_pos hv] at m1
  have M1 := inner_w hl (by decide)
  have M2 := inner_n hw'
  have M3 := inner_m hl (by decide) hw'
  have M4 := inner_s hl (by decide) hw'
  have M5 := inner_lim hl (by decide) hw'
  have m2 := c_dOf (w : Int) (by omega) (by omega)
  have m3 := r_Mul (M1.RD (by decide)) (M2.RD (by decide))
  rw [mulV_lim M1 M2 (by decide)] at m3
  have m4 := r_Scale (M3.RD (by decide)) (-8)
  rw [scaleV_lim (J := 8) M3 (by decide) (by decide)] at m4
  have m5 := r_Add r1 (M4.RD (by decide))
  rw [addV_lim (K := 1256 + 17) (L1.mono (by decide)) M4 (by decide)] at m5
  have hin := inner_has hl (by decide) hv hw'
  have hdef : addS a1 ((mulS (addS a2 a1.neg) (norm (w : Int) 0)).sc (-8)) = innerD ⟨a1, a2⟩ w := rfl
  rw [hdef] at m5
  have hh := hornS_has (J := 1274) (hl.mono (by decide)) M5 (by decide) hin l hn16
  obtain ⟨g, hg1, hg2, hg3⟩ := hornS_pt M5 (by decide) l hn16 hr.2
  rw [hg1] at hh
  have n1 := r_5Of (M5.RD (by decide))
  have n2 := c_35Worth ol hn16 M5.N (by decide)
  have N3 := sumN_lim l M5.N l.length
  have hsB : sB (1256 + 18) l.length ≤ 60000 := by
    unfold sB
    have := Nat.mul_le_mul_left (1256 + 18 + 1155) hn16
    omega
  have N3v := sumN_val l (innerD ⟨a1, a2⟩ w)
  have n3 := l_Cmp (N1.mono (J := 60000) (by omega)) (N3.mono hsB) (by decide)
  have n4 := l_Cmp (N3.mono hsB) (N2.mono (J := 60000) (by omega)) (by decide)
  have c1 : cmpD (ovN l ⟨a1, a2⟩).lo (sumN l (innerD ⟨a1, a2⟩ w) l.length) ≤ 0 := by
    rw [cmp_val_le, N3v, V1, ← hg3]; exact cmp_val_le.1 hh.2.2.1
  have c2 : cmpD (sumN l (innerD ⟨a1, a2⟩ w) l.length) (ovN l ⟨a1, a2⟩).hi ≤ 0 := by
    rw [cmp_val_le, N3v, V2, ← hg3]; exact cmp_val_le.1 hh.2.2.2
  have wu : IntKind.wrap .i64 (w : Int) = w := wrap64 (by omega) (by omega)
  clear hh hg1 hg2 hg3 N3v N3 hsB hdef hin M1 M2 M3 M4 M5 N1 N2 V1 V2 hS hSr hB hl ri r1 r2 L1 L2
  generalize sumN l (innerD ⟨a1, a2⟩ w) l.length = sN at *
  generalize innerD ⟨a1, a2⟩ w = inn at *
  generalize (mulS (addS a2 a1.neg) (norm (w : Int) 0)).sc (-8) = i1 at *
  generalize mulS (addS a2 a1.neg) (norm (w : Int) 0) = i2 at *
  generalize norm (w : Int) 0 = i3 at *
  generalize addS a2 a1.neg = i4 at *
  generalize cmpD (ovN l ⟨a1, a2⟩).lo sN = cc1 at *
  generalize cmpD sN (ovN l ⟨a1, a2⟩).hi = cc2 at *
  generalize hornS l ⟨a1, a2⟩ = H at *
  generalize ovN l ⟨a1, a2⟩ = O at *
  simp only [NL, u, Dy.pv, Dy.nv, Iv.pv, Iv.nv, DP] at k1 k2 k3 k4 k5 k6 k7 k8 k9 k10 m1 m2 m3 m4 m5 n1 n2 n3 n4
  simp only [Tryz.f4, after_succ, after_zero, wu, go_sem, Int.reduceToNat, Int.reduceEq, Int.reduceNe, Int.reduceLT, Int.reduceLE, Int.reduceNeg, Int.reduceAdd, ↓reduceIte, ↓reduceCtorEq, Nat.reduceEqDiff, Nat.reduceAdd, Nat.reduceSub, Nat.reduceMul, Nat.reduceLeDiff, Nat.reduceLT]
  refine qcall_i (q_15Of (l := [])) ?_; simp only [Tryz.f4, wu, go_sem, Int.reduceToNat, Int.reduceEq, Int.reduceNe, Int.reduceLT, Int.reduceLE, Int.reduceNeg, Int.reduceAdd, ↓reduceIte, ↓reduceCtorEq, Nat.reduceEqDiff, Nat.reduceAdd, Nat.reduceSub, Nat.reduceMul, Nat.reduceLeDiff, Nat.reduceLT]
  refine qcall_i (k1) ?_; simp only [Tryz.f4, wu, go_sem, Int.reduceToNat, Int.reduceEq, Int.reduceNe, Int.reduceLT, Int.reduceLE, Int.reduceNeg, Int.reduceAdd, ↓reduceIte, ↓reduceCtorEq, Nat.reduceEqDiff, Nat.reduceAdd, Nat.reduceSub, Nat.reduceMul, Nat.reduceLeDiff, Nat.reduceLT]
  refine qcall_i (k2) ?_; simp only [Tryz.f4, wu, go_sem, Int.reduceToNat, Int.reduceEq, Int.reduceNe, Int.reduceLT, Int.reduceLE, Int.reduceNeg, Int.reduceAdd, ↓reduceIte, ↓reduceCtorEq, Nat.reduceEqDiff, Nat.reduceAdd, Nat.reduceSub, Nat.reduceMul, Nat.reduceLeDiff, Nat.reduceLT]
  refine qcall_i (k3) ?_; simp only [Tryz.f4, wu, go_sem, Int.reduceToNat, Int.reduceEq, Int.reduceNe, Int.reduceLT, Int.reduceLE, Int.reduceNeg, Int.reduceAdd, ↓reduceIte, ↓reduceCtorEq, Nat.reduceEqDiff, Nat.reduceAdd, Nat.reduceSub, Nat.reduceMul, Nat.reduceLeDiff, Nat.reduceLT]
  refine qcall_i (k4) ?_; simp only [Tryz.f4, wu, go_sem, Int.reduceToNat, Int.reduceEq, Int.reduceNe, Int.reduceLT, Int.reduceLE, Int.reduceNeg, Int.reduceAdd, ↓reduceIte, ↓reduceCtorEq, Nat.reduceEqDiff, Nat.reduceAdd, Nat.reduceSub, Nat.reduceMul, Nat.reduceLeDiff, Nat.reduceLT]
  refine qcall_i (k5) ?_; simp only [Tryz.f4, wu, go_sem, Int.reduceToNat, Int.reduceEq, Int.reduceNe, Int.reduceLT, Int.reduceLE, Int.reduceNeg, Int.reduceAdd, ↓reduceIte, ↓reduceCtorEq, Nat.reduceEqDiff, Nat.reduceAdd, Nat.reduceSub, Nat.reduceMul, Nat.reduceLeDiff, Nat.reduceLT]
  refine qcall_i (k6) ?_; simp only [Tryz.f4, wu, go_sem, Int.reduceToNat, Int.reduceEq, Int.reduceNe, Int.reduceLT, Int.reduceLE, Int.reduceNeg, Int.reduceAdd, ↓reduceIte, ↓reduceCtorEq, Nat.reduceEqDiff, Nat.reduceAdd, Nat.reduceSub, Nat.reduceMul, Nat.reduceLeDiff, Nat.reduceLT]
  refine qcall_i (k7) ?_; simp only [Tryz.f4, wu, go_sem, Int.reduceToNat, Int.reduceEq, Int.reduceNe, Int.reduceLT, Int.reduceLE, Int.reduceNeg, Int.reduceAdd, ↓reduceIte, ↓reduceCtorEq, Nat.reduceEqDiff, Nat.reduceAdd, Nat.reduceSub, Nat.reduceMul, Nat.reduceLeDiff, Nat.reduceLT]
  refine qcall_i (k8) ?_; simp only [Tryz.f4, wu, go_sem, Int.reduceToNat, Int.reduceEq, Int.reduceNe, Int.reduceLT, Int.reduceLE, Int.reduceNeg, Int.reduceAdd, ↓reduceIte, ↓reduceCtorEq, Nat.reduceEqDiff, Nat.reduceAdd, Nat.reduceSub, Nat.reduceMul, Nat.reduceLeDiff, Nat.reduceLT]
  refine qcall_i (k9) ?_; simp only [Tryz.f4, wu, go_sem, Int.reduceToNat, Int.reduceEq, Int.reduceNe, Int.reduceLT, Int.reduceLE, Int.reduceNeg, Int.reduceAdd, ↓reduceIte, ↓reduceCtorEq, Nat.reduceEqDiff, Nat.reduceAdd, Nat.reduceSub, Nat.reduceMul, Nat.reduceLeDiff, Nat.reduceLT]
  refine qcall_i (k10) ?_; simp only [Tryz.f4, wu, go_sem, Int.reduceToNat, Int.reduceEq, Int.reduceNe, Int.reduceLT, Int.reduceLE, Int.reduceNeg, Int.reduceAdd, ↓reduceIte, ↓reduceCtorEq, Nat.reduceEqDiff, Nat.reduceAdd, Nat.reduceSub, Nat.reduceMul, Nat.reduceLeDiff, Nat.reduceLT]
  refine qcall_i (m1) ?_; simp only [Tryz.f4, wu, go_sem, Int.reduceToNat, Int.reduceEq, Int.reduceNe, Int.reduceLT, Int.reduceLE, Int.reduceNeg, Int.reduceAdd, ↓reduceIte, ↓reduceCtorEq, Nat.reduceEqDiff, Nat.reduceAdd, Nat.reduceSub, Nat.reduceMul, Nat.reduceLeDiff, Nat.reduceLT]
  refine qcall_i (m2) ?_; simp only [Tryz.f4, wu, go_sem, Int.reduceToNat, Int.reduceEq, Int.reduceNe, Int.reduceLT, Int.reduceLE, Int.reduceNeg, Int.reduceAdd, ↓reduceIte, ↓reduceCtorEq, Nat.reduceEqDiff, Nat.reduceAdd, Nat.reduceSub, Nat.reduceMul, Nat.reduceLeDiff, Nat.reduceLT]
  refine qcall_i (m3) ?_; simp only [Tryz.f4, wu, go_sem, Int.reduceToNat, Int.reduceEq, Int.reduceNe, Int.reduceLT, Int.reduceLE, Int.reduceNeg, Int.reduceAdd, ↓reduceIte, ↓reduceCtorEq, Nat.reduceEqDiff, Nat.reduceAdd, Nat.reduceSub, Nat.reduceMul, Nat.reduceLeDiff, Nat.reduceLT]
  refine qcall_i (m4) ?_; simp only [Tryz.f4, wu, go_sem, Int.reduceToNat, Int.reduceEq, Int.reduceNe, Int.reduceLT, Int.reduceLE, Int.reduceNeg, Int.reduceAdd, ↓reduceIte, ↓reduceCtorEq, Nat.reduceEqDiff, Nat.reduceAdd, Nat.reduceSub, Nat.reduceMul, Nat.reduceLeDiff, Nat.reduceLT]
  refine qcall_i (m5) ?_; simp only [Tryz.f4, wu, go_sem, Int.reduceToNat, Int.reduceEq, Int.reduceNe, Int.reduceLT, Int.reduceLE, Int.reduceNeg, Int.reduceAdd, ↓reduceIte, ↓reduceCtorEq, Nat.reduceEqDiff, Nat.reduceAdd, Nat.reduceSub, Nat.reduceMul, Nat.reduceLeDiff, Nat.reduceLT]
  refine qcall_i (n1) ?_; simp only [Tryz.f4, wu, go_sem, Int.reduceToNat, Int.reduceEq, Int.reduceNe, Int.reduceLT, Int.reduceLE, Int.reduceNeg, Int.reduceAdd, ↓reduceIte, ↓reduceCtorEq, Nat.reduceEqDiff, Nat.reduceAdd, Nat.reduceSub, Nat.reduceMul, Nat.reduceLeDiff, Nat.reduceLT]
  refine qcall_i (n2) ?_; simp only [Tryz.f4, wu, go_sem, Int.reduceToNat, Int.reduceEq, Int.reduceNe, Int.reduceLT, Int.reduceLE, Int.reduceNeg, Int.reduceAdd, ↓reduceIte, ↓reduceCtorEq, Nat.reduceEqDiff, Nat.reduceAdd, Nat.reduceSub, Nat.reduceMul, Nat.reduceLeDiff, Nat.reduceLT]
  refine qcall_i (n3) ?_; simp only [Tryz.f4, wu, go_sem, Int.reduceToNat, Int.reduceEq, Int.reduceNe, Int.reduceLT, Int.reduceLE, Int.reduceNeg, Int.reduceAdd, ↓reduceIte, ↓reduceCtorEq, Nat.reduceEqDiff, Nat.reduceAdd, Nat.reduceSub, Nat.reduceMul, Nat.reduceLeDiff, Nat.reduceLT]
  refine qif_dt c1 ?_
  simp only [Tryz.f4, wu, go_sem, Int.reduceToNat, Int.reduceEq, Int.reduceNe, Int.reduceLT, Int.reduceLE, Int.reduceNeg, Int.reduceAdd, ↓reduceIte, ↓reduceCtorEq, Nat.reduceEqDiff, Nat.reduceAdd, Nat.reduceSub, Nat.reduceMul, Nat.reduceLeDiff, Nat.reduceLT]
  refine qcall_i (n4) ?_; simp only [Tryz.f4, wu, go_sem, Int.reduceToNat, Int.reduceEq, Int.reduceNe, Int.reduceLT, Int.reduceLE, Int.reduceNeg, Int.reduceAdd, ↓reduceIte, ↓reduceCtorEq, Nat.reduceEqDiff, Nat.reduceAdd, Nat.reduceSub, Nat.reduceMul, Nat.reduceLeDiff, Nat.reduceLT]
  exact decide_eq_true c2
end Go.Proofs.YtejmlngnpekagaaGreatDoor
