/- The contract of the law PolyFma: at whatever reads as its arguments it returns true. -/
import Derived.Test.YtejmlngnpekagaaDoorPf
import Derived.Test.YtejmlngnpekagaaDoorFit5
import Derived.Test.YtejmlngnpekagaaDoorCut
open Go PG Go.Proofs
set_option maxRecDepth 100000
set_option linter.unusedSimpArgs false
set_option linter.unusedVariables false
namespace Go.Proofs.YtejmlngnpekagaaDoor
attribute [local go_sem] Lay2 Lay3 Lay4 Lay5 Lay6 Lay7 Lay8 Lay9 Lay10 Lay11 Lay12 Lay13 Lay14 Lay15 Lay16 Lay17 Lay18 Lay19 Lay21 Lay22 Lay23 Lay24 Lay25 Lay30 Lay33 Lay36 Lay37 Lay46 Lay47 Lay48 Lay53 Lay54 Lay55 Lay59 Lay100 Lay101 Lay127 Lay146 Lay162 Lay168 Lay169 Lay173 qexec_seq qexec_skip qexec_exit qexec_ret qexec_block qexec_loop qexec_range qexec_cond qexec_region qexec_drawn qops_nil qops_none qops_some put_some put_none pblk_exit pblk_other newDsts_nil sget_cons sget_nil qval_some qbool_some qgs_bool qgs_und qfree_some qgrd_true qgrd_false qif_true qif_false qval_ite qval_itn qand_true map_ite map_some' map_none' qdo_move qdo_assign qdo_binOp qdo_pick qdo_unOp qdo_convert qdo_extract qdo_field qdo_fieldAddr qdo_alloc qdo_box qdo_build qdo_buildSlice qdo_load qdo_store qdo_nilCheck qdo_makeFunc qdo_makeSlice qdo_slice qdo_indexAddr qdo_call qcont_val qcont_new qcont_st qcont_app0 qcont_app qcont_inl qcont_call njSV_val njSV_nil njSV_row njSV_ptr njSV_sub binV_val binV_nil binV_nn binV_ptr bin_np bin_nnp nilCmp bin_add bin_sub bin_mul bin_quo bin_rem bin_and bin_or bin_xor bin_andNot bin_eql bin_neq bin_lss bin_leq bin_gtr bin_geq bin_shl bin_shr bin_seql bin_sneq bin_sadd bin_beql bin_aeql bin_aneq eqAnd_some eqCells_nil eqCells_cons fieldTypes isStruct eqCell bin_bneq un_not un_neg nj_ite Nat.beq stepA stepR isNew opSV constSV RV.sv allSome E_mu E_own qkeyIn_none qkeyIn_some qkeyAt_none qkeyAt_some Bool.or_false Bool.false_or Bool.or_true Bool.true_or cst setB res resSV pstart startL killL kill1 eraL frzL svPV rvPV rvInt rvSlice frzOf close closeL pconv pbuiltin pmax2 partPV setCells fillPV zrow bound newSV PV.cells Bk.cells Bk.with SV.key pres presL_nil presL_tmp presL_cell presC2_some cellPV_ptr presC List.toList_toArray List.size_toArray List.getElem?_drop Nat.mul_one Int.toNat_natCast Nat.not_lt_zero Nat.lt_irrefl decide_true decide_false Nat.not_lt Option.some.injEq PV.lst.injEq PV.int.injEq PV.bool.injEq PV.tuple.injEq List.cons.injEq Option.map_some Option.map_none Option.bind_some Option.toList List.map_cons List.map_nil List.nil_append List.cons_append List.append_nil List.zip_cons_cons List.zip_nil_left List.zip_nil_right List.getElem?_cons_zero List.getElem?_cons_succ List.drop_zero List.drop_succ_cons List.take_succ_cons List.take_zero List.set_cons_zero List.set_cons_succ List.length_cons List.length_nil List.length_set List.replicate_one List.replicate_zero bne_self_eq_false beq_self_eq_true Nat.zero_add Nat.add_zero Nat.zero_mul Bool.false_eq_true Bool.true_eq_false Bool.not_true Bool.not_false and_true true_and false_and and_false or_false false_or or_true true_or not_true_eq_false not_false_eq_true ne_eq gt_iff_lt List.mem_cons List.not_mem_nil
attribute [local go_sem ↓] pseq_normal pseq_ret pseq_exit pblk_normal pblk_ret newDsts_cons gdst_zero gdst_succ retQ_normal retQ_ret qneed_nil qneed_cons retM_normal retM_ret endR_normal endR_ret endR_exit

set_option maxHeartbeats 4000000 in
theorem law_PolyFma (pvs : List PV) (h : Fits [qU64, qU64, qU64, qU64s, qU8] pvs) : PC E 5 pvs (.bool true) := by
  obtain ⟨_, _, _, _, _, rfl, ⟨c, rfl, hc⟩, ⟨a, rfl, ha⟩, ⟨x, rfl, hx⟩, ⟨l, rfl, ol⟩, ⟨dr, rfl, hdr⟩⟩ := fits5 h
  simp only [NL, u]
  refine PC.of_sem Tryd.func5 (by decide +kernel) rfl (Nat.le_of_ble_eq_true rfl) ?_
  refine PSem.cut follows (by kernel_rfl) 3 (fun _ : Unit => ⟨[(0, .val (.int .u64 c)), (1, .val (.int .u64 a)), (2, .val (.int .u64 x)), (3, .val (.lst l.length (U l))), (4, .val (.int .u8 dr))], []⟩)
    (fun _ => l.length ≤ 16 ∧ kind c ≤ 2 ∧ kind a ≤ 2 ∧ kind x ≤ 2) ?_ (fun _ hJ => ?_)
  · have k1 := c_rKind c hc
    have k2 := c_rKind a ha
    have k3 := c_rKind x hx
    generalize kind c = kc at *
    generalize kind a = ka at *
    generalize kind x = kx at *
    simp only [u] at k1 k2 k3
    simp only [Tryd.f5, qfirst_succ, qfirst_zero, after_succ, after_zero, go_sem, Int.reduceToNat, Int.reduceEq, Int.reduceNe, Int.reduceLT, Int.reduceLE, Int.reduceNeg, Int.reduceAdd, ↓reduceIte, ↓reduceCtorEq, Nat.reduceEqDiff, Nat.reduceAdd, Nat.reduceSub, Nat.reduceMul, Nat.reduceLeDiff, Nat.reduceLT]
    refine qcall_i (c_alive35) ?_; simp only [Tryd.f5, qfirst_succ, qfirst_zero, after_succ, after_zero, go_sem, Int.reduceToNat, Int.reduceEq, Int.reduceNe, Int.reduceLT, Int.reduceLE, Int.reduceNeg, Int.reduceAdd, ↓reduceIte, ↓reduceCtorEq, Nat.reduceEqDiff, Nat.reduceAdd, Nat.reduceSub, Nat.reduceMul, Nat.reduceLeDiff, Nat.reduceLT]
    refine qif_d (fun h1 => ?_) (fun h1 => ?_)
    · simp only [Tryd.f5, qfirst_succ, qfirst_zero, after_succ, after_zero, go_sem, Int.reduceToNat, Int.reduceEq, Int.reduceNe, Int.reduceLT, Int.reduceLE, Int.reduceNeg, Int.reduceAdd, ↓reduceIte, ↓reduceCtorEq, Nat.reduceEqDiff, Nat.reduceAdd, Nat.reduceSub, Nat.reduceMul, Nat.reduceLeDiff, Nat.reduceLT]
    simp only [Tryd.f5, qfirst_succ, qfirst_zero, after_succ, after_zero, go_sem, Int.reduceToNat, Int.reduceEq, Int.reduceNe, Int.reduceLT, Int.reduceLE, Int.reduceNeg, Int.reduceAdd, ↓reduceIte, ↓reduceCtorEq, Nat.reduceEqDiff, Nat.reduceAdd, Nat.reduceSub, Nat.reduceMul, Nat.reduceLeDiff, Nat.reduceLT]
    refine qcall_i (k1) ?_; simp only [Tryd.f5, qfirst_succ, qfirst_zero, after_succ, after_zero, go_sem, Int.reduceToNat, Int.reduceEq, Int.reduceNe, Int.reduceLT, Int.reduceLE, Int.reduceNeg, Int.reduceAdd, ↓reduceIte, ↓reduceCtorEq, Nat.reduceEqDiff, Nat.reduceAdd, Nat.reduceSub, Nat.reduceMul, Nat.reduceLeDiff, Nat.reduceLT]
    refine qif_d (fun h2 => ?_) (fun h2 => ?_)
    · simp only [Tryd.f5, qfirst_succ, qfirst_zero, after_succ, after_zero, go_sem, Int.reduceToNat, Int.reduceEq, Int.reduceNe, Int.reduceLT, Int.reduceLE, Int.reduceNeg, Int.reduceAdd, ↓reduceIte, ↓reduceCtorEq, Nat.reduceEqDiff, Nat.reduceAdd, Nat.reduceSub, Nat.reduceMul, Nat.reduceLeDiff, Nat.reduceLT]
    simp only [Tryd.f5, qfirst_succ, qfirst_zero, after_succ, after_zero, go_sem, Int.reduceToNat, Int.reduceEq, Int.reduceNe, Int.reduceLT, Int.reduceLE, Int.reduceNeg, Int.reduceAdd, ↓reduceIte, ↓reduceCtorEq, Nat.reduceEqDiff, Nat.reduceAdd, Nat.reduceSub, Nat.reduceMul, Nat.reduceLeDiff, Nat.reduceLT]
    refine qcall_i (k2) ?_; simp only [Tryd.f5, qfirst_succ, qfirst_zero, after_succ, after_zero, go_sem, Int.reduceToNat, Int.reduceEq, Int.reduceNe, Int.reduceLT, Int.reduceLE, Int.reduceNeg, Int.reduceAdd, ↓reduceIte, ↓reduceCtorEq, Nat.reduceEqDiff, Nat.reduceAdd, Nat.reduceSub, Nat.reduceMul, Nat.reduceLeDiff, Nat.reduceLT]
    refine qif_d (fun h3 => ?_) (fun h3 => ?_)
    · simp only [Tryd.f5, qfirst_succ, qfirst_zero, after_succ, after_zero, go_sem, Int.reduceToNat, Int.reduceEq, Int.reduceNe, Int.reduceLT, Int.reduceLE, Int.reduceNeg, Int.reduceAdd, ↓reduceIte, ↓reduceCtorEq, Nat.reduceEqDiff, Nat.reduceAdd, Nat.reduceSub, Nat.reduceMul, Nat.reduceLeDiff, Nat.reduceLT]
    simp only [Tryd.f5, qfirst_succ, qfirst_zero, after_succ, after_zero, go_sem, Int.reduceToNat, Int.reduceEq, Int.reduceNe, Int.reduceLT, Int.reduceLE, Int.reduceNeg, Int.reduceAdd, ↓reduceIte, ↓reduceCtorEq, Nat.reduceEqDiff, Nat.reduceAdd, Nat.reduceSub, Nat.reduceMul, Nat.reduceLeDiff, Nat.reduceLT]
    refine qcall_i (k3) ?_; simp only [Tryd.f5, qfirst_succ, qfirst_zero, after_succ, after_zero, go_sem, Int.reduceToNat, Int.reduceEq, Int.reduceNe, Int.reduceLT, Int.reduceLE, Int.reduceNeg, Int.reduceAdd, ↓reduceIte, ↓reduceCtorEq, Nat.reduceEqDiff, Nat.reduceAdd, Nat.reduceSub, Nat.reduceMul, Nat.reduceLeDiff, Nat.reduceLT]
    refine qif_d (fun h4 => ?_) (fun h4 => ?_)
    · simp only [Tryd.f5, qfirst_succ, qfirst_zero, after_succ, after_zero, go_sem, Int.reduceToNat, Int.reduceEq, Int.reduceNe, Int.reduceLT, Int.reduceLE, Int.reduceNeg, Int.reduceAdd, ↓reduceIte, ↓reduceCtorEq, Nat.reduceEqDiff, Nat.reduceAdd, Nat.reduceSub, Nat.reduceMul, Nat.reduceLeDiff, Nat.reduceLT]
    simp only [Tryd.f5, qfirst_succ, qfirst_zero, after_succ, after_zero, go_sem, Int.reduceToNat, Int.reduceEq, Int.reduceNe, Int.reduceLT, Int.reduceLE, Int.reduceNeg, Int.reduceAdd, ↓reduceIte, ↓reduceCtorEq, Nat.reduceEqDiff, Nat.reduceAdd, Nat.reduceSub, Nat.reduceMul, Nat.reduceLeDiff, Nat.reduceLT]
    refine ⟨(), ⟨by omega, by omega, by omega, by omega⟩, ?_⟩
    simp [Wk, sget, killL, kill1, SV.key, setCells]
  obtain ⟨hn, hkc, hka, hkx⟩ := hJ
  refine PSem.cut follows (by kernel_rfl) 4 (fun _ : Unit => ⟨[(2, .val (.int .u64 x)), (3, .val (.lst l.length (U l)))], []⟩) (fun _ => True) ?_ (fun _ _ => ?_)
  · obtain ⟨D, hD⟩ : ∃ D, D = dr % 4 := ⟨_, rfl⟩
    have w4 : (dr : Int).tmod 4 = (D : Int) := by rw [hD]; exact n_tmod dr 4
    have w6 : IntKind.wrap .i64 (D : Int) = D := wrap64 (by omega) (by omega)
    have w7 : IntKind.wrap .u8 (D : Int) = D := wrap8 (by omega)
    have hd : (0 : Int) ≤ (D : Int) ∧ (D : Int) ≤ 3 := by omega
    have k1 := p_At (l := [c, a]) (fun d h => by simp at h; rcases h with rfl | rfl <;> assumption) (by simp) hx D
    have k2 := b_Fma ha hx hc hd
    obtain ⟨v, f, t, e1, e2, e3⟩ := line_fma hkc hka hkx (D : Int)
    have hr : rightP [c, a] := ⟨by simp, fun b hb => by simp at hb; rcases hb with rfl | rfl <;> exact kind_fin (by assumption)⟩
    unfold atPol at k1
    rw [if_pos ⟨⟨kind_fin hkx, hr⟩, hd⟩, e1] at k1
    rw [e2] at k2
    unfold resB at k2
    simp only [u, NL, U, List.map_cons, List.map_nil, List.length_cons, List.length_nil, Nat.reduceAdd] at k1 k2
    have z1 : IntKind.wrap .u64 (0 * 2 ^ min 1 64) = 0 := by decide
    have z2 : IntKind.wrap .u64 (9223372036854775808 * 2 ^ min 1 64) = 0 := by decide
    clear hD e1 e2
    rcases e3 with rfl | ⟨rfl, rfl | rfl⟩
    · simp only [Tryd.f5, after_succ, after_zero, qfirst_succ, qfirst_zero, after_succ, after_zero, w4, w6, w7, List.range_zero, List.getD_cons_zero, List.getD_cons_succ, Nat.reduceMod, List.replicate_succ, go_sem, Int.reduceToNat, Int.reduceEq, Int.reduceNe, Int.reduceLT, Int.reduceLE, Int.reduceNeg, Int.reduceAdd, ↓reduceIte, ↓reduceCtorEq, Nat.reduceEqDiff, Nat.reduceAdd, Nat.reduceSub, Nat.reduceMul, Nat.reduceLeDiff, Nat.reduceLT]
      refine qcall_i (k1) ?_; simp only [Tryd.f5, qfirst_succ, qfirst_zero, after_succ, after_zero, w4, w6, w7, List.range_zero, List.getD_cons_zero, List.getD_cons_succ, Nat.reduceMod, List.replicate_succ, go_sem, Int.reduceToNat, Int.reduceEq, Int.reduceNe, Int.reduceLT, Int.reduceLE, Int.reduceNeg, Int.reduceAdd, ↓reduceIte, ↓reduceCtorEq, Nat.reduceEqDiff, Nat.reduceAdd, Nat.reduceSub, Nat.reduceMul, Nat.reduceLeDiff, Nat.reduceLT]
      refine qcall_i (k2) ?_; simp only [Tryd.f5, qfirst_succ, qfirst_zero, after_succ, after_zero, w4, w6, w7, List.range_zero, List.getD_cons_zero, List.getD_cons_succ, Nat.reduceMod, List.replicate_succ, go_sem, Int.reduceToNat, Int.reduceEq, Int.reduceNe, Int.reduceLT, Int.reduceLE, Int.reduceNeg, Int.reduceAdd, ↓reduceIte, ↓reduceCtorEq, Nat.reduceEqDiff, Nat.reduceAdd, Nat.reduceSub, Nat.reduceMul, Nat.reduceLeDiff, Nat.reduceLT]
      refine ⟨(), ?_⟩
      simp [Wk, sget, killL, kill1, SV.key, setCells]
    · simp only [Tryd.f5, after_succ, after_zero, qfirst_succ, qfirst_zero, after_succ, after_zero, w4, w6, w7, List.range_zero, List.getD_cons_zero, List.getD_cons_succ, Nat.reduceMod, List.replicate_succ, go_sem, Int.reduceToNat, Int.reduceEq, Int.reduceNe, Int.reduceLT, Int.reduceLE, Int.reduceNeg, Int.reduceAdd, ↓reduceIte, ↓reduceCtorEq, Nat.reduceEqDiff, Nat.reduceAdd, Nat.reduceSub, Nat.reduceMul, Nat.reduceLeDiff, Nat.reduceLT]
      refine qcall_i (k1) ?_; simp only [Tryd.f5, qfirst_succ, qfirst_zero, after_succ, after_zero, w4, w6, w7, List.range_zero, List.getD_cons_zero, List.getD_cons_succ, Nat.reduceMod, List.replicate_succ, go_sem, Int.reduceToNat, Int.reduceEq, Int.reduceNe, Int.reduceLT, Int.reduceLE, Int.reduceNeg, Int.reduceAdd, ↓reduceIte, ↓reduceCtorEq, Nat.reduceEqDiff, Nat.reduceAdd, Nat.reduceSub, Nat.reduceMul, Nat.reduceLeDiff, Nat.reduceLT]
      refine qcall_i (k2) ?_; simp only [Tryd.f5, qfirst_succ, qfirst_zero, after_succ, after_zero, w4, w6, w7, List.range_zero, List.getD_cons_zero, List.getD_cons_succ, Nat.reduceMod, List.replicate_succ, go_sem, Int.reduceToNat, Int.reduceEq, Int.reduceNe, Int.reduceLT, Int.reduceLE, Int.reduceNeg, Int.reduceAdd, ↓reduceIte, ↓reduceCtorEq, Nat.reduceEqDiff, Nat.reduceAdd, Nat.reduceSub, Nat.reduceMul, Nat.reduceLeDiff, Nat.reduceLT]
      refine ⟨(), ?_⟩
      simp [Wk, sget, killL, kill1, SV.key, setCells]
    · simp only [Tryd.f5, after_succ, after_zero, qfirst_succ, qfirst_zero, after_succ, after_zero, w4, w6, w7, z1, z2, List.range_zero, List.getD_cons_zero, List.getD_cons_succ, Nat.reduceMod, List.replicate_succ, Int.cast_ofNat_Int, go_sem, Int.reduceToNat, Int.reduceEq, Int.reduceNe, Int.reduceLT, Int.reduceLE, Int.reduceNeg, Int.reduceAdd, ↓reduceIte, ↓reduceCtorEq, Nat.reduceEqDiff, Nat.reduceAdd, Nat.reduceSub, Nat.reduceMul, Nat.reduceLeDiff, Nat.reduceLT]
      refine qcall_i (k1) ?_; simp only [Tryd.f5, qfirst_succ, qfirst_zero, after_succ, after_zero, w4, w6, w7, z1, z2, List.range_zero, List.getD_cons_zero, List.getD_cons_succ, Nat.reduceMod, List.replicate_succ, Int.cast_ofNat_Int, go_sem, Int.reduceToNat, Int.reduceEq, Int.reduceNe, Int.reduceLT, Int.reduceLE, Int.reduceNeg, Int.reduceAdd, ↓reduceIte, ↓reduceCtorEq, Nat.reduceEqDiff, Nat.reduceAdd, Nat.reduceSub, Nat.reduceMul, Nat.reduceLeDiff, Nat.reduceLT]
      refine qcall_i (k2) ?_; simp only [Tryd.f5, qfirst_succ, qfirst_zero, after_succ, after_zero, w4, w6, w7, z1, z2, List.range_zero, List.getD_cons_zero, List.getD_cons_succ, Nat.reduceMod, List.replicate_succ, Int.cast_ofNat_Int, go_sem, Int.reduceToNat, Int.reduceEq, Int.reduceNe, Int.reduceLT, Int.reduceLE, Int.reduceNeg, Int.reduceAdd, ↓reduceIte, ↓reduceCtorEq, Nat.reduceEqDiff, Nat.reduceAdd, Nat.reduceSub, Nat.reduceMul, Nat.reduceLeDiff, Nat.reduceLT]
      refine ⟨(), ?_⟩
      simp [Wk, sget, killL, kill1, SV.key, setCells]
  have hlen : (l.map tn).length = l.length := List.length_map ..
  have ot : Ok W (l.map tn) := fun d hd => by
    obtain ⟨b, hb, rfl⟩ := List.mem_map.1 hd
    exact (tn_fields (ol b hb)).1
  have k1 := p_Exact ol (by omega) hx
  have k2 := p_Exact ot (by omega) hx
  have hg : ∀ i, i < l.length → (U l)[i]? = some (.int .u64 (l.getD i 0 : Nat)) := fun i hi => U_getD hi
  have hx1 : ∀ i, i < l.length → bits .xor .u64 ((l.getD i 0 : Nat) : Int) 9223372036854775808 = ((tn (l.getD i 0) : Nat) : Int) := fun i hi =>
    b_xor (ol _ (by rw [List.getD_eq_getElem?_getD, List.getElem?_eq_getElem hi]; exact List.getElem_mem _)) (by decide)
  have hsn : ∀ i, i < l.length → U ((l.map tn).take (i + 1)) = U ((l.map tn).take i) ++ [.int .u64 (tn (l.getD i 0) : Nat)] := fun i hi => by
    rw [List.take_succ_eq_append_getElem (by rw [hlen]; exact hi)]
    unfold U
    rw [List.map_append, List.map_cons, List.map_nil, List.getElem_map, List.getD_eq_getElem?_getD, List.getElem?_eq_getElem hi, Option.getD_some]
    rfl
  have hul : ∀ i, i ≤ l.length → (U ((l.map tn).take i)).length = i := fun i hi => by
    unfold U; rw [List.length_map, List.length_take, hlen]; omega
  have ht : (l.map tn).take l.length = l.map tn := by rw [← hlen, List.take_length]
  refine PSem.last follows (by kernel_rfl) ?_
  obtain ⟨p, e, q, r, cc, k1, k2, k3, k4, hz⟩ : ∃ (p : Dy) (e : Int) (q r : Dy) (c : Int), PC E 24 [NL l, u x] (.tuple [p.pv, .int .i64 e]) ∧ PC E 24 [NL (l.map tn), u x] (.tuple [q.pv, .int .i64 e]) ∧
      PC E 26 [q.pv] r.pv ∧ PC E 25 [p.pv, r.pv] (.int .i64 c) ∧ (e = 0 → c = 0) := by
    by_cases hr : rightP l
    · have hr2 := (right_tn ol).2 hr
      rw [exPol_ok (kind_fin hkx) hr] at k1
      rw [exPol_ok (kind_fin hkx) hr2] at k2
      have L1 := (valP_spec hr x).1
      have L2 := (valP_spec hr2 x).1
      obtain ⟨r, hrr, hrf, k3⟩ := r_Minus (L2.RD (by decide))
      rw [hrf (L2.fits (by decide))] at k3
      exact ⟨_, _, _, _, _, k1, k2, k3, r_Cmp (L1.RD (by decide)) (L2.neg.RD (by decide)), fun _ => cmp_tn ol hr x⟩
    · have hr2 : ¬ rightP (l.map tn) := fun h => hr ((right_tn ol).1 h)
      rw [exPol_no (fun h => hr h.2)] at k1
      rw [exPol_no (fun h => hr2 h.2)] at k2
      obtain ⟨r, hrr, hrf, k3⟩ := r_Minus RD.zero
      rw [hrf (by decide)] at k3
      exact ⟨_, _, _, _, _, k1, k2, k3, r_Cmp RD.zero ((Lim.zero 1).neg.RD (by decide)), fun h => by cases h⟩
  simp only [NL, u, hlen, Dy.pv, DP] at k1 k2 k3 k4
  simp only [Tryd.f5, after_succ, after_zero, go_sem, Int.reduceToNat, Int.reduceEq, Int.reduceNe, Int.reduceLT, Int.reduceLE, Int.reduceNeg, Int.reduceAdd, ↓reduceIte, ↓reduceCtorEq, Nat.reduceEqDiff, Nat.reduceAdd, Nat.reduceSub, Nat.reduceMul, Nat.reduceLeDiff, Nat.reduceLT]
  refine PLoop.nilrow 16 108 (by decide) 22 1 rfl ?_
  refine PLoop.intro (fun i : Nat => ⟨[(2, .val (.int .u64 x)), (3, .val (.lst l.length (U l))), (16, .row 108), (17, .val (.int .i64 i))], [(108, (.row 22 1 i (U ((l.map tn).take i)), false))]⟩) (fun i => i ≤ l.length) (fun i => l.length - i) 0 (Nat.zero_le _) ?_ fun i hi => walk ?_
  · simp [Wk, sget, killL, kill1, SV.key, U]
  have wi : IntKind.wrap .i64 ((i : Int) + 1) = ((i + 1 : Nat) : Int) := by rw [wrap64 (by omega) (by omega)]; omega
  simp only [Tryd.f5, go_sem, Int.reduceToNat, Int.reduceEq, Int.reduceNe, Int.reduceLT, Int.reduceLE, Int.reduceNeg, Int.reduceAdd, ↓reduceIte, ↓reduceCtorEq, Nat.reduceEqDiff, Nat.reduceAdd, Nat.reduceSub, Nat.reduceMul, Nat.reduceLeDiff, Nat.reduceLT]
  refine qif_d (fun h => ?_) (fun h => ?_)
  · have hin : i < l.length := by omega
    have x1 := hg i hin
    have x2 := hx1 i hin
    simp only [Tryd.f5, go_sem, Int.reduceToNat, Int.reduceEq, Int.reduceNe, Int.reduceLT, Int.reduceLE, Int.reduceNeg, Int.reduceAdd, ↓reduceIte, ↓reduceCtorEq, Nat.reduceEqDiff, Nat.reduceAdd, Nat.reduceSub, Nat.reduceMul, Nat.reduceLeDiff, Nat.reduceLT]
    refine qand_i (by first | omega | (simp [V_length, U_length, tab_length, maxLen]; done) | (simp [V_length, U_length, tab_length, maxLen]; omega) | (refine ⟨?_, ?_⟩ <;> first | omega | (simp [V_length, U_length, tab_length, maxLen]; done) | (simp [V_length, U_length, tab_length, maxLen]; omega))) ?_; simp only [Tryd.f5, go_sem, Int.reduceToNat, Int.reduceEq, Int.reduceNe, Int.reduceLT, Int.reduceLE, Int.reduceNeg, Int.reduceAdd, ↓reduceIte, ↓reduceCtorEq, Nat.reduceEqDiff, Nat.reduceAdd, Nat.reduceSub, Nat.reduceMul, Nat.reduceLeDiff, Nat.reduceLT]
    refine qval_i (congrArg (Option.map _) x1) ?_
    simp only [Tryd.f5, x2, wi, go_sem, Int.reduceToNat, Int.reduceEq, Int.reduceNe, Int.reduceLT, Int.reduceLE, Int.reduceNeg, Int.reduceAdd, ↓reduceIte, ↓reduceCtorEq, Nat.reduceEqDiff, Nat.reduceAdd, Nat.reduceSub, Nat.reduceMul, Nat.reduceLeDiff, Nat.reduceLT]
    refine qand_i (by first | omega | (simp [V_length, U_length, tab_length, maxLen]; done) | (simp [V_length, U_length, tab_length, maxLen]; omega) | (refine ⟨?_, ?_⟩ <;> first | omega | (simp [V_length, U_length, tab_length, maxLen]; done) | (simp [V_length, U_length, tab_length, maxLen]; omega))) ?_; simp only [Tryd.f5, x2, wi, go_sem, Int.reduceToNat, Int.reduceEq, Int.reduceNe, Int.reduceLT, Int.reduceLE, Int.reduceNeg, Int.reduceAdd, ↓reduceIte, ↓reduceCtorEq, Nat.reduceEqDiff, Nat.reduceAdd, Nat.reduceSub, Nat.reduceMul, Nat.reduceLeDiff, Nat.reduceLT]
    refine ⟨i + 1, by omega, by omega, ?_⟩
    rw [hsn i hin]
    simp [Wk, sget, killL, kill1, SV.key, setCells]
  · have hil : i = l.length := by omega
    subst hil
    rw [ht]
    simp only [Tryd.f5, go_sem, Int.reduceToNat, Int.reduceEq, Int.reduceNe, Int.reduceLT, Int.reduceLE, Int.reduceNeg, Int.reduceAdd, ↓reduceIte, ↓reduceCtorEq, Nat.reduceEqDiff, Nat.reduceAdd, Nat.reduceSub, Nat.reduceMul, Nat.reduceLeDiff, Nat.reduceLT]
    refine qcall_i (k1) ?_; simp only [Tryd.f5, go_sem, Int.reduceToNat, Int.reduceEq, Int.reduceNe, Int.reduceLT, Int.reduceLE, Int.reduceNeg, Int.reduceAdd, ↓reduceIte, ↓reduceCtorEq, Nat.reduceEqDiff, Nat.reduceAdd, Nat.reduceSub, Nat.reduceMul, Nat.reduceLeDiff, Nat.reduceLT]
    refine qcall_i (k2) ?_; simp only [Tryd.f5, go_sem, Int.reduceToNat, Int.reduceEq, Int.reduceNe, Int.reduceLT, Int.reduceLE, Int.reduceNeg, Int.reduceAdd, ↓reduceIte, ↓reduceCtorEq, Nat.reduceEqDiff, Nat.reduceAdd, Nat.reduceSub, Nat.reduceMul, Nat.reduceLeDiff, Nat.reduceLT]
    refine qif_d (fun h0 => ?_) (fun h0 => ?_)
    · simp only [Tryd.f5, go_sem, Int.reduceToNat, Int.reduceEq, Int.reduceNe, Int.reduceLT, Int.reduceLE, Int.reduceNeg, Int.reduceAdd, ↓reduceIte, ↓reduceCtorEq, Nat.reduceEqDiff, Nat.reduceAdd, Nat.reduceSub, Nat.reduceMul, Nat.reduceLeDiff, Nat.reduceLT]
      try rfl
    · have hcc := hz (Decidable.not_not.1 h0)
      simp only [Tryd.f5, go_sem, Int.reduceToNat, Int.reduceEq, Int.reduceNe, Int.reduceLT, Int.reduceLE, Int.reduceNeg, Int.reduceAdd, ↓reduceIte, ↓reduceCtorEq, Nat.reduceEqDiff, Nat.reduceAdd, Nat.reduceSub, Nat.reduceMul, Nat.reduceLeDiff, Nat.reduceLT]
      refine qcall_i (k3) ?_; simp only [Tryd.f5, go_sem, Int.reduceToNat, Int.reduceEq, Int.reduceNe, Int.reduceLT, Int.reduceLE, Int.reduceNeg, Int.reduceAdd, ↓reduceIte, ↓reduceCtorEq, Nat.reduceEqDiff, Nat.reduceAdd, Nat.reduceSub, Nat.reduceMul, Nat.reduceLeDiff, Nat.reduceLT]
      refine qcall_i (k4) ?_; simp only [Tryd.f5, go_sem, Int.reduceToNat, Int.reduceEq, Int.reduceNe, Int.reduceLT, Int.reduceLE, Int.reduceNeg, Int.reduceAdd, ↓reduceIte, ↓reduceCtorEq, Nat.reduceEqDiff, Nat.reduceAdd, Nat.reduceSub, Nat.reduceMul, Nat.reduceLeDiff, Nat.reduceLT]
      exact decide_eq_true hcc
end Go.Proofs.YtejmlngnpekagaaDoor
