/- The contract of the law UlpsRules: at whatever reads as its arguments it returns true. -/
import Derived.Test.YtejmlngnpekagaaDoorUr3
import Derived.Test.YtejmlngnpekagaaDoorCut
open Go PG Go.Proofs
set_option maxRecDepth 100000
set_option linter.unusedSimpArgs false
set_option linter.unusedVariables false
namespace Go.Proofs.YtejmlngnpekagaaDoor
attribute [local go_sem] Lay2 Lay3 Lay4 Lay5 Lay6 Lay7 Lay8 Lay9 Lay10 Lay11 Lay12 Lay13 Lay14 Lay15 Lay16 Lay17 Lay18 Lay19 Lay21 Lay22 Lay23 Lay24 Lay25 Lay30 Lay33 Lay36 Lay37 Lay46 Lay47 Lay48 Lay53 Lay54 Lay55 Lay59 Lay100 Lay101 Lay127 Lay146 Lay162 Lay168 Lay169 Lay173 qexec_seq qexec_skip qexec_exit qexec_ret qexec_block qexec_loop qexec_range qexec_cond qexec_region qexec_drawn qops_nil qops_none qops_some put_some put_none pblk_exit pblk_other newDsts_nil sget_cons sget_nil qval_some qbool_some qgs_bool qgs_und qfree_some qgrd_true qgrd_false qif_true qif_false qval_ite qval_itn qand_true map_ite map_some' map_none' qdo_move qdo_assign qdo_binOp qdo_pick qdo_unOp qdo_convert qdo_extract qdo_field qdo_fieldAddr qdo_alloc qdo_box qdo_build qdo_buildSlice qdo_load qdo_store qdo_nilCheck qdo_makeFunc qdo_makeSlice qdo_slice qdo_indexAddr qdo_call qcont_val qcont_new qcont_st qcont_app0 qcont_app qcont_inl qcont_call njSV_val njSV_nil njSV_row njSV_ptr njSV_sub binV_val binV_nil binV_nn binV_ptr bin_np bin_nnp nilCmp bin_add bin_sub bin_mul bin_quo bin_rem bin_and bin_or bin_xor bin_andNot bin_eql bin_neq bin_lss bin_leq bin_gtr bin_geq bin_shl bin_shr bin_seql bin_sneq bin_sadd bin_beql bin_aeql bin_aneq eqAnd_some eqCells_nil eqCells_cons fieldTypes isStruct eqCell bin_bneq un_not un_neg nj_ite Nat.beq stepA stepR isNew opSV constSV RV.sv allSome E_mu E_own qkeyIn_none qkeyIn_some qkeyAt_none qkeyAt_some Bool.or_false Bool.false_or Bool.or_true Bool.true_or cst setB res resSV pstart startL killL kill1 eraL frzL svPV rvPV rvInt rvSlice frzOf close closeL pconv pbuiltin pmax2 partPV setCells fillPV zrow bound newSV PV.cells Bk.cells Bk.with SV.key pres presL_nil presL_tmp presL_cell presC2_some cellPV_ptr presC List.toList_toArray List.size_toArray List.getElem?_drop Nat.mul_one Int.toNat_natCast Nat.not_lt_zero Nat.lt_irrefl decide_true decide_false Nat.not_lt Option.some.injEq PV.lst.injEq PV.int.injEq PV.bool.injEq PV.tuple.injEq List.cons.injEq Option.map_some Option.map_none Option.bind_some Option.toList List.map_cons List.map_nil List.nil_append List.cons_append List.append_nil List.zip_cons_cons List.zip_nil_left List.zip_nil_right List.getElem?_cons_zero List.getElem?_cons_succ List.drop_zero List.drop_succ_cons List.take_succ_cons List.take_zero List.set_cons_zero List.set_cons_succ List.length_cons List.length_nil List.length_set List.replicate_one List.replicate_zero bne_self_eq_false beq_self_eq_true Nat.zero_add Nat.add_zero Nat.zero_mul Bool.false_eq_true Bool.true_eq_false Bool.not_true Bool.not_false and_true true_and false_and and_false or_false false_or or_true true_or not_true_eq_false not_false_eq_true ne_eq gt_iff_lt List.mem_cons List.not_mem_nil
attribute [local go_sem ↓] pseq_normal pseq_ret pseq_exit pblk_normal pblk_ret newDsts_cons gdst_zero gdst_succ retQ_normal retQ_ret qneed_nil qneed_cons retM_normal retM_ret endR_normal endR_ret endR_exit

theorem fits5 {Q1 Q2 Q3 Q4 Q5 : PV → Prop} {pvs : List PV} (h : Fits [Q1, Q2, Q3, Q4, Q5] pvs) : ∃ p q r s t, pvs = [p, q, r, s, t] ∧ Q1 p ∧ Q2 q ∧ Q3 r ∧ Q4 s ∧ Q5 t := by
  obtain ⟨p, ps, rfl, h1, h⟩ := fits_cons h
  obtain ⟨q, r, s, t, rfl, h2, h3, h4, h5⟩ := fits4 h; exact ⟨p, q, r, s, t, rfl, h1, h2, h3, h4, h5⟩
theorem four_and {f : Nat} (h : f = 3 ∨ f = 1 ∨ f = 0) : bits .and .u8 (f : Int) 4 = 0 := by
  rcases h with rfl | rfl | rfl <;> decide
theorem fe_small {v : Nat} (h : v < INF) : fe v < 2047 := by
  have hI : INF = 9218868437227405312 := rfl
  unfold fe; omega
theorem within_lim {b : Nat} {d : Dy} {K : Nat} (hf : fe b < 2047) (hl : Lim K d) (hK : K ≤ 20000) {z : Int} (hz : 0 ≤ z ∧ z ≤ 65536) : withV b d z = .tuple [.bool (decide (cmpD (addS (fd b) d.neg).abs (bndD b z) ≤ 0)), .int .i64 0] := by
  unfold withV
  rw [if_neg (by omega), if_pos ⟨hf, hl.fits (by omega)⟩, if_pos]
  have L := hl.mono (J := K + 1153) (by omega)
  exact ((fd_lim b).mono (J := K + 1153) (by omega)).addE L.neg (by omega)
/-- What is rounded: an overflow, or within so many halves. -/
theorem round_all {d : Dy} {K : Nat} (hl : Lim K d) (hK : K ≤ 20000) (dir : Int) : ∃ b f, toS d false dir = (b, f) ∧ b < W ∧ f < 256 ∧ (f = 5 ∨ ((f = 3 ∨ f = 1 ∨ f = 0) ∧ fe b < 2047 ∧ withV b d (if dir = 0 then 1 else 2) = .tuple [.bool true, .int .i64 0])) := by
  have hI : INF = 9218868437227405312 := rfl
  by_cases h0 : d.m = 0
  · refine ⟨0, 0, if_pos h0, by decide, by decide, .inr ⟨.inr (.inr rfl), by decide, ?_⟩⟩
    rw [hl.ok.z h0]
    rw [within_lim (by decide) (Lim.zero K) hK (by split <;> decide)]
    have e : ∀ z : Int, z = 1 ∨ z = 2 → decide (cmpD (addS (fd 0) Dy.zero.neg).abs (bndD 0 z) ≤ 0) = true := fun z hz => by rcases hz with rfl | rfl <;> decide +kernel
    rw [e _ (by split <;> simp)]
  by_cases ht : 1023 < d.top
  · refine ⟨_, 5, toS_big h0 ht false dir, ?_, by decide, .inl rfl⟩
    have hM : MAX = 9218868437227405311 := rfl
    exact (withS_fields d.s (by split <;> omega)).1
  have ht : d.top ≤ 1023 := by omega
  obtain ⟨hv, -⟩ := vS_fd h0 ht (upM d false dir (unitOf d.top))
  have hw := (withS_fields d.s (b := vS d (upM d false dir (unitOf d.top))) (by omega)).1
  have hR := fun h => round_within hl hK h0 ht dir h rfl
  have hfe := fe_withS d.s (v := vS d (upM d false dir (unitOf d.top))) (by omega)
  have hS := toS_no h0 ht false dir
  generalize vS d (upM d false dir (unitOf d.top)) = v at *
  by_cases hvI : v = INF
  · rw [if_pos hvI] at hS
    exact ⟨_, 5, hS, hw, by decide, .inl rfl⟩
  rw [if_neg hvI] at hS
  have hf2 : fe (withS d.s v) < 2047 := by rw [hfe]; exact fe_small (by omega)
  refine ⟨_, _, hS, hw, by split <;> (try split) <;> decide, .inr ⟨by split <;> (try split) <;> simp, hf2, ?_⟩⟩
  rw [within_lim hf2 hl hK (by split <;> decide), decide_eq_true (hR (by omega))]

set_option maxHeartbeats 4000000 in
theorem law_UlpsRules (pvs : List PV) (h : Fits [qU64, qU64, qU64, qD, qU8] pvs) : PC E 3 pvs (.bool true) := by
  obtain ⟨_, _, _, _, _, rfl, ⟨a, rfl, ha⟩, ⟨b, rfl, hb⟩, ⟨c, rfl, hc⟩, ⟨s1, l1, e1, rfl, o1, -, -⟩, ⟨dr, rfl, hdr⟩⟩ := fits5 h
  simp only [DP, NL, u]
  refine PC.of_sem Tryd.func3 (by decide +kernel) rfl (Nat.le_of_ble_eq_true rfl) ?_
  refine PSem.cut follows (by kernel_rfl) 3 (fun _ : Unit => ⟨[(0, .val (.int .u64 a)), (1, .val (.int .u64 b)), (2, .val (.int .u64 c)), (4, .val (.int .u8 dr)), (8, .ptr 8 0)],
    [(8, (.box [.bool s1, .lst l1.length (U l1), .int .i64 e1], false))]⟩)
    (fun _ => l1.length ≤ 20 ∧ e1 ≤ 5000 ∧ -5000 ≤ e1) ?_ (fun _ hJ => ?_)
  · simp only [Tryd.f3, qfirst_succ, qfirst_zero, after_succ, after_zero, go_sem, Int.reduceToNat, Int.reduceEq, Int.reduceNe, Int.reduceLT, Int.reduceLE, Int.reduceNeg, Int.reduceAdd, ↓reduceIte, ↓reduceCtorEq, Nat.reduceEqDiff, Nat.reduceAdd, Nat.reduceSub, Nat.reduceMul, Nat.reduceLeDiff, Nat.reduceLT]
    refine qcall_i (c_alive34) ?_; simp only [Tryd.f3, qfirst_succ, qfirst_zero, after_succ, after_zero, go_sem, Int.reduceToNat, Int.reduceEq, Int.reduceNe, Int.reduceLT, Int.reduceLE, Int.reduceNeg, Int.reduceAdd, ↓reduceIte, ↓reduceCtorEq, Nat.reduceEqDiff, Nat.reduceAdd, Nat.reduceSub, Nat.reduceMul, Nat.reduceLeDiff, Nat.reduceLT]
    refine qif_d (fun h1 => ?_) (fun h1 => ?_)
    · simp only [Tryd.f3, qfirst_succ, qfirst_zero, after_succ, after_zero, go_sem, Int.reduceToNat, Int.reduceEq, Int.reduceNe, Int.reduceLT, Int.reduceLE, Int.reduceNeg, Int.reduceAdd, ↓reduceIte, ↓reduceCtorEq, Nat.reduceEqDiff, Nat.reduceAdd, Nat.reduceSub, Nat.reduceMul, Nat.reduceLeDiff, Nat.reduceLT]
    simp only [Tryd.f3, qfirst_succ, qfirst_zero, after_succ, after_zero, go_sem, Int.reduceToNat, Int.reduceEq, Int.reduceNe, Int.reduceLT, Int.reduceLE, Int.reduceNeg, Int.reduceAdd, ↓reduceIte, ↓reduceCtorEq, Nat.reduceEqDiff, Nat.reduceAdd, Nat.reduceSub, Nat.reduceMul, Nat.reduceLeDiff, Nat.reduceLT]
    refine qif_d (fun h2 => ?_) (fun h2 => ?_)
    · simp only [Tryd.f3, qfirst_succ, qfirst_zero, after_succ, after_zero, go_sem, Int.reduceToNat, Int.reduceEq, Int.reduceNe, Int.reduceLT, Int.reduceLE, Int.reduceNeg, Int.reduceAdd, ↓reduceIte, ↓reduceCtorEq, Nat.reduceEqDiff, Nat.reduceAdd, Nat.reduceSub, Nat.reduceMul, Nat.reduceLeDiff, Nat.reduceLT]
    simp only [Tryd.f3, qfirst_succ, qfirst_zero, after_succ, after_zero, go_sem, Int.reduceToNat, Int.reduceEq, Int.reduceNe, Int.reduceLT, Int.reduceLE, Int.reduceNeg, Int.reduceAdd, ↓reduceIte, ↓reduceCtorEq, Nat.reduceEqDiff, Nat.reduceAdd, Nat.reduceSub, Nat.reduceMul, Nat.reduceLeDiff, Nat.reduceLT]
    refine qif_d (fun h3 => ?_) (fun h3 => ?_)
    · simp only [Tryd.f3, qfirst_succ, qfirst_zero, after_succ, after_zero, go_sem, Int.reduceToNat, Int.reduceEq, Int.reduceNe, Int.reduceLT, Int.reduceLE, Int.reduceNeg, Int.reduceAdd, ↓reduceIte, ↓reduceCtorEq, Nat.reduceEqDiff, Nat.reduceAdd, Nat.reduceSub, Nat.reduceMul, Nat.reduceLeDiff, Nat.reduceLT]
    simp only [Tryd.f3, qfirst_succ, qfirst_zero, after_succ, after_zero, go_sem, Int.reduceToNat, Int.reduceEq, Int.reduceNe, Int.reduceLT, Int.reduceLE, Int.reduceNeg, Int.reduceAdd, ↓reduceIte, ↓reduceCtorEq, Nat.reduceEqDiff, Nat.reduceAdd, Nat.reduceSub, Nat.reduceMul, Nat.reduceLeDiff, Nat.reduceLT]
    refine ⟨(), ⟨by omega, by omega, by omega⟩, ?_⟩
    simp [Wk, sget, killL, kill1, SV.key, setCells]
  obtain ⟨hJ, hE1, hE2⟩ := hJ
  have rd := RD.arg (s := s1) (e := e1) o1 (by omega)
  have hb1 := bits_of_vl o1
  have Ld : Lim 6280 (mkD s1 (vl l1) e1) := Lim.mk (n := 1280) (J := 5000) (by omega) (by omega) (by decide)
  generalize mkD s1 (vl l1) e1 = d at *
  simp only [DP, NL] at rd
  generalize PV.lst l1.length (U l1) = P1 at *
  clear hJ o1 h hE1 hE2 hb1
  refine PSem.cut follows (by kernel_rfl) 1 (fun _ : Unit => ⟨[(4, .val (.int .u8 dr)), (8, .ptr 8 0)], [(8, (.box [.bool s1, P1, .int .i64 e1], false))]⟩) (fun _ => True) ?_ (fun _ _ => ?_)
  · have k1 := c_rKind a ha
    have k2 := c_rKind b hb
    have k3 := c_rKind c hc
    have q1 := c_Place a ha
    have q2 := c_Place b hb
    have q3 := c_Place c hc
    have d1 := c_Distance a b ha hb
    have d2 := c_Distance b c hb hc
    have d3 := c_Distance a c ha hc
    have d4 := c_Distance b a hb ha
    have ra := plc_range a
    have rb := plc_range b
    have rc := plc_range c
    generalize plc a = P at *
    generalize plc b = Q at *
    generalize plc c = R at *
    generalize kind a = ka at *
    generalize kind b = kb at *
    generalize kind c = kc at *
    rw [show (Q - P).natAbs = (P - Q).natAbs by omega] at d4
    simp only [u] at k1 k2 k3 q1 q2 q3 d1 d2 d3 d4
    by_cases h1 : ka ≤ 3
    case neg =>
      have g1 : decide ((ka : Int) ≤ 3) = false := decide_eq_false (by omega)
      simp only [Tryd.f3, after_succ, after_zero, qfirst_succ, qfirst_zero, after_succ, after_zero, go_sem, Int.reduceToNat, Int.reduceEq, Int.reduceNe, Int.reduceLT, Int.reduceLE, Int.reduceNeg, Int.reduceAdd, ↓reduceIte, ↓reduceCtorEq, Nat.reduceEqDiff, Nat.reduceAdd, Nat.reduceSub, Nat.reduceMul, Nat.reduceLeDiff, Nat.reduceLT]
      refine qcall_i (k1) ?_; simp only [Tryd.f3, qfirst_succ, qfirst_zero, after_succ, after_zero, g1, go_sem, Int.reduceToNat, Int.reduceEq, Int.reduceNe, Int.reduceLT, Int.reduceLE, Int.reduceNeg, Int.reduceAdd, ↓reduceIte, ↓reduceCtorEq, Nat.reduceEqDiff, Nat.reduceAdd, Nat.reduceSub, Nat.reduceMul, Nat.reduceLeDiff, Nat.reduceLT]
      refine ⟨(), ?_⟩
      simp [Wk, sget, killL, kill1, SV.key, setCells]
    have g1 : decide ((ka : Int) ≤ 3) = true := decide_eq_true (by omega)
    by_cases h2 : kb ≤ 3
    case neg =>
      have g2 : decide ((kb : Int) ≤ 3) = false := decide_eq_false (by omega)
      simp only [Tryd.f3, after_succ, after_zero, qfirst_succ, qfirst_zero, after_succ, after_zero, go_sem, Int.reduceToNat, Int.reduceEq, Int.reduceNe, Int.reduceLT, Int.reduceLE, Int.reduceNeg, Int.reduceAdd, ↓reduceIte, ↓reduceCtorEq, Nat.reduceEqDiff, Nat.reduceAdd, Nat.reduceSub, Nat.reduceMul, Nat.reduceLeDiff, Nat.reduceLT]
      refine qcall_i (k1) ?_; simp only [Tryd.f3, qfirst_succ, qfirst_zero, after_succ, after_zero, g1, go_sem, Int.reduceToNat, Int.reduceEq, Int.reduceNe, Int.reduceLT, Int.reduceLE, Int.reduceNeg, Int.reduceAdd, ↓reduceIte, ↓reduceCtorEq, Nat.reduceEqDiff, Nat.reduceAdd, Nat.reduceSub, Nat.reduceMul, Nat.reduceLeDiff, Nat.reduceLT]
      refine qcall_i (k2) ?_; simp only [Tryd.f3, qfirst_succ, qfirst_zero, after_succ, after_zero, g2, go_sem, Int.reduceToNat, Int.reduceEq, Int.reduceNe, Int.reduceLT, Int.reduceLE, Int.reduceNeg, Int.reduceAdd, ↓reduceIte, ↓reduceCtorEq, Nat.reduceEqDiff, Nat.reduceAdd, Nat.reduceSub, Nat.reduceMul, Nat.reduceLeDiff, Nat.reduceLT]
      refine ⟨(), ?_⟩
      simp [Wk, sget, killL, kill1, SV.key, setCells]
    have g2 : decide ((kb : Int) ≤ 3) = true := decide_eq_true (by omega)
    by_cases h3 : kc ≤ 3
    case neg =>
      have g3 : decide ((kc : Int) ≤ 3) = false := decide_eq_false (by omega)
      simp only [Tryd.f3, after_succ, after_zero, qfirst_succ, qfirst_zero, after_succ, after_zero, go_sem, Int.reduceToNat, Int.reduceEq, Int.reduceNe, Int.reduceLT, Int.reduceLE, Int.reduceNeg, Int.reduceAdd, ↓reduceIte, ↓reduceCtorEq, Nat.reduceEqDiff, Nat.reduceAdd, Nat.reduceSub, Nat.reduceMul, Nat.reduceLeDiff, Nat.reduceLT]
      refine qcall_i (k1) ?_; simp only [Tryd.f3, qfirst_succ, qfirst_zero, after_succ, after_zero, g1, go_sem, Int.reduceToNat, Int.reduceEq, Int.reduceNe, Int.reduceLT, Int.reduceLE, Int.reduceNeg, Int.reduceAdd, ↓reduceIte, ↓reduceCtorEq, Nat.reduceEqDiff, Nat.reduceAdd, Nat.reduceSub, Nat.reduceMul, Nat.reduceLeDiff, Nat.reduceLT]
      refine qcall_i (k2) ?_; simp only [Tryd.f3, qfirst_succ, qfirst_zero, after_succ, after_zero, g2, go_sem, Int.reduceToNat, Int.reduceEq, Int.reduceNe, Int.reduceLT, Int.reduceLE, Int.reduceNeg, Int.reduceAdd, ↓reduceIte, ↓reduceCtorEq, Nat.reduceEqDiff, Nat.reduceAdd, Nat.reduceSub, Nat.reduceMul, Nat.reduceLeDiff, Nat.reduceLT]
      refine qcall_i (k3) ?_; simp only [Tryd.f3, qfirst_succ, qfirst_zero, after_succ, after_zero, g3, go_sem, Int.reduceToNat, Int.reduceEq, Int.reduceNe, Int.reduceLT, Int.reduceLE, Int.reduceNeg, Int.reduceAdd, ↓reduceIte, ↓reduceCtorEq, Nat.reduceEqDiff, Nat.reduceAdd, Nat.reduceSub, Nat.reduceMul, Nat.reduceLeDiff, Nat.reduceLT]
      refine ⟨(), ?_⟩
      simp [Wk, sget, killL, kill1, SV.key, setCells]
    have g3 : decide ((kc : Int) ≤ 3) = true := decide_eq_true (by omega)
    rw [if_pos h1] at q1
    rw [if_pos h2] at q2
    rw [if_pos h3] at q3
    rw [if_pos ⟨h1, h2⟩] at d1
    rw [if_pos ⟨h2, h3⟩] at d2
    rw [if_pos ⟨h1, h3⟩] at d3
    rw [if_pos ⟨h2, h1⟩] at d4
    have wX : ((P - Q).natAbs : Int) ≤ ((P - R).natAbs : Int) → IntKind.wrap .u64 (((P - R).natAbs : Int) - ((P - Q).natAbs : Int)) = ((P - R).natAbs : Int) - ((P - Q).natAbs : Int) := fun h => by rw [wu64]; omega
    generalize hX : (P - Q).natAbs = X at *
    generalize hY : (Q - R).natAbs = Y at *
    generalize hZ : (P - R).natAbs = Z at *
    simp only [Tryd.f3, after_succ, after_zero, qfirst_succ, qfirst_zero, after_succ, after_zero, go_sem, Int.reduceToNat, Int.reduceEq, Int.reduceNe, Int.reduceLT, Int.reduceLE, Int.reduceNeg, Int.reduceAdd, ↓reduceIte, ↓reduceCtorEq, Nat.reduceEqDiff, Nat.reduceAdd, Nat.reduceSub, Nat.reduceMul, Nat.reduceLeDiff, Nat.reduceLT]
    refine qcall_i (k1) ?_; simp only [Tryd.f3, qfirst_succ, qfirst_zero, after_succ, after_zero, g1, go_sem, Int.reduceToNat, Int.reduceEq, Int.reduceNe, Int.reduceLT, Int.reduceLE, Int.reduceNeg, Int.reduceAdd, ↓reduceIte, ↓reduceCtorEq, Nat.reduceEqDiff, Nat.reduceAdd, Nat.reduceSub, Nat.reduceMul, Nat.reduceLeDiff, Nat.reduceLT]
    refine qcall_i (k2) ?_; simp only [Tryd.f3, qfirst_succ, qfirst_zero, after_succ, after_zero, g2, go_sem, Int.reduceToNat, Int.reduceEq, Int.reduceNe, Int.reduceLT, Int.reduceLE, Int.reduceNeg, Int.reduceAdd, ↓reduceIte, ↓reduceCtorEq, Nat.reduceEqDiff, Nat.reduceAdd, Nat.reduceSub, Nat.reduceMul, Nat.reduceLeDiff, Nat.reduceLT]
    refine qcall_i (k3) ?_; simp only [Tryd.f3, qfirst_succ, qfirst_zero, after_succ, after_zero, g3, go_sem, Int.reduceToNat, Int.reduceEq, Int.reduceNe, Int.reduceLT, Int.reduceLE, Int.reduceNeg, Int.reduceAdd, ↓reduceIte, ↓reduceCtorEq, Nat.reduceEqDiff, Nat.reduceAdd, Nat.reduceSub, Nat.reduceMul, Nat.reduceLeDiff, Nat.reduceLT]
    refine qcall_i (q1) ?_; simp only [Tryd.f3, qfirst_succ, qfirst_zero, after_succ, after_zero, go_sem, Int.reduceToNat, Int.reduceEq, Int.reduceNe, Int.reduceLT, Int.reduceLE, Int.reduceNeg, Int.reduceAdd, ↓reduceIte, ↓reduceCtorEq, Nat.reduceEqDiff, Nat.reduceAdd, Nat.reduceSub, Nat.reduceMul, Nat.reduceLeDiff, Nat.reduceLT]
    refine qcall_i (q2) ?_; simp only [Tryd.f3, qfirst_succ, qfirst_zero, after_succ, after_zero, go_sem, Int.reduceToNat, Int.reduceEq, Int.reduceNe, Int.reduceLT, Int.reduceLE, Int.reduceNeg, Int.reduceAdd, ↓reduceIte, ↓reduceCtorEq, Nat.reduceEqDiff, Nat.reduceAdd, Nat.reduceSub, Nat.reduceMul, Nat.reduceLeDiff, Nat.reduceLT]
    refine qcall_i (q3) ?_; simp only [Tryd.f3, qfirst_succ, qfirst_zero, after_succ, after_zero, go_sem, Int.reduceToNat, Int.reduceEq, Int.reduceNe, Int.reduceLT, Int.reduceLE, Int.reduceNeg, Int.reduceAdd, ↓reduceIte, ↓reduceCtorEq, Nat.reduceEqDiff, Nat.reduceAdd, Nat.reduceSub, Nat.reduceMul, Nat.reduceLeDiff, Nat.reduceLT]
    refine qcall_i (d1) ?_; simp only [Tryd.f3, qfirst_succ, qfirst_zero, after_succ, after_zero, go_sem, Int.reduceToNat, Int.reduceEq, Int.reduceNe, Int.reduceLT, Int.reduceLE, Int.reduceNeg, Int.reduceAdd, ↓reduceIte, ↓reduceCtorEq, Nat.reduceEqDiff, Nat.reduceAdd, Nat.reduceSub, Nat.reduceMul, Nat.reduceLeDiff, Nat.reduceLT]
    refine qcall_i (d2) ?_; simp only [Tryd.f3, qfirst_succ, qfirst_zero, after_succ, after_zero, go_sem, Int.reduceToNat, Int.reduceEq, Int.reduceNe, Int.reduceLT, Int.reduceLE, Int.reduceNeg, Int.reduceAdd, ↓reduceIte, ↓reduceCtorEq, Nat.reduceEqDiff, Nat.reduceAdd, Nat.reduceSub, Nat.reduceMul, Nat.reduceLeDiff, Nat.reduceLT]
    refine qcall_i (d3) ?_; simp only [Tryd.f3, qfirst_succ, qfirst_zero, after_succ, after_zero, go_sem, Int.reduceToNat, Int.reduceEq, Int.reduceNe, Int.reduceLT, Int.reduceLE, Int.reduceNeg, Int.reduceAdd, ↓reduceIte, ↓reduceCtorEq, Nat.reduceEqDiff, Nat.reduceAdd, Nat.reduceSub, Nat.reduceMul, Nat.reduceLeDiff, Nat.reduceLT]
    refine qcall_i (d4) ?_; simp only [Tryd.f3, qfirst_succ, qfirst_zero, after_succ, after_zero, go_sem, Int.reduceToNat, Int.reduceEq, Int.reduceNe, Int.reduceLT, Int.reduceLE, Int.reduceNeg, Int.reduceAdd, ↓reduceIte, ↓reduceCtorEq, Nat.reduceEqDiff, Nat.reduceAdd, Nat.reduceSub, Nat.reduceMul, Nat.reduceLeDiff, Nat.reduceLT]
    by_cases hle : (X : Int) ≤ Z
    · have w := wX hle
      clear wX q1 q2 q3 k1 k2 k3 d1 d2 d3 d4
      repeat' first
        | ((with_reducible refine qif_d (fun h => ?_) (fun h => ?_)) <;> first | (exfalso; omega) | simp only [Tryd.f3, qfirst_succ, qfirst_zero, after_succ, after_zero, w, go_sem, Int.reduceToNat, Int.reduceEq, Int.reduceNe, Int.reduceLT, Int.reduceLE, Int.reduceNeg, Int.reduceAdd, ↓reduceIte, ↓reduceCtorEq, Nat.reduceEqDiff, Nat.reduceAdd, Nat.reduceSub, Nat.reduceMul, Nat.reduceLeDiff, Nat.reduceLT])
        | (refine ⟨(), ?_⟩; simp [Wk, sget, killL, kill1, SV.key, setCells]; done)
    · clear wX q1 q2 q3 k1 k2 k3 d1 d2 d3 d4
      repeat' first
        | ((with_reducible refine qif_d (fun h => ?_) (fun h => ?_)) <;> first | (exfalso; omega) | simp only [Tryd.f3, qfirst_succ, qfirst_zero, after_succ, after_zero, go_sem, Int.reduceToNat, Int.reduceEq, Int.reduceNe, Int.reduceLT, Int.reduceLE, Int.reduceNeg, Int.reduceAdd, ↓reduceIte, ↓reduceCtorEq, Nat.reduceEqDiff, Nat.reduceAdd, Nat.reduceSub, Nat.reduceMul, Nat.reduceLeDiff, Nat.reduceLT])
        | (refine ⟨(), ?_⟩; simp [Wk, sget, killL, kill1, SV.key, setCells]; done)
  obtain ⟨bb, f, hS, hbW, hfW, hR⟩ := round_all Ld (by decide) ((dr % 4 : Nat) : Int)
  obtain ⟨D, hD⟩ : ∃ D, D = dr % 4 := ⟨_, rfl⟩
  rw [← hD] at hS hR
  have k1 := r_To rd (by have := Ld.bits; omega) false (D : Int)
  rw [if_pos (show toE d false (D : Int) from ⟨Ld.fits (by decide), by omega, by omega, fun h => by cases h.1⟩), hS] at k1
  have k2 := c_Finite bb hbW
  have k3 := c_Within hbW rd (by have := Ld.bits; omega) (z := if (D : Int) = 0 then 1 else 2) (by split <;> decide)
  have w4 : (dr : Int).tmod 4 = (D : Int) := by rw [hD]; exact n_tmod dr 4
  have w6 : IntKind.wrap .i64 (D : Int) = D := wrap64 (by omega) (by omega)
  have w7 : IntKind.wrap .u8 (D : Int) = D := wrap8 (by omega)
  refine PSem.last follows (by kernel_rfl) ?_
  simp only [u, DP] at k1 k2 k3
  rcases hR with rfl | ⟨hf, hfin, hwv⟩
  · have f5 : bits .and .u8 ((5 : Nat) : Int) 4 = 4 := by decide
    simp only [Tryd.f3, after_succ, after_zero, w4, w6, w7, go_sem, Int.reduceToNat, Int.reduceEq, Int.reduceNe, Int.reduceLT, Int.reduceLE, Int.reduceNeg, Int.reduceAdd, ↓reduceIte, ↓reduceCtorEq, Nat.reduceEqDiff, Nat.reduceAdd, Nat.reduceSub, Nat.reduceMul, Nat.reduceLeDiff, Nat.reduceLT]
    refine qcall_i (k1) ?_; simp only [Tryd.f3, f5, w4, w6, w7, go_sem, Int.reduceToNat, Int.reduceEq, Int.reduceNe, Int.reduceLT, Int.reduceLE, Int.reduceNeg, Int.reduceAdd, ↓reduceIte, ↓reduceCtorEq, Nat.reduceEqDiff, Nat.reduceAdd, Nat.reduceSub, Nat.reduceMul, Nat.reduceLeDiff, Nat.reduceLT]
    try exact decide_eq_true rfl
  have hf4 := four_and hf
  rw [hwv] at k3
  rw [decide_eq_true hfin] at k2
  simp only [Tryd.f3, after_succ, after_zero, w4, w6, w7, go_sem, Int.reduceToNat, Int.reduceEq, Int.reduceNe, Int.reduceLT, Int.reduceLE, Int.reduceNeg, Int.reduceAdd, ↓reduceIte, ↓reduceCtorEq, Nat.reduceEqDiff, Nat.reduceAdd, Nat.reduceSub, Nat.reduceMul, Nat.reduceLeDiff, Nat.reduceLT]
  refine qcall_i (k1) ?_; simp only [Tryd.f3, hf4, w4, w6, w7, go_sem, Int.reduceToNat, Int.reduceEq, Int.reduceNe, Int.reduceLT, Int.reduceLE, Int.reduceNeg, Int.reduceAdd, ↓reduceIte, ↓reduceCtorEq, Nat.reduceEqDiff, Nat.reduceAdd, Nat.reduceSub, Nat.reduceMul, Nat.reduceLeDiff, Nat.reduceLT]
  refine qcall_i (k2) ?_; simp only [Tryd.f3, hf4, w4, w6, w7, go_sem, Int.reduceToNat, Int.reduceEq, Int.reduceNe, Int.reduceLT, Int.reduceLE, Int.reduceNeg, Int.reduceAdd, ↓reduceIte, ↓reduceCtorEq, Nat.reduceEqDiff, Nat.reduceAdd, Nat.reduceSub, Nat.reduceMul, Nat.reduceLeDiff, Nat.reduceLT]
  by_cases h0 : (D : Int) = 0
  · rw [if_pos h0] at k3
    refine qif_dt h0 ?_
    simp only [Tryd.f3, go_sem, Int.reduceToNat, Int.reduceEq, Int.reduceNe, Int.reduceLT, Int.reduceLE, Int.reduceNeg, Int.reduceAdd, ↓reduceIte, ↓reduceCtorEq, Nat.reduceEqDiff, Nat.reduceAdd, Nat.reduceSub, Nat.reduceMul, Nat.reduceLeDiff, Nat.reduceLT]
    refine qcall_i (k3) ?_; simp only [Tryd.f3, go_sem, Int.reduceToNat, Int.reduceEq, Int.reduceNe, Int.reduceLT, Int.reduceLE, Int.reduceNeg, Int.reduceAdd, ↓reduceIte, ↓reduceCtorEq, Nat.reduceEqDiff, Nat.reduceAdd, Nat.reduceSub, Nat.reduceMul, Nat.reduceLeDiff, Nat.reduceLT]
    try exact decide_eq_true rfl
  · rw [if_neg h0] at k3
    refine qif_df h0 ?_
    simp only [Tryd.f3, go_sem, Int.reduceToNat, Int.reduceEq, Int.reduceNe, Int.reduceLT, Int.reduceLE, Int.reduceNeg, Int.reduceAdd, ↓reduceIte, ↓reduceCtorEq, Nat.reduceEqDiff, Nat.reduceAdd, Nat.reduceSub, Nat.reduceMul, Nat.reduceLeDiff, Nat.reduceLT]
    refine qcall_i (k3) ?_; simp only [Tryd.f3, go_sem, Int.reduceToNat, Int.reduceEq, Int.reduceNe, Int.reduceLT, Int.reduceLE, Int.reduceNeg, Int.reduceAdd, ↓reduceIte, ↓reduceCtorEq, Nat.reduceEqDiff, Nat.reduceAdd, Nat.reduceSub, Nat.reduceMul, Nat.reduceLeDiff, Nat.reduceLT]
    try exact decide_eq_true rfl
end Go.Proofs.YtejmlngnpekagaaDoor
