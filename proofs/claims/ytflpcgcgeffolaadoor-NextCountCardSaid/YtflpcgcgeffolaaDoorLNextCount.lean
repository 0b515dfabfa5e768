/- The contract of the law NextCount: at whatever reads as its arguments it returns true. -/
import Derived.Test.YtflpcgcgeffolaaDoorLNxA
import Derived.Test.YtflpcgcgeffolaaDoorNx3
open Go PG Go.Proofs
set_option maxRecDepth 100000
set_option linter.unusedSimpArgs false
set_option linter.unusedVariables false
namespace Go.Proofs.YtflpcgcgeffolaaDoor
attribute [local go_sem] Lay2 Lay3 Lay4 Lay5 Lay6 Lay7 Lay8 Lay9 Lay10 Lay11 Lay12 Lay13 Lay14 Lay21 Lay22 Lay24 Lay25 Lay26 Lay27 Lay36 Lay37 Lay38 Lay39 Lay40 Lay41 Lay43 Lay46 Lay47 Lay66 Lay103 Lay105 Lay159 Lay164 Lay165 Lay166 Lay168 Lay169 Lay172 Lay173 qexec_seq qexec_skip qexec_exit qexec_ret qexec_block qexec_loop qexec_range qexec_cond qexec_region qexec_drawn qops_nil qops_none qops_some put_some put_none pblk_exit pblk_other newDsts_nil sget_cons sget_nil qval_some qbool_some qgs_bool qgs_und qfree_some qgrd_true qgrd_false qif_true qif_false qval_ite qval_itn qand_true map_ite map_some' map_none' qdo_move qdo_assign qdo_binOp qdo_pick qdo_unOp qdo_convert qdo_extract qdo_field qdo_fieldAddr qdo_alloc qdo_box qdo_build qdo_buildSlice qdo_load qdo_store qdo_nilCheck qdo_makeFunc qdo_makeSlice qdo_slice qdo_indexAddr qdo_call qcont_val qcont_new qcont_st qcont_app0 qcont_app qcont_inl qcont_call njSV_val njSV_nil njSV_row njSV_ptr njSV_sub binV_val binV_nil binV_nn nilCmp bin_add bin_sub bin_mul bin_quo bin_rem bin_and bin_or bin_xor bin_andNot bin_eql bin_neq bin_lss bin_leq bin_gtr bin_geq bin_shl bin_shr bin_seql bin_sneq bin_sadd bin_beql bin_aeql bin_aneq eqAnd_some eqCells_nil eqCells_cons fieldTypes isStruct eqCell bin_bneq un_not un_neg nj_ite Nat.beq stepA stepR isNew opSV constSV RV.sv allSome E_mu E_own qkeyIn_none qkeyIn_some qkeyAt_none qkeyAt_some Bool.or_false Bool.false_or Bool.or_true Bool.true_or cst setB res resSV pstart startL killL kill1 eraL frzL svPV rvPV rvInt rvSlice frzOf close closeL pconv pbuiltin pmax2 partPV setCells fillPV zrow bound newSV PV.cells Bk.cells Bk.with SV.key pres presL_nil presL_tmp presL_cell presC2_some cellPV_ptr presC List.toList_toArray List.size_toArray List.getElem?_drop Nat.mul_one Int.toNat_natCast Nat.not_lt_zero Nat.lt_irrefl decide_true decide_false Nat.not_lt Option.some.injEq PV.lst.injEq PV.int.injEq PV.bool.injEq PV.tuple.injEq List.cons.injEq Option.map_some Option.map_none Option.bind_some Option.toList List.map_cons List.map_nil List.nil_append List.cons_append List.append_nil List.zip_cons_cons List.zip_nil_left List.zip_nil_right List.getElem?_cons_zero List.getElem?_cons_succ List.drop_zero List.drop_succ_cons List.take_succ_cons List.take_zero List.set_cons_zero List.set_cons_succ List.length_cons List.length_nil List.length_set List.replicate_one List.replicate_zero bne_self_eq_false beq_self_eq_true Nat.zero_add Nat.add_zero Nat.zero_mul Bool.false_eq_true Bool.true_eq_false Bool.not_true Bool.not_false and_true true_and false_and and_false or_false false_or or_true true_or not_true_eq_false not_false_eq_true ne_eq gt_iff_lt List.mem_cons List.not_mem_nil
attribute [local go_sem ↓] pseq_normal pseq_ret pseq_exit pblk_normal pblk_ret newDsts_cons gdst_zero gdst_succ retQ_normal retQ_ret qneed_nil qneed_cons retM_normal retM_ret endR_normal endR_ret endR_exit

theorem upS_W {b : Nat} (hb : b < W) (hf : fe b < 2047) : upS b < W := by
  have h1 := fe_top hb hf
  have hb' := b_lt hb
  have h1' := b_lt h1
  unfold upS
  rw [if_pos hf]
  show _ < 18446744073709551616
  split
  · omega
  · split <;> omega
theorem downS_W {b : Nat} (hb : b < W) : downS b < W := by
  have hb' := b_lt hb
  unfold downS
  by_cases hf : fe b < 2047
  · have h1' := b_lt (fe_top hb hf)
    rw [if_pos hf]
    show _ < 18446744073709551616
    split
    · omega
    · split <;> omega
  · rw [if_neg hf]; decide
theorem mid_lt {b : Nat} (hb : b + 1 < INF) : cmpD (mid b) (mid (b + 1)) = -1 := by
  have hI := INF_lt
  have h1 := fv_lt (a := b) (b := b + 1) (by omega) (by omega)
  have h2 := fv_lt (a := b + 1) (b := b + 1 + 1) (by omega) (by omega)
  rw [cmp_at (mid_ge b) (mid_ge (b + 1)), mid_sum (by omega), mid_sum hb]
  unfold sgn
  rw [if_pos (by omega)]
theorem brk_mid {b : Nat} (hb : b < INF) : (mid b).fits ∧ brkP (mid b) := by
  refine ⟨mid_fits b, ?_⟩
  have hI := INF_lt
  have h := fv_lt (a := b) (b := b + 1) (by omega) (by omega)
  have e1 : (mid b).abs = mid b := rfl
  have hlow : low (mid b) = b := by
    refine bel_unique (n := mid b) (by rw [← e1]; exact bel_low) ⟨by omega, ?_, .inr ?_⟩
    · rw [cmp_at ((fd_ge b).mono (k := -1075) (by omega)) (mid_ge b), mid_sum hb, fd_at' (by omega) (by omega), show (-1074 - -1075 : Int).toNat = 1 by decide, sgn_le]
      omega
    · rw [cmp_at ((fd_ge (b + 1)).mono (k := -1075) (by omega)) (mid_ge b), mid_sum hb, fd_at' (by omega) (by omega), show (-1074 - -1075 : Int).toNat = 1 by decide, sgn_pos]
      omega
  rw [brk_law (mid_ok b), hlow, if_neg (by omega), e1, cmp_self]
  exact .inr (.inr rfl)

theorem law_NextCount (pvs : List PV) (h : Fits [qU64, qU8] pvs) : PC E 7 pvs (.bool true) := by
  obtain ⟨_, _, rfl, ⟨b, rfl, hb⟩, ⟨n, rfl, hn⟩⟩ := fits2 h
  refine PC.of_body follows Tryd.func7 (by decide +kernel) rfl (by kernel_rfl) (Nat.le_of_ble_eq_true rfl) (walk ?_)
  have wn : IntKind.wrap .i64 (n : Int) = (n : Int) := wrap64 (by omega) (by omega)
  have k4 := c_Beside b hb
  simp only [Tryd.f7, u, go_sem, Int.reduceToNat, Int.reduceEq, Int.reduceNe, Int.reduceLT, Int.reduceLE, Int.reduceNeg, Int.reduceAdd, ↓reduceIte, ↓reduceCtorEq, Nat.reduceEqDiff, Nat.reduceAdd, Nat.reduceSub, Nat.reduceMul, Nat.reduceLeDiff, Nat.reduceLT]
  refine qcall_i (c_alive08) ?_; simp only [Tryd.f7, u, go_sem, Int.reduceToNat, Int.reduceEq, Int.reduceNe, Int.reduceLT, Int.reduceLE, Int.reduceNeg, Int.reduceAdd, ↓reduceIte, ↓reduceCtorEq, Nat.reduceEqDiff, Nat.reduceAdd, Nat.reduceSub, Nat.reduceMul, Nat.reduceLeDiff, Nat.reduceLT]
  refine PLoop.intro (fun i : Nat × Nat => ⟨[(0, .val (.int .u64 b)), (1, .val (.int .u8 n)), (5, .val (.int .u64 i.1)), (6, .val (.int .i64 i.2))], []⟩) (fun i => i.1 < W ∧ i.2 ≤ n) (fun i => n - i.2) (b, 0) ⟨hb, Nat.zero_le _⟩ ?_ fun i hi => walk ?_
  · simp [Wk, sget, killL, kill1, SV.key, NL, VL, u, e32]
  obtain ⟨x, i⟩ := i
  obtain ⟨hx, hi⟩ := hi
  simp only at hx hi
  have k1 := c_Up x hx
  have k2 := c_Finite x hx
  have wi : IntKind.wrap .i64 ((i : Int) + 1) = ((i + 1 : Nat) : Int) := by rw [wrap64 (by omega) (by omega)]; omega
  simp only [Tryd.f7, wn, go_sem, Int.reduceToNat, Int.reduceEq, Int.reduceNe, Int.reduceLT, Int.reduceLE, Int.reduceNeg, Int.reduceAdd, ↓reduceIte, ↓reduceCtorEq, Nat.reduceEqDiff, Nat.reduceAdd, Nat.reduceSub, Nat.reduceMul, Nat.reduceLeDiff, Nat.reduceLT]
  refine qif_d (fun h1 => ?_) (fun h1 => ?_)
  · by_cases hf : fe x < 2047
    · rw [decide_eq_true hf] at k1
      simp only [u] at k1
      simp only [Tryd.f7, wn, go_sem, Int.reduceToNat, Int.reduceEq, Int.reduceNe, Int.reduceLT, Int.reduceLE, Int.reduceNeg, Int.reduceAdd, ↓reduceIte, ↓reduceCtorEq, Nat.reduceEqDiff, Nat.reduceAdd, Nat.reduceSub, Nat.reduceMul, Nat.reduceLeDiff, Nat.reduceLT]
      refine qcall_i (k1) ?_; simp only [Tryd.f7, wi, go_sem, Int.reduceToNat, Int.reduceEq, Int.reduceNe, Int.reduceLT, Int.reduceLE, Int.reduceNeg, Int.reduceAdd, ↓reduceIte, ↓reduceCtorEq, Nat.reduceEqDiff, Nat.reduceAdd, Nat.reduceSub, Nat.reduceMul, Nat.reduceLeDiff, Nat.reduceLT]
      refine ⟨(upS x, i + 1), ⟨upS_W hx hf, by dsimp only; omega⟩, by dsimp only; omega, ?_⟩
      simp [Wk, sget, killL, kill1, SV.key, NL, VL, u, e32]
    · rw [decide_eq_false hf] at k1 k2
      simp only [u] at k1 k2
      simp only [Tryd.f7, wn, go_sem, Int.reduceToNat, Int.reduceEq, Int.reduceNe, Int.reduceLT, Int.reduceLE, Int.reduceNeg, Int.reduceAdd, ↓reduceIte, ↓reduceCtorEq, Nat.reduceEqDiff, Nat.reduceAdd, Nat.reduceSub, Nat.reduceMul, Nat.reduceLeDiff, Nat.reduceLT]
      refine qcall_i (k1) ?_; simp only [Tryd.f7, wi, go_sem, Int.reduceToNat, Int.reduceEq, Int.reduceNe, Int.reduceLT, Int.reduceLE, Int.reduceNeg, Int.reduceAdd, ↓reduceIte, ↓reduceCtorEq, Nat.reduceEqDiff, Nat.reduceAdd, Nat.reduceSub, Nat.reduceMul, Nat.reduceLeDiff, Nat.reduceLT]
      refine qcall_i (k2) ?_; simp only [Tryd.f7, go_sem, Int.reduceToNat, Int.reduceEq, Int.reduceNe, Int.reduceLT, Int.reduceLE, Int.reduceNeg, Int.reduceAdd, ↓reduceIte, ↓reduceCtorEq, Nat.reduceEqDiff, Nat.reduceAdd, Nat.reduceSub, Nat.reduceMul, Nat.reduceLeDiff, Nat.reduceLT]
  simp only [Tryd.f7, go_sem, Int.reduceToNat, Int.reduceEq, Int.reduceNe, Int.reduceLT, Int.reduceLE, Int.reduceNeg, Int.reduceAdd, ↓reduceIte, ↓reduceCtorEq, Nat.reduceEqDiff, Nat.reduceAdd, Nat.reduceSub, Nat.reduceMul, Nat.reduceLeDiff, Nat.reduceLT]
  refine PLoop.intro (fun i : Nat × Nat => ⟨[(0, .val (.int .u64 b)), (1, .val (.int .u8 n)), (5, .val (.int .u64 i.1)), (9, .val (.int .i64 i.2))], []⟩) (fun i => i.1 < W ∧ i.2 ≤ n) (fun i => n - i.2) (x, 0) ⟨hx, Nat.zero_le _⟩ ?_ fun j hj => walk ?_
  · simp [Wk, sget, killL, kill1, SV.key, NL, VL, u, e32]
  clear k1 k2 wi hi hx h1
  clear x
  obtain ⟨x, i⟩ := j
  obtain ⟨hx, hi⟩ := hj
  simp only at hx hi
  have k1 := c_Down x hx
  have k2 := c_Finite x hx
  have wi : IntKind.wrap .i64 ((i : Int) + 1) = ((i + 1 : Nat) : Int) := by rw [wrap64 (by omega) (by omega)]; omega
  simp only [u] at k1 k2
  simp only [Tryd.f7, wn, go_sem, Int.reduceToNat, Int.reduceEq, Int.reduceNe, Int.reduceLT, Int.reduceLE, Int.reduceNeg, Int.reduceAdd, ↓reduceIte, ↓reduceCtorEq, Nat.reduceEqDiff, Nat.reduceAdd, Nat.reduceSub, Nat.reduceMul, Nat.reduceLeDiff, Nat.reduceLT]
  refine qif_d (fun h1 => ?_) (fun h1 => ?_)
  · by_cases hf : fe x < 2047
    · rw [decide_eq_true hf] at k1 k2
      simp only [Tryd.f7, wn, go_sem, Int.reduceToNat, Int.reduceEq, Int.reduceNe, Int.reduceLT, Int.reduceLE, Int.reduceNeg, Int.reduceAdd, ↓reduceIte, ↓reduceCtorEq, Nat.reduceEqDiff, Nat.reduceAdd, Nat.reduceSub, Nat.reduceMul, Nat.reduceLeDiff, Nat.reduceLT]
      refine qcall_i (k2) ?_; simp only [Tryd.f7, go_sem, Int.reduceToNat, Int.reduceEq, Int.reduceNe, Int.reduceLT, Int.reduceLE, Int.reduceNeg, Int.reduceAdd, ↓reduceIte, ↓reduceCtorEq, Nat.reduceEqDiff, Nat.reduceAdd, Nat.reduceSub, Nat.reduceMul, Nat.reduceLeDiff, Nat.reduceLT]
      refine qcall_i (k1) ?_; simp only [Tryd.f7, wi, go_sem, Int.reduceToNat, Int.reduceEq, Int.reduceNe, Int.reduceLT, Int.reduceLE, Int.reduceNeg, Int.reduceAdd, ↓reduceIte, ↓reduceCtorEq, Nat.reduceEqDiff, Nat.reduceAdd, Nat.reduceSub, Nat.reduceMul, Nat.reduceLeDiff, Nat.reduceLT]
      refine ⟨(downS x, i + 1), ⟨downS_W hx, by dsimp only; omega⟩, by dsimp only; omega, ?_⟩
      simp [Wk, sget, killL, kill1, SV.key, NL, VL, u, e32]
    · rw [decide_eq_false hf] at k1 k2
      simp only [Tryd.f7, wn, go_sem, Int.reduceToNat, Int.reduceEq, Int.reduceNe, Int.reduceLT, Int.reduceLE, Int.reduceNeg, Int.reduceAdd, ↓reduceIte, ↓reduceCtorEq, Nat.reduceEqDiff, Nat.reduceAdd, Nat.reduceSub, Nat.reduceMul, Nat.reduceLeDiff, Nat.reduceLT]
      refine qcall_i (k2) ?_; simp only [Tryd.f7, go_sem, Int.reduceToNat, Int.reduceEq, Int.reduceNe, Int.reduceLT, Int.reduceLE, Int.reduceNeg, Int.reduceAdd, ↓reduceIte, ↓reduceCtorEq, Nat.reduceEqDiff, Nat.reduceAdd, Nat.reduceSub, Nat.reduceMul, Nat.reduceLeDiff, Nat.reduceLT]
      by_cases hB : fe b < 2047 ∧ fsz b ≠ 0
      · rw [if_pos hB] at k4
        have hI := fsz_INF.1 hB.1
        have e1 : fsz b - 1 + 1 = fsz b := by omega
        have hm1 := brk_mid (b := fsz b - 1) (by omega)
        have hm2 := brk_mid hI
        have r1 : RD (mid (fsz b - 1)).pv (mid (fsz b - 1)) := RD.fit (mid_ok _) (Nat.le_trans (mid_bits _) (by decide)) (mid_fits _)
        have r2 : RD (mid (fsz b)).pv (mid (fsz b)) := RD.fit (mid_ok _) (Nat.le_trans (mid_bits _) (by decide)) (mid_fits _)
        have k5 := c_Break r1
        have k6 := c_Break r2
        rw [decide_eq_true hm1] at k5
        rw [decide_eq_true hm2] at k6
        have k7 := r_Cmp r1 r2
        have hlt := mid_lt (b := fsz b - 1) (by omega)
        rw [e1] at hlt
        rw [hlt] at k7
        clear hm1 hm2 r1 r2 hlt
        generalize mid (fsz b - 1) = x1 at *
        generalize mid (fsz b) = x2 at *
        simp only [u, Dy.pv, DP, NN, NL] at k4 k5 k6 k7
        refine qcall_i (k4) ?_; simp only [Tryd.f7, go_sem, Int.reduceToNat, Int.reduceEq, Int.reduceNe, Int.reduceLT, Int.reduceLE, Int.reduceNeg, Int.reduceAdd, ↓reduceIte, ↓reduceCtorEq, Nat.reduceEqDiff, Nat.reduceAdd, Nat.reduceSub, Nat.reduceMul, Nat.reduceLeDiff, Nat.reduceLT]
        refine qcall_i (k5) ?_; simp only [Tryd.f7, go_sem, Int.reduceToNat, Int.reduceEq, Int.reduceNe, Int.reduceLT, Int.reduceLE, Int.reduceNeg, Int.reduceAdd, ↓reduceIte, ↓reduceCtorEq, Nat.reduceEqDiff, Nat.reduceAdd, Nat.reduceSub, Nat.reduceMul, Nat.reduceLeDiff, Nat.reduceLT]
        refine qcall_i (k6) ?_; simp only [Tryd.f7, go_sem, Int.reduceToNat, Int.reduceEq, Int.reduceNe, Int.reduceLT, Int.reduceLE, Int.reduceNeg, Int.reduceAdd, ↓reduceIte, ↓reduceCtorEq, Nat.reduceEqDiff, Nat.reduceAdd, Nat.reduceSub, Nat.reduceMul, Nat.reduceLeDiff, Nat.reduceLT]
        refine qcall_i (k7) ?_; simp only [Tryd.f7, go_sem, Int.reduceToNat, Int.reduceEq, Int.reduceNe, Int.reduceLT, Int.reduceLE, Int.reduceNeg, Int.reduceAdd, ↓reduceIte, ↓reduceCtorEq, Nat.reduceEqDiff, Nat.reduceAdd, Nat.reduceSub, Nat.reduceMul, Nat.reduceLeDiff, Nat.reduceLT]
        refine qif_df (by decide) ?_
        simp only [Tryd.f7, go_sem, Int.reduceToNat, Int.reduceEq, Int.reduceNe, Int.reduceLT, Int.reduceLE, Int.reduceNeg, Int.reduceAdd, ↓reduceIte, ↓reduceCtorEq, Nat.reduceEqDiff, Nat.reduceAdd, Nat.reduceSub, Nat.reduceMul, Nat.reduceLeDiff, Nat.reduceLT]
      · rw [if_neg hB] at k4
        simp only [u, Dy.pv, Dy.zero, DP, NN, NL] at k4
        refine qcall_i (k4) ?_; simp only [Tryd.f7, go_sem, Int.reduceToNat, Int.reduceEq, Int.reduceNe, Int.reduceLT, Int.reduceLE, Int.reduceNeg, Int.reduceAdd, ↓reduceIte, ↓reduceCtorEq, Nat.reduceEqDiff, Nat.reduceAdd, Nat.reduceSub, Nat.reduceMul, Nat.reduceLeDiff, Nat.reduceLT]
  · simp only [Tryd.f7, wn, go_sem, Int.reduceToNat, Int.reduceEq, Int.reduceNe, Int.reduceLT, Int.reduceLE, Int.reduceNeg, Int.reduceAdd, ↓reduceIte, ↓reduceCtorEq, Nat.reduceEqDiff, Nat.reduceAdd, Nat.reduceSub, Nat.reduceMul, Nat.reduceLeDiff, Nat.reduceLT]
    by_cases hB : fe b < 2047 ∧ fsz b ≠ 0
    · rw [if_pos hB] at k4
      have hI := fsz_INF.1 hB.1
      have e1 : fsz b - 1 + 1 = fsz b := by omega
      have hm1 := brk_mid (b := fsz b - 1) (by omega)
      have hm2 := brk_mid hI
      have r1 : RD (mid (fsz b - 1)).pv (mid (fsz b - 1)) := RD.fit (mid_ok _) (Nat.le_trans (mid_bits _) (by decide)) (mid_fits _)
      have r2 : RD (mid (fsz b)).pv (mid (fsz b)) := RD.fit (mid_ok _) (Nat.le_trans (mid_bits _) (by decide)) (mid_fits _)
      have k5 := c_Break r1
      have k6 := c_Break r2
      rw [decide_eq_true hm1] at k5
      rw [decide_eq_true hm2] at k6
      have k7 := r_Cmp r1 r2
      have hlt := mid_lt (b := fsz b - 1) (by omega)
      rw [e1] at hlt
      rw [hlt] at k7
      clear hm1 hm2 r1 r2 hlt
      generalize mid (fsz b - 1) = x1 at *
      generalize mid (fsz b) = x2 at *
      simp only [u, Dy.pv, DP, NN, NL] at k4 k5 k6 k7
      refine qcall_i (k4) ?_; simp only [Tryd.f7, go_sem, Int.reduceToNat, Int.reduceEq, Int.reduceNe, Int.reduceLT, Int.reduceLE, Int.reduceNeg, Int.reduceAdd, ↓reduceIte, ↓reduceCtorEq, Nat.reduceEqDiff, Nat.reduceAdd, Nat.reduceSub, Nat.reduceMul, Nat.reduceLeDiff, Nat.reduceLT]
      refine qcall_i (k5) ?_; simp only [Tryd.f7, go_sem, Int.reduceToNat, Int.reduceEq, Int.reduceNe, Int.reduceLT, Int.reduceLE, Int.reduceNeg, Int.reduceAdd, ↓reduceIte, ↓reduceCtorEq, Nat.reduceEqDiff, Nat.reduceAdd, Nat.reduceSub, Nat.reduceMul, Nat.reduceLeDiff, Nat.reduceLT]
      refine qcall_i (k6) ?_; simp only [Tryd.f7, go_sem, Int.reduceToNat, Int.reduceEq, Int.reduceNe, Int.reduceLT, Int.reduceLE, Int.reduceNeg, Int.reduceAdd, ↓reduceIte, ↓reduceCtorEq, Nat.reduceEqDiff, Nat.reduceAdd, Nat.reduceSub, Nat.reduceMul, Nat.reduceLeDiff, Nat.reduceLT]
      refine qcall_i (k7) ?_; simp only [Tryd.f7, go_sem, Int.reduceToNat, Int.reduceEq, Int.reduceNe, Int.reduceLT, Int.reduceLE, Int.reduceNeg, Int.reduceAdd, ↓reduceIte, ↓reduceCtorEq, Nat.reduceEqDiff, Nat.reduceAdd, Nat.reduceSub, Nat.reduceMul, Nat.reduceLeDiff, Nat.reduceLT]
      refine qif_df (by decide) ?_
      simp only [Tryd.f7, go_sem, Int.reduceToNat, Int.reduceEq, Int.reduceNe, Int.reduceLT, Int.reduceLE, Int.reduceNeg, Int.reduceAdd, ↓reduceIte, ↓reduceCtorEq, Nat.reduceEqDiff, Nat.reduceAdd, Nat.reduceSub, Nat.reduceMul, Nat.reduceLeDiff, Nat.reduceLT]
    · rw [if_neg hB] at k4
      simp only [u, Dy.pv, Dy.zero, DP, NN, NL] at k4
      refine qcall_i (k4) ?_; simp only [Tryd.f7, go_sem, Int.reduceToNat, Int.reduceEq, Int.reduceNe, Int.reduceLT, Int.reduceLE, Int.reduceNeg, Int.reduceAdd, ↓reduceIte, ↓reduceCtorEq, Nat.reduceEqDiff, Nat.reduceAdd, Nat.reduceSub, Nat.reduceMul, Nat.reduceLeDiff, Nat.reduceLT]
end Go.Proofs.YtflpcgcgeffolaaDoor
