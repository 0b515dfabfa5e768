/- The contract of the law NextBack: at whatever reads as its arguments it returns true. -/
import Derived.Test.YtflpcgcgeffolaaDoorLNxA
open Go PG Go.Proofs
set_option maxRecDepth 100000
set_option linter.unusedSimpArgs false
set_option linter.unusedVariables false
namespace Go.Proofs.YtflpcgcgeffolaaDoor
attribute [local go_sem] Lay2 Lay3 Lay4 Lay5 Lay6 Lay7 Lay8 Lay9 Lay10 Lay11 Lay12 Lay13 Lay14 Lay21 Lay22 Lay24 Lay25 Lay26 Lay27 Lay36 Lay37 Lay38 Lay39 Lay40 Lay41 Lay43 Lay46 Lay47 Lay66 Lay103 Lay105 Lay159 Lay164 Lay165 Lay166 Lay168 Lay169 Lay172 Lay173 qexec_seq qexec_skip qexec_exit qexec_ret qexec_block qexec_loop qexec_range qexec_cond qexec_region qops_nil qops_none qops_some put_some put_none pblk_exit pblk_other newDsts_nil sget_cons qval_some qbool_some qgs_bool qgs_und qfree_some qgrd_true qgrd_false qif_true qif_false qval_ite qval_itn qand_true map_ite map_some' map_none' qdo_move qdo_assign qdo_binOp qdo_pick qdo_unOp qdo_convert qdo_extract qdo_field qdo_fieldAddr qdo_alloc qdo_box qdo_build qdo_buildSlice qdo_load qdo_store qdo_nilCheck qdo_makeFunc qdo_makeSlice qdo_slice qdo_indexAddr qdo_call qcont_val qcont_new qcont_st qcont_app0 qcont_app qcont_inl qcont_call njSV_val njSV_nil njSV_row njSV_ptr njSV_sub binV_val binV_nil binV_nn nilCmp bin_add bin_sub bin_mul bin_quo bin_rem bin_and bin_or bin_xor bin_andNot bin_eql bin_neq bin_lss bin_leq bin_gtr bin_geq bin_shl bin_shr bin_seql bin_sneq bin_sadd bin_beql bin_aeql bin_aneq eqAnd_some eqCells_nil eqCells_cons fieldTypes isStruct eqCell bin_bneq un_not un_neg nj_ite Nat.beq stepA stepR isNew opSV constSV RV.sv allSome E_mu Bool.or_false Bool.false_or Bool.or_true Bool.true_or cst setB res resSV pstart startL killL kill1 eraL frzL svPV rvPV rvInt rvSlice frzOf close closeL pconv pbuiltin pmax2 partPV setCells fillPV zrow bound newSV PV.cells Bk.cells Bk.with SV.key pres presL_nil presL_tmp presL_cell presC2_some cellPV_ptr presC List.toList_toArray List.size_toArray List.getElem?_drop Nat.mul_one Int.toNat_natCast Nat.not_lt_zero Nat.lt_irrefl decide_true decide_false Nat.not_lt Option.some.injEq PV.lst.injEq PV.int.injEq PV.bool.injEq PV.tuple.injEq List.cons.injEq Option.map_some Option.map_none Option.bind_some Option.toList List.map_cons List.map_nil List.nil_append List.cons_append List.append_nil List.zip_cons_cons List.zip_nil_left List.zip_nil_right List.getElem?_cons_zero List.getElem?_cons_succ List.drop_zero List.drop_succ_cons List.take_succ_cons List.take_zero List.set_cons_zero List.set_cons_succ List.length_cons List.length_nil List.length_set List.replicate_one List.replicate_zero bne_self_eq_false beq_self_eq_true Nat.zero_add Nat.add_zero Nat.zero_mul Bool.false_eq_true Bool.true_eq_false Bool.not_true Bool.not_false and_true true_and false_and and_false or_false false_or or_true true_or not_true_eq_false not_false_eq_true ne_eq gt_iff_lt List.mem_cons List.not_mem_nil
attribute [local go_sem ↓] pseq_normal pseq_ret pseq_exit pblk_normal pblk_ret newDsts_cons gdst_zero gdst_succ retQ_normal retQ_ret retM_normal retM_ret endR_normal endR_ret endR_exit

theorem low_abs (d : Dy) : low d.abs = low d := rfl
theorem mid_between {b : Nat} (hb : b < INF) : cmpD (fd b) (mid b) = -1 ∧ cmpD (fd (b + 1)) (mid b) = 1 := by
  have hI := INF_lt
  have h := fv_lt (a := b) (b := b + 1) (by omega) (by omega)
  rw [cmp_at ((fd_ge b).mono (k := -1075) (by omega)) (mid_ge b), cmp_at ((fd_ge (b + 1)).mono (k := -1075) (by omega)) (mid_ge b), mid_sum hb, fd_at' (by omega) (by omega), fd_at' (by omega) (by omega), show (-1074 - -1075 : Int).toNat = 1 by decide]
  unfold sgn
  constructor
  · rw [if_pos (by omega)]
  · rw [if_neg (by omega), if_pos (by omega)]
theorem low_mid {b : Nat} (hb : b < INF) {d : Dy} (hd : d.abs = mid b) : low d = b := by
  refine bel_unique (n := mid b) (by rw [← hd]; exact bel_low) ⟨by omega, ?_, .inr ?_⟩
  · rw [(mid_between hb).1]; decide
  · rw [(mid_between hb).2]; decide
theorem low_fd {b : Nat} (hb : b < INF) {d : Dy} (hd : d.abs = fd b) : low d = b := by
  have hI := INF_lt
  refine bel_unique (n := fd b) (by rw [← hd]; exact bel_low) ⟨by omega, ?_, .inr ?_⟩
  · rw [cmp_self]; decide
  · rw [fd_cmp (by omega) (by omega), sgn_pos]; omega
theorem mid_fsz (b : Nat) : mid (fsz b) = mid b := by
  unfold mid; rw [(fm_fsz b).1, (fm_fsz b).2]
theorem mdS_abs (b : Nat) : (mdS b).abs = mid (fsz b) := by rw [mid_fsz]; rfl
theorem mdS_ok (b : Nat) : (mdS b).ok := .inr (show (2 * fm b + 1) % 2 = 1 by omega)
theorem mdS_fits (b : Nat) : (mdS b).fits := mid_fits b
theorem mdS_m (b : Nat) : (mdS b).m ≠ 0 := show 2 * fm b + 1 ≠ 0 by omega
theorem high_mid {b : Nat} (hb : fsz b < INF) : low (mdS b) = fsz b ∧ high (mdS b) = fsz b + 1 ∧ brkP (mdS b) := by
  have h1 := low_mid hb (mdS_abs b)
  refine ⟨h1, ?_, ?_⟩
  · rw [high_law (mdS_ok b), h1, mdS_abs, (mid_between hb).1, if_neg]
    rintro (h | h | h)
    · omega
    · exact mdS_m b h
    · omega
  · rw [brk_law (mdS_ok b), h1, if_neg (by omega)]
    exact .inr (.inr (by rw [mdS_abs, cmp_self]))
theorem brk_fd {b : Nat} (hb : fsz b < INF) : brkP (fd b) := by
  rw [brk_law (fd_ok' b), low_fd hb (fd_abs b), if_neg (by omega)]
  exact .inr (.inl (by rw [fd_abs, cmp_self]))
/-- A little beside a number whose last bit stands far above it. -/
theorem little {d : Dy} (hok : d.ok) (hf : d.fits) (h0 : d.m ≠ 0) (he : -1075 ≤ d.e) (he2 : d.e ≤ 1026) (hb : bitLen d.m ≤ 60) :
    addV d ⟨false, 1, -1100⟩ = .tuple [(addS d ⟨false, 1, -1100⟩).pv, .int .i64 0] ∧ (addS d ⟨false, 1, -1100⟩).fits ∧ ¬ brkP (addS d ⟨false, 1, -1100⟩) ∧ bitLen (addS d ⟨false, 1, -1100⟩).m ≤ 1000000 := by
  have hb1 : bitLen (d.m * 2 ^ (d.e - -1100).toNat) ≤ 3000 := by
    have := bitLen_shl_le d.m (d.e - -1100).toNat
    omega
  have hn : addS d ⟨false, 1, -1100⟩ = norm (d.at (-1100) + 1) (-1100) := by
    unfold addS
    rw [show min d.e (Dy.mk false 1 (-1100)).e = -1100 by dsimp only; omega]
    rfl
  have hev : d.at (-1100) % 2 = 0 := by
    rw [at_shift' (k' := d.e) (by omega) d.ge_e, show (d.e - -1100).toNat = (d.e - -1100).toNat - 1 + 1 by omega, Nat.pow_succ]
    rw [Int.natCast_mul, ← Int.mul_assoc]
    omega
  have habs : (d.at (-1100)).natAbs = d.m * 2 ^ (d.e - -1100).toNat := natAbs_at d _
  have hodd : (d.at (-1100) + 1).natAbs % 2 = 1 := by omega
  have hs : addS d ⟨false, 1, -1100⟩ = ⟨decide (d.at (-1100) + 1 < 0), (d.at (-1100) + 1).natAbs, -1100⟩ := by
    rw [hn, norm, mkD_odd hodd (by omega) (by omega)]
  have hbits : bitLen (d.at (-1100) + 1).natAbs ≤ 3001 := by
    refine Nat.le_trans (bitLen_mono (y := d.m * 2 ^ (d.e - -1100).toNat + 1) (by omega)) ?_
    exact bitLen_add hb1 (by decide)
  have hfits : (addS d ⟨false, 1, -1100⟩).fits := by rw [hs]; constructor <;> dsimp only <;> omega
  refine ⟨?_, hfits, ?_, by rw [hs]; exact Nat.le_trans hbits (by decide)⟩
  · unfold addV
    refine if_pos ⟨hf, by constructor <;> dsimp only <;> omega, fun _ _ => ?_, hfits⟩
    rw [top_of h0, one_top]
    dsimp only
    omega
  · rw [hs]
    unfold brkP
    rintro (h | h)
    · dsimp only at h; omega
    · have : ∀ t, unitOf t ≥ -1074 := fun t => by unfold unitOf; omega
      have := this (Dy.top ⟨decide (d.at (-1100) + 1 < 0), (d.at (-1100) + 1).natAbs, -1100⟩)
      dsimp only at h
      split at h <;> omega

theorem kind0 (b : Nat) : kind b = 0 ↔ fsz b = 0 ∨ (fe b = 0 ∧ ff b = 0) := by
  unfold kind fsz fe ff
  constructor
  · intro h
    split at h
    · exact .inr (by assumption)
    · repeat' split at h
      all_goals omega
  · intro h; rw [if_pos (by omega)]
/-- Up and Down: back, and greater. -/
theorem up_back {b : Nat} (hb : b < W) (hf : fe b < 2047) : upS b < W ∧
    (fe (upS b) < 2047 → (downS (upS b) = b ∨ kind b = 0) ∧ cmpD (fd b) (fd (upS b)) = -1) := by
  have hb' := b_lt hb
  have hz := fsz_INF.1 hf
  have hI : INF = 9218868437227405312 := rfl
  have hsz : fsz b = b % 9223372036854775808 := rfl
  unfold upS
  rw [if_pos hf]
  by_cases h1 : b = 9223372036854775808
  · subst h1
    rw [if_pos rfl]
    refine ⟨by decide, fun _ => ⟨.inr (by decide), by decide +kernel⟩⟩
  rw [if_neg h1]
  by_cases hs : fs b = true
  · have hge : 9223372036854775808 ≤ b := of_decide_eq_true hs
    rw [if_pos hs]
    refine ⟨by show _ < 18446744073709551616; omega, fun hf2 => ⟨.inl ?_, ?_⟩⟩
    · unfold downS
      rw [if_pos hf2, if_neg (by omega), if_pos (show fs (b - 1) = true from decide_eq_true (by omega))]
      omega
    · have hs2 : fs (b - 1) = true := decide_eq_true (by omega)
      rw [cmp_at (fd_ge b) (fd_ge (b - 1)), fd_at, fd_at, hs, hs2]
      have e1 : fv b = fv (fsz b) := by unfold fv; rw [(fm_fsz b).1, (fm_fsz b).2]
      have e2 : fv (b - 1) = fv (fsz b - 1) := by
        have e3 : fsz (b - 1) = fsz b - 1 := by unfold fsz; omega
        rw [← e3]; unfold fv; rw [(fm_fsz (b - 1)).1, (fm_fsz (b - 1)).2]
      have h3 := fv_lt (a := fsz b - 1) (b := fsz b) (fsz_lt b) (by omega)
      rw [e1, e2]
      unfold sgn
      rw [if_pos (by simp only [if_true]; omega)]
  · have hlt : ¬ 9223372036854775808 ≤ b := fun h => hs (decide_eq_true h)
    rw [if_neg hs]
    refine ⟨by show _ < 18446744073709551616; omega, fun hf2 => ⟨.inl ?_, ?_⟩⟩
    · unfold downS
      rw [if_pos hf2, if_neg (by omega), if_neg (fun h : fs (b + 1) = true => by have := of_decide_eq_true h; omega)]
      omega
    · rw [fd_cmp (by omega) (by omega)]
      unfold sgn
      rw [if_pos (by omega)]

theorem law_NextBack (pvs : List PV) (h : Fits [qU64] pvs) : PC E 13 pvs (.bool true) := by
  obtain ⟨_, rfl, ⟨b, rfl, hb⟩⟩ := fits1 h
  refine PC.of_body follows Tryd.func13 (by decide +kernel) rfl (by kernel_rfl) (Nat.le_of_ble_eq_true rfl) (walk ?_)
  have k1 := c_Up b hb
  have k2 := c_Finite b hb
  by_cases hf : fe b < 2047
  case neg =>
    rw [decide_eq_false hf] at k1 k2
    simp only [u] at k1 k2 ⊢
    simp only [Tryd.f13, go_sem, Int.reduceToNat, Int.reduceEq, Int.reduceNe, Int.reduceLT, Int.reduceLE, Int.reduceNeg, Int.reduceAdd, ↓reduceIte, ↓reduceCtorEq, Nat.reduceEqDiff, Nat.reduceAdd, Nat.reduceSub, Nat.reduceMul, Nat.reduceLeDiff, Nat.reduceLT]
    refine qcall_i (c_alive08) ?_; simp only [Tryd.f13, go_sem, Int.reduceToNat, Int.reduceEq, Int.reduceNe, Int.reduceLT, Int.reduceLE, Int.reduceNeg, Int.reduceAdd, ↓reduceIte, ↓reduceCtorEq, Nat.reduceEqDiff, Nat.reduceAdd, Nat.reduceSub, Nat.reduceMul, Nat.reduceLeDiff, Nat.reduceLT]
    refine qcall_i (k1) ?_; simp only [Tryd.f13, go_sem, Int.reduceToNat, Int.reduceEq, Int.reduceNe, Int.reduceLT, Int.reduceLE, Int.reduceNeg, Int.reduceAdd, ↓reduceIte, ↓reduceCtorEq, Nat.reduceEqDiff, Nat.reduceAdd, Nat.reduceSub, Nat.reduceMul, Nat.reduceLeDiff, Nat.reduceLT]
    refine qcall_i (k2) ?_; simp only [Tryd.f13, go_sem, Int.reduceToNat, Int.reduceEq, Int.reduceNe, Int.reduceLT, Int.reduceLE, Int.reduceNeg, Int.reduceAdd, ↓reduceIte, ↓reduceCtorEq, Nat.reduceEqDiff, Nat.reduceAdd, Nat.reduceSub, Nat.reduceMul, Nat.reduceLeDiff, Nat.reduceLT]
  rw [decide_eq_true hf] at k1
  have k3 := c_FDyad b hb
  rw [if_pos hf] at k3
  obtain ⟨hu, hub⟩ := up_back hb hf
  have k4 := c_Down (upS b) hu
  have k5 := c_Finite (upS b) hu
  have k6 := c_FDyad (upS b) hu
  have k7 := c_Kind b hb
  have k8 := c_Kind (upS b) hu
  have k9 := r_Cmp (RD.fd b) (RD.fd (upS b))
  have k10 := c_Middle b hb
  rw [if_pos hf] at k10
  have rm : RD (mdS b).pv (mdS b) := RD.fit (mdS_ok b) (Nat.le_trans (mid_bits b) (by decide)) (mdS_fits b)
  obtain ⟨l1, l2, l3⟩ := high_mid (fsz_INF.1 hf)
  have k11 := c_Between rm
  rw [if_pos (mdS_fits b), l1, l2] at k11
  have k12 := c_Break rm
  rw [decide_eq_true (show (mdS b).fits ∧ brkP (mdS b) from ⟨mdS_fits b, l3⟩)] at k12
  have k13 := c_Break (RD.fd b)
  rw [decide_eq_true (show (fd b).fits ∧ brkP (fd b) from ⟨fd_fits b, brk_fd (fsz_INF.1 hf)⟩)] at k13
  have hn := n63 hb
  have hz := fsz_lt b
  have w1 := wrapu (x := (fsz b : Int) + 1) (n := fsz b + 1) (by omega) (by show _ < 18446744073709551616; omega)
  have hfe := fe_lt b
  obtain ⟨t1, t2, t3, t4⟩ := little (d := mdS b) (mdS_ok b) (mdS_fits b) (mdS_m b) (show -1075 ≤ max (fe b : Int) 1 - 1076 by omega) (show max (fe b : Int) 1 - 1076 ≤ 1026 by omega) (Nat.le_trans (mid_bits b) (by decide))
  have k14 := r_Add rm (RD.fit (d := ⟨false, 1, -1100⟩) (.inr rfl) (by decide) (by decide))
  rw [t1] at k14
  have k15 := c_Break (RD.fit (addS_ok (mdS b) ⟨false, 1, -1100⟩) t4 t2)
  rw [decide_eq_false (fun h : (addS (mdS b) ⟨false, 1, -1100⟩).fits ∧ brkP (addS (mdS b) ⟨false, 1, -1100⟩) => t3 h.2)] at k15
  have d1 := dg_one (x := 1) (by decide) (by decide)
  generalize addS (mdS b) ⟨false, 1, -1100⟩ = sm at *
  generalize mdS b = m at *
  generalize fsz b = z at *
  clear t1 t2 t3 t4 l1 l2 l3 rm hfe
  by_cases hf2 : fe (upS b) < 2047
  case neg =>
    rw [decide_eq_false hf2] at k4 k5
    generalize fd b = x at *
    simp only [u, Dy.pv, DP, NN, NL, d1] at k1 k3 k4 k5 k10 k11 k12 k13 k14 k15
    simp only [U, List.map_cons, List.map_nil, u, List.length_cons, List.length_nil] at k14
    simp only [Tryd.f13, u, go_sem, Int.reduceToNat, Int.reduceEq, Int.reduceNe, Int.reduceLT, Int.reduceLE, Int.reduceNeg, Int.reduceAdd, ↓reduceIte, ↓reduceCtorEq, Nat.reduceEqDiff, Nat.reduceAdd, Nat.reduceSub, Nat.reduceMul, Nat.reduceLeDiff, Nat.reduceLT]
    refine qcall_i (c_alive08) ?_; simp only [Tryd.f13, go_sem, Int.reduceToNat, Int.reduceEq, Int.reduceNe, Int.reduceLT, Int.reduceLE, Int.reduceNeg, Int.reduceAdd, ↓reduceIte, ↓reduceCtorEq, Nat.reduceEqDiff, Nat.reduceAdd, Nat.reduceSub, Nat.reduceMul, Nat.reduceLeDiff, Nat.reduceLT]
    refine qcall_i (k1) ?_; simp only [Tryd.f13, go_sem, Int.reduceToNat, Int.reduceEq, Int.reduceNe, Int.reduceLT, Int.reduceLE, Int.reduceNeg, Int.reduceAdd, ↓reduceIte, ↓reduceCtorEq, Nat.reduceEqDiff, Nat.reduceAdd, Nat.reduceSub, Nat.reduceMul, Nat.reduceLeDiff, Nat.reduceLT]
    refine qcall_i (k3) ?_; simp only [Tryd.f13, go_sem, Int.reduceToNat, Int.reduceEq, Int.reduceNe, Int.reduceLT, Int.reduceLE, Int.reduceNeg, Int.reduceAdd, ↓reduceIte, ↓reduceCtorEq, Nat.reduceEqDiff, Nat.reduceAdd, Nat.reduceSub, Nat.reduceMul, Nat.reduceLeDiff, Nat.reduceLT]
    refine qcall_i (k4) ?_; simp only [Tryd.f13, go_sem, Int.reduceToNat, Int.reduceEq, Int.reduceNe, Int.reduceLT, Int.reduceLE, Int.reduceNeg, Int.reduceAdd, ↓reduceIte, ↓reduceCtorEq, Nat.reduceEqDiff, Nat.reduceAdd, Nat.reduceSub, Nat.reduceMul, Nat.reduceLeDiff, Nat.reduceLT]
    refine qcall_i (k5) ?_; simp only [Tryd.f13, go_sem, Int.reduceToNat, Int.reduceEq, Int.reduceNe, Int.reduceLT, Int.reduceLE, Int.reduceNeg, Int.reduceAdd, ↓reduceIte, ↓reduceCtorEq, Nat.reduceEqDiff, Nat.reduceAdd, Nat.reduceSub, Nat.reduceMul, Nat.reduceLeDiff, Nat.reduceLT]
    refine qcall_i (k10) ?_; simp only [Tryd.f13, go_sem, Int.reduceToNat, Int.reduceEq, Int.reduceNe, Int.reduceLT, Int.reduceLE, Int.reduceNeg, Int.reduceAdd, ↓reduceIte, ↓reduceCtorEq, Nat.reduceEqDiff, Nat.reduceAdd, Nat.reduceSub, Nat.reduceMul, Nat.reduceLeDiff, Nat.reduceLT]
    refine qcall_i (k11) ?_; simp only [Tryd.f13, hn, w1, go_sem, Int.reduceToNat, Int.reduceEq, Int.reduceNe, Int.reduceLT, Int.reduceLE, Int.reduceNeg, Int.reduceAdd, ↓reduceIte, ↓reduceCtorEq, Nat.reduceEqDiff, Nat.reduceAdd, Nat.reduceSub, Nat.reduceMul, Nat.reduceLeDiff, Nat.reduceLT]
    refine qcall_i (k12) ?_; simp only [Tryd.f13, go_sem, Int.reduceToNat, Int.reduceEq, Int.reduceNe, Int.reduceLT, Int.reduceLE, Int.reduceNeg, Int.reduceAdd, ↓reduceIte, ↓reduceCtorEq, Nat.reduceEqDiff, Nat.reduceAdd, Nat.reduceSub, Nat.reduceMul, Nat.reduceLeDiff, Nat.reduceLT]
    refine qcall_i (k13) ?_; simp only [Tryd.f13, go_sem, Int.reduceToNat, Int.reduceEq, Int.reduceNe, Int.reduceLT, Int.reduceLE, Int.reduceNeg, Int.reduceAdd, ↓reduceIte, ↓reduceCtorEq, Nat.reduceEqDiff, Nat.reduceAdd, Nat.reduceSub, Nat.reduceMul, Nat.reduceLeDiff, Nat.reduceLT]
    refine qcall_i (k14) ?_; simp only [Tryd.f13, go_sem, Int.reduceToNat, Int.reduceEq, Int.reduceNe, Int.reduceLT, Int.reduceLE, Int.reduceNeg, Int.reduceAdd, ↓reduceIte, ↓reduceCtorEq, Nat.reduceEqDiff, Nat.reduceAdd, Nat.reduceSub, Nat.reduceMul, Nat.reduceLeDiff, Nat.reduceLT]
    refine qcall_i (k15) ?_; simp only [Tryd.f13, go_sem, Int.reduceToNat, Int.reduceEq, Int.reduceNe, Int.reduceLT, Int.reduceLE, Int.reduceNeg, Int.reduceAdd, ↓reduceIte, ↓reduceCtorEq, Nat.reduceEqDiff, Nat.reduceAdd, Nat.reduceSub, Nat.reduceMul, Nat.reduceLeDiff, Nat.reduceLT]
  obtain ⟨g1, g2⟩ := hub hf2
  rw [g2] at k9
  rw [decide_eq_true hf2] at k4 k5
  rw [if_pos hf2] at k6
  generalize fd b = x at *
  generalize fd (upS b) = y at *
  generalize hdd : downS (upS b) = dd at *
  generalize upS b = uu at *
  simp only [u, Dy.pv, DP, NN, NL, d1] at k1 k3 k4 k5 k6 k7 k8 k9 k10 k11 k12 k13 k14 k15
  simp only [U, List.map_cons, List.map_nil, u, List.length_cons, List.length_nil] at k14
  simp only [Tryd.f13, u, go_sem, Int.reduceToNat, Int.reduceEq, Int.reduceNe, Int.reduceLT, Int.reduceLE, Int.reduceNeg, Int.reduceAdd, ↓reduceIte, ↓reduceCtorEq, Nat.reduceEqDiff, Nat.reduceAdd, Nat.reduceSub, Nat.reduceMul, Nat.reduceLeDiff, Nat.reduceLT]
  refine qcall_i (c_alive08) ?_; simp only [Tryd.f13, go_sem, Int.reduceToNat, Int.reduceEq, Int.reduceNe, Int.reduceLT, Int.reduceLE, Int.reduceNeg, Int.reduceAdd, ↓reduceIte, ↓reduceCtorEq, Nat.reduceEqDiff, Nat.reduceAdd, Nat.reduceSub, Nat.reduceMul, Nat.reduceLeDiff, Nat.reduceLT]
  refine qcall_i (k1) ?_; simp only [Tryd.f13, go_sem, Int.reduceToNat, Int.reduceEq, Int.reduceNe, Int.reduceLT, Int.reduceLE, Int.reduceNeg, Int.reduceAdd, ↓reduceIte, ↓reduceCtorEq, Nat.reduceEqDiff, Nat.reduceAdd, Nat.reduceSub, Nat.reduceMul, Nat.reduceLeDiff, Nat.reduceLT]
  refine qcall_i (k3) ?_; simp only [Tryd.f13, go_sem, Int.reduceToNat, Int.reduceEq, Int.reduceNe, Int.reduceLT, Int.reduceLE, Int.reduceNeg, Int.reduceAdd, ↓reduceIte, ↓reduceCtorEq, Nat.reduceEqDiff, Nat.reduceAdd, Nat.reduceSub, Nat.reduceMul, Nat.reduceLeDiff, Nat.reduceLT]
  refine qcall_i (k4) ?_; simp only [Tryd.f13, go_sem, Int.reduceToNat, Int.reduceEq, Int.reduceNe, Int.reduceLT, Int.reduceLE, Int.reduceNeg, Int.reduceAdd, ↓reduceIte, ↓reduceCtorEq, Nat.reduceEqDiff, Nat.reduceAdd, Nat.reduceSub, Nat.reduceMul, Nat.reduceLeDiff, Nat.reduceLT]
  refine qcall_i (k5) ?_; simp only [Tryd.f13, go_sem, Int.reduceToNat, Int.reduceEq, Int.reduceNe, Int.reduceLT, Int.reduceLE, Int.reduceNeg, Int.reduceAdd, ↓reduceIte, ↓reduceCtorEq, Nat.reduceEqDiff, Nat.reduceAdd, Nat.reduceSub, Nat.reduceMul, Nat.reduceLeDiff, Nat.reduceLT]
  refine qcall_i (k6) ?_; simp only [Tryd.f13, go_sem, Int.reduceToNat, Int.reduceEq, Int.reduceNe, Int.reduceLT, Int.reduceLE, Int.reduceNeg, Int.reduceAdd, ↓reduceIte, ↓reduceCtorEq, Nat.reduceEqDiff, Nat.reduceAdd, Nat.reduceSub, Nat.reduceMul, Nat.reduceLeDiff, Nat.reduceLT]
  refine qcall_i (k7) ?_; simp only [Tryd.f13, go_sem, Int.reduceToNat, Int.reduceEq, Int.reduceNe, Int.reduceLT, Int.reduceLE, Int.reduceNeg, Int.reduceAdd, ↓reduceIte, ↓reduceCtorEq, Nat.reduceEqDiff, Nat.reduceAdd, Nat.reduceSub, Nat.reduceMul, Nat.reduceLeDiff, Nat.reduceLT]
  by_cases h7 : kind b = 0
  · refine qif_dt (by rw [h7]; rfl) ?_
    simp only [Tryd.f13, go_sem, Int.reduceToNat, Int.reduceEq, Int.reduceNe, Int.reduceLT, Int.reduceLE, Int.reduceNeg, Int.reduceAdd, ↓reduceIte, ↓reduceCtorEq, Nat.reduceEqDiff, Nat.reduceAdd, Nat.reduceSub, Nat.reduceMul, Nat.reduceLeDiff, Nat.reduceLT]
    refine qif_d (fun h8 => ?_) (fun h8 => ?_)
    all_goals
      simp only [Tryd.f13, go_sem, Int.reduceToNat, Int.reduceEq, Int.reduceNe, Int.reduceLT, Int.reduceLE, Int.reduceNeg, Int.reduceAdd, ↓reduceIte, ↓reduceCtorEq, Nat.reduceEqDiff, Nat.reduceAdd, Nat.reduceSub, Nat.reduceMul, Nat.reduceLeDiff, Nat.reduceLT]
      refine qcall_i (k9) ?_; simp only [Tryd.f13, go_sem, Int.reduceToNat, Int.reduceEq, Int.reduceNe, Int.reduceLT, Int.reduceLE, Int.reduceNeg, Int.reduceAdd, ↓reduceIte, ↓reduceCtorEq, Nat.reduceEqDiff, Nat.reduceAdd, Nat.reduceSub, Nat.reduceMul, Nat.reduceLeDiff, Nat.reduceLT]
      refine qcall_i (k9) ?_; simp only [Tryd.f13, go_sem, Int.reduceToNat, Int.reduceEq, Int.reduceNe, Int.reduceLT, Int.reduceLE, Int.reduceNeg, Int.reduceAdd, ↓reduceIte, ↓reduceCtorEq, Nat.reduceEqDiff, Nat.reduceAdd, Nat.reduceSub, Nat.reduceMul, Nat.reduceLeDiff, Nat.reduceLT]
      refine qcall_i (k10) ?_; simp only [Tryd.f13, go_sem, Int.reduceToNat, Int.reduceEq, Int.reduceNe, Int.reduceLT, Int.reduceLE, Int.reduceNeg, Int.reduceAdd, ↓reduceIte, ↓reduceCtorEq, Nat.reduceEqDiff, Nat.reduceAdd, Nat.reduceSub, Nat.reduceMul, Nat.reduceLeDiff, Nat.reduceLT]
      refine qcall_i (k11) ?_; simp only [Tryd.f13, hn, w1, go_sem, Int.reduceToNat, Int.reduceEq, Int.reduceNe, Int.reduceLT, Int.reduceLE, Int.reduceNeg, Int.reduceAdd, ↓reduceIte, ↓reduceCtorEq, Nat.reduceEqDiff, Nat.reduceAdd, Nat.reduceSub, Nat.reduceMul, Nat.reduceLeDiff, Nat.reduceLT]
      refine qcall_i (k12) ?_; simp only [Tryd.f13, go_sem, Int.reduceToNat, Int.reduceEq, Int.reduceNe, Int.reduceLT, Int.reduceLE, Int.reduceNeg, Int.reduceAdd, ↓reduceIte, ↓reduceCtorEq, Nat.reduceEqDiff, Nat.reduceAdd, Nat.reduceSub, Nat.reduceMul, Nat.reduceLeDiff, Nat.reduceLT]
      refine qcall_i (k13) ?_; simp only [Tryd.f13, go_sem, Int.reduceToNat, Int.reduceEq, Int.reduceNe, Int.reduceLT, Int.reduceLE, Int.reduceNeg, Int.reduceAdd, ↓reduceIte, ↓reduceCtorEq, Nat.reduceEqDiff, Nat.reduceAdd, Nat.reduceSub, Nat.reduceMul, Nat.reduceLeDiff, Nat.reduceLT]
      refine qcall_i (k14) ?_; simp only [Tryd.f13, go_sem, Int.reduceToNat, Int.reduceEq, Int.reduceNe, Int.reduceLT, Int.reduceLE, Int.reduceNeg, Int.reduceAdd, ↓reduceIte, ↓reduceCtorEq, Nat.reduceEqDiff, Nat.reduceAdd, Nat.reduceSub, Nat.reduceMul, Nat.reduceLeDiff, Nat.reduceLT]
      refine qcall_i (k15) ?_; simp only [Tryd.f13, go_sem, Int.reduceToNat, Int.reduceEq, Int.reduceNe, Int.reduceLT, Int.reduceLE, Int.reduceNeg, Int.reduceAdd, ↓reduceIte, ↓reduceCtorEq, Nat.reduceEqDiff, Nat.reduceAdd, Nat.reduceSub, Nat.reduceMul, Nat.reduceLeDiff, Nat.reduceLT]
  · refine qif_df (by omega) ?_
    have h9 := g1.resolve_right h7
    subst h9
    simp only [Tryd.f13, go_sem, Int.reduceToNat, Int.reduceEq, Int.reduceNe, Int.reduceLT, Int.reduceLE, Int.reduceNeg, Int.reduceAdd, ↓reduceIte, ↓reduceCtorEq, Nat.reduceEqDiff, Nat.reduceAdd, Nat.reduceSub, Nat.reduceMul, Nat.reduceLeDiff, Nat.reduceLT]
    refine qcall_i (k8) ?_; simp only [Tryd.f13, go_sem, Int.reduceToNat, Int.reduceEq, Int.reduceNe, Int.reduceLT, Int.reduceLE, Int.reduceNeg, Int.reduceAdd, ↓reduceIte, ↓reduceCtorEq, Nat.reduceEqDiff, Nat.reduceAdd, Nat.reduceSub, Nat.reduceMul, Nat.reduceLeDiff, Nat.reduceLT]
    refine qcall_i (k9) ?_; simp only [Tryd.f13, go_sem, Int.reduceToNat, Int.reduceEq, Int.reduceNe, Int.reduceLT, Int.reduceLE, Int.reduceNeg, Int.reduceAdd, ↓reduceIte, ↓reduceCtorEq, Nat.reduceEqDiff, Nat.reduceAdd, Nat.reduceSub, Nat.reduceMul, Nat.reduceLeDiff, Nat.reduceLT]
    refine qcall_i (k9) ?_; simp only [Tryd.f13, go_sem, Int.reduceToNat, Int.reduceEq, Int.reduceNe, Int.reduceLT, Int.reduceLE, Int.reduceNeg, Int.reduceAdd, ↓reduceIte, ↓reduceCtorEq, Nat.reduceEqDiff, Nat.reduceAdd, Nat.reduceSub, Nat.reduceMul, Nat.reduceLeDiff, Nat.reduceLT]
    refine qcall_i (k10) ?_; simp only [Tryd.f13, go_sem, Int.reduceToNat, Int.reduceEq, Int.reduceNe, Int.reduceLT, Int.reduceLE, Int.reduceNeg, Int.reduceAdd, ↓reduceIte, ↓reduceCtorEq, Nat.reduceEqDiff, Nat.reduceAdd, Nat.reduceSub, Nat.reduceMul, Nat.reduceLeDiff, Nat.reduceLT]
    refine qcall_i (k11) ?_; simp only [Tryd.f13, hn, w1, go_sem, Int.reduceToNat, Int.reduceEq, Int.reduceNe, Int.reduceLT, Int.reduceLE, Int.reduceNeg, Int.reduceAdd, ↓reduceIte, ↓reduceCtorEq, Nat.reduceEqDiff, Nat.reduceAdd, Nat.reduceSub, Nat.reduceMul, Nat.reduceLeDiff, Nat.reduceLT]
    refine qcall_i (k12) ?_; simp only [Tryd.f13, go_sem, Int.reduceToNat, Int.reduceEq, Int.reduceNe, Int.reduceLT, Int.reduceLE, Int.reduceNeg, Int.reduceAdd, ↓reduceIte, ↓reduceCtorEq, Nat.reduceEqDiff, Nat.reduceAdd, Nat.reduceSub, Nat.reduceMul, Nat.reduceLeDiff, Nat.reduceLT]
    refine qcall_i (k13) ?_; simp only [Tryd.f13, go_sem, Int.reduceToNat, Int.reduceEq, Int.reduceNe, Int.reduceLT, Int.reduceLE, Int.reduceNeg, Int.reduceAdd, ↓reduceIte, ↓reduceCtorEq, Nat.reduceEqDiff, Nat.reduceAdd, Nat.reduceSub, Nat.reduceMul, Nat.reduceLeDiff, Nat.reduceLT]
    refine qcall_i (k14) ?_; simp only [Tryd.f13, go_sem, Int.reduceToNat, Int.reduceEq, Int.reduceNe, Int.reduceLT, Int.reduceLE, Int.reduceNeg, Int.reduceAdd, ↓reduceIte, ↓reduceCtorEq, Nat.reduceEqDiff, Nat.reduceAdd, Nat.reduceSub, Nat.reduceMul, Nat.reduceLeDiff, Nat.reduceLT]
    refine qcall_i (k15) ?_; simp only [Tryd.f13, go_sem, Int.reduceToNat, Int.reduceEq, Int.reduceNe, Int.reduceLT, Int.reduceLE, Int.reduceNeg, Int.reduceAdd, ↓reduceIte, ↓reduceCtorEq, Nat.reduceEqDiff, Nat.reduceAdd, Nat.reduceSub, Nat.reduceMul, Nat.reduceLeDiff, Nat.reduceLT]
end Go.Proofs.YtflpcgcgeffolaaDoor
