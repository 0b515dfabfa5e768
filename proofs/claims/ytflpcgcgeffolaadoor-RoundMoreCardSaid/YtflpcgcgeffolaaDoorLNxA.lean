/- Breakpoints in the document's words; the helper alive of layer 8's laws. -/
import Derived.Test.YtflpcgcgeffolaaDoorNx2
open Go PG Go.Proofs
set_option maxRecDepth 100000
set_option linter.unusedSimpArgs false
set_option linter.unusedVariables false
namespace Go.Proofs.YtflpcgcgeffolaaDoor
attribute [local go_sem] Lay2 Lay3 Lay4 Lay5 Lay6 Lay7 Lay8 Lay9 Lay10 Lay11 Lay12 Lay13 Lay14 Lay21 Lay22 Lay24 Lay25 Lay26 Lay27 Lay36 Lay37 Lay38 Lay39 Lay40 Lay41 Lay43 Lay46 Lay47 Lay66 Lay103 Lay105 Lay159 Lay164 Lay165 Lay166 Lay168 Lay169 Lay172 Lay173 qexec_seq qexec_skip qexec_exit qexec_ret qexec_block qexec_loop qexec_range qexec_cond qexec_region qexec_drawn qops_nil qops_none qops_some put_some put_none pblk_exit pblk_other newDsts_nil sget_cons sget_nil qval_some qbool_some qgs_bool qgs_und qfree_some qgrd_true qgrd_false qif_true qif_false qval_ite qval_itn qand_true map_ite map_some' map_none' qdo_move qdo_assign qdo_binOp qdo_pick qdo_unOp qdo_convert qdo_extract qdo_field qdo_fieldAddr qdo_alloc qdo_box qdo_build qdo_buildSlice qdo_load qdo_store qdo_nilCheck qdo_makeFunc qdo_makeSlice qdo_slice qdo_indexAddr qdo_call qcont_val qcont_new qcont_st qcont_app0 qcont_app qcont_inl qcont_call njSV_val njSV_nil njSV_row njSV_ptr njSV_sub binV_val binV_nil binV_nn nilCmp bin_add bin_sub bin_mul bin_quo bin_rem bin_and bin_or bin_xor bin_andNot bin_eql bin_neq bin_lss bin_leq bin_gtr bin_geq bin_shl bin_shr bin_seql bin_sneq bin_sadd bin_beql bin_aeql bin_aneq eqAnd_some eqCells_nil eqCells_cons fieldTypes isStruct eqCell bin_bneq un_not un_neg nj_ite Nat.beq stepA stepR isNew opSV constSV RV.sv allSome E_mu E_own qkeyIn_none qkeyIn_some qkeyAt_none qkeyAt_some Bool.or_false Bool.false_or Bool.or_true Bool.true_or cst setB res resSV pstart startL killL kill1 eraL frzL svPV rvPV rvInt rvSlice frzOf close closeL pconv pbuiltin pmax2 partPV setCells fillPV zrow bound newSV PV.cells Bk.cells Bk.with SV.key pres presL_nil presL_tmp presL_cell presC2_some cellPV_ptr presC List.toList_toArray List.size_toArray List.getElem?_drop Nat.mul_one Int.toNat_natCast Nat.not_lt_zero Nat.lt_irrefl decide_true decide_false Nat.not_lt Option.some.injEq PV.lst.injEq PV.int.injEq PV.bool.injEq PV.tuple.injEq List.cons.injEq Option.map_some Option.map_none Option.bind_some Option.toList List.map_cons List.map_nil List.nil_append List.cons_append List.append_nil List.zip_cons_cons List.zip_nil_left List.zip_nil_right List.getElem?_cons_zero List.getElem?_cons_succ List.drop_zero List.drop_succ_cons List.take_succ_cons List.take_zero List.set_cons_zero List.set_cons_succ List.length_cons List.length_nil List.length_set List.replicate_one List.replicate_zero bne_self_eq_false beq_self_eq_true Nat.zero_add Nat.add_zero Nat.zero_mul Bool.false_eq_true Bool.true_eq_false Bool.not_true Bool.not_false and_true true_and false_and and_false or_false false_or or_true true_or not_true_eq_false not_false_eq_true ne_eq gt_iff_lt List.mem_cons List.not_mem_nil
attribute [local go_sem ↓] pseq_normal pseq_ret pseq_exit pblk_normal pblk_ret newDsts_cons gdst_zero gdst_succ retQ_normal retQ_ret qneed_nil qneed_cons retM_normal retM_ret endR_normal endR_ret endR_exit

theorem c_alive08 : PC E 32 [] (.bool true) := by
  have e1 : mdS 4607182418800017408 = ⟨false, 9007199254740993, -53⟩ := by decide
  have k1 := c_Middle 4607182418800017408 (by decide)
  rw [if_pos (by decide), e1] at k1
  have k2 := c_Up 4607182418800017408 (by decide)
  rw [show upS 4607182418800017408 = 4607182418800017409 by decide, decide_eq_true (by decide)] at k2
  have hd : dg W 9007199254740993 = [9007199254740993] := dg_one (by decide) (by decide)
  have k3 := c_5Same ⟨false, 9007199254740993, -53⟩ ⟨false, 9007199254740993, -53⟩ (by decide +kernel)
  have k4 := c_Break (RD.fit (d := ⟨false, 9007199254740993, -53⟩) (.inr (by decide)) (by decide +kernel) (by decide))
  rw [decide_eq_true (show Dy.fits ⟨false, 9007199254740993, -53⟩ ∧ brkP ⟨false, 9007199254740993, -53⟩ by decide +kernel)] at k4
  simp only [u, Dy.pv, DP, NN, NL, hd, U, List.map_cons, List.map_nil, List.length_cons, List.length_nil] at k1 k2 k3 k4
  refine PC.of_body follows Tryd.func32 (by decide +kernel) rfl (by kernel_rfl) (Nat.le_of_ble_eq_true rfl) (walk ?_)
  simp only [Tryd.f32, go_sem, Int.reduceToNat, Int.reduceEq, Int.reduceNe, Int.reduceLT, Int.reduceLE, Int.reduceNeg, Int.reduceAdd, ↓reduceIte, ↓reduceCtorEq, Nat.reduceEqDiff, Nat.reduceAdd, Nat.reduceSub, Nat.reduceMul, Nat.reduceLeDiff, Nat.reduceLT]
  refine qcall_i (k1) ?_; simp only [Tryd.f32, Int.cast_ofNat_Int, go_sem, Int.reduceToNat, Int.reduceEq, Int.reduceNe, Int.reduceLT, Int.reduceLE, Int.reduceNeg, Int.reduceAdd, ↓reduceIte, ↓reduceCtorEq, Nat.reduceEqDiff, Nat.reduceAdd, Nat.reduceSub, Nat.reduceMul, Nat.reduceLeDiff, Nat.reduceLT]
  refine qcall_i (k2) ?_; simp only [Tryd.f32, Int.cast_ofNat_Int, go_sem, Int.reduceToNat, Int.reduceEq, Int.reduceNe, Int.reduceLT, Int.reduceLE, Int.reduceNeg, Int.reduceAdd, ↓reduceIte, ↓reduceCtorEq, Nat.reduceEqDiff, Nat.reduceAdd, Nat.reduceSub, Nat.reduceMul, Nat.reduceLeDiff, Nat.reduceLT]
  refine qcall_i k3 ?_
  simp only [Tryd.f32, Int.cast_ofNat_Int, go_sem, Int.reduceToNat, Int.reduceEq, Int.reduceNe, Int.reduceLT, Int.reduceLE, Int.reduceNeg, Int.reduceAdd, ↓reduceIte, ↓reduceCtorEq, Nat.reduceEqDiff, Nat.reduceAdd, Nat.reduceSub, Nat.reduceMul, Nat.reduceLeDiff, Nat.reduceLT]
  refine qcall_i k4 ?_
  simp only [Tryd.f32, go_sem, Int.reduceToNat, Int.reduceEq, Int.reduceNe, Int.reduceLT, Int.reduceLE, Int.reduceNeg, Int.reduceAdd, ↓reduceIte, ↓reduceCtorEq, Nat.reduceEqDiff, Nat.reduceAdd, Nat.reduceSub, Nat.reduceMul, Nat.reduceLeDiff, Nat.reduceLT]

theorem bl_odd {d : Dy} (h : d.m % 2 = 1) (t : Int) : bl d t = false ↔ t - 1 ≤ d.e := by
  unfold bl
  rw [decide_eq_false_iff_not, ne_eq, Decidable.not_not]
  rcases Int.le_total (t - 1) d.e with h1 | h1
  · rw [show (t - 1 - d.e).toNat = 0 by omega, Nat.pow_zero, Nat.mod_one]
    exact ⟨fun _ => h1, fun _ => rfl⟩
  · by_cases h2 : t - 1 = d.e
    · rw [show (t - 1 - d.e).toNat = 0 by omega, Nat.pow_zero, Nat.mod_one]
      exact ⟨fun _ => by omega, fun _ => rfl⟩
    · obtain ⟨k, hk⟩ : ∃ k, (t - 1 - d.e).toNat = k + 1 := ⟨(t - 1 - d.e).toNat - 1, by omega⟩
      rw [hk, show (d.e - (t - 1)).toNat = 0 by omega, Nat.pow_zero, Nat.mul_one, Nat.pow_succ, Nat.mul_comm, Nat.mod_mul]
      constructor
      · intro h3; omega
      · intro h3; omega
/-- A breakpoint is a number, or a middle. -/
theorem brk_law {d : Dy} (hok : d.ok) : brkP d ↔ d.m = 0 ∨ (if low d = INF then cmpD (fd INF) d.abs = 0 else cmpD (fd (low d)) d.abs = 0 ∨ cmpD (mid (low d)) d.abs = 0) := by
  unfold brkP
  by_cases h0 : d.m = 0
  · exact ⟨fun _ => .inl h0, fun _ => .inl h0⟩
  have hodd := hok.odd h0
  refine or_congr Iff.rfl ?_
  by_cases ht : 1023 < d.top
  · rw [if_pos ht, if_pos (show low d = INF from if_pos ht), cmp_eq (fd_ok' _) (abs_ok hok), fd_INF]
    unfold Dy.abs
    rw [Dy.mk.injEq]
    exact ⟨fun h => ⟨rfl, h.2.symm, h.1.symm⟩, fun h => ⟨h.2.2.symm, h.2.1.symm⟩⟩
  · have hp := flo_ok h0 (by omega)
    have hl : low d = packB (flo d (unitOf d.top)) (unitOf d.top) := if_neg ht
    have hlt := pack_lt_inf hp
    have hm := pos_mid h0 (by omega)
    rw [if_neg ht, if_neg (by omega), hm.2]
    rw [cmp_swap, hm.1]
    have hb := bl_odd hodd (unitOf d.top)
    rw [← hb]
    cases hf d (unitOf d.top) <;> cases bl d (unitOf d.top) <;> simp
theorem high_law {d : Dy} (hok : d.ok) : high d = if low d = INF ∨ d.m = 0 ∨ cmpD (fd (low d)) d.abs = 0 then low d else low d + 1 := by
  unfold high
  by_cases h0 : d.m = 0
  · rw [if_pos (.inl h0), if_pos (.inr (.inl h0))]
  have hodd := hok.odd h0
  by_cases ht : 1023 < d.top
  · rw [if_pos (.inr (.inl ht)), if_pos (.inl (show low d = INF from if_pos ht))]
  have hp := flo_ok h0 (by omega)
  have hl : low d = packB (flo d (unitOf d.top)) (unitOf d.top) := if_neg ht
  have hlt := pack_lt_inf hp
  have hm := pos_mid h0 (by omega)
  have hb := bl_odd hodd (unitOf d.top)
  have hh : unitOf d.top ≤ d.e ↔ hf d (unitOf d.top) = false ∧ bl d (unitOf d.top) = false := by
    constructor
    · intro h
      refine ⟨?_, hb.2 (by omega)⟩
      unfold hf flo
      rw [decide_eq_false_iff_not, show (unitOf d.top - 1 - d.e).toNat = 0 by omega, Nat.pow_zero, Nat.div_one, show (d.e - (unitOf d.top - 1)).toNat = (d.e - (unitOf d.top - 1)).toNat - 1 + 1 by omega, Nat.pow_succ, ← Nat.mul_assoc, Nat.mul_mod_left]
      decide
    · intro h
      have h1 := hb.1 h.2
      refine Decidable.byContradiction fun hn => ?_
      have h2 := h.1
      unfold hf flo at h2
      rw [decide_eq_false_iff_not, show (unitOf d.top - 1 - d.e).toNat = 0 by omega, Nat.pow_zero, Nat.div_one, show (d.e - (unitOf d.top - 1)).toNat = 0 by omega, Nat.pow_zero, Nat.mul_one] at h2
      omega
  by_cases hx : unitOf d.top ≤ d.e
  · rw [if_pos (.inr (.inr hx)), if_pos (.inr (.inr (hm.2.2 (hh.1 hx))))]
  · rw [if_neg (by omega), if_neg (fun h => ?_)]
    rcases h with h | h | h
    · omega
    · exact h0 h
    · exact hx (hh.2 (hm.2.1 h))

theorem c_8Same {a b : Dy} (ha : bitLen a.m ≤ 1000000) (hb : bitLen b.m ≤ 1000000) (h1 : -10000000000 ≤ a.e ∧ a.e ≤ 10000000000) (h2 : -10000000000 ≤ b.e ∧ b.e ≤ 10000000000) :
    PC E 49 [a.nv, b.nv] (.bool (decide (cmpD a b = 0))) := by
  refine PC.of_body follows Tryd.func49 (by decide +kernel) rfl (by kernel_rfl) (Nat.le_of_ble_eq_true rfl) (walk ?_)
  have k1 := k_5Cmp ha hb h1 h2
  simp only [Dy.nv, DP, VN, VL] at k1 ⊢
  simp only [Tryd.f49, go_sem, Int.reduceToNat, Int.reduceEq, Int.reduceNe, Int.reduceLT, Int.reduceLE, Int.reduceNeg, Int.reduceAdd, ↓reduceIte, ↓reduceCtorEq, Nat.reduceEqDiff, Nat.reduceAdd, Nat.reduceSub, Nat.reduceMul, Nat.reduceLeDiff, Nat.reduceLT]
  refine qcall_i (k1) ?_; simp only [Tryd.f49, go_sem, Int.reduceToNat, Int.reduceEq, Int.reduceNe, Int.reduceLT, Int.reduceLE, Int.reduceNeg, Int.reduceAdd, ↓reduceIte, ↓reduceCtorEq, Nat.reduceEqDiff, Nat.reduceAdd, Nat.reduceSub, Nat.reduceMul, Nat.reduceLeDiff, Nat.reduceLT]
theorem low_lt {d : Dy} (h : low d ≠ INF) : low d < INF := by have := low_le d; omega
theorem bel_abs (d : Dy) : Bel (low d) d.abs := bel_low
theorem c_8Break {d : Dy} (hok : d.ok) (hb : bitLen d.m ≤ 1000000) (he : -10000000000 ≤ d.e ∧ d.e ≤ 10000000000) : PC E 47 [d.nv] (.bool (decide (brkP d))) := by
  rw [show decide (brkP d) = _ from decide_eq_decide.2 (brk_law hok)]
  have hI : INF = 9218868437227405312 := rfl
  have k1 := c_Below (n := d.abs) (bel_abs d) hb he
  have k2 := c_Limit
  have k3 := c_8Same (a := fd INF) (b := d.abs) (by have := fd_bits INF; omega) hb (by have := fd_e INF; omega) he
  have k4 := c_Worth (low d) (INF_W (low_le d))
  have k5 := c_8Same (a := fd (low d)) (b := d.abs) (by have := fd_bits (low d); omega) hb (by have := fd_e (low d); omega) he
  refine PC.of_body follows Tryd.func47 (by decide +kernel) rfl (by kernel_rfl) (Nat.le_of_ble_eq_true rfl) (walk ?_)
  by_cases h0 : d.m = 0
  · rw [decide_eq_true (.inl h0)]
    simp only [Dy.nv, DP, VN, VL] at k1 ⊢
    simp only [Tryd.f47, go_sem, Int.reduceToNat, Int.reduceEq, Int.reduceNe, Int.reduceLT, Int.reduceLE, Int.reduceNeg, Int.reduceAdd, ↓reduceIte, ↓reduceCtorEq, Nat.reduceEqDiff, Nat.reduceAdd, Nat.reduceSub, Nat.reduceMul, Nat.reduceLeDiff, Nat.reduceLT]
    refine qif_dt (by rw [h0]; rfl) ?_
    simp only [Tryd.f47, go_sem, Int.reduceToNat, Int.reduceEq, Int.reduceNe, Int.reduceLT, Int.reduceLE, Int.reduceNeg, Int.reduceAdd, ↓reduceIte, ↓reduceCtorEq, Nat.reduceEqDiff, Nat.reduceAdd, Nat.reduceSub, Nat.reduceMul, Nat.reduceLeDiff, Nat.reduceLT]
  by_cases hl : low d = INF
  · have e : decide (d.m = 0 ∨ if low d = INF then cmpD (fd INF) d.abs = 0 else cmpD (fd (low d)) d.abs = 0 ∨ cmpD (mid (low d)) d.abs = 0) = decide (cmpD (fd INF) d.abs = 0) := decide_eq_decide.2 (by
      rw [if_pos hl]; exact ⟨fun h => h.resolve_left h0, .inr⟩)
    rw [e]
    generalize cmpD (fd INF) d.abs = c at *
    generalize fd INF = x at *
    simp only [u, Dy.abs, Dy.nv, DP, VN, VL] at k1 k2 k3 ⊢
    simp only [Tryd.f47, go_sem, Int.reduceToNat, Int.reduceEq, Int.reduceNe, Int.reduceLT, Int.reduceLE, Int.reduceNeg, Int.reduceAdd, ↓reduceIte, ↓reduceCtorEq, Nat.reduceEqDiff, Nat.reduceAdd, Nat.reduceSub, Nat.reduceMul, Nat.reduceLeDiff, Nat.reduceLT]
    refine qif_df (fun h => h0 (dgB_nil (by omega))) ?_
    simp only [Tryd.f47, go_sem, Int.reduceToNat, Int.reduceEq, Int.reduceNe, Int.reduceLT, Int.reduceLE, Int.reduceNeg, Int.reduceAdd, ↓reduceIte, ↓reduceCtorEq, Nat.reduceEqDiff, Nat.reduceAdd, Nat.reduceSub, Nat.reduceMul, Nat.reduceLeDiff, Nat.reduceLT]
    refine qcall_i (k1) ?_; simp only [Tryd.f47, go_sem, Int.reduceToNat, Int.reduceEq, Int.reduceNe, Int.reduceLT, Int.reduceLE, Int.reduceNeg, Int.reduceAdd, ↓reduceIte, ↓reduceCtorEq, Nat.reduceEqDiff, Nat.reduceAdd, Nat.reduceSub, Nat.reduceMul, Nat.reduceLeDiff, Nat.reduceLT]
    refine qif_dt (by rw [hl, hI]; rfl) ?_
    simp only [Tryd.f47, go_sem, Int.reduceToNat, Int.reduceEq, Int.reduceNe, Int.reduceLT, Int.reduceLE, Int.reduceNeg, Int.reduceAdd, ↓reduceIte, ↓reduceCtorEq, Nat.reduceEqDiff, Nat.reduceAdd, Nat.reduceSub, Nat.reduceMul, Nat.reduceLeDiff, Nat.reduceLT]
    refine qcall_i (k2) ?_; simp only [Tryd.f47, go_sem, Int.reduceToNat, Int.reduceEq, Int.reduceNe, Int.reduceLT, Int.reduceLE, Int.reduceNeg, Int.reduceAdd, ↓reduceIte, ↓reduceCtorEq, Nat.reduceEqDiff, Nat.reduceAdd, Nat.reduceSub, Nat.reduceMul, Nat.reduceLeDiff, Nat.reduceLT]
    refine qcall_i (k3) ?_; simp only [Tryd.f47, go_sem, Int.reduceToNat, Int.reduceEq, Int.reduceNe, Int.reduceLT, Int.reduceLE, Int.reduceNeg, Int.reduceAdd, ↓reduceIte, ↓reduceCtorEq, Nat.reduceEqDiff, Nat.reduceAdd, Nat.reduceSub, Nat.reduceMul, Nat.reduceLeDiff, Nat.reduceLT]
  · have hlt := low_lt hl
    have hme := mid7_e (low d)
    have hmb := mid7_bits (low d)
    have k6 := c_7Middle (low d) hlt
    have k7 := c_8Same (a := mid7 (low d)) (b := d.abs) (by omega) hb (by omega) he
    rw [show decide (cmpD (mid7 (low d)) d.abs = 0) = decide (cmpD (mid (low d)) d.abs = 0) from decide_eq_decide.2 (by
      rw [cmp_swap d.abs, cmp_swap d.abs, cmp_mid7 hlt])] at k7
    have e : decide (d.m = 0 ∨ if low d = INF then cmpD (fd INF) d.abs = 0 else cmpD (fd (low d)) d.abs = 0 ∨ cmpD (mid (low d)) d.abs = 0) = (decide (cmpD (fd (low d)) d.abs = 0) || decide (cmpD (mid (low d)) d.abs = 0)) := by
      rw [← Bool.decide_or]
      exact decide_eq_decide.2 (by rw [if_neg hl]; exact ⟨fun h => h.resolve_left h0, .inr⟩)
    rw [e]
    generalize cmpD (fd (low d)) d.abs = c1 at *
    generalize cmpD (mid (low d)) d.abs = c2 at *
    generalize fd (low d) = x at *
    generalize mid7 (low d) = y at *
    simp only [u, Dy.abs, Dy.nv, DP, VN, VL] at k1 k4 k5 k6 k7 ⊢
    simp only [Tryd.f47, go_sem, Int.reduceToNat, Int.reduceEq, Int.reduceNe, Int.reduceLT, Int.reduceLE, Int.reduceNeg, Int.reduceAdd, ↓reduceIte, ↓reduceCtorEq, Nat.reduceEqDiff, Nat.reduceAdd, Nat.reduceSub, Nat.reduceMul, Nat.reduceLeDiff, Nat.reduceLT]
    refine qif_df (fun h => h0 (dgB_nil (by omega))) ?_
    simp only [Tryd.f47, go_sem, Int.reduceToNat, Int.reduceEq, Int.reduceNe, Int.reduceLT, Int.reduceLE, Int.reduceNeg, Int.reduceAdd, ↓reduceIte, ↓reduceCtorEq, Nat.reduceEqDiff, Nat.reduceAdd, Nat.reduceSub, Nat.reduceMul, Nat.reduceLeDiff, Nat.reduceLT]
    refine qcall_i (k1) ?_; simp only [Tryd.f47, go_sem, Int.reduceToNat, Int.reduceEq, Int.reduceNe, Int.reduceLT, Int.reduceLE, Int.reduceNeg, Int.reduceAdd, ↓reduceIte, ↓reduceCtorEq, Nat.reduceEqDiff, Nat.reduceAdd, Nat.reduceSub, Nat.reduceMul, Nat.reduceLeDiff, Nat.reduceLT]
    refine qif_df (by omega) ?_
    simp only [Tryd.f47, go_sem, Int.reduceToNat, Int.reduceEq, Int.reduceNe, Int.reduceLT, Int.reduceLE, Int.reduceNeg, Int.reduceAdd, ↓reduceIte, ↓reduceCtorEq, Nat.reduceEqDiff, Nat.reduceAdd, Nat.reduceSub, Nat.reduceMul, Nat.reduceLeDiff, Nat.reduceLT]
    refine qcall_i (k4) ?_; simp only [Tryd.f47, go_sem, Int.reduceToNat, Int.reduceEq, Int.reduceNe, Int.reduceLT, Int.reduceLE, Int.reduceNeg, Int.reduceAdd, ↓reduceIte, ↓reduceCtorEq, Nat.reduceEqDiff, Nat.reduceAdd, Nat.reduceSub, Nat.reduceMul, Nat.reduceLeDiff, Nat.reduceLT]
    refine qcall_i (k5) ?_; simp only [Tryd.f47, go_sem, Int.reduceToNat, Int.reduceEq, Int.reduceNe, Int.reduceLT, Int.reduceLE, Int.reduceNeg, Int.reduceAdd, ↓reduceIte, ↓reduceCtorEq, Nat.reduceEqDiff, Nat.reduceAdd, Nat.reduceSub, Nat.reduceMul, Nat.reduceLeDiff, Nat.reduceLT]
    by_cases h1 : c1 = 0
    · refine qif_dt h1 ?_
      simp only [Tryd.f47, go_sem, Int.reduceToNat, Int.reduceEq, Int.reduceNe, Int.reduceLT, Int.reduceLE, Int.reduceNeg, Int.reduceAdd, ↓reduceIte, ↓reduceCtorEq, Nat.reduceEqDiff, Nat.reduceAdd, Nat.reduceSub, Nat.reduceMul, Nat.reduceLeDiff, Nat.reduceLT]
      simp [h1]
    · refine qif_df h1 ?_
      simp only [Tryd.f47, go_sem, Int.reduceToNat, Int.reduceEq, Int.reduceNe, Int.reduceLT, Int.reduceLE, Int.reduceNeg, Int.reduceAdd, ↓reduceIte, ↓reduceCtorEq, Nat.reduceEqDiff, Nat.reduceAdd, Nat.reduceSub, Nat.reduceMul, Nat.reduceLeDiff, Nat.reduceLT]
      refine qcall_i (k6) ?_; simp only [Tryd.f47, go_sem, Int.reduceToNat, Int.reduceEq, Int.reduceNe, Int.reduceLT, Int.reduceLE, Int.reduceNeg, Int.reduceAdd, ↓reduceIte, ↓reduceCtorEq, Nat.reduceEqDiff, Nat.reduceAdd, Nat.reduceSub, Nat.reduceMul, Nat.reduceLeDiff, Nat.reduceLT]
      refine qcall_i (k7) ?_; simp only [Tryd.f47, go_sem, Int.reduceToNat, Int.reduceEq, Int.reduceNe, Int.reduceLT, Int.reduceLE, Int.reduceNeg, Int.reduceAdd, ↓reduceIte, ↓reduceCtorEq, Nat.reduceEqDiff, Nat.reduceAdd, Nat.reduceSub, Nat.reduceMul, Nat.reduceLeDiff, Nat.reduceLT]
      simp [h1]
end Go.Proofs.YtflpcgcgeffolaaDoor
