/- Rounding by the program: round.To, whole. -/
import Derived.Test.YtejmlngnpekagaaDoorTo2
open Go PG Go.Proofs
set_option maxRecDepth 100000
set_option linter.unusedSimpArgs false
set_option linter.unusedVariables false
namespace Go.Proofs.YtejmlngnpekagaaDoor
attribute [local go_sem] Lay2 Lay3 Lay4 Lay5 Lay6 Lay7 Lay8 Lay9 Lay10 Lay11 Lay12 Lay13 Lay14 Lay15 Lay16 Lay17 Lay18 Lay19 Lay21 Lay22 Lay23 Lay24 Lay25 Lay30 Lay33 Lay36 Lay37 Lay46 Lay47 Lay48 Lay53 Lay54 Lay55 Lay59 Lay100 Lay101 Lay127 Lay146 Lay162 Lay168 Lay169 Lay173 Lay185 Lay186 Lay187 Lay188 Lay189 Lay191 Lay192 Lay194 Lay195 Lay196 Lay199 qexec_seq qexec_skip qexec_exit qexec_ret qexec_block qexec_loop qexec_range qexec_cond qexec_region qexec_drawn qops_nil qops_none qops_some put_some put_none pblk_exit pblk_other newDsts_nil inlDsts_nil isInl sget_cons sget_nil qval_some qbool_some qgs_bool qgs_und qfree_some qgrd_true qgrd_false qif_true qif_false qval_ite qval_itn qand_true map_ite map_some' map_none' qdo_move qdo_assign qdo_binOp qdo_pick qdo_unOp qdo_convert qdo_extract qdo_field qdo_fieldAddr qdo_alloc qdo_box qdo_build qdo_buildSlice qdo_load qdo_store qdo_nilCheck qdo_makeFunc qdo_makeSlice qdo_slice qdo_indexAddr qdo_call qcont_val qcont_new qcont_st qcont_app0 qcont_app qcont_inl qcont_call njSV_val njSV_nil njSV_row njSV_ptr njSV_sub binV_val binV_nil binV_nn binV_ptr bin_np bin_nnp nilCmp bin_add bin_sub bin_mul bin_quo bin_rem bin_and bin_or bin_xor bin_andNot bin_eql bin_neq bin_lss bin_leq bin_gtr bin_geq bin_shl bin_shr bin_seql bin_sneq bin_sadd bin_beql bin_aeql bin_aneq eqAnd_some eqCells_nil eqCells_cons fieldTypes isStruct eqCell bin_bneq un_not un_neg nj_ite Nat.beq stepA stepR isNew opSV constSV RV.sv allSome E_mu E_own qkeyIn_none qkeyIn_some qkeyAt_none qkeyAt_some Bool.or_false Bool.false_or Bool.or_true Bool.true_or cst setB res resSV pstart startL killL kill1 eraL frzL svPV rvPV rvInt rvSlice frzOf close closeL pconv pbuiltin pmax2 partPV setCells fillPV zrow bound newSV PV.cells Bk.cells Bk.with SV.key pres presL_nil presL_tmp presL_cell presC2_some cellPV_ptr presC List.toList_toArray List.size_toArray List.getElem?_drop Nat.mul_one Int.toNat_natCast Nat.not_lt_zero Nat.lt_irrefl decide_true decide_false Nat.not_lt Option.some.injEq PV.lst.injEq PV.int.injEq PV.bool.injEq PV.tuple.injEq List.cons.injEq Option.map_some Option.map_none Option.bind_some Option.toList List.map_cons List.map_nil List.nil_append List.cons_append List.append_nil List.zip_cons_cons List.zip_nil_left List.zip_nil_right List.getElem?_cons_zero List.getElem?_cons_succ List.drop_zero List.drop_succ_cons List.take_succ_cons List.take_zero List.set_cons_zero List.set_cons_succ List.length_cons List.length_nil List.length_set List.replicate_one List.replicate_zero bne_self_eq_false beq_self_eq_true Nat.zero_add Nat.add_zero Nat.zero_mul Bool.false_eq_true Bool.true_eq_false Bool.not_true Bool.not_false and_true true_and false_and and_false or_false false_or or_true true_or not_true_eq_false not_false_eq_true ne_eq gt_iff_lt List.mem_cons List.not_mem_nil
attribute [local go_sem ↓] pseq_normal pseq_ret pseq_exit pblk_normal pblk_ret newDsts_cons inlDsts_cons gdst_zero gdst_succ retQ_normal retQ_ret qneed_nil qneed_cons retM_normal retM_ret endR_normal endR_ret endR_exit
attribute [local go_sem] Int.reduceToNat Int.reduceEq Int.reduceNe Int.reduceLT Int.reduceLE Int.reduceNeg Int.reduceAdd Nat.reduceEqDiff Nat.reduceAdd Nat.reduceSub Nat.reduceMul Nat.reduceLeDiff Nat.reduceLT
attribute [local go_sem ↓] reduceIte reduceCtorEq

theorem mkD_fits {s : Bool} {x : Nat} {e : Int} (hb : bitLen x ≤ 100000) (h1 : -1000000000 ≤ e) (h2 : e ≤ 1000000000) : (mkD s x e).fits := by
  unfold mkD
  split
  · decide
  · rename_i h
    have := tz_bits h
    constructor
    · show (-1073741824 : Int) ≤ cut e + tz x
      rw [cut_id (by omega) (by omega)]; omega
    · show cut e + tz x ≤ 1073741824
      rw [cut_id (by omega) (by omega)]; omega
theorem toS_big {d : Dy} (h0 : d.m ≠ 0) (ht : 1023 < d.top) (more : Bool) (dir : Int) : toS d more dir = (withS d.s (if dir = 0 ∨ upw dir d.s = true then INF else MAX), 5) := by
  unfold toS magS
  rw [if_neg h0, if_pos ht]
/-- A size between two, the next one if it goes away. -/
def vS (d : Dy) (a : Bool) : Nat := if a = true then low d + 1 else low d
theorem toS_no {d : Dy} (h0 : d.m ≠ 0) (ht : d.top ≤ 1023) (more : Bool) (dir : Int) :
    toS d more dir = (withS d.s (vS d (upM d more dir (unitOf d.top))), if vS d (upM d more dir (unitOf d.top)) = INF then 5 else if (hf d (unitOf d.top) || (bl d (unitOf d.top) || more)) = true then (if d.top < -1022 then 3 else 1) else 0) := by
  unfold toS magS
  rw [if_neg h0, if_neg (by omega), ← upM_low h0 ht]
  unfold vS
  generalize upM d more dir (unitOf d.top) = a
  by_cases h : (if a = true then low d + 1 else low d) = INF
  · rw [if_pos h, if_pos h, h]
  · rw [if_neg h, if_neg h]
theorem toS_small {d : Dy} (h0 : d.m ≠ 0) (ht : d.top < -1075) (more : Bool) (dir : Int) : toS d more dir = (withS d.s (if upw dir d.s = true then 1 else 0), 3) := by
  obtain ⟨e1, e2, e3⟩ := small_parts h0 ht
  rw [toS_no h0 (by omega), upM_low h0 (by omega), e1, e2]
  unfold vS awayS
  rw [e3]
  have h00 : dir = 0 → upw dir d.s = false := by rintro rfl; unfold upw; cases d.s <;> rfl
  have h1 : (if dir = 0 then false && ((true || more) || decide (0 % 2 = 1)) else (false || (true || more)) && upw dir d.s) = upw dir d.s := by
    by_cases h : dir = 0
    · rw [if_pos h, h00 h]; rfl
    · rw [if_neg h]; simp
  rw [h1]
  cases upw dir d.s
  · simp only [Bool.false_eq_true, if_false, Bool.or_true, Bool.true_or, Bool.false_or, if_true]
    rw [if_neg (by decide), if_pos (by omega)]
  · simp only [if_true, Bool.or_true, Bool.true_or, Bool.false_or, Nat.zero_add]
    rw [if_neg (by decide), if_pos (by omega)]
theorem vS_fd {d : Dy} (h0 : d.m ≠ 0) (ht : d.top ≤ 1023) (a : Bool) : vS d a ≤ INF ∧ fd (vS d a) = mkD false (if a = true then flo d (unitOf d.top) + 1 else flo d (unitOf d.top)) (unitOf d.top) := by
  have hp := flo_ok h0 ht
  have hl : low d = packB (flo d (unitOf d.top)) (unitOf d.top) := if_neg (by omega)
  have hlt := pack_lt_inf hp
  unfold vS
  rw [hl]
  cases a
  · exact ⟨by simp only [Bool.false_eq_true, if_false]; omega, pack_fd hp⟩
  · exact ⟨by simp only [if_true]; omega, pack_fd1 hp⟩

theorem r_To {p : PV} {d : Dy} (h : RD p d) (hb9 : bitLen d.m ≤ 900000) (more : Bool) (dir : Int) :
    PC E 12 [p, .bool more, .int .i64 dir] (if toE d more dir then .tuple [u (toS d more dir).1, .int .u8 (toS d more dir).2, .int .i64 0] else .tuple [u 0, .int .u8 0, .int .i64 1]) := by
  have k1 := c_right h more dir
  have hok := h.ok
  have hbits := h.bits
  obtain ⟨s, q, x, e, rfl, -⟩ := h
  refine PC.of_body follows Tryd.func12 (by decide +kernel) rfl (by kernel_rfl) (Nat.le_of_ble_eq_true rfl) (walk ?_)
  by_cases hE : toE d more dir
  case neg =>
    rw [if_neg hE]
    rw [decide_eq_false hE] at k1
    generalize (if d.fits then d else Dy.zero) = d' at *
    simp only [u, Dy.pv, DP, NN, NL] at k1 ⊢
    simp only [Tryd.f12, go_sem]
    refine qcall_i (k1) ?_; simp only [Tryd.f12, go_sem]
    rfl
  obtain ⟨hfi, -⟩ := id hE
  rw [if_pos hE]
  rw [if_pos hfi, decide_eq_true hE] at k1
  have k2 := r_Top (RD.fit hok hbits hfi)
  by_cases h0 : d.m = 0
  · have e1 : toS d more dir = (0, 0) := if_pos h0
    rw [e1]
    rw [decide_eq_false (by simpa using h0)] at k2
    simp only [u, Dy.pv, DP, NN, NL] at k1 k2 ⊢
    simp only [Tryd.f12, go_sem]
    refine qcall_i (k1) ?_; simp only [Tryd.f12, go_sem]
    refine qcall_i (k2) ?_; simp only [Tryd.f12, go_sem]
    exact ⟨rfl, rfl⟩
  rw [decide_eq_true h0] at k2
  have f1 := hfi.1
  have f2 := hfi.2
  have ht := top_of h0
  have hbp := bitLen_pos h0
  by_cases ht1 : 1023 < d.top
  · rw [toS_big h0 ht1]
    have k3 := c_Over d.s dir
    generalize withS d.s (if dir = 0 ∨ upw dir d.s = true then INF else MAX) = R at *
    simp only [u, Dy.pv, DP, NN, NL] at k1 k2 k3 ⊢
    simp only [Tryd.f12, go_sem]
    refine qcall_i (k1) ?_; simp only [Tryd.f12, go_sem]
    refine qcall_i (k2) ?_; simp only [Tryd.f12, go_sem]
    refine qif_dt ht1 ?_
    simp only [Tryd.f12, go_sem]
    refine qcall_i (k3) ?_; simp only [Tryd.f12, go_sem]
    exact ⟨rfl, rfl⟩
  by_cases ht2 : d.top < -1075
  · rw [toS_small h0 ht2]
    have k3 := c_Under d.s dir
    generalize withS d.s (if upw dir d.s = true then 1 else 0) = R at *
    simp only [u, Dy.pv, DP, NN, NL] at k1 k2 k3 ⊢
    simp only [Tryd.f12, go_sem]
    refine qcall_i (k1) ?_; simp only [Tryd.f12, go_sem]
    refine qcall_i (k2) ?_; simp only [Tryd.f12, go_sem]
    refine qif_df ht1 ?_
    simp only [Tryd.f12, go_sem]
    refine qif_dt ht2 ?_
    simp only [Tryd.f12, go_sem]
    refine qcall_i (k3) ?_; simp only [Tryd.f12, go_sem]
    exact ⟨rfl, rfl⟩
  have htle : d.top ≤ 1023 := by omega
  rw [toS_no h0 htle]
  have hu : unitOf d.top = max (d.top - 52) (-1074) := rfl
  have hur := unit_range htle
  have hp := flo_ok h0 htle
  have k5 := c_whole07 (d := d) hb9 (by omega) (t := unitOf d.top) (by omega) (fun _ => by omega) more dir
  have had := away_dir (dir := dir) (s := d.s) (odd := decide (flo d (unitOf d.top) % 2 = 1)) (half := hf d (unitOf d.top)) (below := bl d (unitOf d.top) || more)
  rw [show awayS dir d.s (decide (flo d (unitOf d.top) % 2 = 1)) (hf d (unitOf d.top)) (bl d (unitOf d.top) || more) = upM d more dir (unitOf d.top) from rfl] at had
  have hlI : low d < INF := by
    have := pack_lt_inf hp
    have hl : low d = packB (flo d (unitOf d.top)) (unitOf d.top) := if_neg (by omega)
    omega
  generalize upM d more dir (unitOf d.top) = a at *
  obtain ⟨hv1, hv2⟩ := vS_fd h0 htle a
  have hvI : vS d a = INF → a = true := fun h => by
    unfold vS at h
    cases a
    · simp only [Bool.false_eq_true, if_false] at h; omega
    · rfl
  have hM' : (if a = true then flo d (unitOf d.top) + 1 else flo d (unitOf d.top)) ≤ 9007199254740992 := by
    have := hp.lt
    split <;> omega
  generalize (hf d (unitOf d.top) || (bl d (unitOf d.top) || more)) = ine at *
  have w1 : IntKind.wrap .i64 (d.top - 52) = d.top - 52 := wrap64 (by omega) (by omega)
  rw [hu] at k5 hv2 hM' hur
  clear hu hp
  generalize hT : max (d.top - 52) (-1074) = t at *
  generalize (if a = true then flo d t + 1 else flo d t) = M at *
  have hMb : bitLen M ≤ 54 := (bitLen_le M 54).2 (by omega)
  have hfit : (mkD d.s M t).fits := mkD_fits (by omega) (by omega) (by omega)
  have k6 := r_Make (num_bits (x := M) (by omega)) (by omega) d.s t
  unfold okD at k6
  rw [if_pos hfit] at k6
  have k7 := r_Exact (RD.fit (mkD_ok d.s M t) (Nat.le_trans (mkD_bits _ _ _) (by omega)) hfit)
  rw [exact_pack d.s hv1 hv2] at k7
  have hIl := INF_lt
  have k8 := c_signed07 (withS d.s (vS d a)) (withS_fields d.s (by omega)).1 d.s
  rw [signed_withS d.s (by omega)] at k8
  have k9 := c_signed07 0 (by decide) d.s
  rw [signed_small d.s (by decide)] at k9
  have k10 := c_Over d.s dir
  have hz : M = 0 → vS d a = 0 := fun h => by
    subst h
    have hI : INF = 9218868437227405312 := rfl
    have h1 : (fd (vS d a)).m = 0 := by rw [hv2]; rfl
    have h2 : fm (vS d a) = 0 := by unfold fd at h1; exact mkD_m0.1 h1
    unfold fm at h2
    unfold ff fe at h2
    split at h2 <;> omega
  have hor : bits .or .u8 1 2 = 3 := by decide
  generalize mkD d.s M t = dd at *
  generalize vS d a = v at *
  simp only [u, exPV, Dy.pv, DP, NN, NL] at k1 k2 k5 k6 k7 k8 k9 k10 ⊢
  by_cases hM0 : M = 0
  · rw [if_pos hM0] at k7
    rw [hz hM0, if_neg (by decide)]
    simp only at k7
    cases ine
    · simp only [Tryd.f12, go_sem]
      refine qcall_i (k1) ?_; simp only [Tryd.f12, go_sem]
      refine qcall_i (k2) ?_; simp only [Tryd.f12, go_sem]
      refine qif_df ht1 ?_
      simp only [Tryd.f12, go_sem]
      refine qif_df ht2 ?_
      simp only [Tryd.f12, w1, hT, go_sem]
      refine qcall_i (k5) ?_; simp only [Tryd.f12, go_sem]
      refine qcall_i (k6) ?_; simp only [Tryd.f12, go_sem]
      refine qcall_i (k7) ?_; simp only [Tryd.f12, go_sem]
      refine qcall_i k9 ?_
      simp only [Tryd.f12, go_sem]
      try (exact ⟨rfl, rfl⟩)
    · simp only [Tryd.f12, go_sem]
      refine qcall_i (k1) ?_; simp only [Tryd.f12, go_sem]
      refine qcall_i (k2) ?_; simp only [Tryd.f12, go_sem]
      refine qif_df ht1 ?_
      simp only [Tryd.f12, go_sem]
      refine qif_df ht2 ?_
      simp only [Tryd.f12, w1, hT, go_sem]
      refine qcall_i (k5) ?_; simp only [Tryd.f12, go_sem]
      refine qcall_i (k6) ?_; simp only [Tryd.f12, go_sem]
      refine qcall_i (k7) ?_; simp only [Tryd.f12, go_sem]
      refine qif_d (fun h => ?_) (fun h => ?_)
      · simp only [Tryd.f12, hor, go_sem]
        refine qcall_i k9 ?_
        simp only [Tryd.f12, go_sem]
        rw [if_pos h]
        try (exact ⟨rfl, rfl⟩)
      · simp only [Tryd.f12, hor, go_sem]
        refine qcall_i k9 ?_
        simp only [Tryd.f12, go_sem]
        rw [if_neg h]
        try (exact ⟨rfl, rfl⟩)
  · rw [if_neg hM0] at k7
    by_cases hvv : v = INF
    · rw [if_pos hvv] at k7
      rw [if_pos (had (hvI hvv))] at k10
      rw [if_pos hvv, hvv]
      simp only at k7
      simp only [Tryd.f12, go_sem]
      refine qcall_i (k1) ?_; simp only [Tryd.f12, go_sem]
      refine qcall_i (k2) ?_; simp only [Tryd.f12, go_sem]
      refine qif_df ht1 ?_
      simp only [Tryd.f12, go_sem]
      refine qif_df ht2 ?_
      simp only [Tryd.f12, w1, hT, go_sem]
      refine qcall_i (k5) ?_; simp only [Tryd.f12, go_sem]
      refine qcall_i (k6) ?_; simp only [Tryd.f12, go_sem]
      refine qcall_i (k7) ?_; simp only [Tryd.f12, go_sem]
      refine qcall_i (k10) ?_; simp only [Tryd.f12, go_sem]
      try (exact ⟨rfl, rfl⟩)
    · rw [if_neg hvv] at k7 ⊢
      simp only at k7
      cases ine
      · simp only [Tryd.f12, go_sem]
        refine qcall_i (k1) ?_; simp only [Tryd.f12, go_sem]
        refine qcall_i (k2) ?_; simp only [Tryd.f12, go_sem]
        refine qif_df ht1 ?_
        simp only [Tryd.f12, go_sem]
        refine qif_df ht2 ?_
        simp only [Tryd.f12, w1, hT, go_sem]
        refine qcall_i (k5) ?_; simp only [Tryd.f12, go_sem]
        refine qcall_i (k6) ?_; simp only [Tryd.f12, go_sem]
        refine qcall_i (k7) ?_; simp only [Tryd.f12, go_sem]
        refine qcall_i (k8) ?_; simp only [Tryd.f12, go_sem]
        try (exact ⟨rfl, rfl⟩)
      · simp only [Tryd.f12, go_sem]
        refine qcall_i (k1) ?_; simp only [Tryd.f12, go_sem]
        refine qcall_i (k2) ?_; simp only [Tryd.f12, go_sem]
        refine qif_df ht1 ?_
        simp only [Tryd.f12, go_sem]
        refine qif_df ht2 ?_
        simp only [Tryd.f12, w1, hT, go_sem]
        refine qcall_i (k5) ?_; simp only [Tryd.f12, go_sem]
        refine qcall_i (k6) ?_; simp only [Tryd.f12, go_sem]
        refine qcall_i (k7) ?_; simp only [Tryd.f12, go_sem]
        refine qif_d (fun h => ?_) (fun h => ?_)
        · simp only [Tryd.f12, hor, go_sem]
          refine qcall_i (k8) ?_; simp only [Tryd.f12, go_sem]
          rw [if_pos h]
          try (exact ⟨rfl, rfl⟩)
        · simp only [Tryd.f12, hor, go_sem]
          refine qcall_i (k8) ?_; simp only [Tryd.f12, go_sem]
          rw [if_neg h]
          try (exact ⟨rfl, rfl⟩)
end Go.Proofs.YtejmlngnpekagaaDoor
