/- The document's numbers: planimeterref05.Fits, To, Same; planimeterref06. -/
import Derived.Test.YtflpcgcgeffolaaDoorRd5
import Derived.Test.YtflpcgcgeffolaaDoorFl2
open Go PG Go.Proofs
set_option maxRecDepth 100000
set_option linter.unusedSimpArgs false
set_option linter.unusedVariables false
namespace Go.Proofs.YtflpcgcgeffolaaDoor
attribute [local go_sem] Lay2 Lay3 Lay4 Lay5 Lay6 Lay7 Lay8 Lay9 Lay10 Lay11 Lay12 Lay13 Lay14 Lay21 Lay22 Lay24 Lay25 Lay26 Lay27 Lay36 Lay37 Lay38 Lay39 Lay40 Lay41 Lay43 Lay46 Lay47 Lay66 Lay103 Lay105 Lay159 Lay164 Lay165 Lay166 Lay168 Lay169 Lay172 Lay173 qexec_seq qexec_skip qexec_exit qexec_ret qexec_block qexec_loop qexec_range qexec_cond qexec_region qops_nil qops_none qops_some put_some put_none pblk_exit pblk_other newDsts_nil sget_cons qval_some qbool_some qgs_bool qgs_und qfree_some qgrd_true qgrd_false qif_true qif_false qval_ite qval_itn qand_true map_ite map_some' map_none' qdo_move qdo_assign qdo_binOp qdo_pick qdo_unOp qdo_convert qdo_extract qdo_field qdo_fieldAddr qdo_alloc qdo_box qdo_build qdo_buildSlice qdo_load qdo_store qdo_nilCheck qdo_makeFunc qdo_makeSlice qdo_slice qdo_indexAddr qdo_call qcont_val qcont_new qcont_st qcont_app0 qcont_app qcont_inl qcont_call njSV_val njSV_nil njSV_row njSV_ptr njSV_sub binV_val binV_nil binV_nn nilCmp bin_add bin_sub bin_mul bin_quo bin_rem bin_and bin_or bin_xor bin_andNot bin_eql bin_neq bin_lss bin_leq bin_gtr bin_geq bin_shl bin_shr bin_seql bin_sneq bin_sadd bin_beql bin_aeql bin_aneq eqAnd_some eqCells_nil eqCells_cons fieldTypes isStruct eqCell bin_bneq un_not un_neg nj_ite Nat.beq stepA stepR isNew opSV constSV RV.sv allSome E_mu Bool.or_false Bool.false_or Bool.or_true Bool.true_or cst setB res resSV pstart startL killL kill1 eraL frzL svPV rvPV rvInt rvSlice frzOf close closeL pconv pbuiltin pmax2 partPV setCells fillPV zrow bound newSV PV.cells Bk.cells Bk.with SV.key pres presL_nil presL_tmp presL_cell presC2_some cellPV_ptr presC List.toList_toArray List.size_toArray List.getElem?_drop Nat.mul_one Int.toNat_natCast Nat.not_lt_zero Nat.lt_irrefl decide_true decide_false Nat.not_lt Option.some.injEq PV.lst.injEq PV.int.injEq PV.bool.injEq PV.tuple.injEq List.cons.injEq Option.map_some Option.map_none Option.bind_some Option.toList List.map_cons List.map_nil List.nil_append List.cons_append List.append_nil List.zip_cons_cons List.zip_nil_left List.zip_nil_right List.getElem?_cons_zero List.getElem?_cons_succ List.drop_zero List.drop_succ_cons List.take_succ_cons List.take_zero List.set_cons_zero List.set_cons_succ List.length_cons List.length_nil List.length_set List.replicate_one List.replicate_zero bne_self_eq_false beq_self_eq_true Nat.zero_add Nat.add_zero Nat.zero_mul Bool.false_eq_true Bool.true_eq_false Bool.not_true Bool.not_false and_true true_and false_and and_false or_false false_or or_true true_or not_true_eq_false not_false_eq_true ne_eq gt_iff_lt List.mem_cons List.not_mem_nil
attribute [local go_sem ↓] pseq_normal pseq_ret pseq_exit pblk_normal pblk_ret newDsts_cons gdst_zero gdst_succ retQ_normal retQ_ret retM_normal retM_ret endR_normal endR_ret endR_exit

theorem c_5Fits (d : Dy) : PC E 25 [d.nv] (.bool (decide d.fits)) := by
  refine PC.of_body follows Tryd.func25 (by decide +kernel) rfl (by kernel_rfl) (Nat.le_of_ble_eq_true rfl) (walk ?_)
  simp only [Dy.nv, DP, VN, VL]
  simp only [Tryd.f25, go_sem, Int.reduceToNat, Int.reduceEq, Int.reduceNe, Int.reduceLT, Int.reduceLE, Int.reduceNeg, Int.reduceAdd, ↓reduceIte, ↓reduceCtorEq, Nat.reduceEqDiff, Nat.reduceAdd, Nat.reduceSub, Nat.reduceMul, Nat.reduceLeDiff, Nat.reduceLT]
  refine qif_d (fun h => ?_) (fun h => ?_)
  · simp only [Tryd.f25, go_sem, Int.reduceToNat, Int.reduceEq, Int.reduceNe, Int.reduceLT, Int.reduceLE, Int.reduceNeg, Int.reduceAdd, ↓reduceIte, ↓reduceCtorEq, Nat.reduceEqDiff, Nat.reduceAdd, Nat.reduceSub, Nat.reduceMul, Nat.reduceLeDiff, Nat.reduceLT]
    exact decide_eq_decide.2 ⟨fun h2 => ⟨by omega, by omega⟩, fun h2 => h2.2⟩
  · simp only [Tryd.f25, go_sem, Int.reduceToNat, Int.reduceEq, Int.reduceNe, Int.reduceLT, Int.reduceLE, Int.reduceNeg, Int.reduceAdd, ↓reduceIte, ↓reduceCtorEq, Nat.reduceEqDiff, Nat.reduceAdd, Nat.reduceSub, Nat.reduceMul, Nat.reduceLeDiff, Nat.reduceLT]
    exact (decide_eq_false (fun h2 : d.fits => h (by have := h2.1; omega))).symm

theorem num_vn {x : Nat} (h : bitLen x ≤ 1000000) : PC E 111 [VN x] (NN x) := n_rOf x (Nat.le_trans (vn_bits (by omega)) (by decide))

theorem mkD_zero_of {s : Bool} {x : Nat} {e : Int} (h : (mkD s x e).m = 0) : mkD s x e = .zero := by
  by_cases hx : x = 0
  · subst hx; rfl
  · exfalso
    rw [mkD, if_neg hx] at h
    obtain ⟨m, hm⟩ := tz_spec hx
    have : x / 2 ^ tz x = 2 * m + 1 := Nat.div_eq_of_eq_mul_right (Nat.two_pow_pos _) hm
    have h' : x / 2 ^ tz x = 0 := h
    omega

theorem c_5To (s : Bool) (x : Nat) (e : Int) (hb : bitLen x ≤ 1000000) :
    PC E 63 [DP s (VN x) e] (if (mkD s x e).fits then .tuple [(mkD s x e).pv, .int .i64 0] else .tuple [Dy.zero.pv, .int .i64 2]) := by
  refine PC.of_body follows Tryd.func63 (by decide +kernel) rfl (by kernel_rfl) (Nat.le_of_ble_eq_true rfl) (walk ?_)
  have k1 := num_vn (x := x) hb
  have k2 := c_5Of (num_bits (x := x) hb) hb s e
  have b1 := mkD_bits s x e
  have hz := @mkD_zero_of s x e
  simp only [DP, NN, NL, VN, VL] at k1 k2 ⊢
  generalize mkD s x e = d at *
  have k3 := c_5Fits d
  have k4 := num_vn (x := d.m) (by omega)
  simp only [Dy.nv, DP, VN, VL, NN, NL] at k2 k3 k4
  simp only [Tryd.f63, go_sem, Int.reduceToNat, Int.reduceEq, Int.reduceNe, Int.reduceLT, Int.reduceLE, Int.reduceNeg, Int.reduceAdd, ↓reduceIte, ↓reduceCtorEq, Nat.reduceEqDiff, Nat.reduceAdd, Nat.reduceSub, Nat.reduceMul, Nat.reduceLeDiff, Nat.reduceLT]
  refine qcall_i (k1) ?_; simp only [Tryd.f63, go_sem, Int.reduceToNat, Int.reduceEq, Int.reduceNe, Int.reduceLT, Int.reduceLE, Int.reduceNeg, Int.reduceAdd, ↓reduceIte, ↓reduceCtorEq, Nat.reduceEqDiff, Nat.reduceAdd, Nat.reduceSub, Nat.reduceMul, Nat.reduceLeDiff, Nat.reduceLT]
  refine qcall_i (k2) ?_; simp only [Tryd.f63, go_sem, Int.reduceToNat, Int.reduceEq, Int.reduceNe, Int.reduceLT, Int.reduceLE, Int.reduceNeg, Int.reduceAdd, ↓reduceIte, ↓reduceCtorEq, Nat.reduceEqDiff, Nat.reduceAdd, Nat.reduceSub, Nat.reduceMul, Nat.reduceLeDiff, Nat.reduceLT]
  refine qcall_i (k3) ?_; simp only [Tryd.f63, go_sem, Int.reduceToNat, Int.reduceEq, Int.reduceNe, Int.reduceLT, Int.reduceLE, Int.reduceNeg, Int.reduceAdd, ↓reduceIte, ↓reduceCtorEq, Nat.reduceEqDiff, Nat.reduceAdd, Nat.reduceSub, Nat.reduceMul, Nat.reduceLeDiff, Nat.reduceLT]
  by_cases hf : d.fits
  · rw [decide_eq_true hf, if_pos hf]
    simp only [Tryd.f63, go_sem, Int.reduceToNat, Int.reduceEq, Int.reduceNe, Int.reduceLT, Int.reduceLE, Int.reduceNeg, Int.reduceAdd, ↓reduceIte, ↓reduceCtorEq, Nat.reduceEqDiff, Nat.reduceAdd, Nat.reduceSub, Nat.reduceMul, Nat.reduceLeDiff, Nat.reduceLT]
    by_cases h0 : d.m = 0
    · refine qif_dt (by rw [h0]; rfl) ?_
      simp only [Tryd.f63, go_sem, Int.reduceToNat, Int.reduceEq, Int.reduceNe, Int.reduceLT, Int.reduceLE, Int.reduceNeg, Int.reduceAdd, ↓reduceIte, ↓reduceCtorEq, Nat.reduceEqDiff, Nat.reduceAdd, Nat.reduceSub, Nat.reduceMul, Nat.reduceLeDiff, Nat.reduceLT]
      rw [hz h0]; rfl
    · refine qif_df (fun h => h0 (dgB_nil (by omega))) ?_
      simp only [Tryd.f63, go_sem, Int.reduceToNat, Int.reduceEq, Int.reduceNe, Int.reduceLT, Int.reduceLE, Int.reduceNeg, Int.reduceAdd, ↓reduceIte, ↓reduceCtorEq, Nat.reduceEqDiff, Nat.reduceAdd, Nat.reduceSub, Nat.reduceMul, Nat.reduceLeDiff, Nat.reduceLT]
      refine qcall_i (k4) ?_; simp only [Tryd.f63, go_sem, Int.reduceToNat, Int.reduceEq, Int.reduceNe, Int.reduceLT, Int.reduceLE, Int.reduceNeg, Int.reduceAdd, ↓reduceIte, ↓reduceCtorEq, Nat.reduceEqDiff, Nat.reduceAdd, Nat.reduceSub, Nat.reduceMul, Nat.reduceLeDiff, Nat.reduceLT]
      rfl
  · rw [decide_eq_false hf, if_neg hf]
    simp only [Tryd.f63, go_sem, Int.reduceToNat, Int.reduceEq, Int.reduceNe, Int.reduceLT, Int.reduceLE, Int.reduceNeg, Int.reduceAdd, ↓reduceIte, ↓reduceCtorEq, Nat.reduceEqDiff, Nat.reduceAdd, Nat.reduceSub, Nat.reduceMul, Nat.reduceLeDiff, Nat.reduceLT]
    rfl

theorem c_5Same (a b : Dy) (h : bitLen a.m ≤ 1000000) : PC E 65 [a.pv, b.pv] (.bool (decide (a = b))) := by
  refine PC.of_body follows Tryd.func65 (by decide +kernel) rfl (by kernel_rfl) (Nat.le_of_ble_eq_true rfl) (walk ?_)
  have k := n_Same a.m b.m (Nat.le_trans (w_of_bits (n := 15625) (by omega)) (by decide))
  obtain ⟨sa, ma, ea⟩ := a
  obtain ⟨sb, mb, eb⟩ := b
  simp only [Dy.pv, DP, NN, NL] at k ⊢
  rw [show decide ((⟨sa, ma, ea⟩ : Dy) = ⟨sb, mb, eb⟩) = (decide (sa = sb) && decide (ea = eb) && decide (ma = mb)) by
    rw [← Bool.decide_and, ← Bool.decide_and, decide_eq_decide, Dy.mk.injEq]
    constructor
    · exact fun ⟨h1, h2, h3⟩ => ⟨⟨h1, h3⟩, h2⟩
    · exact fun ⟨⟨h1, h2⟩, h3⟩ => ⟨h1, h3, h2⟩]
  by_cases h1 : sa = sb
  · subst h1
    simp only [Tryd.f65, go_sem, Int.reduceToNat, Int.reduceEq, Int.reduceNe, Int.reduceLT, Int.reduceLE, Int.reduceNeg, Int.reduceAdd, ↓reduceIte, ↓reduceCtorEq, Nat.reduceEqDiff, Nat.reduceAdd, Nat.reduceSub, Nat.reduceMul, Nat.reduceLeDiff, Nat.reduceLT]
    refine qif_d (fun h2 => ?_) (fun h2 => ?_)
    · simp only [Tryd.f65, go_sem, Int.reduceToNat, Int.reduceEq, Int.reduceNe, Int.reduceLT, Int.reduceLE, Int.reduceNeg, Int.reduceAdd, ↓reduceIte, ↓reduceCtorEq, Nat.reduceEqDiff, Nat.reduceAdd, Nat.reduceSub, Nat.reduceMul, Nat.reduceLeDiff, Nat.reduceLT]
      refine qcall_i (k) ?_; simp only [Tryd.f65, go_sem, Int.reduceToNat, Int.reduceEq, Int.reduceNe, Int.reduceLT, Int.reduceLE, Int.reduceNeg, Int.reduceAdd, ↓reduceIte, ↓reduceCtorEq, Nat.reduceEqDiff, Nat.reduceAdd, Nat.reduceSub, Nat.reduceMul, Nat.reduceLeDiff, Nat.reduceLT]
      simp [h2]
    · simp only [Tryd.f65, go_sem, Int.reduceToNat, Int.reduceEq, Int.reduceNe, Int.reduceLT, Int.reduceLE, Int.reduceNeg, Int.reduceAdd, ↓reduceIte, ↓reduceCtorEq, Nat.reduceEqDiff, Nat.reduceAdd, Nat.reduceSub, Nat.reduceMul, Nat.reduceLeDiff, Nat.reduceLT]
      simp [h2]
  · have h3 : (sa == sb) = false := by simpa using h1
    simp only [Tryd.f65, h3, go_sem, Int.reduceToNat, Int.reduceEq, Int.reduceNe, Int.reduceLT, Int.reduceLE, Int.reduceNeg, Int.reduceAdd, ↓reduceIte, ↓reduceCtorEq, Nat.reduceEqDiff, Nat.reduceAdd, Nat.reduceSub, Nat.reduceMul, Nat.reduceLeDiff, Nat.reduceLT]
    simp [h1]

theorem c_Worth (b : Nat) (hb : b < W) : PC E 50 [u b] (fd b).nv := by
  refine PC.of_body follows Tryd.func50 (by decide +kernel) rfl (by kernel_rfl) (Nat.le_of_ble_eq_true rfl) (walk ?_)
  have hf := fe_lt b
  have hg := ff_lt b
  have e1 : IntKind.wrap .i64 (fe b : Int) = fe b := wrap64 (by omega) (by omega)
  have e2 : IntKind.wrap .i64 ((fe b : Int) - 1075) = fe b - 1075 := wrap64 (by omega) (by omega)
  have e3 : IntKind.wrap .u64 ((ff b : Int) + 4503599627370496) = ((ff b + 4503599627370496 : Nat) : Int) := by
    rw [show (ff b : Int) + 4503599627370496 = ((ff b + 4503599627370496 : Nat) : Int) by omega]
    exact wrap_nat64 (Nat.lt_of_lt_of_le (Nat.add_lt_add_right hg _) (by decide))
  have k := c_5Of (num_one (fm_W b)) (Nat.le_trans (fm_bits b) (by decide)) (fs b) (max (fe b : Int) 1 - 1075)
  rw [show mkD (fs b) (fm b) (max (fe b : Int) 1 - 1075) = fd b from rfl] at k
  simp only [Dy.nv, DP, VN, VL] at k ⊢
  have hs : decide ((b : Int) ≥ 9223372036854775808) = fs b := decide_eq_decide.2 (by omega)
  have hm : fm b = if fe b = 0 then ff b else ff b + 4503599627370496 := rfl
  simp only [Tryd.f50, u, t52, w52 hb, m11, m52, e1, go_sem, Int.reduceToNat, Int.reduceEq, Int.reduceNe, Int.reduceLT, Int.reduceLE, Int.reduceNeg, Int.reduceAdd, ↓reduceIte, ↓reduceCtorEq, Nat.reduceEqDiff, Nat.reduceAdd, Nat.reduceSub, Nat.reduceMul, Nat.reduceLeDiff, Nat.reduceLT]
  refine qif_d (fun h => ?_) (fun h => ?_)
  · rw [if_pos (by omega)] at hm
    rw [show max (fe b : Int) 1 - 1075 = -1074 by omega, hm] at k
    simp only [Tryd.f50, hs, go_sem, Int.reduceToNat, Int.reduceEq, Int.reduceNe, Int.reduceLT, Int.reduceLE, Int.reduceNeg, Int.reduceAdd, ↓reduceIte, ↓reduceCtorEq, Nat.reduceEqDiff, Nat.reduceAdd, Nat.reduceSub, Nat.reduceMul, Nat.reduceLeDiff, Nat.reduceLT]
    refine qcall_i (k) ?_; simp only [Tryd.f50, go_sem, Int.reduceToNat, Int.reduceEq, Int.reduceNe, Int.reduceLT, Int.reduceLE, Int.reduceNeg, Int.reduceAdd, ↓reduceIte, ↓reduceCtorEq, Nat.reduceEqDiff, Nat.reduceAdd, Nat.reduceSub, Nat.reduceMul, Nat.reduceLeDiff, Nat.reduceLT]
    rfl
  · rw [if_neg (by omega)] at hm
    rw [show max (fe b : Int) 1 - 1075 = fe b - 1075 by omega, hm] at k
    simp only [Tryd.f50, hs, e2, e3, go_sem, Int.reduceToNat, Int.reduceEq, Int.reduceNe, Int.reduceLT, Int.reduceLE, Int.reduceNeg, Int.reduceAdd, ↓reduceIte, ↓reduceCtorEq, Nat.reduceEqDiff, Nat.reduceAdd, Nat.reduceSub, Nat.reduceMul, Nat.reduceLeDiff, Nat.reduceLT]
    refine qcall_i (k) ?_; simp only [Tryd.f50, go_sem, Int.reduceToNat, Int.reduceEq, Int.reduceNe, Int.reduceLT, Int.reduceLE, Int.reduceNeg, Int.reduceAdd, ↓reduceIte, ↓reduceCtorEq, Nat.reduceEqDiff, Nat.reduceAdd, Nat.reduceSub, Nat.reduceMul, Nat.reduceLeDiff, Nat.reduceLT]
    rfl
end Go.Proofs.YtflpcgcgeffolaaDoor
