/- The contract of the law RoundMore: at whatever reads as its arguments it returns true. -/
import Derived.Test.YtflpcgcgeffolaaDoorLRoA
import Derived.Test.YtflpcgcgeffolaaDoorLNxA
open Go PG Go.Proofs
set_option maxRecDepth 100000
set_option linter.unusedSimpArgs false
set_option linter.unusedVariables false
namespace Go.Proofs.YtflpcgcgeffolaaDoor
attribute [local go_sem] Lay2 Lay3 Lay4 Lay5 Lay6 Lay7 Lay8 Lay9 Lay10 Lay11 Lay12 Lay13 Lay14 Lay21 Lay22 Lay24 Lay25 Lay26 Lay27 Lay36 Lay37 Lay38 Lay39 Lay40 Lay41 Lay43 Lay46 Lay47 Lay66 Lay103 Lay105 Lay159 Lay164 Lay165 Lay166 Lay168 Lay169 Lay172 Lay173 qexec_seq qexec_skip qexec_exit qexec_ret qexec_block qexec_loop qexec_range qexec_cond qexec_region qexec_drawn qops_nil qops_none qops_some put_some put_none pblk_exit pblk_other newDsts_nil sget_cons sget_nil qval_some qbool_some qgs_bool qgs_und qfree_some qgrd_true qgrd_false qif_true qif_false qval_ite qval_itn qand_true map_ite map_some' map_none' qdo_move qdo_assign qdo_binOp qdo_pick qdo_unOp qdo_convert qdo_extract qdo_field qdo_fieldAddr qdo_alloc qdo_box qdo_build qdo_buildSlice qdo_load qdo_store qdo_nilCheck qdo_makeFunc qdo_makeSlice qdo_slice qdo_indexAddr qdo_call qcont_val qcont_new qcont_st qcont_app0 qcont_app qcont_inl qcont_call njSV_val njSV_nil njSV_row njSV_ptr njSV_sub binV_val binV_nil binV_nn nilCmp bin_add bin_sub bin_mul bin_quo bin_rem bin_and bin_or bin_xor bin_andNot bin_eql bin_neq bin_lss bin_leq bin_gtr bin_geq bin_shl bin_shr bin_seql bin_sneq bin_sadd bin_beql bin_aeql bin_aneq eqAnd_some eqCells_nil eqCells_cons fieldTypes isStruct eqCell bin_bneq un_not un_neg nj_ite Nat.beq stepA stepR isNew opSV constSV RV.sv allSome E_mu E_own qkeyIn_none qkeyIn_some qkeyAt_none qkeyAt_some Bool.or_false Bool.false_or Bool.or_true Bool.true_or cst setB res resSV pstart startL killL kill1 eraL frzL svPV rvPV rvInt rvSlice frzOf close closeL pconv pbuiltin pmax2 partPV setCells fillPV zrow bound newSV PV.cells Bk.cells Bk.with SV.key pres presL_nil presL_tmp presL_cell presC2_some cellPV_ptr presC List.toList_toArray List.size_toArray List.getElem?_drop Nat.mul_one Int.toNat_natCast Nat.not_lt_zero Nat.lt_irrefl decide_true decide_false Nat.not_lt Option.some.injEq PV.lst.injEq PV.int.injEq PV.bool.injEq PV.tuple.injEq List.cons.injEq Option.map_some Option.map_none Option.bind_some Option.toList List.map_cons List.map_nil List.nil_append List.cons_append List.append_nil List.zip_cons_cons List.zip_nil_left List.zip_nil_right List.getElem?_cons_zero List.getElem?_cons_succ List.drop_zero List.drop_succ_cons List.take_succ_cons List.take_zero List.set_cons_zero List.set_cons_succ List.length_cons List.length_nil List.length_set List.replicate_one List.replicate_zero bne_self_eq_false beq_self_eq_true Nat.zero_add Nat.add_zero Nat.zero_mul Bool.false_eq_true Bool.true_eq_false Bool.not_true Bool.not_false and_true true_and false_and and_false or_false false_or or_true true_or not_true_eq_false not_false_eq_true ne_eq gt_iff_lt List.mem_cons List.not_mem_nil
attribute [local go_sem ↓] pseq_normal pseq_ret pseq_exit pblk_normal pblk_ret newDsts_cons gdst_zero gdst_succ retQ_normal retQ_ret qneed_nil qneed_cons retM_normal retM_ret endR_normal endR_ret endR_exit

theorem flo_div (d : Dy) (t : Int) {k : Int} (h1 : k ≤ d.e) (h2 : k ≤ t) : flo d t = (d.at k).natAbs / 2 ^ (t - k).toNat := by
  have hs := flo_spec d t h1 h2
  exact (Nat.div_eq_of_lt_le hs.1 hs.2).symm
theorem even_div {X Q : Nat} (hX : X % 2 = 0) (hQ : Q % 2 = 0) (h0 : 0 < Q) : (X + 1) / Q = X / Q := by
  have h1 := Nat.div_add_mod X Q
  have h2 := Nat.mod_lt X h0
  have h3 : X % Q % 2 = 0 := by
    obtain ⟨q, hq⟩ : ∃ q, Q = 2 * q := ⟨Q / 2, by omega⟩
    rw [hq, Nat.mod_mul]
    rw [hX]
    omega
  refine Nat.div_eq_of_lt_le ?_ ?_
  · rw [Nat.mul_comm]; omega
  · rw [Nat.succ_mul, Nat.mul_comm]; omega
theorem two_pow_even {n : Nat} (h : 0 < n) : 2 ^ n % 2 = 0 := by
  obtain ⟨k, rfl⟩ : ∃ k, n = k + 1 := ⟨n - 1, by omega⟩
  rw [Nat.pow_succ, Nat.mul_mod_left]
/-- A little more than a dyad is as what is a little above it. -/
theorem more_is {d : Dy} (hok : d.ok) (h0 : d.m ≠ 0) (he : -4000 ≤ d.e) (he2 : d.e ≤ 6000) (hb : bitLen d.m ≤ 2000) :
    addS d ⟨d.s, 1, -6000⟩ = ⟨d.s, d.m * 2 ^ (d.e + 6000).toNat + 1, -6000⟩ ∧ bitLen (d.m * 2 ^ (d.e + 6000).toNat + 1) ≤ 15000 ∧ Dy.top ⟨d.s, d.m * 2 ^ (d.e + 6000).toNat + 1, -6000⟩ = d.top ∧
    ∀ dir, toS ⟨d.s, d.m * 2 ^ (d.e + 6000).toNat + 1, -6000⟩ false dir = toS d true dir := by
  have hX2 : (d.m * 2 ^ (d.e + 6000).toNat) % 2 = 0 := by rw [Nat.mul_mod, two_pow_even (by omega), Nat.mul_zero, Nat.zero_mod]
  have hXb := bitLen_shl d.m (d.e + 6000).toNat h0
  have hXat : (d.at (-6000)).natAbs = d.m * 2 ^ (d.e + 6000).toNat := by rw [natAbs_at]; congr 2
  have hX0 : d.m * 2 ^ (d.e + 6000).toNat ≠ 0 := fun h => by rw [h] at hXb; rw [bitLen_zero] at hXb; omega
  have ht := top_of h0
  generalize hX : d.m * 2 ^ (d.e + 6000).toNat = X at *
  have hbl : bitLen (X + 1) = bitLen X := by
    have h1 := (bitLen_le X (bitLen X)).1 (Nat.le_refl _)
    have h2 : bitLen X ≤ bitLen (X + 1) := bitLen_mono (by omega)
    have h3 : bitLen (X + 1) ≤ bitLen X := (bitLen_le _ _).2 (by
      have := two_pow_even (n := bitLen X) (bitLen_pos hX0)
      omega)
    omega
  have hyt : Dy.top ⟨d.s, X + 1, -6000⟩ = d.top := by
    unfold Dy.top
    rw [if_neg (show ¬ X + 1 = 0 by omega), if_neg h0, hbl]
    dsimp only
    omega
  refine ⟨?_, by omega, hyt, fun dir => ?_⟩
  · have := add_same (a := d) (b := ⟨d.s, 1, -6000⟩) rfl
    rw [← this]
    dsimp only
    rw [show min d.e (-6000) = -6000 by omega, show (d.e - -6000).toNat = (d.e + 6000).toNat by omega, hX, show (-6000 - -6000 : Int).toNat = 0 by decide]
    exact mkD_odd (by omega) (by omega) (by omega)
  · have hyat : (Dy.at ⟨d.s, X + 1, -6000⟩ (-6000)).natAbs = X + 1 := by
      rw [natAbs_at]
      dsimp only
      rw [show (-6000 - -6000 : Int).toNat = 0 by decide, Nat.pow_zero, Nat.mul_one]
    have hflo : ∀ t : Int, -5000 ≤ t → flo ⟨d.s, X + 1, -6000⟩ t = flo d t := fun t htt => by
      rw [flo_div _ t (k := -6000) (Int.le_refl _) (by omega), flo_div d t (k := -6000) (by omega) (by omega), hyat, hXat]
      exact even_div hX2 (two_pow_even (by omega)) (Nat.two_pow_pos _)
    have hur : -1074 ≤ unitOf d.top := by unfold unitOf; omega
    have e1 : flo ⟨d.s, X + 1, -6000⟩ (unitOf d.top) = flo d (unitOf d.top) := hflo _ (by omega)
    have e2 : hf ⟨d.s, X + 1, -6000⟩ (unitOf d.top) = hf d (unitOf d.top) := by unfold hf; rw [hflo _ (by omega)]
    have e3 : bl ⟨d.s, X + 1, -6000⟩ (unitOf d.top) = true := by
      cases hh : bl ⟨d.s, X + 1, -6000⟩ (unitOf d.top)
      · have := (bl_odd (d := ⟨d.s, X + 1, -6000⟩) (show (X + 1) % 2 = 1 by omega) _).1 hh
        dsimp only at this
        omega
      · rfl
    have e4 : low ⟨d.s, X + 1, -6000⟩ = low d := by unfold low; rw [hyt, e1]
    unfold toS magS
    rw [hyt, e2, e3, e4, if_neg (show ¬ X + 1 = 0 by omega), if_neg h0]
    simp only [Bool.true_or, Bool.or_true]

theorem law_RoundMore (pvs : List PV) (h : Fits [qD, qU8] pvs) : PC E 12 pvs (.bool true) := by
  obtain ⟨_, _, rfl, ⟨s, l, e, rfl, ol, he0, he1⟩, ⟨dir, rfl, hdir⟩⟩ := fits2 h
  refine PC.of_body follows Tryd.func12 (by decide +kernel) rfl (by kernel_rfl) (Nat.le_of_ble_eq_true rfl) (walk ?_)
  have hdm : ((dir : Int)).tmod 4 = ((dir % 4 : Nat) : Int) := n_tmod dir 4
  have hdw : IntKind.wrap .i64 ((dir % 4 : Nat) : Int) = ((dir % 4 : Nat) : Int) := wrap64 (by omega) (by omega)
  simp only [DP, NL]
  simp only [Tryd.f12, go_sem, Int.reduceToNat, Int.reduceEq, Int.reduceNe, Int.reduceLT, Int.reduceLE, Int.reduceNeg, Int.reduceAdd, ↓reduceIte, ↓reduceCtorEq, Nat.reduceEqDiff, Nat.reduceAdd, Nat.reduceSub, Nat.reduceMul, Nat.reduceLeDiff, Nat.reduceLT]
  refine qcall_i (c_alive07) ?_; simp only [Tryd.f12, go_sem, Int.reduceToNat, Int.reduceEq, Int.reduceNe, Int.reduceLT, Int.reduceLE, Int.reduceNeg, Int.reduceAdd, ↓reduceIte, ↓reduceCtorEq, Nat.reduceEqDiff, Nat.reduceAdd, Nat.reduceSub, Nat.reduceMul, Nat.reduceLeDiff, Nat.reduceLT]
  refine qif_d (fun h => ?_) (fun h => ?_)
  · simp only [Tryd.f12, go_sem, Int.reduceToNat, Int.reduceEq, Int.reduceNe, Int.reduceLT, Int.reduceLE, Int.reduceNeg, Int.reduceAdd, ↓reduceIte, ↓reduceCtorEq, Nat.reduceEqDiff, Nat.reduceAdd, Nat.reduceSub, Nat.reduceMul, Nat.reduceLeDiff, Nat.reduceLT]
  simp only [Tryd.f12, go_sem, Int.reduceToNat, Int.reduceEq, Int.reduceNe, Int.reduceLT, Int.reduceLE, Int.reduceNeg, Int.reduceAdd, ↓reduceIte, ↓reduceCtorEq, Nat.reduceEqDiff, Nat.reduceAdd, Nat.reduceSub, Nat.reduceMul, Nat.reduceLeDiff, Nat.reduceLT]
  refine qif_d (fun h1 => ?_) (fun h1 => ?_)
  · simp only [Tryd.f12, go_sem, Int.reduceToNat, Int.reduceEq, Int.reduceNe, Int.reduceLT, Int.reduceLE, Int.reduceNeg, Int.reduceAdd, ↓reduceIte, ↓reduceCtorEq, Nat.reduceEqDiff, Nat.reduceAdd, Nat.reduceSub, Nat.reduceMul, Nat.reduceLeDiff, Nat.reduceLT]
  simp only [Tryd.f12, go_sem, Int.reduceToNat, Int.reduceEq, Int.reduceNe, Int.reduceLT, Int.reduceLE, Int.reduceNeg, Int.reduceAdd, ↓reduceIte, ↓reduceCtorEq, Nat.reduceEqDiff, Nat.reduceAdd, Nat.reduceSub, Nat.reduceMul, Nat.reduceLeDiff, Nat.reduceLT]
  refine qif_d (fun h2 => ?_) (fun h2 => ?_)
  · simp only [Tryd.f12, go_sem, Int.reduceToNat, Int.reduceEq, Int.reduceNe, Int.reduceLT, Int.reduceLE, Int.reduceNeg, Int.reduceAdd, ↓reduceIte, ↓reduceCtorEq, Nat.reduceEqDiff, Nat.reduceAdd, Nat.reduceSub, Nat.reduceMul, Nat.reduceLeDiff, Nat.reduceLT]
  have rd := RD.arg (s := s) (e := e) ol (by omega)
  have hb64 := bits_of_vl ol
  have hbd := mkD_bits s (vl l) e
  have k1 := r_Sign rd
  have hok := rd.ok
  have hds : (mkD s (vl l) e).m ≠ 0 → (mkD s (vl l) e).s = s := fun h => mkD_s (fun h2 => h (mkD_m0.2 h2))
  have hee : (mkD s (vl l) e).m ≠ 0 → -4000 ≤ (mkD s (vl l) e).e ∧ (mkD s (vl l) e).e ≤ 6000 := fun h => by
    have hx : vl l ≠ 0 := fun h2 => h (mkD_m0.2 h2)
    have := tz_bits hx
    unfold mkD
    rw [if_neg hx, cut_id (by omega) (by omega)]
    dsimp only
    omega
  have k2 := r_To rd (by omega) true ((dir % 4 : Nat) : Int)
  have ro : RD (DP s (.lst 1 [.int .u64 1]) (-6000)) ⟨s, 1, -6000⟩ := RD.oneOdd (x := 1) (by decide) (by decide) (by decide) (by decide)
  have k3 := r_Add rd ro
  generalize mkD s (vl l) e = d at *
  rw [DP, NL] at k1 k2 k3
  generalize PV.lst l.length (U l) = P at *
  have hsg : d.sg = 0 ↔ d.m = 0 := by
    unfold Dy.sg
    constructor
    · intro h3
      refine Decidable.byContradiction fun h4 => ?_
      rw [if_neg h4] at h3
      split at h3 <;> omega
    · intro h3; rw [if_pos h3]
  simp only [Tryd.f12, go_sem, Int.reduceToNat, Int.reduceEq, Int.reduceNe, Int.reduceLT, Int.reduceLE, Int.reduceNeg, Int.reduceAdd, ↓reduceIte, ↓reduceCtorEq, Nat.reduceEqDiff, Nat.reduceAdd, Nat.reduceSub, Nat.reduceMul, Nat.reduceLeDiff, Nat.reduceLT]
  refine qcall_i (k1) ?_; simp only [Tryd.f12, go_sem, Int.reduceToNat, Int.reduceEq, Int.reduceNe, Int.reduceLT, Int.reduceLE, Int.reduceNeg, Int.reduceAdd, ↓reduceIte, ↓reduceCtorEq, Nat.reduceEqDiff, Nat.reduceAdd, Nat.reduceSub, Nat.reduceMul, Nat.reduceLeDiff, Nat.reduceLT]
  by_cases h0 : d.m = 0
  · refine qif_dt (hsg.2 h0) ?_
    simp only [Tryd.f12, go_sem, Int.reduceToNat, Int.reduceEq, Int.reduceNe, Int.reduceLT, Int.reduceLE, Int.reduceNeg, Int.reduceAdd, ↓reduceIte, ↓reduceCtorEq, Nat.reduceEqDiff, Nat.reduceAdd, Nat.reduceSub, Nat.reduceMul, Nat.reduceLeDiff, Nat.reduceLT]
  refine qif_df (fun h => h0 (hsg.1 h)) ?_
  obtain ⟨h3, h4⟩ := hee h0
  obtain ⟨m1, m2, m3, m4⟩ := more_is hok h0 h3 h4 (by omega)
  have hsd := hds h0
  have hE : toE d true ((dir % 4 : Nat) : Int) := ⟨⟨by omega, by omega⟩, by omega, by omega, fun h => h0 h.2⟩
  rw [if_pos hE] at k2
  rw [hsd] at m1 m3 m4
  have hfy : Dy.fits ⟨s, d.m * 2 ^ (d.e + 6000).toNat + 1, -6000⟩ := by constructor <;> dsimp only <;> omega
  have e1 : addV d ⟨s, 1, -6000⟩ = .tuple [(Dy.mk s (d.m * 2 ^ (d.e + 6000).toNat + 1) (-6000)).pv, .int .i64 0] := by
    unfold addV
    rw [m1]
    refine if_pos ⟨hE.1, by constructor <;> dsimp only <;> omega, fun _ _ => ?_, by rw [m1]; exact hfy⟩
    rw [one_top, top_of h0]
    dsimp only
    omega
  rw [e1] at k3
  have ry : RD (Dy.mk s (d.m * 2 ^ (d.e + 6000).toNat + 1) (-6000)).pv ⟨s, d.m * 2 ^ (d.e + 6000).toNat + 1, -6000⟩ := RD.fit (by rw [← m1]; exact addS_ok _ _) (Nat.le_trans m2 (by decide)) hfy
  have k4 := r_To ry (Nat.le_trans m2 (by decide)) false ((dir % 4 : Nat) : Int)
  rw [if_pos ⟨hfy, by omega, by omega, fun h => by cases h.1⟩, m4] at k4
  generalize toS d true ((dir % 4 : Nat) : Int) = R at *
  generalize Dy.mk s (d.m * 2 ^ (d.e + 6000).toNat + 1) (-6000) = y at *
  simp only [u, Dy.pv, DP, NN, NL] at k2 k3 k4
  simp only [Tryd.f12, hdm, hdw, go_sem, Int.reduceToNat, Int.reduceEq, Int.reduceNe, Int.reduceLT, Int.reduceLE, Int.reduceNeg, Int.reduceAdd, ↓reduceIte, ↓reduceCtorEq, Nat.reduceEqDiff, Nat.reduceAdd, Nat.reduceSub, Nat.reduceMul, Nat.reduceLeDiff, Nat.reduceLT]
  refine qcall_i (k2) ?_; simp only [Tryd.f12, hdm, hdw, go_sem, Int.reduceToNat, Int.reduceEq, Int.reduceNe, Int.reduceLT, Int.reduceLE, Int.reduceNeg, Int.reduceAdd, ↓reduceIte, ↓reduceCtorEq, Nat.reduceEqDiff, Nat.reduceAdd, Nat.reduceSub, Nat.reduceMul, Nat.reduceLeDiff, Nat.reduceLT]
  refine qcall_i (k3) ?_; simp only [Tryd.f12, hdm, hdw, go_sem, Int.reduceToNat, Int.reduceEq, Int.reduceNe, Int.reduceLT, Int.reduceLE, Int.reduceNeg, Int.reduceAdd, ↓reduceIte, ↓reduceCtorEq, Nat.reduceEqDiff, Nat.reduceAdd, Nat.reduceSub, Nat.reduceMul, Nat.reduceLeDiff, Nat.reduceLT]
  refine qcall_i (k4) ?_; simp only [Tryd.f12, go_sem, Int.reduceToNat, Int.reduceEq, Int.reduceNe, Int.reduceLT, Int.reduceLE, Int.reduceNeg, Int.reduceAdd, ↓reduceIte, ↓reduceCtorEq, Nat.reduceEqDiff, Nat.reduceAdd, Nat.reduceSub, Nat.reduceMul, Nat.reduceLeDiff, Nat.reduceLT]
end Go.Proofs.YtflpcgcgeffolaaDoor
