/- The contract of the law RoundOrder: at whatever reads as its arguments it returns true. -/
import Derived.Test.YtflpcgcgeffolaaDoorRoL
import Derived.Test.YtflpcgcgeffolaaDoorLRoA
import Derived.Test.YtflpcgcgeffolaaDoorCut
open Go PG Go.Proofs
set_option maxRecDepth 100000
set_option linter.unusedSimpArgs false
set_option linter.unusedVariables false
namespace Go.Proofs.YtflpcgcgeffolaaDoor
attribute [local go_sem] Lay2 Lay3 Lay4 Lay5 Lay6 Lay7 Lay8 Lay9 Lay10 Lay11 Lay12 Lay13 Lay14 Lay21 Lay22 Lay24 Lay25 Lay26 Lay27 Lay36 Lay37 Lay38 Lay39 Lay40 Lay41 Lay43 Lay46 Lay47 Lay66 Lay103 Lay105 Lay159 Lay164 Lay165 Lay166 Lay168 Lay169 Lay172 Lay173 qexec_seq qexec_skip qexec_exit qexec_ret qexec_block qexec_loop qexec_range qexec_cond qexec_region qexec_drawn qops_nil qops_none qops_some put_some put_none pblk_exit pblk_other newDsts_nil sget_cons sget_nil qval_some qbool_some qgs_bool qgs_und qfree_some qgrd_true qgrd_false qif_true qif_false qval_ite qval_itn qand_true map_ite map_some' map_none' qdo_move qdo_assign qdo_binOp qdo_pick qdo_unOp qdo_convert qdo_extract qdo_field qdo_fieldAddr qdo_alloc qdo_box qdo_build qdo_buildSlice qdo_load qdo_store qdo_nilCheck qdo_makeFunc qdo_makeSlice qdo_slice qdo_indexAddr qdo_call qcont_val qcont_new qcont_st qcont_app0 qcont_app qcont_inl qcont_call njSV_val njSV_nil njSV_row njSV_ptr njSV_sub binV_val binV_nil binV_nn nilCmp bin_add bin_sub bin_mul bin_quo bin_rem bin_and bin_or bin_xor bin_andNot bin_eql bin_neq bin_lss bin_leq bin_gtr bin_geq bin_shl bin_shr bin_seql bin_sneq bin_sadd bin_beql bin_aeql bin_aneq eqAnd_some eqCells_nil eqCells_cons fieldTypes isStruct eqCell bin_bneq un_not un_neg nj_ite Nat.beq stepA stepR isNew opSV constSV RV.sv allSome E_mu E_own qkeyIn_none qkeyIn_some qkeyAt_none qkeyAt_some Bool.or_false Bool.false_or Bool.or_true Bool.true_or cst setB res resSV pstart startL killL kill1 eraL frzL svPV rvPV rvInt rvSlice frzOf close closeL pconv pbuiltin pmax2 partPV setCells fillPV zrow bound newSV PV.cells Bk.cells Bk.with SV.key pres presL_nil presL_tmp presL_cell presC2_some cellPV_ptr presC List.toList_toArray List.size_toArray List.getElem?_drop Nat.mul_one Int.toNat_natCast Nat.not_lt_zero Nat.lt_irrefl decide_true decide_false Nat.not_lt Option.some.injEq PV.lst.injEq PV.int.injEq PV.bool.injEq PV.tuple.injEq List.cons.injEq Option.map_some Option.map_none Option.bind_some Option.toList List.map_cons List.map_nil List.nil_append List.cons_append List.append_nil List.zip_cons_cons List.zip_nil_left List.zip_nil_right List.getElem?_cons_zero List.getElem?_cons_succ List.drop_zero List.drop_succ_cons List.take_succ_cons List.take_zero List.set_cons_zero List.set_cons_succ List.length_cons List.length_nil List.length_set List.replicate_one List.replicate_zero bne_self_eq_false beq_self_eq_true Nat.zero_add Nat.add_zero Nat.zero_mul Bool.false_eq_true Bool.true_eq_false Bool.not_true Bool.not_false and_true true_and false_and and_false or_false false_or or_true true_or not_true_eq_false not_false_eq_true ne_eq gt_iff_lt List.mem_cons List.not_mem_nil
attribute [local go_sem ↓] pseq_normal pseq_ret pseq_exit pblk_normal pblk_ret newDsts_cons gdst_zero gdst_succ retQ_normal retQ_ret qneed_nil qneed_cons retM_normal retM_ret endR_normal endR_ret endR_exit

theorem c_value07 (b : Nat) (hb : b < W) : PC E 56 [u b] (.int .i64 (svb b)) := by
  refine PC.of_body follows Tryd.func56 (by decide +kernel) rfl (by kernel_rfl) (Nat.le_of_ble_eq_true rfl) (walk ?_)
  have hb' := b_lt hb
  have hz := fsz_lt b
  have k1 := c_Neg b hb
  have hn := n63 hb
  have hfs : fs b = decide (9223372036854775808 ≤ b) := rfl
  have w1 : IntKind.wrap .i64 (fsz b : Int) = fsz b := wrap64 (by omega) (by omega)
  have w2 : IntKind.wrap .i64 (0 - (fsz b : Int)) = -(fsz b : Int) := by rw [wrap64 (by omega) (by omega)]; omega
  unfold svb
  simp only [u] at k1 ⊢
  by_cases h : 9223372036854775808 ≤ b
  · rw [hfs, decide_eq_true h] at k1
    rw [hfs, decide_eq_true h, if_pos rfl]
    simp only [Tryd.f56, go_sem, Int.reduceToNat, Int.reduceEq, Int.reduceNe, Int.reduceLT, Int.reduceLE, Int.reduceNeg, Int.reduceAdd, ↓reduceIte, ↓reduceCtorEq, Nat.reduceEqDiff, Nat.reduceAdd, Nat.reduceSub, Nat.reduceMul, Nat.reduceLeDiff, Nat.reduceLT]
    refine qcall_i (k1) ?_; simp only [Tryd.f56, hn, w1, w2, go_sem, Int.reduceToNat, Int.reduceEq, Int.reduceNe, Int.reduceLT, Int.reduceLE, Int.reduceNeg, Int.reduceAdd, ↓reduceIte, ↓reduceCtorEq, Nat.reduceEqDiff, Nat.reduceAdd, Nat.reduceSub, Nat.reduceMul, Nat.reduceLeDiff, Nat.reduceLT]
    try rfl
  · rw [hfs, decide_eq_false h] at k1
    rw [hfs, decide_eq_false h, if_neg (by decide)]
    have e : fsz b = b := Nat.mod_eq_of_lt (by omega)
    rw [e] at w1
    rw [e]
    simp only [Tryd.f56, go_sem, Int.reduceToNat, Int.reduceEq, Int.reduceNe, Int.reduceLT, Int.reduceLE, Int.reduceNeg, Int.reduceAdd, ↓reduceIte, ↓reduceCtorEq, Nat.reduceEqDiff, Nat.reduceAdd, Nat.reduceSub, Nat.reduceMul, Nat.reduceLeDiff, Nat.reduceLT]
    refine qcall_i (k1) ?_; simp only [Tryd.f56, w1, go_sem, Int.reduceToNat, Int.reduceEq, Int.reduceNe, Int.reduceLT, Int.reduceLE, Int.reduceNeg, Int.reduceAdd, ↓reduceIte, ↓reduceCtorEq, Nat.reduceEqDiff, Nat.reduceAdd, Nat.reduceSub, Nat.reduceMul, Nat.reduceLeDiff, Nat.reduceLT]
    try rfl
theorem xor_top {v : Nat} (hv : v < 9223372036854775808) : v ^^^ (v + 9223372036854775808) = 9223372036854775808 := by
  have h1 := Nat.two_pow_add_eq_or_of_lt (i := 63) (b := v) hv 1
  have h2 : v + 9223372036854775808 = 2 ^ 63 ||| v := by rw [Nat.mul_one] at h1; omega
  apply Nat.eq_of_testBit_eq
  intro i
  rw [h2, Nat.testBit_xor, Nat.testBit_or, show (9223372036854775808 : Nat) = 2 ^ 63 by decide, Nat.testBit_two_pow]
  by_cases hi : 63 = i
  · subst hi
    rw [Nat.testBit_lt_two_pow (show v < 2 ^ 63 from hv)]
    rfl
  · rw [decide_eq_false hi]
    cases v.testBit i <;> rfl
theorem xor_flip (s : Bool) {v : Nat} (hv : v < 9223372036854775808) : bits .xor .u64 (withS s v : Int) (withS (!s) v : Int) = 9223372036854775808 := by
  have hs := (withS_fields s hv).1
  have hs' := (withS_fields (!s) hv).1
  have h := u64_xor_nat (withS s v) (withS (!s) v) hs hs'
  refine h.trans ?_
  have : withS s v ^^^ withS (!s) v = 9223372036854775808 := by
    cases s
    · exact xor_top hv
    · rw [Nat.xor_comm]; exact xor_top hv
  rw [this]
  rfl

/-- The direction and its mirror. -/
theorem toS_pair (d : Dy) {k : Nat} (hk : k < 4) : ∃ s v f, v < 9223372036854775808 ∧ f ≤ 5 ∧ (toS d false (k : Int) = (0, 0) ∧ toS d.neg false ((mir k : Nat) : Int) = (0, 0) ∨ toS d false (k : Int) = (withS s v, f) ∧ toS d.neg false ((mir k : Nat) : Int) = (withS (!s) v, f)) := by
  by_cases h0 : d.m = 0
  · exact ⟨false, 0, 0, by decide, by decide, .inl ⟨if_pos h0, if_pos (by rw [neg_m]; exact h0)⟩⟩
  · have hI := INF_lt
    have hle := mag_le h0 false (k : Int)
    refine ⟨d.s, (magS d false (k : Int)).1, (magS d false (k : Int)).2, by omega, ?_, .inr ⟨if_neg h0, ?_⟩⟩
    · have : toS d false (k : Int) = (withS d.s (magS d false (k : Int)).1, (magS d false (k : Int)).2) := if_neg h0
      by_cases ht : 1023 < d.top
      · unfold magS; rw [if_pos ht]; exact Nat.le_refl _
      · have h2 := toS_no h0 (show d.top ≤ 1023 by omega) false (k : Int)
        rw [this] at h2
        have h3 := (Prod.mk.inj h2).2
        rw [h3]
        repeat' split
        all_goals omega
    · have : toS d.neg false ((mir k : Nat) : Int) = (withS d.neg.s (magS d.neg false ((mir k : Nat) : Int)).1, (magS d.neg false ((mir k : Nat) : Int)).2) := if_neg (by rw [neg_m]; exact h0)
      rw [this, mag_mir d hk h0]
      have : d.neg.s = !d.s := by unfold Dy.neg; rw [if_neg h0]
      rw [this]
theorem neg_fits_iff (d : Dy) (h : d.ok) : d.neg.fits ↔ d.fits := by
  constructor
  · intro hf
    have := neg_fits hf
    rwa [neg_neg h] at this
  · exact neg_fits
theorem toE_k {d : Dy} {k : Nat} (hk : k < 4) : toE d false (k : Int) ↔ d.fits :=
  ⟨fun h => h.1, fun h => ⟨h, by omega, by omega, fun h => by cases h.1⟩⟩
theorem mir_lt {k : Nat} (hk : k < 4) : mir k < 4 := by unfold mir; split <;> (try split) <;> omega

/-- Bits that a result may be. -/
theorem toS_W (d : Dy) (more : Bool) (dir : Int) : (toS d more dir).1 < W := by
  by_cases h0 : d.m = 0
  · rw [show toS d more dir = (0, 0) from if_pos h0]; decide
  · have hI := INF_lt
    have hle := mag_le h0 more dir
    rw [show toS d more dir = (withS d.s (magS d more dir).1, (magS d more dir).2) from if_neg h0]
    exact (withS_fields d.s (by omega)).1

set_option maxHeartbeats 1000000 in
theorem law_RoundOrder (pvs : List PV) (h : Fits [qD, qD, qU8, qU64] pvs) : PC E 11 pvs (.bool true) := by
  obtain ⟨_, _, _, _, rfl, ⟨s1, l1, e1, rfl, ol1, -, -⟩, ⟨s2, l2, e2, rfl, ol2, -, -⟩, ⟨dir, rfl, hdir⟩, ⟨n, rfl, hn⟩⟩ := fits4 h
  have hdm : ((dir : Int)).tmod 4 = ((dir % 4 : Nat) : Int) := n_tmod dir 4
  have hdw : IntKind.wrap .i64 ((dir % 4 : Nat) : Int) = ((dir % 4 : Nat) : Int) := wrap64 (by omega) (by omega)
  have hk : dir % 4 < 4 := Nat.mod_lt _ (by decide)
  generalize dir % 4 = k at *
  have hmir : ((mir k : Nat) : Int) = if (k : Int) = 2 then 3 else if (k : Int) = 3 then 2 else (k : Int) := by
    unfold mir; split <;> (try split) <;> (repeat' split) <;> omega
  simp only [DP, NL]
  refine PC.of_sem Tryd.func11 (by decide +kernel) rfl (Nat.le_of_ble_eq_true rfl) ?_
  refine PSem.cut follows (by kernel_rfl) 6 (fun _ : Unit => ⟨[(3, .val (.int .u64 n)), (4, .ptr 4 0), (5, .ptr 5 0), (9, .val (.int .i64 k)), (10, .val (.int .i64 (mir k : Nat)))],
    [(4, (.box [.bool s1, .lst l1.length (U l1), .int .i64 e1], false)), (5, (.box [.bool s2, .lst l2.length (U l2), .int .i64 e2], false))]⟩) (fun _ => l1.length ≤ 40 ∧ l2.length ≤ 40) ?_ (fun _ hJ => ?_)
  · simp only [Tryd.f11, u, qfirst_succ, qfirst_zero, after_succ, after_zero, go_sem, Int.reduceToNat, Int.reduceEq, Int.reduceNe, Int.reduceLT, Int.reduceLE, Int.reduceNeg, Int.reduceAdd, ↓reduceIte, ↓reduceCtorEq, Nat.reduceEqDiff, Nat.reduceAdd, Nat.reduceSub, Nat.reduceMul, Nat.reduceLeDiff, Nat.reduceLT]
    refine qcall_i (c_alive07) ?_; simp only [Tryd.f11, u, qfirst_succ, qfirst_zero, after_succ, after_zero, go_sem, Int.reduceToNat, Int.reduceEq, Int.reduceNe, Int.reduceLT, Int.reduceLE, Int.reduceNeg, Int.reduceAdd, ↓reduceIte, ↓reduceCtorEq, Nat.reduceEqDiff, Nat.reduceAdd, Nat.reduceSub, Nat.reduceMul, Nat.reduceLeDiff, Nat.reduceLT]
    refine qif_d (fun h => ?_) (fun h => ?_)
    · simp only [Tryd.f11, qfirst_succ, qfirst_zero, after_succ, after_zero, go_sem, Int.reduceToNat, Int.reduceEq, Int.reduceNe, Int.reduceLT, Int.reduceLE, Int.reduceNeg, Int.reduceAdd, ↓reduceIte, ↓reduceCtorEq, Nat.reduceEqDiff, Nat.reduceAdd, Nat.reduceSub, Nat.reduceMul, Nat.reduceLeDiff, Nat.reduceLT]
    simp only [Tryd.f11, qfirst_succ, qfirst_zero, after_succ, after_zero, go_sem, Int.reduceToNat, Int.reduceEq, Int.reduceNe, Int.reduceLT, Int.reduceLE, Int.reduceNeg, Int.reduceAdd, ↓reduceIte, ↓reduceCtorEq, Nat.reduceEqDiff, Nat.reduceAdd, Nat.reduceSub, Nat.reduceMul, Nat.reduceLeDiff, Nat.reduceLT]
    refine qif_d (fun h2 => ?_) (fun h2 => ?_)
    · simp only [Tryd.f11, qfirst_succ, qfirst_zero, after_succ, after_zero, go_sem, Int.reduceToNat, Int.reduceEq, Int.reduceNe, Int.reduceLT, Int.reduceLE, Int.reduceNeg, Int.reduceAdd, ↓reduceIte, ↓reduceCtorEq, Nat.reduceEqDiff, Nat.reduceAdd, Nat.reduceSub, Nat.reduceMul, Nat.reduceLeDiff, Nat.reduceLT]
    simp only [Tryd.f11, u, hdm, hdw, qfirst_succ, qfirst_zero, after_succ, after_zero, go_sem, Int.reduceToNat, Int.reduceEq, Int.reduceNe, Int.reduceLT, Int.reduceLE, Int.reduceNeg, Int.reduceAdd, ↓reduceIte, ↓reduceCtorEq, Nat.reduceEqDiff, Nat.reduceAdd, Nat.reduceSub, Nat.reduceMul, Nat.reduceLeDiff, Nat.reduceLT]
    have fin : ∀ {s' : ES} {M : Int}, ((mir k : Nat) : Int) = M → True := fun _ => trivial
    clear fin
    refine qif_d (fun hq => ?_) (fun hq => ?_)
    · simp only [Tryd.f11, u, qfirst_succ, qfirst_zero, after_succ, after_zero, go_sem, Int.reduceToNat, Int.reduceEq, Int.reduceNe, Int.reduceLT, Int.reduceLE, Int.reduceNeg, Int.reduceAdd, ↓reduceIte, ↓reduceCtorEq, Nat.reduceEqDiff, Nat.reduceAdd, Nat.reduceSub, Nat.reduceMul, Nat.reduceLeDiff, Nat.reduceLT]
      have hM : ((mir k : Nat) : Int) = 3 := by rw [hmir, if_pos hq]
      refine ⟨(), ⟨by omega, by omega⟩, ?_⟩
      rw [hM]
      simp [Wk, sget, killL, kill1, SV.key]
    · simp only [Tryd.f11, u, qfirst_succ, qfirst_zero, after_succ, after_zero, go_sem, Int.reduceToNat, Int.reduceEq, Int.reduceNe, Int.reduceLT, Int.reduceLE, Int.reduceNeg, Int.reduceAdd, ↓reduceIte, ↓reduceCtorEq, Nat.reduceEqDiff, Nat.reduceAdd, Nat.reduceSub, Nat.reduceMul, Nat.reduceLeDiff, Nat.reduceLT]
      refine qif_d (fun hq3 => ?_) (fun hq3 => ?_)
      · simp only [Tryd.f11, u, qfirst_succ, qfirst_zero, after_succ, after_zero, go_sem, Int.reduceToNat, Int.reduceEq, Int.reduceNe, Int.reduceLT, Int.reduceLE, Int.reduceNeg, Int.reduceAdd, ↓reduceIte, ↓reduceCtorEq, Nat.reduceEqDiff, Nat.reduceAdd, Nat.reduceSub, Nat.reduceMul, Nat.reduceLeDiff, Nat.reduceLT]
        have hM : ((mir k : Nat) : Int) = 2 := by rw [hmir, if_neg hq, if_pos hq3]
        refine ⟨(), ⟨by omega, by omega⟩, ?_⟩
        rw [hM]
        simp [Wk, sget, killL, kill1, SV.key]
      · simp only [Tryd.f11, u, qfirst_succ, qfirst_zero, after_succ, after_zero, go_sem, Int.reduceToNat, Int.reduceEq, Int.reduceNe, Int.reduceLT, Int.reduceLE, Int.reduceNeg, Int.reduceAdd, ↓reduceIte, ↓reduceCtorEq, Nat.reduceEqDiff, Nat.reduceAdd, Nat.reduceSub, Nat.reduceMul, Nat.reduceLeDiff, Nat.reduceLT]
        have hM : ((mir k : Nat) : Int) = k := by rw [hmir, if_neg hq, if_neg hq3]
        refine ⟨(), ⟨by omega, by omega⟩, ?_⟩
        rw [hM]
        simp [Wk, sget, killL, kill1, SV.key]
  obtain ⟨hJ1, hJ2⟩ := hJ
  refine PSem.cut follows (by kernel_rfl) 6 (fun _ : Unit => ⟨[(3, .val (.int .u64 n)), (9, .val (.int .i64 k))], []⟩) (fun _ => True) ?_ (fun _ _ => ?_)
  · have ra := RD.arg (s := s1) (e := e1) ol1 (by omega)
    have rb := RD.arg (s := s2) (e := e2) ol2 (by omega)
    have hb1 := bits_of_vl ol1
    have hb2 := bits_of_vl ol2
    have hd1 := mkD_bits s1 (vl l1) e1
    have hd2 := mkD_bits s2 (vl l2) e2
    generalize mkD s1 (vl l1) e1 = a at *
    generalize mkD s2 (vl l2) e2 = b at *
    have k1 := r_To ra (by omega) false (k : Int)
    have k2 := r_To rb (by omega) false (k : Int)
    obtain ⟨r, hr, -, k3⟩ := r_Minus ra
    have k4 := r_To hr (by rw [neg_m]; omega) false ((mir k : Nat) : Int)
    have k5 := r_Cmp ra rb
    have oa := ra.ok
    obtain ⟨rs, rq, rx, re, rfl, -⟩ := hr
    simp only [DP, NL] at k1 k2 k3 k4 k5
    generalize PV.lst l1.length (U l1) = P1 at *
    generalize PV.lst l2.length (U l2) = P2 at *
    clear ra rb
    have z1 : decide (¬ ((0 : Nat) : Int) = 0) = false := by decide
    have z6 : decide (((0 : Nat) : Int) = 0) = true := by decide
    by_cases fa : a.fits
    case neg =>
      rw [if_neg (fun h => fa ((toE_k hk).1 h))] at k1
      rw [if_neg (fun h => fa ((neg_fits_iff a oa).1 ((toE_k (mir_lt hk)).1 h)))] at k4
      by_cases fb : b.fits
      · rw [if_pos ((toE_k hk).2 fb)] at k2
        simp only [u] at k1 k2 k4
        simp only [Tryd.f11, u, z1, z6, qfirst_succ, qfirst_zero, after_succ, after_zero, go_sem, Int.reduceToNat, Int.reduceEq, Int.reduceNe, Int.reduceLT, Int.reduceLE, Int.reduceNeg, Int.reduceAdd, ↓reduceIte, ↓reduceCtorEq, Nat.reduceEqDiff, Nat.reduceAdd, Nat.reduceSub, Nat.reduceMul, Nat.reduceLeDiff, Nat.reduceLT]
        refine qcall_i (k1) ?_; simp only [Tryd.f11, u, z1, z6, qfirst_succ, qfirst_zero, after_succ, after_zero, go_sem, Int.reduceToNat, Int.reduceEq, Int.reduceNe, Int.reduceLT, Int.reduceLE, Int.reduceNeg, Int.reduceAdd, ↓reduceIte, ↓reduceCtorEq, Nat.reduceEqDiff, Nat.reduceAdd, Nat.reduceSub, Nat.reduceMul, Nat.reduceLeDiff, Nat.reduceLT]
        refine qcall_i (k2) ?_; simp only [Tryd.f11, u, z1, z6, qfirst_succ, qfirst_zero, after_succ, after_zero, go_sem, Int.reduceToNat, Int.reduceEq, Int.reduceNe, Int.reduceLT, Int.reduceLE, Int.reduceNeg, Int.reduceAdd, ↓reduceIte, ↓reduceCtorEq, Nat.reduceEqDiff, Nat.reduceAdd, Nat.reduceSub, Nat.reduceMul, Nat.reduceLeDiff, Nat.reduceLT]
        refine qcall_i (k3) ?_; simp only [Tryd.f11, u, z1, z6, qfirst_succ, qfirst_zero, after_succ, after_zero, go_sem, Int.reduceToNat, Int.reduceEq, Int.reduceNe, Int.reduceLT, Int.reduceLE, Int.reduceNeg, Int.reduceAdd, ↓reduceIte, ↓reduceCtorEq, Nat.reduceEqDiff, Nat.reduceAdd, Nat.reduceSub, Nat.reduceMul, Nat.reduceLeDiff, Nat.reduceLT]
        refine qcall_i (k4) ?_; simp only [Tryd.f11, u, z1, z6, qfirst_succ, qfirst_zero, after_succ, after_zero, go_sem, Int.reduceToNat, Int.reduceEq, Int.reduceNe, Int.reduceLT, Int.reduceLE, Int.reduceNeg, Int.reduceAdd, ↓reduceIte, ↓reduceCtorEq, Nat.reduceEqDiff, Nat.reduceAdd, Nat.reduceSub, Nat.reduceMul, Nat.reduceLeDiff, Nat.reduceLT]
      · rw [if_neg (fun h => fb ((toE_k hk).1 h))] at k2
        simp only [u] at k1 k2 k4
        simp only [Tryd.f11, u, z1, z6, qfirst_succ, qfirst_zero, after_succ, after_zero, go_sem, Int.reduceToNat, Int.reduceEq, Int.reduceNe, Int.reduceLT, Int.reduceLE, Int.reduceNeg, Int.reduceAdd, ↓reduceIte, ↓reduceCtorEq, Nat.reduceEqDiff, Nat.reduceAdd, Nat.reduceSub, Nat.reduceMul, Nat.reduceLeDiff, Nat.reduceLT]
        refine qcall_i (k1) ?_; simp only [Tryd.f11, u, z1, z6, qfirst_succ, qfirst_zero, after_succ, after_zero, go_sem, Int.reduceToNat, Int.reduceEq, Int.reduceNe, Int.reduceLT, Int.reduceLE, Int.reduceNeg, Int.reduceAdd, ↓reduceIte, ↓reduceCtorEq, Nat.reduceEqDiff, Nat.reduceAdd, Nat.reduceSub, Nat.reduceMul, Nat.reduceLeDiff, Nat.reduceLT]
        refine qcall_i (k2) ?_; simp only [Tryd.f11, u, z1, z6, qfirst_succ, qfirst_zero, after_succ, after_zero, go_sem, Int.reduceToNat, Int.reduceEq, Int.reduceNe, Int.reduceLT, Int.reduceLE, Int.reduceNeg, Int.reduceAdd, ↓reduceIte, ↓reduceCtorEq, Nat.reduceEqDiff, Nat.reduceAdd, Nat.reduceSub, Nat.reduceMul, Nat.reduceLeDiff, Nat.reduceLT]
        refine qcall_i (k3) ?_; simp only [Tryd.f11, u, z1, z6, qfirst_succ, qfirst_zero, after_succ, after_zero, go_sem, Int.reduceToNat, Int.reduceEq, Int.reduceNe, Int.reduceLT, Int.reduceLE, Int.reduceNeg, Int.reduceAdd, ↓reduceIte, ↓reduceCtorEq, Nat.reduceEqDiff, Nat.reduceAdd, Nat.reduceSub, Nat.reduceMul, Nat.reduceLeDiff, Nat.reduceLT]
        refine qcall_i (k4) ?_; simp only [Tryd.f11, u, z1, z6, qfirst_succ, qfirst_zero, after_succ, after_zero, go_sem, Int.reduceToNat, Int.reduceEq, Int.reduceNe, Int.reduceLT, Int.reduceLE, Int.reduceNeg, Int.reduceAdd, ↓reduceIte, ↓reduceCtorEq, Nat.reduceEqDiff, Nat.reduceAdd, Nat.reduceSub, Nat.reduceMul, Nat.reduceLeDiff, Nat.reduceLT]
    rw [if_pos ((toE_k hk).2 fa)] at k1
    rw [if_pos ((toE_k (mir_lt hk)).2 (neg_fits fa))] at k4
    by_cases fb : b.fits
    case neg =>
      rw [if_neg (fun h => fb ((toE_k hk).1 h))] at k2
      simp only [u] at k1 k2 k4
      simp only [Tryd.f11, u, z1, z6, qfirst_succ, qfirst_zero, after_succ, after_zero, go_sem, Int.reduceToNat, Int.reduceEq, Int.reduceNe, Int.reduceLT, Int.reduceLE, Int.reduceNeg, Int.reduceAdd, ↓reduceIte, ↓reduceCtorEq, Nat.reduceEqDiff, Nat.reduceAdd, Nat.reduceSub, Nat.reduceMul, Nat.reduceLeDiff, Nat.reduceLT]
      refine qcall_i (k1) ?_; simp only [Tryd.f11, u, z1, z6, qfirst_succ, qfirst_zero, after_succ, after_zero, go_sem, Int.reduceToNat, Int.reduceEq, Int.reduceNe, Int.reduceLT, Int.reduceLE, Int.reduceNeg, Int.reduceAdd, ↓reduceIte, ↓reduceCtorEq, Nat.reduceEqDiff, Nat.reduceAdd, Nat.reduceSub, Nat.reduceMul, Nat.reduceLeDiff, Nat.reduceLT]
      refine qcall_i (k2) ?_; simp only [Tryd.f11, u, z1, z6, qfirst_succ, qfirst_zero, after_succ, after_zero, go_sem, Int.reduceToNat, Int.reduceEq, Int.reduceNe, Int.reduceLT, Int.reduceLE, Int.reduceNeg, Int.reduceAdd, ↓reduceIte, ↓reduceCtorEq, Nat.reduceEqDiff, Nat.reduceAdd, Nat.reduceSub, Nat.reduceMul, Nat.reduceLeDiff, Nat.reduceLT]
      refine qcall_i (k3) ?_; simp only [Tryd.f11, u, z1, z6, qfirst_succ, qfirst_zero, after_succ, after_zero, go_sem, Int.reduceToNat, Int.reduceEq, Int.reduceNe, Int.reduceLT, Int.reduceLE, Int.reduceNeg, Int.reduceAdd, ↓reduceIte, ↓reduceCtorEq, Nat.reduceEqDiff, Nat.reduceAdd, Nat.reduceSub, Nat.reduceMul, Nat.reduceLeDiff, Nat.reduceLT]
      refine qcall_i (k4) ?_; simp only [Tryd.f11, u, z1, z6, qfirst_succ, qfirst_zero, after_succ, after_zero, go_sem, Int.reduceToNat, Int.reduceEq, Int.reduceNe, Int.reduceLT, Int.reduceLE, Int.reduceNeg, Int.reduceAdd, ↓reduceIte, ↓reduceCtorEq, Nat.reduceEqDiff, Nat.reduceAdd, Nat.reduceSub, Nat.reduceMul, Nat.reduceLeDiff, Nat.reduceLT]
    rw [if_pos ((toE_k hk).2 fb)] at k2
    have k6 := c_value07 _ (toS_W a false (k : Int))
    have k7 := c_value07 _ (toS_W b false (k : Int))
    have hm := toS_mono (a := a) (b := b) (dir := (k : Int))
    obtain ⟨s, v, f, hv, hf5, hpair⟩ := toS_pair a hk
    generalize toS b false (k : Int) = Rb at *
    generalize cmpD a b = c at *
    rcases hpair with ⟨p1, p2⟩ | ⟨p1, p2⟩
    · rw [p1] at k1 k6 hm
      rw [p2] at k4
      dsimp only at k1 k4 k6 hm
      simp only [u] at k1 k2 k4 k6 k7
      simp only [Tryd.f11, u, z1, z6, qfirst_succ, qfirst_zero, after_succ, after_zero, go_sem, Int.reduceToNat, Int.reduceEq, Int.reduceNe, Int.reduceLT, Int.reduceLE, Int.reduceNeg, Int.reduceAdd, ↓reduceIte, ↓reduceCtorEq, Nat.reduceEqDiff, Nat.reduceAdd, Nat.reduceSub, Nat.reduceMul, Nat.reduceLeDiff, Nat.reduceLT]
      refine qcall_i (k1) ?_; simp only [Tryd.f11, u, z1, z6, qfirst_succ, qfirst_zero, after_succ, after_zero, go_sem, Int.reduceToNat, Int.reduceEq, Int.reduceNe, Int.reduceLT, Int.reduceLE, Int.reduceNeg, Int.reduceAdd, ↓reduceIte, ↓reduceCtorEq, Nat.reduceEqDiff, Nat.reduceAdd, Nat.reduceSub, Nat.reduceMul, Nat.reduceLeDiff, Nat.reduceLT]
      refine qcall_i (k2) ?_; simp only [Tryd.f11, u, z1, z6, qfirst_succ, qfirst_zero, after_succ, after_zero, go_sem, Int.reduceToNat, Int.reduceEq, Int.reduceNe, Int.reduceLT, Int.reduceLE, Int.reduceNeg, Int.reduceAdd, ↓reduceIte, ↓reduceCtorEq, Nat.reduceEqDiff, Nat.reduceAdd, Nat.reduceSub, Nat.reduceMul, Nat.reduceLeDiff, Nat.reduceLT]
      refine qcall_i (k3) ?_; simp only [Tryd.f11, u, z1, z6, qfirst_succ, qfirst_zero, after_succ, after_zero, go_sem, Int.reduceToNat, Int.reduceEq, Int.reduceNe, Int.reduceLT, Int.reduceLE, Int.reduceNeg, Int.reduceAdd, ↓reduceIte, ↓reduceCtorEq, Nat.reduceEqDiff, Nat.reduceAdd, Nat.reduceSub, Nat.reduceMul, Nat.reduceLeDiff, Nat.reduceLT]
      refine qcall_i (k4) ?_; simp only [Tryd.f11, u, z1, z6, qfirst_succ, qfirst_zero, after_succ, after_zero, go_sem, Int.reduceToNat, Int.reduceEq, Int.reduceNe, Int.reduceLT, Int.reduceLE, Int.reduceNeg, Int.reduceAdd, ↓reduceIte, ↓reduceCtorEq, Nat.reduceEqDiff, Nat.reduceAdd, Nat.reduceSub, Nat.reduceMul, Nat.reduceLeDiff, Nat.reduceLT]
      refine qcall_i (k6) ?_; simp only [Tryd.f11, u, z1, z6, qfirst_succ, qfirst_zero, after_succ, after_zero, go_sem, Int.reduceToNat, Int.reduceEq, Int.reduceNe, Int.reduceLT, Int.reduceLE, Int.reduceNeg, Int.reduceAdd, ↓reduceIte, ↓reduceCtorEq, Nat.reduceEqDiff, Nat.reduceAdd, Nat.reduceSub, Nat.reduceMul, Nat.reduceLeDiff, Nat.reduceLT]
      refine qcall_i (k7) ?_; simp only [Tryd.f11, u, z1, z6, qfirst_succ, qfirst_zero, after_succ, after_zero, go_sem, Int.reduceToNat, Int.reduceEq, Int.reduceNe, Int.reduceLT, Int.reduceLE, Int.reduceNeg, Int.reduceAdd, ↓reduceIte, ↓reduceCtorEq, Nat.reduceEqDiff, Nat.reduceAdd, Nat.reduceSub, Nat.reduceMul, Nat.reduceLeDiff, Nat.reduceLT]
      refine qif_d (fun h => ?_) (fun h => ?_)
      · have hc0 : decide (c ≤ 0) = false := decide_eq_false (fun hh => by have := hm hh; omega)
        simp only [Tryd.f11, u, z1, z6, qfirst_succ, qfirst_zero, after_succ, after_zero, go_sem, Int.reduceToNat, Int.reduceEq, Int.reduceNe, Int.reduceLT, Int.reduceLE, Int.reduceNeg, Int.reduceAdd, ↓reduceIte, ↓reduceCtorEq, Nat.reduceEqDiff, Nat.reduceAdd, Nat.reduceSub, Nat.reduceMul, Nat.reduceLeDiff, Nat.reduceLT]
        refine qcall_i (k5) ?_; simp only [Tryd.f11, u, z1, z6, qfirst_succ, qfirst_zero, after_succ, after_zero, hc0, go_sem, Int.reduceToNat, Int.reduceEq, Int.reduceNe, Int.reduceLT, Int.reduceLE, Int.reduceNeg, Int.reduceAdd, ↓reduceIte, ↓reduceCtorEq, Nat.reduceEqDiff, Nat.reduceAdd, Nat.reduceSub, Nat.reduceMul, Nat.reduceLeDiff, Nat.reduceLT]
        refine ⟨(), ?_⟩
        simp [Wk, sget, killL, kill1, SV.key]
      · simp only [Tryd.f11, u, z1, z6, qfirst_succ, qfirst_zero, after_succ, after_zero, go_sem, Int.reduceToNat, Int.reduceEq, Int.reduceNe, Int.reduceLT, Int.reduceLE, Int.reduceNeg, Int.reduceAdd, ↓reduceIte, ↓reduceCtorEq, Nat.reduceEqDiff, Nat.reduceAdd, Nat.reduceSub, Nat.reduceMul, Nat.reduceLeDiff, Nat.reduceLT]
        refine ⟨(), ?_⟩
        simp [Wk, sget, killL, kill1, SV.key]
    · rw [p1] at k1 k6 hm
      rw [p2] at k4
      have hxor := xor_flip s hv
      dsimp only at k1 k4 k6 hm
      by_cases hX0 : withS s v = 0
      · have hZ : withS (!s) v = 9223372036854775808 ∧ s = false := by
          unfold withS at *
          cases s
          · simp only [Bool.false_eq_true, if_false] at hX0; simp [hX0]
          · exfalso; simp only [if_true] at hX0; omega
        rw [hX0] at k1 k6 hm
        rw [hZ.1] at k4
        clear hxor
        simp only [u] at k1 k2 k4 k6 k7
        simp only [Tryd.f11, u, z1, z6, qfirst_succ, qfirst_zero, after_succ, after_zero, go_sem, Int.reduceToNat, Int.reduceEq, Int.reduceNe, Int.reduceLT, Int.reduceLE, Int.reduceNeg, Int.reduceAdd, ↓reduceIte, ↓reduceCtorEq, Nat.reduceEqDiff, Nat.reduceAdd, Nat.reduceSub, Nat.reduceMul, Nat.reduceLeDiff, Nat.reduceLT]
        refine qcall_i (k1) ?_; simp only [Tryd.f11, u, z1, z6, qfirst_succ, qfirst_zero, after_succ, after_zero, go_sem, Int.reduceToNat, Int.reduceEq, Int.reduceNe, Int.reduceLT, Int.reduceLE, Int.reduceNeg, Int.reduceAdd, ↓reduceIte, ↓reduceCtorEq, Nat.reduceEqDiff, Nat.reduceAdd, Nat.reduceSub, Nat.reduceMul, Nat.reduceLeDiff, Nat.reduceLT]
        refine qcall_i (k2) ?_; simp only [Tryd.f11, u, z1, z6, qfirst_succ, qfirst_zero, after_succ, after_zero, go_sem, Int.reduceToNat, Int.reduceEq, Int.reduceNe, Int.reduceLT, Int.reduceLE, Int.reduceNeg, Int.reduceAdd, ↓reduceIte, ↓reduceCtorEq, Nat.reduceEqDiff, Nat.reduceAdd, Nat.reduceSub, Nat.reduceMul, Nat.reduceLeDiff, Nat.reduceLT]
        refine qcall_i (k3) ?_; simp only [Tryd.f11, u, z1, z6, qfirst_succ, qfirst_zero, after_succ, after_zero, go_sem, Int.reduceToNat, Int.reduceEq, Int.reduceNe, Int.reduceLT, Int.reduceLE, Int.reduceNeg, Int.reduceAdd, ↓reduceIte, ↓reduceCtorEq, Nat.reduceEqDiff, Nat.reduceAdd, Nat.reduceSub, Nat.reduceMul, Nat.reduceLeDiff, Nat.reduceLT]
        refine qcall_i (k4) ?_; simp only [Tryd.f11, u, z1, z6, qfirst_succ, qfirst_zero, after_succ, after_zero, go_sem, Int.reduceToNat, Int.reduceEq, Int.reduceNe, Int.reduceLT, Int.reduceLE, Int.reduceNeg, Int.reduceAdd, ↓reduceIte, ↓reduceCtorEq, Nat.reduceEqDiff, Nat.reduceAdd, Nat.reduceSub, Nat.reduceMul, Nat.reduceLeDiff, Nat.reduceLT]
        refine qif_dt (by decide) ?_
        simp only [Tryd.f11, u, z1, z6, qfirst_succ, qfirst_zero, after_succ, after_zero, go_sem, Int.reduceToNat, Int.reduceEq, Int.reduceNe, Int.reduceLT, Int.reduceLE, Int.reduceNeg, Int.reduceAdd, ↓reduceIte, ↓reduceCtorEq, Nat.reduceEqDiff, Nat.reduceAdd, Nat.reduceSub, Nat.reduceMul, Nat.reduceLeDiff, Nat.reduceLT]
        refine qif_df (fun h => h rfl) ?_
        simp only [Tryd.f11, u, z1, z6, qfirst_succ, qfirst_zero, after_succ, after_zero, go_sem, Int.reduceToNat, Int.reduceEq, Int.reduceNe, Int.reduceLT, Int.reduceLE, Int.reduceNeg, Int.reduceAdd, ↓reduceIte, ↓reduceCtorEq, Nat.reduceEqDiff, Nat.reduceAdd, Nat.reduceSub, Nat.reduceMul, Nat.reduceLeDiff, Nat.reduceLT]
        refine qcall_i (k6) ?_; simp only [Tryd.f11, u, z1, z6, qfirst_succ, qfirst_zero, after_succ, after_zero, go_sem, Int.reduceToNat, Int.reduceEq, Int.reduceNe, Int.reduceLT, Int.reduceLE, Int.reduceNeg, Int.reduceAdd, ↓reduceIte, ↓reduceCtorEq, Nat.reduceEqDiff, Nat.reduceAdd, Nat.reduceSub, Nat.reduceMul, Nat.reduceLeDiff, Nat.reduceLT]
        refine qcall_i (k7) ?_; simp only [Tryd.f11, u, z1, z6, qfirst_succ, qfirst_zero, after_succ, after_zero, go_sem, Int.reduceToNat, Int.reduceEq, Int.reduceNe, Int.reduceLT, Int.reduceLE, Int.reduceNeg, Int.reduceAdd, ↓reduceIte, ↓reduceCtorEq, Nat.reduceEqDiff, Nat.reduceAdd, Nat.reduceSub, Nat.reduceMul, Nat.reduceLeDiff, Nat.reduceLT]
        refine qif_d (fun h => ?_) (fun h => ?_)
        · have hc0 : decide (c ≤ 0) = false := decide_eq_false (fun hh => by have := hm hh; omega)
          simp only [Tryd.f11, u, z1, z6, qfirst_succ, qfirst_zero, after_succ, after_zero, go_sem, Int.reduceToNat, Int.reduceEq, Int.reduceNe, Int.reduceLT, Int.reduceLE, Int.reduceNeg, Int.reduceAdd, ↓reduceIte, ↓reduceCtorEq, Nat.reduceEqDiff, Nat.reduceAdd, Nat.reduceSub, Nat.reduceMul, Nat.reduceLeDiff, Nat.reduceLT]
          refine qcall_i (k5) ?_; simp only [Tryd.f11, u, z1, z6, qfirst_succ, qfirst_zero, after_succ, after_zero, hc0, go_sem, Int.reduceToNat, Int.reduceEq, Int.reduceNe, Int.reduceLT, Int.reduceLE, Int.reduceNeg, Int.reduceAdd, ↓reduceIte, ↓reduceCtorEq, Nat.reduceEqDiff, Nat.reduceAdd, Nat.reduceSub, Nat.reduceMul, Nat.reduceLeDiff, Nat.reduceLT]
          refine ⟨(), ?_⟩
          simp [Wk, sget, killL, kill1, SV.key]
        · simp only [Tryd.f11, u, z1, z6, qfirst_succ, qfirst_zero, after_succ, after_zero, go_sem, Int.reduceToNat, Int.reduceEq, Int.reduceNe, Int.reduceLT, Int.reduceLE, Int.reduceNeg, Int.reduceAdd, ↓reduceIte, ↓reduceCtorEq, Nat.reduceEqDiff, Nat.reduceAdd, Nat.reduceSub, Nat.reduceMul, Nat.reduceLeDiff, Nat.reduceLT]
          refine ⟨(), ?_⟩
          simp [Wk, sget, killL, kill1, SV.key]
      · have hX : decide (¬ ((withS s v : Nat) : Int) = 0) = true := decide_eq_true (by omega)
        have hX2 : decide (((withS s v : Nat) : Int) = 0) = false := decide_eq_false (by omega)
        generalize withS s v = X at *
        generalize withS (!s) v = Z at *
        simp only [u] at k1 k2 k4 k6 k7
        simp only [Tryd.f11, u, z1, z6, qfirst_succ, qfirst_zero, after_succ, after_zero, hxor, hX, hX2, go_sem, Int.reduceToNat, Int.reduceEq, Int.reduceNe, Int.reduceLT, Int.reduceLE, Int.reduceNeg, Int.reduceAdd, ↓reduceIte, ↓reduceCtorEq, Nat.reduceEqDiff, Nat.reduceAdd, Nat.reduceSub, Nat.reduceMul, Nat.reduceLeDiff, Nat.reduceLT]
        refine qcall_i (k1) ?_; simp only [Tryd.f11, u, z1, z6, qfirst_succ, qfirst_zero, after_succ, after_zero, hxor, hX, hX2, go_sem, Int.reduceToNat, Int.reduceEq, Int.reduceNe, Int.reduceLT, Int.reduceLE, Int.reduceNeg, Int.reduceAdd, ↓reduceIte, ↓reduceCtorEq, Nat.reduceEqDiff, Nat.reduceAdd, Nat.reduceSub, Nat.reduceMul, Nat.reduceLeDiff, Nat.reduceLT]
        refine qcall_i (k2) ?_; simp only [Tryd.f11, u, z1, z6, qfirst_succ, qfirst_zero, after_succ, after_zero, hxor, hX, hX2, go_sem, Int.reduceToNat, Int.reduceEq, Int.reduceNe, Int.reduceLT, Int.reduceLE, Int.reduceNeg, Int.reduceAdd, ↓reduceIte, ↓reduceCtorEq, Nat.reduceEqDiff, Nat.reduceAdd, Nat.reduceSub, Nat.reduceMul, Nat.reduceLeDiff, Nat.reduceLT]
        refine qcall_i (k3) ?_; simp only [Tryd.f11, u, z1, z6, qfirst_succ, qfirst_zero, after_succ, after_zero, hxor, hX, hX2, go_sem, Int.reduceToNat, Int.reduceEq, Int.reduceNe, Int.reduceLT, Int.reduceLE, Int.reduceNeg, Int.reduceAdd, ↓reduceIte, ↓reduceCtorEq, Nat.reduceEqDiff, Nat.reduceAdd, Nat.reduceSub, Nat.reduceMul, Nat.reduceLeDiff, Nat.reduceLT]
        refine qcall_i (k4) ?_; simp only [Tryd.f11, u, z1, z6, qfirst_succ, qfirst_zero, after_succ, after_zero, hxor, hX, hX2, go_sem, Int.reduceToNat, Int.reduceEq, Int.reduceNe, Int.reduceLT, Int.reduceLE, Int.reduceNeg, Int.reduceAdd, ↓reduceIte, ↓reduceCtorEq, Nat.reduceEqDiff, Nat.reduceAdd, Nat.reduceSub, Nat.reduceMul, Nat.reduceLeDiff, Nat.reduceLT]
        refine qcall_i (k6) ?_; simp only [Tryd.f11, u, z1, z6, qfirst_succ, qfirst_zero, after_succ, after_zero, hxor, hX, hX2, go_sem, Int.reduceToNat, Int.reduceEq, Int.reduceNe, Int.reduceLT, Int.reduceLE, Int.reduceNeg, Int.reduceAdd, ↓reduceIte, ↓reduceCtorEq, Nat.reduceEqDiff, Nat.reduceAdd, Nat.reduceSub, Nat.reduceMul, Nat.reduceLeDiff, Nat.reduceLT]
        refine qcall_i (k7) ?_; simp only [Tryd.f11, u, z1, z6, qfirst_succ, qfirst_zero, after_succ, after_zero, hxor, hX, hX2, go_sem, Int.reduceToNat, Int.reduceEq, Int.reduceNe, Int.reduceLT, Int.reduceLE, Int.reduceNeg, Int.reduceAdd, ↓reduceIte, ↓reduceCtorEq, Nat.reduceEqDiff, Nat.reduceAdd, Nat.reduceSub, Nat.reduceMul, Nat.reduceLeDiff, Nat.reduceLT]
        refine qif_d (fun h => ?_) (fun h => ?_)
        · have hc0 : decide (c ≤ 0) = false := decide_eq_false (fun hh => by have := hm hh; omega)
          simp only [Tryd.f11, u, z1, z6, qfirst_succ, qfirst_zero, after_succ, after_zero, hxor, hX, hX2, go_sem, Int.reduceToNat, Int.reduceEq, Int.reduceNe, Int.reduceLT, Int.reduceLE, Int.reduceNeg, Int.reduceAdd, ↓reduceIte, ↓reduceCtorEq, Nat.reduceEqDiff, Nat.reduceAdd, Nat.reduceSub, Nat.reduceMul, Nat.reduceLeDiff, Nat.reduceLT]
          refine qcall_i (k5) ?_; simp only [Tryd.f11, u, z1, z6, qfirst_succ, qfirst_zero, after_succ, after_zero, hxor, hX, hX2, hc0, go_sem, Int.reduceToNat, Int.reduceEq, Int.reduceNe, Int.reduceLT, Int.reduceLE, Int.reduceNeg, Int.reduceAdd, ↓reduceIte, ↓reduceCtorEq, Nat.reduceEqDiff, Nat.reduceAdd, Nat.reduceSub, Nat.reduceMul, Nat.reduceLeDiff, Nat.reduceLT]
          refine ⟨(), ?_⟩
          simp [Wk, sget, killL, kill1, SV.key]
        · simp only [Tryd.f11, u, z1, z6, qfirst_succ, qfirst_zero, after_succ, after_zero, hxor, hX, hX2, go_sem, Int.reduceToNat, Int.reduceEq, Int.reduceNe, Int.reduceLT, Int.reduceLE, Int.reduceNeg, Int.reduceAdd, ↓reduceIte, ↓reduceCtorEq, Nat.reduceEqDiff, Nat.reduceAdd, Nat.reduceSub, Nat.reduceMul, Nat.reduceLeDiff, Nat.reduceLT]
          refine ⟨(), ?_⟩
          simp [Wk, sget, killL, kill1, SV.key]
  refine PSem.cut follows (by kernel_rfl) 3 (fun _ : Unit => ⟨[(9, .val (.int .i64 k))], []⟩) (fun _ => True) ?_ (fun _ _ => ?_)
  · have z1 : decide (¬ ((0 : Nat) : Int) = 0) = false := by decide
    have z6 : decide (((0 : Nat) : Int) = 0) = true := by decide
    have k8 := c_FDyad n hn
    by_cases hf0 : fe n < 2047
    · rw [if_pos hf0] at k8
      have k9 := r_To (RD.fd n) (Nat.le_trans (fd_bits n) (by decide)) false (k : Int)
      rw [if_pos ((toE_k hk).2 (fd_fits n)), toS_fd hf0 (k : Int), withS_self hn] at k9
      generalize fd n = x at *
      by_cases hzn : fsz n = 0
      · rw [if_pos hzn] at k9
        have hzn' := fsz0 hn hzn
        simp only [u, Dy.pv, DP, NN, NL] at k8 k9
        simp only [Tryd.f11, u, z1, z6, qfirst_succ, qfirst_zero, after_succ, after_zero, go_sem, Int.reduceToNat, Int.reduceEq, Int.reduceNe, Int.reduceLT, Int.reduceLE, Int.reduceNeg, Int.reduceAdd, ↓reduceIte, ↓reduceCtorEq, Nat.reduceEqDiff, Nat.reduceAdd, Nat.reduceSub, Nat.reduceMul, Nat.reduceLeDiff, Nat.reduceLT]
        refine qcall_i (k8) ?_; simp only [Tryd.f11, u, z1, z6, qfirst_succ, qfirst_zero, after_succ, after_zero, go_sem, Int.reduceToNat, Int.reduceEq, Int.reduceNe, Int.reduceLT, Int.reduceLE, Int.reduceNeg, Int.reduceAdd, ↓reduceIte, ↓reduceCtorEq, Nat.reduceEqDiff, Nat.reduceAdd, Nat.reduceSub, Nat.reduceMul, Nat.reduceLeDiff, Nat.reduceLT]
        refine qcall_i (k9) ?_; simp only [Tryd.f11, u, z1, z6, qfirst_succ, qfirst_zero, after_succ, after_zero, go_sem, Int.reduceToNat, Int.reduceEq, Int.reduceNe, Int.reduceLT, Int.reduceLE, Int.reduceNeg, Int.reduceAdd, ↓reduceIte, ↓reduceCtorEq, Nat.reduceEqDiff, Nat.reduceAdd, Nat.reduceSub, Nat.reduceMul, Nat.reduceLeDiff, Nat.reduceLT]
        refine qif_d (fun h => ?_) (fun h => ?_)
        · have hS : decide (¬ (n : Int) = 9223372036854775808) = false := decide_eq_false (fun hh => by omega)
          simp only [Tryd.f11, u, z1, z6, qfirst_succ, qfirst_zero, after_succ, after_zero, hS, go_sem, Int.reduceToNat, Int.reduceEq, Int.reduceNe, Int.reduceLT, Int.reduceLE, Int.reduceNeg, Int.reduceAdd, ↓reduceIte, ↓reduceCtorEq, Nat.reduceEqDiff, Nat.reduceAdd, Nat.reduceSub, Nat.reduceMul, Nat.reduceLeDiff, Nat.reduceLT]
          refine ⟨(), ?_⟩
          simp [Wk, sget, killL, kill1, SV.key]
        · simp only [Tryd.f11, u, z1, z6, qfirst_succ, qfirst_zero, after_succ, after_zero, go_sem, Int.reduceToNat, Int.reduceEq, Int.reduceNe, Int.reduceLT, Int.reduceLE, Int.reduceNeg, Int.reduceAdd, ↓reduceIte, ↓reduceCtorEq, Nat.reduceEqDiff, Nat.reduceAdd, Nat.reduceSub, Nat.reduceMul, Nat.reduceLeDiff, Nat.reduceLT]
          refine ⟨(), ?_⟩
          simp [Wk, sget, killL, kill1, SV.key]
      · rw [if_neg hzn] at k9
        simp only [u, Dy.pv, DP, NN, NL] at k8 k9
        simp only [Tryd.f11, u, z1, z6, qfirst_succ, qfirst_zero, after_succ, after_zero, go_sem, Int.reduceToNat, Int.reduceEq, Int.reduceNe, Int.reduceLT, Int.reduceLE, Int.reduceNeg, Int.reduceAdd, ↓reduceIte, ↓reduceCtorEq, Nat.reduceEqDiff, Nat.reduceAdd, Nat.reduceSub, Nat.reduceMul, Nat.reduceLeDiff, Nat.reduceLT]
        refine qcall_i (k8) ?_; simp only [Tryd.f11, u, z1, z6, qfirst_succ, qfirst_zero, after_succ, after_zero, go_sem, Int.reduceToNat, Int.reduceEq, Int.reduceNe, Int.reduceLT, Int.reduceLE, Int.reduceNeg, Int.reduceAdd, ↓reduceIte, ↓reduceCtorEq, Nat.reduceEqDiff, Nat.reduceAdd, Nat.reduceSub, Nat.reduceMul, Nat.reduceLeDiff, Nat.reduceLT]
        refine qcall_i (k9) ?_; simp only [Tryd.f11, u, z1, z6, qfirst_succ, qfirst_zero, after_succ, after_zero, go_sem, Int.reduceToNat, Int.reduceEq, Int.reduceNe, Int.reduceLT, Int.reduceLE, Int.reduceNeg, Int.reduceAdd, ↓reduceIte, ↓reduceCtorEq, Nat.reduceEqDiff, Nat.reduceAdd, Nat.reduceSub, Nat.reduceMul, Nat.reduceLeDiff, Nat.reduceLT]
        refine ⟨(), ?_⟩
        simp [Wk, sget, killL, kill1, SV.key]
    · rw [if_neg hf0] at k8
      have k9 := r_To RD.zero (show bitLen 0 ≤ 900000 by decide) false (k : Int)
      rw [if_pos ((toE_k hk).2 (by decide)), show toS .zero false (k : Int) = (0, 0) from if_pos rfl] at k9
      simp only [u, Dy.pv, Dy.zero, DP, NN, NL] at k8 k9
      simp only [Tryd.f11, u, z1, z6, qfirst_succ, qfirst_zero, after_succ, after_zero, go_sem, Int.reduceToNat, Int.reduceEq, Int.reduceNe, Int.reduceLT, Int.reduceLE, Int.reduceNeg, Int.reduceAdd, ↓reduceIte, ↓reduceCtorEq, Nat.reduceEqDiff, Nat.reduceAdd, Nat.reduceSub, Nat.reduceMul, Nat.reduceLeDiff, Nat.reduceLT]
      refine qcall_i (k8) ?_; simp only [Tryd.f11, u, z1, z6, qfirst_succ, qfirst_zero, after_succ, after_zero, go_sem, Int.reduceToNat, Int.reduceEq, Int.reduceNe, Int.reduceLT, Int.reduceLE, Int.reduceNeg, Int.reduceAdd, ↓reduceIte, ↓reduceCtorEq, Nat.reduceEqDiff, Nat.reduceAdd, Nat.reduceSub, Nat.reduceMul, Nat.reduceLeDiff, Nat.reduceLT]
      refine qcall_i (k9) ?_; simp only [Tryd.f11, u, z1, z6, qfirst_succ, qfirst_zero, after_succ, after_zero, go_sem, Int.reduceToNat, Int.reduceEq, Int.reduceNe, Int.reduceLT, Int.reduceLE, Int.reduceNeg, Int.reduceAdd, ↓reduceIte, ↓reduceCtorEq, Nat.reduceEqDiff, Nat.reduceAdd, Nat.reduceSub, Nat.reduceMul, Nat.reduceLeDiff, Nat.reduceLT]
      refine ⟨(), ?_⟩
      simp [Wk, sget, killL, kill1, SV.key]
  · refine PSem.last follows (by kernel_rfl) ?_
    have k10 := c_Over true (k : Int)
    have k11 := c_Under false (k : Int)
    have k12 := r_To (RD.oneOdd (s := true) (x := 1) (e := 2000) (by decide) (by decide) (by decide) (by decide)) (show bitLen 1 ≤ 900000 by decide) false (k : Int)
    rw [if_pos ((toE_k hk).2 (by decide)), toS_big (by decide) (by decide)] at k12
    have k13 := r_To (RD.oneOdd (s := false) (x := 1) (e := -2000) (by decide) (by decide) (by decide) (by decide)) (show bitLen 1 ≤ 900000 by decide) false (k : Int)
    rw [if_pos ((toE_k hk).2 (by decide)), toS_small (by decide) (by decide)] at k13
    dsimp only at k12 k13
    generalize withS true (if (k : Int) = 0 ∨ upw (k : Int) true = true then INF else MAX) = E1 at *
    generalize withS false (if upw (k : Int) false = true then 1 else 0) = E2 at *
    simp only [u, DP] at k10 k11 k12 k13
    simp only [Tryd.f11, after_succ, after_zero, go_sem, Int.reduceToNat, Int.reduceEq, Int.reduceNe, Int.reduceLT, Int.reduceLE, Int.reduceNeg, Int.reduceAdd, ↓reduceIte, ↓reduceCtorEq, Nat.reduceEqDiff, Nat.reduceAdd, Nat.reduceSub, Nat.reduceMul, Nat.reduceLeDiff, Nat.reduceLT]
    refine qcall_i (k10) ?_; simp only [Tryd.f11, after_succ, after_zero, go_sem, Int.reduceToNat, Int.reduceEq, Int.reduceNe, Int.reduceLT, Int.reduceLE, Int.reduceNeg, Int.reduceAdd, ↓reduceIte, ↓reduceCtorEq, Nat.reduceEqDiff, Nat.reduceAdd, Nat.reduceSub, Nat.reduceMul, Nat.reduceLeDiff, Nat.reduceLT]
    refine qcall_i (k11) ?_; simp only [Tryd.f11, after_succ, after_zero, go_sem, Int.reduceToNat, Int.reduceEq, Int.reduceNe, Int.reduceLT, Int.reduceLE, Int.reduceNeg, Int.reduceAdd, ↓reduceIte, ↓reduceCtorEq, Nat.reduceEqDiff, Nat.reduceAdd, Nat.reduceSub, Nat.reduceMul, Nat.reduceLeDiff, Nat.reduceLT]
    refine qcall_i (k12) ?_; simp only [Tryd.f11, after_succ, after_zero, go_sem, Int.reduceToNat, Int.reduceEq, Int.reduceNe, Int.reduceLT, Int.reduceLE, Int.reduceNeg, Int.reduceAdd, ↓reduceIte, ↓reduceCtorEq, Nat.reduceEqDiff, Nat.reduceAdd, Nat.reduceSub, Nat.reduceMul, Nat.reduceLeDiff, Nat.reduceLT]
    refine qcall_i (k13) ?_; simp only [Tryd.f11, after_succ, after_zero, go_sem, Int.reduceToNat, Int.reduceEq, Int.reduceNe, Int.reduceLT, Int.reduceLE, Int.reduceNeg, Int.reduceAdd, ↓reduceIte, ↓reduceCtorEq, Nat.reduceEqDiff, Nat.reduceAdd, Nat.reduceSub, Nat.reduceMul, Nat.reduceLeDiff, Nat.reduceLT]
    try rfl
end Go.Proofs.YtflpcgcgeffolaaDoor
