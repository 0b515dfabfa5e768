/- The contract of the law JobParses: at whatever reads as its argument it returns true. -/
import Derived.Test.YtmnojbkakgfinaaDoorJc
import Derived.Test.YtmnojbkakgfinaaDoorJd
import Derived.Test.YtmnojbkakgfinaaDoorJb9
import Derived.Test.YtmnojbkakgfinaaDoorArgS
open Go PG Go.Proofs
set_option maxRecDepth 100000
set_option linter.unusedSimpArgs false
set_option linter.unusedVariables false
namespace Go.Proofs.YtmnojbkakgfinaaDoor
attribute [local go_sem] Lay2 Lay3 Lay4 Lay5 Lay6 Lay7 Lay8 Lay9 Lay10 Lay11 Lay12 Lay13 Lay14 Lay15 Lay16 Lay17 Lay18 Lay19 Lay21 Lay23 Lay24 Lay30 Lay31 Lay32 Lay33 Lay34 Lay36 Lay37 Lay49 Lay50 Lay51 Lay52 Lay59 Lay75 Lay77 Lay85 Lay87 Lay89 Lay96 Lay101 Lay112 Lay113 Lay118 Lay119 Lay120 Lay122 Lay123 Lay124 Lay125 Lay126 Lay127 Lay128 Lay129 Lay130 Lay132 Lay133 qexec_seq qexec_skip qexec_exit qexec_ret qexec_block qexec_loop qexec_range qexec_cond qexec_region qexec_drawn qops_nil qops_none qops_some put_some put_none pblk_exit pblk_other newDsts_nil inlDsts_nil isInl sget_cons sget_nil qval_some qbool_some qgs_bool qgs_und qfree_some qgrd_true qgrd_false qif_true qif_false qval_ite qval_itn qand_true map_ite map_some' map_none' qdo_move qdo_assign qdo_binOp qdo_pick qdo_unOp qdo_convert qdo_extract qdo_makeInterface qdo_field qdo_fieldAddr qdo_alloc qdo_box qdo_build qdo_buildSlice qdo_load qdo_store qdo_nilCheck qdo_makeFunc qdo_makeSlice qdo_slice qdo_indexAddr qdo_call qcont_val qcont_new qcont_st qcont_app0 qcont_app qcont_inl qcont_call njSV_val njSV_nil njSV_row njSV_ptr njSV_sub binV_val binV_nil binV_nn binV_ptr bin_np bin_nnp nilCmp bin_add bin_sub bin_mul bin_quo bin_rem bin_and bin_or bin_xor bin_andNot bin_eql bin_neq bin_lss bin_leq bin_gtr bin_geq bin_shl bin_shr bin_seql bin_sneq bin_sadd bin_beql bin_aeql bin_aneq eqAnd_some eqCells_nil eqCells_cons fieldTypes isStruct eqCell bin_bneq un_not un_neg nj_ite Nat.beq stepA stepR isNew opSV constSV RV.sv allSome E_mu E_own qkeyIn_none qkeyIn_some qkeyAt_none qkeyAt_some Bool.or_false Bool.false_or Bool.or_true Bool.true_or cst setB res resSV pstart startL killL kill1 eraL frzL svPV rvPV rvInt rvSlice rvBytes frzOf close closeL pconv pbuiltin pmax2 partPV setCells fillPV zrow bound newSV PV.cells Bk.cells Bk.with SV.key pres presL_nil presL_tmp presL_cell presC2_some cellPV_ptr presC List.toList_toArray List.size_toArray List.getElem?_drop Nat.mul_one Int.toNat_natCast Nat.not_lt_zero Nat.lt_irrefl decide_true decide_false Nat.not_lt Option.some.injEq PV.lst.injEq PV.int.injEq PV.bool.injEq PV.tuple.injEq List.cons.injEq Option.map_some Option.map_none Option.bind_some Option.toList List.map_cons List.map_nil List.nil_append List.cons_append List.append_nil List.zip_cons_cons List.zip_nil_left List.zip_nil_right List.getElem?_cons_zero List.getElem?_cons_succ List.drop_zero List.drop_succ_cons List.take_succ_cons List.take_zero List.set_cons_zero List.set_cons_succ List.length_cons List.length_nil List.length_set List.replicate_one List.replicate_zero bne_self_eq_false beq_self_eq_true Nat.zero_add Nat.add_zero Nat.zero_mul Bool.false_eq_true Bool.true_eq_false Bool.not_true Bool.not_false and_true true_and false_and and_false or_false false_or or_true true_or not_true_eq_false not_false_eq_true ne_eq gt_iff_lt List.mem_cons List.not_mem_nil
attribute [local go_sem ↓] pseq_normal pseq_ret pseq_exit pblk_normal pblk_ret newDsts_cons inlDsts_cons gdst_zero gdst_succ retQ_normal retQ_ret qneed_nil qneed_cons retM_normal retM_ret endR_normal endR_ret endR_exit
attribute [local go_sem] Int.reduceToNat Int.reduceEq Int.reduceNe Int.reduceLT Int.reduceLE Int.reduceNeg Int.reduceAdd Nat.reduceEqDiff Nat.reduceAdd Nat.reduceSub Nat.reduceMul Nat.reduceLeDiff Nat.reduceLT
attribute [local go_sem ↓] reduceIte reduceCtorEq

set_option maxHeartbeats 4000000 in
theorem law_JobParses (pvs : List PV) (h : Fits [qStr] pvs) : PC E 3 pvs (.bool true) := by
  obtain ⟨_, rfl, ⟨s, rfl, hs⟩⟩ := fitsO1 h
  have k0 := l_25alive
  have hmx : maxLen = 9223372036854775807 := rfl
  by_cases h6 : 3000 < s.length
  · simp only [TX]
    refine PC.of_body follows Tryd.func3 (by decide +kernel) rfl (by kernel_rfl) (Nat.le_of_ble_eq_true rfl) (walk ?_)
    simp only [Tryd.f3, B8_size, B8_cut, B8_eq, B8_mk, B8_app, Int.toNat_natCast, go_sem]
    refine qcall_i (k0) ?_; simp only [Tryd.f3, B8_size, B8_cut, B8_eq, B8_mk, B8_app, Int.toNat_natCast, go_sem]
    refine qif_dt (by omega) ?_
    simp only [Tryd.f3, B8_size, B8_cut, B8_eq, B8_mk, B8_app, Int.toNat_natCast, go_sem]
    try rfl
  have k1 := j_Parse (s := s) (by omega)
  obtain ⟨L, hL, hc⟩ := psF_cases s s.length (Nat.le_refl _) []
  rcases hc with ⟨hs1, hp⟩ | ⟨r, hs1, hr, hbad, hp⟩
  · have hll : L.length ≤ s.length := by
      rw [← flat_count L, ← hs1]
      exact List.count_le_length
    have hall : L.all Jb.ok = true := List.all_eq_true.2 fun j hj => (hL j hj).2
    have k2 := j_Print (l := L) (by omega) (fun j hj => (hL j hj).1) rfl
    rw [if_pos hall, ← hs1] at k2
    rw [hp] at k1
    simp only [TX, List.nil_append] at k1 k2 ⊢
    refine PC.of_body follows Tryd.func3 (by decide +kernel) rfl (by kernel_rfl) (Nat.le_of_ble_eq_true rfl) (walk ?_)
    simp only [Tryd.f3, B8_size, B8_cut, B8_eq, B8_mk, B8_app, Int.toNat_natCast, go_sem]
    refine qcall_i (k0) ?_; simp only [Tryd.f3, B8_size, B8_cut, B8_eq, B8_mk, B8_app, Int.toNat_natCast, go_sem]
    refine qif_df (by omega) ?_
    simp only [Tryd.f3, B8_size, B8_cut, B8_eq, B8_mk, B8_app, Int.toNat_natCast, go_sem]
    refine qcall_i (k1) ?_; simp only [Tryd.f3, B8_size, B8_cut, B8_eq, B8_mk, B8_app, Int.toNat_natCast, go_sem]
    try (refine qif_dt (by decide) ?_; simp only [Tryd.f3, B8_size, B8_cut, B8_eq, B8_mk, B8_app, Int.toNat_natCast, go_sem])
    refine qcall_i (k2) ?_; simp only [Tryd.f3, B8_size, B8_cut, B8_eq, B8_mk, B8_app, Int.toNat_natCast, go_sem]
    repeat' first
      | rfl
      | ((refine qif_dt (by first | rfl | decide) ?_); simp only [Tryd.f3, B8_size, B8_cut, B8_eq, B8_mk, B8_app, Int.toNat_natCast, go_sem])
      | ((refine qif_t (by first | rfl | simp) ?_); simp only [Tryd.f3, B8_size, B8_cut, B8_eq, B8_mk, B8_app, Int.toNat_natCast, go_sem])
  · obtain ⟨F, hF⟩ : ∃ F, F = L.flatMap Jb.line := ⟨_, rfl⟩
    have hfew := fun k h => flat_fewer (L := L) (k := k) h
    have hcnt := flat_count L
    rw [← hF] at hs1 hfew hcnt
    have hlen : s.length = F.length + r.length := by rw [hs1, List.length_append]
    have hr0 : 0 < r.length := List.length_pos_iff.2 hr
    have hFl : L.length ≤ F.length := by rw [← hcnt]; exact List.count_le_length
    have k2 := j_Parse (s := F) (by omega)
    have hpF : psF [] F = (L, 0, 0) := by
      have := psF_lines L [] [] hL
      rw [List.append_nil, ← hF, psF_nil] at this
      exact this
    rw [hpF] at k2
    have k3 := j_Parse (s := one10 r) (by obtain ⟨t, ht⟩ := one10_split r; have := congrArg List.length ht; rw [List.length_append] at this; omega)
    rw [one10_ps hr hbad] at k3
    rw [hp] at k1
    simp only [TX, List.nil_append, List.length_nil, JC_nil] at k1 k2 k3 ⊢
    refine PC.of_body follows Tryd.func3 (by decide +kernel) rfl (by kernel_rfl) (Nat.le_of_ble_eq_true rfl) (walk ?_)
    simp only [Tryd.f3, B8_size, B8_cut, B8_eq, B8_mk, B8_app, Int.toNat_natCast, go_sem]
    refine qcall_i (k0) ?_; simp only [Tryd.f3, B8_size, B8_cut, B8_eq, B8_mk, B8_app, Int.toNat_natCast, go_sem]
    refine qif_df (by omega) ?_
    simp only [Tryd.f3, B8_size, B8_cut, B8_eq, B8_mk, B8_app, Int.toNat_natCast, go_sem]
    refine qcall_i (k1) ?_; simp only [Tryd.f3, B8_size, B8_cut, B8_eq, B8_mk, B8_app, Int.toNat_natCast, go_sem]
    refine qif_df (by decide) ?_
    simp only [Tryd.f3, B8_size, B8_cut, B8_eq, B8_mk, B8_app, Int.toNat_natCast, go_sem]
    refine qif_df (by omega) ?_
    simp only [Tryd.f3, B8_size, B8_cut, B8_eq, B8_mk, B8_app, Int.toNat_natCast, go_sem]
    try (refine qif_f rfl ?_; simp only [Tryd.f3, B8_size, B8_cut, B8_eq, B8_mk, B8_app, Int.toNat_natCast, go_sem])
    refine PLoop.intro (fun at' : Nat => ⟨[(0, .val (.str (B8 s))), (4, .val (.int .i64 ((L.length + 1 : Nat) : Int))), (8, .val (.int .i64 (at' : Nat))), (9, .val (.int .i64 ((1 + (F.take at').count 10 : Nat) : Int)))], []⟩)
      (fun at' => at' ≤ F.length) (fun at' => F.length - at') 0 (Nat.zero_le _) ?_ fun k hk => walk ?_
    · simp [Wk, sget, killL, kill1, SV.key]
    have hcl : (F.take k).count 10 ≤ L.length := by rw [← hcnt]; exact (List.take_sublist k F).count_le 10
    simp only [Tryd.f3, B8_size, B8_cut, B8_eq, B8_mk, B8_app, Int.toNat_natCast, go_sem]
    refine qif_dt (by omega) ?_
    simp only [Tryd.f3, B8_size, B8_cut, B8_eq, B8_mk, B8_app, Int.toNat_natCast, go_sem]
    by_cases hlt : k < F.length
    · have hf := hfew k hlt
      have htc := take_count F k hlt
      have hi := idxS_B8 (l := s) (n := (k : Int)) (by omega) (by rw [Int.toNat_natCast]; omega)
      rw [Int.toNat_natCast, hs1, app_getL _ _ _ hlt, ← hs1] at hi
      refine qif_dt (by omega) ?_
      simp only [Tryd.f3, B8_size, B8_cut, B8_eq, B8_mk, B8_app, Int.toNat_natCast, go_sem]
      refine qdo_indexS Lay9.1 rfl rfl ?_
      rw [hi]
      simp only [Tryd.f3, B8_size, B8_cut, B8_eq, B8_mk, B8_app, Int.toNat_natCast, go_sem]
      have hx : ((((F.getD k 0).toNat : Nat) : Int) = 10) ↔ F.getD k 0 = 10 := by rw [show (10 : Int) = (((10 : UInt8).toNat : Nat) : Int) from rfl, u8_eq]
      generalize F.getD k 0 = c at *
      refine qif_d (fun h1 => ?_) (fun h1 => ?_)
      · rw [if_pos (hx.1 h1)] at htc
        simp only [Tryd.f3, B8_size, B8_cut, B8_eq, B8_mk, B8_app, Int.toNat_natCast, go_sem]
        rw [wrap64 (by omega) (by omega), wrap64 (by omega) (by omega)]
        refine ⟨k + 1, by omega, by omega, ?_⟩
        rw [htc]
        simp [Wk, sget, killL, kill1, SV.key]
        try omega
      · rw [if_neg (fun e => h1 (hx.2 e))] at htc
        simp only [Tryd.f3, B8_size, B8_cut, B8_eq, B8_mk, B8_app, Int.toNat_natCast, go_sem]
        rw [wrap64 (by omega) (by omega)]
        refine ⟨k + 1, by omega, by omega, ?_⟩
        rw [htc]
        simp [Wk, sget, killL, kill1, SV.key]
    have hkF : k = F.length := by omega
    subst hkF
    rw [List.take_length, hcnt]
    refine qif_df (by omega) ?_
    simp only [Tryd.f3, B8_size, B8_cut, B8_eq, B8_mk, B8_app, Int.toNat_natCast, go_sem]
    refine qand_i (by omega) ?_
    have htk : s.take F.length = F := by rw [hs1, List.take_left]
    simp only [Tryd.f3, B8_size, B8_cut, B8_eq, B8_mk, B8_app, Int.toNat_natCast, htk, List.drop_zero, go_sem]
    refine qcall_i (k2) ?_; simp only [Tryd.f3, B8_size, B8_cut, B8_eq, B8_mk, B8_app, Int.toNat_natCast, go_sem]
    obtain ⟨t, ht⟩ := one10_split r
    have hto : r.take (one10 r).length = one10 r := by
      have h2 := ht
      generalize one10 r = o at h2 ⊢
      rw [h2, List.take_left]
    have hol := congrArg List.length ht
    rw [List.length_append] at hol
    have hca : (cutA 10 r).length ≤ r.length := cutA_len 10 r
    refine PLoop.intro (fun q : Nat => ⟨[(0, .val (.str (B8 s))), (4, .val (.int .i64 ((L.length + 1 : Nat) : Int))), (8, .val (.int .i64 (F.length : Nat))), (9, .val (.int .i64 ((1 + L.length : Nat) : Int))), (10, .val (.lst L.length (JC L))), (11, .val (.int .i64 0)), (12, .val (.int .i64 0)), (13, .val (.int .i64 ((F.length + q : Nat) : Int)))], []⟩)
      (fun q => q ≤ (cutA 10 r).length) (fun q => (cutA 10 r).length - q) 0 (Nat.zero_le _) ?_ fun k hk => walk ?_
    · simp [Wk, sget, killL, kill1, SV.key]
    simp only [Tryd.f3, B8_size, B8_cut, B8_eq, B8_mk, B8_app, Int.toNat_natCast, go_sem]
    by_cases hkl : k < r.length
    · have hi := idxS_B8 (l := s) (n := ((F.length + k : Nat) : Int)) (by omega) (by rw [Int.toNat_natCast]; omega)
      rw [Int.toNat_natCast, hs1, app_get, ← hs1] at hi
      refine qif_dt (by omega) ?_
      simp only [Tryd.f3, B8_size, B8_cut, B8_eq, B8_mk, B8_app, Int.toNat_natCast, go_sem]
      refine qdo_indexS Lay9.1 rfl rfl ?_
      rw [hi]
      simp only [Tryd.f3, B8_size, B8_cut, B8_eq, B8_mk, B8_app, Int.toNat_natCast, go_sem]
      have hx : ((((r.getD k 0).toNat : Nat) : Int) = 10) ↔ r.getD k 0 = 10 := by rw [show (10 : Int) = (((10 : UInt8).toNat : Nat) : Int) from rfl, u8_eq]
      by_cases hkp : k < (cutA 10 r).length
      · have hg := cutA_get r k hkp
        refine qif_dt (fun e => hg (hx.1 e)) ?_
        simp only [Tryd.f3, B8_size, B8_cut, B8_eq, B8_mk, B8_app, Int.toNat_natCast, go_sem]
        rw [wrap64 (by omega) (by omega)]
        refine ⟨k + 1, by omega, by omega, ?_⟩
        simp [Wk, sget, killL, kill1, SV.key]
        try omega
      · have hke : k = (cutA 10 r).length := by omega
        obtain ⟨hg, hh⟩ := cutA_end (r := r) (by omega)
        rw [← hke] at hg
        refine qif_df (fun e => e (hx.2 hg)) ?_
        have ho1 : (one10 r).length = k + 1 := by unfold one10; rw [if_pos hh, List.length_append, ← hke]; rfl
        simp only [Tryd.f3, B8_size, B8_cut, B8_eq, B8_mk, B8_app, Int.toNat_natCast, go_sem]
        have wn : IntKind.wrap .i64 (((L.length + 1 : Nat) : Int) - 1) = ((L.length : Nat) : Int) := by rw [wrap64 (by omega) (by omega)]; omega
        have we : IntKind.wrap .i64 (((F.length + k : Nat) : Int) + 1) = ((F.length + (k + 1) : Nat) : Int) := by rw [wrap64 (by omega) (by omega)]; omega
        refine qif_df (by omega) ?_
        simp only [Tryd.f3, B8_size, B8_cut, B8_eq, B8_mk, B8_app, Int.toNat_natCast, wn, go_sem]
        try (refine qif_f rfl ?_; simp only [Tryd.f3, B8_size, B8_cut, B8_eq, B8_mk, B8_app, Int.toNat_natCast, wn, go_sem])
        refine qif_dt (by omega) ?_
        simp only [Tryd.f3, B8_size, B8_cut, B8_eq, B8_mk, B8_app, Int.toNat_natCast, we, go_sem]
        have hcut : (s.take (F.length + (k + 1))).drop F.length = one10 r := by
          rw [hs1, List.take_length_add_append, List.drop_left, ← ho1]
          exact hto
        refine qand_i (by omega) ?_
        simp only [Tryd.f3, B8_size, B8_cut, B8_eq, B8_mk, B8_app, Int.toNat_natCast, we, hcut, go_sem]
        refine qcall_i (k3) ?_; simp only [Tryd.f3, B8_size, B8_cut, B8_eq, B8_mk, B8_app, Int.toNat_natCast, go_sem]
        try rfl
    · have hke : k = r.length := by omega
      have hall : (cutA 10 r).length = r.length := by omega
      have ho1 : (one10 r).length = k := by
        unfold one10
        split
        · rename_i hh
          unfold one10 at hol
          rw [if_pos hh, List.length_append, List.length_singleton] at hol
          omega
        · rw [List.append_nil]; omega
      refine qif_df (by omega) ?_
      simp only [Tryd.f3, B8_size, B8_cut, B8_eq, B8_mk, B8_app, Int.toNat_natCast, go_sem]
      have wn : IntKind.wrap .i64 (((L.length + 1 : Nat) : Int) - 1) = ((L.length : Nat) : Int) := by rw [wrap64 (by omega) (by omega)]; omega
      refine qif_df (by omega) ?_
      simp only [Tryd.f3, B8_size, B8_cut, B8_eq, B8_mk, B8_app, Int.toNat_natCast, wn, go_sem]
      try (refine qif_f rfl ?_; simp only [Tryd.f3, B8_size, B8_cut, B8_eq, B8_mk, B8_app, Int.toNat_natCast, wn, go_sem])
      refine qif_df (by omega) ?_
      simp only [Tryd.f3, B8_size, B8_cut, B8_eq, B8_mk, B8_app, Int.toNat_natCast, go_sem]
      have hcut : (s.take (F.length + k)).drop F.length = one10 r := by
        rw [hs1, List.take_length_add_append, List.drop_left, ← ho1]
        exact hto
      refine qand_i (by omega) ?_
      simp only [Tryd.f3, B8_size, B8_cut, B8_eq, B8_mk, B8_app, Int.toNat_natCast, hcut, go_sem]
      refine qcall_i (k3) ?_; simp only [Tryd.f3, B8_size, B8_cut, B8_eq, B8_mk, B8_app, Int.toNat_natCast, go_sem]
      try rfl
end Go.Proofs.YtmnojbkakgfinaaDoor
