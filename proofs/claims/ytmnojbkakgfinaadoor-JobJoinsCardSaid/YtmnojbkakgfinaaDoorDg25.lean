/- planimeterref25.Digits: a whole number's text. -/
import Derived.Test.YtmnojbkakgfinaaDoorStr5
import Derived.Test.YtmnojbkakgfinaaDoorK2
open Go PG Go.Proofs
set_option maxRecDepth 100000
set_option linter.unusedSimpArgs false
set_option linter.unusedVariables false
namespace Go.Proofs.YtmnojbkakgfinaaDoor
attribute [local go_sem] Lay2 Lay3 Lay4 Lay5 Lay6 Lay7 Lay8 Lay9 Lay10 Lay11 Lay12 Lay13 Lay14 Lay15 Lay16 Lay17 Lay18 Lay19 Lay21 Lay23 Lay24 Lay30 Lay31 Lay32 Lay33 Lay34 Lay36 Lay37 Lay49 Lay50 Lay51 Lay52 Lay59 Lay75 Lay77 Lay85 Lay87 Lay89 Lay96 Lay101 Lay112 Lay113 Lay118 Lay119 Lay120 Lay122 Lay123 Lay124 Lay125 Lay126 Lay127 Lay128 Lay129 Lay130 Lay132 Lay133 qexec_seq qexec_skip qexec_exit qexec_ret qexec_block qexec_loop qexec_range qexec_cond qexec_region qexec_drawn qops_nil qops_none qops_some put_some put_none pblk_exit pblk_other newDsts_nil inlDsts_nil isInl sget_cons sget_nil qval_some qbool_some qgs_bool qgs_und qfree_some qgrd_true qgrd_false qif_true qif_false qval_ite qval_itn qand_true map_ite map_some' map_none' qdo_move qdo_assign qdo_binOp qdo_pick qdo_unOp qdo_convert qdo_extract qdo_makeInterface qdo_field qdo_fieldAddr qdo_alloc qdo_box qdo_build qdo_buildSlice qdo_load qdo_store qdo_nilCheck qdo_makeFunc qdo_makeSlice qdo_slice qdo_indexAddr qdo_call qcont_val qcont_new qcont_st qcont_app0 qcont_app qcont_inl qcont_call njSV_val njSV_nil njSV_row njSV_ptr njSV_sub binV_val binV_nil binV_nn binV_ptr bin_np bin_nnp nilCmp bin_add bin_sub bin_mul bin_quo bin_rem bin_and bin_or bin_xor bin_andNot bin_eql bin_neq bin_lss bin_leq bin_gtr bin_geq bin_shl bin_shr bin_seql bin_sneq bin_sadd bin_beql bin_aeql bin_aneq eqAnd_some eqCells_nil eqCells_cons fieldTypes isStruct eqCell bin_bneq un_not un_neg nj_ite Nat.beq stepA stepR isNew opSV constSV RV.sv allSome E_mu E_own qkeyIn_none qkeyIn_some qkeyAt_none qkeyAt_some Bool.or_false Bool.false_or Bool.or_true Bool.true_or cst setB res resSV pstart startL killL kill1 eraL frzL svPV rvPV rvInt rvSlice rvBytes frzOf close closeL pconv pbuiltin pmax2 partPV setCells fillPV zrow bound newSV PV.cells Bk.cells Bk.with SV.key pres presL_nil presL_tmp presL_cell presC2_some cellPV_ptr presC List.toList_toArray List.size_toArray List.getElem?_drop Nat.mul_one Int.toNat_natCast Nat.not_lt_zero Nat.lt_irrefl decide_true decide_false Nat.not_lt Option.some.injEq PV.lst.injEq PV.int.injEq PV.bool.injEq PV.tuple.injEq List.cons.injEq Option.map_some Option.map_none Option.bind_some Option.toList List.map_cons List.map_nil List.nil_append List.cons_append List.append_nil List.zip_cons_cons List.zip_nil_left List.zip_nil_right List.getElem?_cons_zero List.getElem?_cons_succ List.drop_zero List.drop_succ_cons List.take_succ_cons List.take_zero List.set_cons_zero List.set_cons_succ List.length_cons List.length_nil List.length_set List.replicate_one List.replicate_zero bne_self_eq_false beq_self_eq_true Nat.zero_add Nat.add_zero Nat.zero_mul Bool.false_eq_true Bool.true_eq_false Bool.not_true Bool.not_false and_true true_and false_and and_false or_false false_or or_true true_or not_true_eq_false not_false_eq_true ne_eq gt_iff_lt List.mem_cons List.not_mem_nil
attribute [local go_sem ↓] pseq_normal pseq_ret pseq_exit pblk_normal pblk_ret newDsts_cons inlDsts_cons gdst_zero gdst_succ retQ_normal retQ_ret qneed_nil qneed_cons retM_normal retM_ret endR_normal endR_ret endR_exit
attribute [local go_sem] Int.reduceToNat Int.reduceEq Int.reduceNe Int.reduceLT Int.reduceLE Int.reduceNeg Int.reduceAdd Nat.reduceEqDiff Nat.reduceAdd Nat.reduceSub Nat.reduceMul Nat.reduceLeDiff Nat.reduceLT
attribute [local go_sem ↓] reduceIte reduceCtorEq

theorem dig_u8 {k : Nat} (h : k < 10) : (((UInt8.ofNat (48 + k)).toNat : Nat) : Int) = 48 + (k : Int) := by
  have e : ∀ k : Fin 10, (((UInt8.ofNat (48 + k.val)).toNat : Nat) : Int) = 48 + (k.val : Int) := by decide +kernel
  exact e ⟨k, h⟩
set_option maxHeartbeats 1000000 in
theorem c_25Digits {n : Int} (h0 : -9223372036854775808 ≤ n) (h1 : n ≤ 9223372036854775807) : PC E 22 [.int .i64 n] (TX (Lib.itoa n)) := by
  have hmx : maxLen = 9223372036854775807 := rfl
  have hit : Lib.itoa n = (if n < 0 then [45] else []) ++ Lib.decDigits n.natAbs := by
    unfold Lib.itoa
    split
    · rfl
    · rw [show n.natAbs = n.toNat by omega]; rfl
  have hll := dec_len 19 n.natAbs (by omega)
  rw [hit]
  obtain ⟨N, hN⟩ : ∃ N, N = n.natAbs := ⟨_, rfl⟩
  rw [← hN] at hll ⊢
  have hNW : N < 18446744073709551616 := by omega
  have w1 : n < 0 → IntKind.wrap .i64 (n + 1) = n + 1 := fun h => wrap64 (by omega) (by omega)
  have w2 : n < 0 → IntKind.wrap .i64 (0 - (n + 1)) = 0 - (n + 1) := fun h => wrap64 (by omega) (by omega)
  have w3 : n < 0 → IntKind.wrap .u64 (0 - (n + 1)) = 0 - (n + 1) := fun h => by rw [IntKind.wrap_u64]; omega
  have w4 : n < 0 → IntKind.wrap .u64 (0 - (n + 1) + 1) = (N : Nat) := fun h => by rw [IntKind.wrap_u64]; omega
  have w5 : ¬ n < 0 → IntKind.wrap .u64 n = (N : Nat) := fun h => by rw [IntKind.wrap_u64]; omega
  simp only [TX]
  refine PC.of_body follows Tryd.func22 (by decide +kernel) rfl (by kernel_rfl) (Nat.le_of_ble_eq_true rfl) (walk ?_)
  simp only [Tryd.f22, B8_size, B8_cut, B8_eq, B8_mk, B8_app, Int.toNat_natCast, go_sem]
  refine qif_d (fun hn => ?_) (fun hn => ?_)
  all_goals
    first
      | (rw [if_pos hn]; simp only [Tryd.f22, B8_size, B8_cut, B8_eq, B8_mk, B8_app, Int.toNat_natCast, w1 hn, w2 hn, w3 hn, w4 hn, go_sem])
      | (rw [if_neg hn]; simp only [Tryd.f22, B8_size, B8_cut, B8_eq, B8_mk, B8_app, Int.toNat_natCast, w5 hn, go_sem])
    refine PLoop.nilrow 4 27 (by decide) 5 1 rfl ?_
    refine PLoop.intro (fun p : List UInt8 × Nat => ⟨[(0, .val (.int .i64 n)), (3, .val (.int .u64 p.2)), (4, .row 27)], [(27, (.row 5 1 p.1.length (BL p.1), false))]⟩)
      (fun p => behind N p.2 p.1 ∧ p.2 ≤ N) (fun p => p.2 + if p.1 = [] then 1 else 0) ([], N) ⟨.inl ⟨rfl, rfl⟩, Nat.le_refl _⟩ ?_ fun p hp => walk ?_
    · simp [Wk, sget, killL, kill1, SV.key, BL]
    obtain ⟨out, m⟩ := p
    obtain ⟨hb, hm⟩ := hp
    dsimp only at hb hm ⊢
    have hbl := behind_len hb
    have hmd : ((m : Int)).tmod 10 = ((m % 10 : Nat) : Int) := by rw [Int.tmod_eq_emod_of_nonneg (by omega)]; omega
    have hm10 : m % 10 < 10 := Nat.mod_lt _ (by decide)
    have hmw : IntKind.wrap .u64 (48 + ((m % 10 : Nat) : Int)) = 48 + ((m % 10 : Nat) : Int) := by rw [IntKind.wrap_u64]; omega
    have hmr : IntKind.wrap .u64 ((m % 10 : Nat) : Int) = ((m % 10 : Nat) : Int) := by rw [IntKind.wrap_u64]; omega
    have hu8 : IntKind.wrap .u8 (48 + ((m % 10 : Nat) : Int)) = (((UInt8.ofNat (48 + m % 10)).toNat : Nat) : Int) := by
      rw [dig_u8 hm10]
      unfold IntKind.wrap
      simp [IntKind.bits, IntKind.signed]
      omega
    have hq : ((m : Int)).tdiv 10 = ((m / 10 : Nat) : Int) := by rw [Int.tdiv_eq_ediv_of_nonneg (by omega)]; omega
    have hqw : IntKind.wrap .u64 ((m / 10 : Nat) : Int) = ((m / 10 : Nat) : Int) := by rw [IntKind.wrap_u64]; omega
    have hbn := fun h => behind_next hb h
    have hBL : (BL out).length = out.length := BL_length out
    simp only [Tryd.f22, B8_size, B8_cut, B8_eq, B8_mk, B8_app, Int.toNat_natCast, go_sem]
    by_cases hg : 0 < m ∨ out = []
    · have hbn := hbn hg
      have hst : ∀ c : UInt8, (BL (c :: out)) = PV.int .u8 ((c.toNat : Nat) : Int) :: BL out := fun c => rfl
      have hlc : ∀ c : UInt8, (c :: out).length = 1 + out.length := fun c => by rw [List.length_cons]; omega
      refine qif_d (fun h => ?_) (fun h => ?_)
      all_goals
        simp only [Tryd.f22, B8_size, B8_cut, B8_eq, B8_mk, B8_app, Int.toNat_natCast, hmd, hmw, hmr, hu8, go_sem]
        try (refine qif_dt (by rcases hg with hg | hg; exact absurd (by omega) h; rw [hg]; rfl) ?_; simp only [Tryd.f22, B8_size, B8_cut, B8_eq, B8_mk, B8_app, Int.toNat_natCast, hmd, hmw, hmr, hu8, go_sem])
        refine qand_i (by rw [hBL]; simp) ?_
        simp only [Tryd.f22, B8_size, B8_cut, B8_eq, B8_mk, B8_app, Int.toNat_natCast, hmd, hmw, hmr, hu8, go_sem]
        refine qand_i (by rw [hmx]; omega) ?_
        simp only [Tryd.f22, B8_size, B8_cut, B8_eq, B8_mk, B8_app, Int.toNat_natCast, hmd, hmw, hmr, hu8, hq, hqw, go_sem]
        refine ⟨(UInt8.ofNat (48 + m % 10) :: out, m / 10), ⟨hbn, by dsimp only; omega⟩, ?_, ?_⟩
        · dsimp only
          rw [if_neg (by simp)]
          rcases hg with hg | hg
          · split <;> omega
          · rw [if_pos hg]; omega
        · simp [Wk, sget, killL, kill1, SV.key, hst, hlc]
    · have h0 : m = 0 := by omega
      have hne : ¬ out = [] := fun h => hg (.inr h)
      have hne2 : ¬ (out.length : Int) = 0 := fun h => hne (List.eq_nil_of_length_eq_zero (by omega))
      subst h0
      have hd : out = Lib.decDigits N := by
        rcases hb with ⟨h, -⟩ | ⟨-, h⟩
        · exact absurd h hne
        · rwa [if_pos rfl] at h
      rw [← hd] at hll ⊢
      refine qif_df (by omega) ?_
      simp only [Tryd.f22, B8_size, B8_cut, B8_eq, B8_mk, B8_app, Int.toNat_natCast, go_sem]
      refine qif_df hne2 ?_
      simp only [Tryd.f22, B8_size, B8_cut, B8_eq, B8_mk, B8_app, Int.toNat_natCast, go_sem]
      first
        | (refine qif_dt hn ?_; simp only [Tryd.f22, B8_size, B8_cut, B8_eq, B8_mk, B8_app, Int.toNat_natCast, go_sem])
        | (refine qif_df hn ?_; simp only [Tryd.f22, B8_size, B8_cut, B8_eq, B8_mk, B8_app, Int.toNat_natCast, go_sem])
      have hbc := bconv_BL (P := E.P) (e := 5) (d := 9) (l := out) (n := out.length) Lay5.1 Lay9.1 rfl
      refine qval_i (congrArg (Option.map _) hbc) ?_
      simp only [Tryd.f22, TX, B8_size, B8_cut, B8_eq, B8_mk, B8_app, Int.toNat_natCast, go_sem]
      try (refine qand_i (by rw [hmx]; (try simp only [List.length_cons, List.length_nil]); omega) ?_; simp only [Tryd.f22, B8_size, B8_cut, B8_eq, B8_mk, B8_app, Int.toNat_natCast, go_sem])
      try rfl
end Go.Proofs.YtmnojbkakgfinaaDoor
