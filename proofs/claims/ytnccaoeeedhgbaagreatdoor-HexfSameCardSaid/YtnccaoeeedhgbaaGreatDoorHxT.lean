/- planimeterlaw33.text: a whole number's text. -/
import Derived.Test.YtnccaoeeedhgbaaGreatDoorHx7
open Go PG Go.Proofs
set_option maxRecDepth 100000
set_option linter.unusedSimpArgs false
set_option linter.unusedVariables false
namespace Go.Proofs.YtnccaoeeedhgbaaGreatDoor
attribute [local go_sem] Lay2 Lay3 Lay4 Lay5 Lay6 Lay7 Lay8 Lay9 Lay10 Lay11 Lay12 Lay13 Lay14 Lay15 Lay16 Lay17 Lay18 Lay19 Lay21 Lay23 Lay24 Lay25 Lay26 Lay27 Lay28 Lay31 Lay32 Lay33 Lay34 Lay37 Lay38 Lay39 Lay42 Lay46 Lay47 Lay54 Lay65 Lay66 Lay96 Lay97 Lay106 Lay136 Lay147 Lay148 Lay152 Lay160 Lay161 Lay187 Lay201 Lay202 Lay203 Lay204 Lay212 Lay215 Lay220 Lay221 Lay234 Lay244 Lay247 Lay248 Lay249 Lay250 Lay251 Lay252 Lay253 Lay254 Lay255 Lay256 Lay257 Lay258 Lay259 Lay260 Lay261 Lay262 Lay264 Lay265 qexec_seq qexec_skip qexec_exit qexec_ret qexec_block qexec_loop qexec_range qexec_cond qexec_region qexec_drawn qops_nil qops_none qops_some put_some put_none pblk_exit pblk_other newDsts_nil inlDsts_nil isInl sget_cons sget_nil qval_some qbool_some qgs_bool qgs_und qfree_some qgrd_true qgrd_false qif_true qif_false qval_ite qval_itn qand_true map_ite map_some' map_none' qdo_move qdo_assign qdo_binOp qdo_pick qdo_unOp qdo_convert qdo_extract qdo_field qdo_fieldAddr qdo_alloc qdo_box qdo_build qdo_buildSlice qdo_load qdo_store qdo_nilCheck qdo_makeFunc qdo_makeSlice qdo_slice qdo_indexAddr qdo_call qcont_val qcont_new qcont_st qcont_app0 qcont_app qcont_inl qcont_call njSV_val njSV_nil njSV_row njSV_ptr njSV_sub binV_val binV_nil binV_nn binV_ptr bin_np bin_nnp nilCmp bin_add bin_sub bin_mul bin_quo bin_rem bin_and bin_or bin_xor bin_andNot bin_eql bin_neq bin_lss bin_leq bin_gtr bin_geq bin_shl bin_shr bin_seql bin_sneq bin_sadd bin_beql bin_aeql bin_aneq eqAnd_some eqCells_nil eqCells_cons fieldTypes isStruct eqCell bin_bneq un_not un_neg nj_ite Nat.beq stepA stepR isNew opSV constSV RV.sv allSome E_mu E_own qkeyIn_none qkeyIn_some qkeyAt_none qkeyAt_some Bool.or_false Bool.false_or Bool.or_true Bool.true_or cst setB res resSV pstart startL killL kill1 eraL frzL svPV rvPV rvInt rvSlice rvBytes frzOf close closeL pconv pbuiltin pmax2 partPV setCells fillPV zrow bound newSV PV.cells Bk.cells Bk.with SV.key pres presL_nil presL_tmp presL_cell presC2_some cellPV_ptr presC List.toList_toArray List.size_toArray List.getElem?_drop Nat.mul_one Int.toNat_natCast Nat.not_lt_zero Nat.lt_irrefl decide_true decide_false Nat.not_lt Option.some.injEq PV.lst.injEq PV.int.injEq PV.bool.injEq PV.tuple.injEq List.cons.injEq Option.map_some Option.map_none Option.bind_some Option.toList List.map_cons List.map_nil List.nil_append List.cons_append List.append_nil List.zip_cons_cons List.zip_nil_left List.zip_nil_right List.getElem?_cons_zero List.getElem?_cons_succ List.drop_zero List.drop_succ_cons List.take_succ_cons List.take_zero List.set_cons_zero List.set_cons_succ List.length_cons List.length_nil List.length_set List.replicate_one List.replicate_zero bne_self_eq_false beq_self_eq_true Nat.zero_add Nat.add_zero Nat.zero_mul Bool.false_eq_true Bool.true_eq_false Bool.not_true Bool.not_false and_true true_and false_and and_false or_false false_or or_true true_or not_true_eq_false not_false_eq_true ne_eq gt_iff_lt List.mem_cons List.not_mem_nil
attribute [local go_sem ↓] pseq_normal pseq_ret pseq_exit pblk_normal pblk_ret newDsts_cons inlDsts_cons gdst_zero gdst_succ retQ_normal retQ_ret qneed_nil qneed_cons retM_normal retM_ret endR_normal endR_ret endR_exit
attribute [local go_sem] Int.reduceToNat Int.reduceEq Int.reduceNe Int.reduceLT Int.reduceLE Int.reduceNeg Int.reduceAdd Nat.reduceEqDiff Nat.reduceAdd Nat.reduceSub Nat.reduceMul Nat.reduceLeDiff Nat.reduceLT
attribute [local go_sem ↓] reduceIte reduceCtorEq

theorem dec_lt {u : Nat} (h : u < 10) : Lib.decDigits u = [UInt8.ofNat (48 + u)] := by rw [Lib.decDigits, dif_pos h]
theorem dec_ge {u : Nat} (h : ¬ u < 10) : Lib.decDigits u = Lib.decDigits (u / 10) ++ [UInt8.ofNat (48 + u % 10)] := by rw [Lib.decDigits, dif_neg h]
theorem dig_cut {k : Nat} (h : k < 10) : ([48, 49, 50, 51, 52, 53, 54, 55, 56, 57] : List UInt8).drop k = UInt8.ofNat (48 + k) :: ([48, 49, 50, 51, 52, 53, 54, 55, 56, 57] : List UInt8).drop (k + 1) := by
  have e : ∀ k : Fin 10, ([48, 49, 50, 51, 52, 53, 54, 55, 56, 57] : List UInt8).drop k.val = UInt8.ofNat (48 + k.val) :: ([48, 49, 50, 51, 52, 53, 54, 55, 56, 57] : List UInt8).drop (k.val + 1) := by decide +kernel
  exact e ⟨k, h⟩
/-- What is written so far: the digits behind n. -/
def behind (N n : Nat) (out : List UInt8) : Prop := (out = [] ∧ n = N) ∨ (out ≠ [] ∧ (if n = 0 then out else Lib.decDigits n ++ out) = Lib.decDigits N)
theorem behind_next {N n : Nat} {out : List UInt8} (h : behind N n out) (hc : 0 < n ∨ out = []) : behind N (n / 10) (UInt8.ofNat (48 + n % 10) :: out) := by
  refine .inr ⟨by simp, ?_⟩
  have h1 : Lib.decDigits n ++ out = Lib.decDigits N := by
    rcases h with ⟨rfl, rfl⟩ | ⟨h1, h2⟩
    · simp
    · rcases hc with h3 | h3
      · rwa [if_neg (by omega)] at h2
      · exact absurd h3 h1
  rw [← h1]
  by_cases hn : n < 10
  · rw [if_pos (by omega), dec_lt hn, Nat.mod_eq_of_lt hn]
    rfl
  · rw [if_neg (by omega), dec_ge hn, List.append_assoc]
    rfl
theorem behind_len {N n : Nat} {out : List UInt8} (h : behind N n out) : out.length ≤ (Lib.decDigits N).length := by
  rcases h with ⟨rfl, rfl⟩ | ⟨h1, h2⟩
  · simp
  · rw [← h2]
    split
    · exact Nat.le_refl _
    · rw [List.length_append]; omega
set_option maxHeartbeats 1000000 in
theorem h_text {n : Int} (h0 : -10000 < n) (h1 : n < 10000) : PC E 19 [.int .i64 n] (TX (Lib.itoa n)) := by
  have hmx : maxLen = 9223372036854775807 := rfl
  have w1 : n < 0 → IntKind.wrap .i64 (0 - n) = (n.natAbs : Nat) := fun h => by rw [wrap64 (by omega) (by omega)]; omega
  have hit : Lib.itoa n = (if n < 0 then [45] else []) ++ Lib.decDigits n.natAbs := by
    unfold Lib.itoa
    split
    · rfl
    · rw [show n.natAbs = n.toNat by omega]; rfl
  have hll := dec_len 3 n.natAbs (by omega)
  rw [hit]
  obtain ⟨N, hN⟩ : ∃ N, N = n.natAbs := ⟨_, rfl⟩
  rw [← hN] at hll ⊢ w1
  simp only [TX]
  refine PC.of_body follows Tryz.func19 (by decide +kernel) rfl (by kernel_rfl) (Nat.le_of_ble_eq_true rfl) (walk ?_)
  simp only [Tryz.f19, B8_size, B8_cut, B8_eq, B8_mk, B8_app, Int.toNat_natCast, go_sem]
  refine qif_d (fun hn => ?_) (fun hn => ?_)
  · rw [if_pos hn]
    have w1 := w1 hn
    simp only [Tryz.f19, B8_size, B8_cut, B8_eq, B8_mk, B8_app, Int.toNat_natCast, w1, go_sem]
    refine PLoop.intro (fun p : List UInt8 × Nat => ⟨[(0, .val (.int .i64 p.2)), (3, .val (.str (B8 [45]))), (4, .val (.str (B8 [48, 49, 50, 51, 52, 53, 54, 55, 56, 57]))), (5, .val (.str (B8 p.1)))], []⟩)
      (fun p => behind N p.2 p.1 ∧ p.2 ≤ N) (fun p => p.2 + if p.1 = [] then 1 else 0) ([], N) ⟨.inl ⟨rfl, rfl⟩, Nat.le_refl _⟩ ?_ fun p hp => walk ?_
    · simp [Wk, sget, killL, kill1, SV.key]
    obtain ⟨out, m⟩ := p
    obtain ⟨hb, hm⟩ := hp
    dsimp only at hb hm ⊢
    have hbl := behind_len hb
    have hmd : ((m : Int)).tmod 10 = ((m % 10 : Nat) : Int) := n_tmod m 10
    have hmw : IntKind.wrap .i64 ((m % 10 : Nat) : Int) = ((m % 10 : Nat) : Int) := wrap64 (by omega) (by omega)
    have hq : ((m : Int)).tdiv 10 = ((m / 10 : Nat) : Int) := by rw [Int.tdiv_eq_ediv_of_nonneg (by omega)]; omega
    have hqw : IntKind.wrap .i64 ((m / 10 : Nat) : Int) = ((m / 10 : Nat) : Int) := wrap64 (by omega) (by omega)
    have hm10 : m % 10 < 10 := Nat.mod_lt _ (by decide)
    have hdc := dig_cut hm10
    have hbn := fun h => behind_next hb h
    simp only [Tryz.f19, B8_size, B8_cut, B8_eq, B8_mk, B8_app, Int.toNat_natCast, go_sem]
    by_cases hg : 0 < m ∨ out = []
    · have hbn := hbn hg
      refine qif_d (fun h => ?_) (fun h => ?_)
      all_goals
        simp only [Tryz.f19, B8_size, B8_cut, B8_eq, B8_mk, B8_app, Int.toNat_natCast, hmd, hmw, go_sem]
        try (refine qif_dt (by rcases hg with hg | hg; exact absurd (by omega) h; exact hg) ?_; simp only [Tryz.f19, B8_size, B8_cut, B8_eq, B8_mk, B8_app, Int.toNat_natCast, hmd, hmw, go_sem])
        refine qand_i (by omega) ?_
        simp only [Tryz.f19, B8_size, B8_cut, B8_eq, B8_mk, B8_app, Int.toNat_natCast, hmd, hmw, go_sem]
        refine qand_i (by rw [hdc, List.length_cons]; omega) ?_
        simp only [Tryz.f19, B8_size, B8_cut, B8_eq, B8_mk, B8_app, Int.toNat_natCast, hmd, hmw, hdc, List.take_succ_cons, List.take_zero, List.drop_zero, go_sem]
        refine qand_i (by omega) ?_
        simp only [Tryz.f19, B8_size, B8_cut, B8_eq, B8_mk, B8_app, Int.toNat_natCast, hq, hqw, go_sem]
        refine ⟨(UInt8.ofNat (48 + m % 10) :: out, m / 10), ⟨hbn, by dsimp only; omega⟩, ?_, ?_⟩
        · dsimp only
          rw [if_neg (by simp)]
          rcases hg with hg | hg
          · split <;> omega
          · rw [if_pos hg]; omega
        · simp [Wk, sget, killL, kill1, SV.key]
    · have h0 : m = 0 := by omega
      have hne : ¬ out = [] := fun h => hg (.inr h)
      subst h0
      have hd : out = Lib.decDigits N := by
        rcases hb with ⟨h, -⟩ | ⟨-, h⟩
        · exact absurd h hne
        · rwa [if_pos rfl] at h
      rw [← hd] at hll ⊢
      refine qif_df (by omega) ?_
      simp only [Tryz.f19, B8_size, B8_cut, B8_eq, B8_mk, B8_app, Int.toNat_natCast, go_sem]
      refine qif_df hne ?_
      simp only [Tryz.f19, B8_size, B8_cut, B8_eq, B8_mk, B8_app, Int.toNat_natCast, go_sem]
      refine qand_i (by rw [hmx]; (try simp only [List.length_cons, List.length_nil]); omega) ?_
      simp only [Tryz.f19, B8_size, B8_cut, B8_eq, B8_mk, B8_app, Int.toNat_natCast, go_sem]
      try rfl
  · rw [if_neg hn]
    obtain rfl : n = (N : Int) := by omega
    simp only [Tryz.f19, B8_size, B8_cut, B8_eq, B8_mk, B8_app, Int.toNat_natCast, go_sem]
    refine PLoop.intro (fun p : List UInt8 × Nat => ⟨[(0, .val (.int .i64 p.2)), (3, .val (.str (B8 []))), (4, .val (.str (B8 [48, 49, 50, 51, 52, 53, 54, 55, 56, 57]))), (5, .val (.str (B8 p.1)))], []⟩)
      (fun p => behind N p.2 p.1 ∧ p.2 ≤ N) (fun p => p.2 + if p.1 = [] then 1 else 0) ([], N) ⟨.inl ⟨rfl, rfl⟩, Nat.le_refl _⟩ ?_ fun p hp => walk ?_
    · simp [Wk, sget, killL, kill1, SV.key]
    obtain ⟨out, m⟩ := p
    obtain ⟨hb, hm⟩ := hp
    dsimp only at hb hm ⊢
    have hbl := behind_len hb
    have hmd : ((m : Int)).tmod 10 = ((m % 10 : Nat) : Int) := n_tmod m 10
    have hmw : IntKind.wrap .i64 ((m % 10 : Nat) : Int) = ((m % 10 : Nat) : Int) := wrap64 (by omega) (by omega)
    have hq : ((m : Int)).tdiv 10 = ((m / 10 : Nat) : Int) := by rw [Int.tdiv_eq_ediv_of_nonneg (by omega)]; omega
    have hqw : IntKind.wrap .i64 ((m / 10 : Nat) : Int) = ((m / 10 : Nat) : Int) := wrap64 (by omega) (by omega)
    have hm10 : m % 10 < 10 := Nat.mod_lt _ (by decide)
    have hdc := dig_cut hm10
    have hbn := fun h => behind_next hb h
    simp only [Tryz.f19, B8_size, B8_cut, B8_eq, B8_mk, B8_app, Int.toNat_natCast, go_sem]
    by_cases hg : 0 < m ∨ out = []
    · have hbn := hbn hg
      refine qif_d (fun h => ?_) (fun h => ?_)
      all_goals
        simp only [Tryz.f19, B8_size, B8_cut, B8_eq, B8_mk, B8_app, Int.toNat_natCast, hmd, hmw, go_sem]
        try (refine qif_dt (by rcases hg with hg | hg; exact absurd (by omega) h; exact hg) ?_; simp only [Tryz.f19, B8_size, B8_cut, B8_eq, B8_mk, B8_app, Int.toNat_natCast, hmd, hmw, go_sem])
        refine qand_i (by omega) ?_
        simp only [Tryz.f19, B8_size, B8_cut, B8_eq, B8_mk, B8_app, Int.toNat_natCast, hmd, hmw, go_sem]
        refine qand_i (by rw [hdc, List.length_cons]; omega) ?_
        simp only [Tryz.f19, B8_size, B8_cut, B8_eq, B8_mk, B8_app, Int.toNat_natCast, hmd, hmw, hdc, List.take_succ_cons, List.take_zero, List.drop_zero, go_sem]
        refine qand_i (by omega) ?_
        simp only [Tryz.f19, B8_size, B8_cut, B8_eq, B8_mk, B8_app, Int.toNat_natCast, hq, hqw, go_sem]
        refine ⟨(UInt8.ofNat (48 + m % 10) :: out, m / 10), ⟨hbn, by dsimp only; omega⟩, ?_, ?_⟩
        · dsimp only
          rw [if_neg (by simp)]
          rcases hg with hg | hg
          · split <;> omega
          · rw [if_pos hg]; omega
        · simp [Wk, sget, killL, kill1, SV.key]
    · have h0 : m = 0 := by omega
      have hne : ¬ out = [] := fun h => hg (.inr h)
      subst h0
      have hd : out = Lib.decDigits N := by
        rcases hb with ⟨h, -⟩ | ⟨-, h⟩
        · exact absurd h hne
        · rwa [if_pos rfl] at h
      rw [← hd] at hll ⊢
      refine qif_df (by omega) ?_
      simp only [Tryz.f19, B8_size, B8_cut, B8_eq, B8_mk, B8_app, Int.toNat_natCast, go_sem]
      refine qif_df hne ?_
      simp only [Tryz.f19, B8_size, B8_cut, B8_eq, B8_mk, B8_app, Int.toNat_natCast, go_sem]
      refine qand_i (by rw [hmx]; (try simp only [List.length_cons, List.length_nil]); omega) ?_
      simp only [Tryz.f19, B8_size, B8_cut, B8_eq, B8_mk, B8_app, Int.toNat_natCast, go_sem]
      try rfl
end Go.Proofs.YtnccaoeeedhgbaaGreatDoor
