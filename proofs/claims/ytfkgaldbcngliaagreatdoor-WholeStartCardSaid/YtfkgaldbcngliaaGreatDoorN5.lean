import Derived.Test.YtfkgaldbcngliaaGreatDoorN4
open Go PG Go.Proofs
namespace Go.Proofs.YtfkgaldbcngliaaGreatDoor
attribute [local go_sem] Lay2 Lay3 Lay4 Lay5 Lay6 Lay7 Lay8 Lay9 Lay10 Lay11 Lay12 Lay13 Lay14 Lay15 Lay16 Lay17 Lay18 Lay19 Lay20 Lay21 Lay22 Lay26 Lay27 Lay28 Lay29 Lay31 Lay32 Lay33 Lay34 Lay35 Lay41 Lay42 Lay43 Lay47 Lay48 Lay60 Lay61 Lay62 Lay63 Lay64 Lay72 Lay73 Lay74 Lay83 Lay84 Lay86 Lay90 Lay91 Lay92 Lay93 Lay102 Lay103 Lay139 Lay143 Lay149 Lay158 Lay159 Lay160 Lay161 Lay162 Lay174 Lay175 Lay193 Lay207 Lay208 Lay209 Lay210 Lay228 Lay229 Lay237 Lay238 Lay265 Lay287 Lay295 Lay296 Lay297 Lay299 Lay301 Lay302 Lay303 Lay304 Lay305 Lay307 Lay308 Lay310 Lay311 Lay312 Lay315 Lay316 Lay317 qexec_seq qexec_skip qexec_exit qexec_ret qexec_block qexec_loop qexec_range qexec_cond qexec_region qexec_drawn qops_nil qops_none qops_some put_some put_none pblk_exit pblk_other newDsts_nil inlDsts_nil isInl sget_cons sget_nil qval_some qbool_some qgs_bool qgs_und qfree_some qgrd_true qgrd_false qif_true qif_false qval_ite qval_itn qand_true map_ite map_some' map_none' qdo_move qdo_assign qdo_binOp qdo_pick qdo_unOp qdo_convert qdo_extract qdo_makeInterface qdo_field qdo_fieldAddr qdo_alloc qdo_box qdo_build qdo_buildSlice qdo_load qdo_store qdo_nilCheck qdo_makeFunc qdo_makeSlice qdo_slice qdo_indexAddr qdo_call qcont_val qcont_new qcont_st qcont_app0 qcont_app qcont_inl qcont_call njSV_val njSV_nil njSV_row njSV_ptr njSV_sub binV_val binV_nil binV_nn binV_ptr bin_np bin_nnp nilCmp bin_add bin_sub bin_mul bin_quo bin_rem bin_and bin_or bin_xor bin_andNot bin_eql bin_neq bin_lss bin_leq bin_gtr bin_geq bin_shl bin_shr bin_seql bin_sneq bin_sadd bin_beql bin_aeql bin_aneq eqAnd_some eqCells_nil eqCells_cons fieldTypes isStruct eqCell bin_bneq un_not un_neg nj_ite Nat.beq stepA stepR isNew opSV constSV RV.sv allSome E_mu E_own qkeyIn_none qkeyIn_some qkeyAt_none qkeyAt_some Bool.or_false Bool.false_or Bool.or_true Bool.true_or cst setB res resSV pstart startL killL kill1 eraL frzL svPV rvPV rvInt rvSlice rvBytes frzOf close closeL pconv pbuiltin pmax2 partPV setCells fillPV zrow bound newSV PV.cells Bk.cells Bk.with SV.key pres presL_nil presL_tmp presL_cell presC2_some cellPV_ptr presC List.toList_toArray List.size_toArray List.getElem?_drop Nat.mul_one Int.toNat_natCast Nat.not_lt_zero Nat.lt_irrefl decide_true decide_false Nat.not_lt Option.some.injEq PV.lst.injEq PV.int.injEq PV.bool.injEq PV.tuple.injEq List.cons.injEq Option.map_some Option.map_none Option.bind_some Option.toList List.map_cons List.map_nil List.nil_append List.cons_append List.append_nil List.zip_cons_cons List.zip_nil_left List.zip_nil_right List.getElem?_cons_zero List.getElem?_cons_succ List.drop_zero List.drop_succ_cons List.take_succ_cons List.take_zero List.set_cons_zero List.set_cons_succ List.length_cons List.length_nil List.length_set List.replicate_one List.replicate_zero bne_self_eq_false beq_self_eq_true Nat.zero_add Nat.add_zero Nat.zero_mul Bool.false_eq_true Bool.true_eq_false Bool.not_true Bool.not_false and_true true_and false_and and_false or_false false_or or_true true_or not_true_eq_false not_false_eq_true ne_eq gt_iff_lt List.mem_cons List.not_mem_nil
attribute [local go_sem ↓] pseq_normal pseq_ret pseq_exit pblk_normal pblk_ret newDsts_cons inlDsts_cons gdst_zero gdst_succ retQ_normal retQ_ret qneed_nil qneed_cons retM_normal retM_ret endR_normal endR_ret endR_exit
attribute [local go_sem] Int.reduceToNat Int.reduceEq Int.reduceNe Int.reduceLT Int.reduceLE Int.reduceNeg Int.reduceAdd Nat.reduceEqDiff Nat.reduceAdd Nat.reduceSub Nat.reduceMul Nat.reduceLeDiff Nat.reduceLT
attribute [local go_sem ↓] reduceIte reduceCtorEq
section
open Go PG Go.Proofs
set_option maxRecDepth 100000
set_option linter.unusedSimpArgs false
set_option linter.unusedVariables false
open XX
def lowT : Nat → Nat → Int → Nat × Int
  | 0, n, e => (n, e)
  | f + 1, n, e => if n % 2 = 0 ∧ 0 < e then lowT f (n / 2) (e - 1) else (n, e)
theorem lowT_facts : ∀ (f n : Nat) (e : Int), 1 ≤ n → n < 2 ^ f → 1 ≤ (lowT f n e).1 ∧ (lowT f n e).1 ≤ n ∧ (lowT f n e).2 ≤ e ∧ (0 ≤ e → 0 ≤ (lowT f n e).2) ∧ (e ≤ 0 → (lowT f n e).2 = e)
  | 0, n, e, h1, h2 => by
    rw [Nat.pow_zero] at h2; omega
  | f + 1, n, e, h1, h2 => by
    unfold lowT
    rw [Nat.pow_succ] at h2
    split
    · rename_i h
      obtain ⟨g1, g2, g3, g4, g5⟩ := lowT_facts f (n / 2) (e - 1) (by omega) (by omega)
      exact ⟨g1, by omega, by omega, fun _ => g4 (by omega), fun _ => by omega⟩
    · exact ⟨h1, Nat.le_refl _, Int.le_refl _, fun h => h, fun _ => rfl⟩
def lowN (d : Dy) (n : Nat) : Nat := (lowT 64 n d.e).1
def lowE (d : Dy) (n : Nat) : Int := (lowT 64 n d.e).2
def lowG (d : Dy) (n : Nat) : Nat := Nat.gcd (lowN d n) d.m
def lowD (d : Dy) (n : Nat) : Dy := ⟨d.s, d.m / lowG d n, lowE d n⟩
def lowQ (d : Dy) (n : Nat) : Nat := lowN d n / lowG d n
set_option maxHeartbeats 4000000 in
theorem o_lowest {s : Bool} {P : PV} {e : Int} {d : Dy} (h : RD (DP s P e) d) (h0 : d.m ≠ 0) (hW : d.m < W) (hf : d.fits) {n : Nat} (hn1 : 1 ≤ n) (hn : n < W) :
    PC E 233 [.agg [.bool s, P, .int .i64 e, .int .u64 n]] (.agg [.bool (lowD d n).s, NN (lowD d n).m, .int .i64 (lowD d n).e, .int .u64 (lowQ d n)]) := by
  have k1 := r_Bare h
  rw [okD_of hf] at k1
  have hR : RD d.pv d := RD.fit h.ok h.bits hf
  have k2 := r_Sign hR
  have hsg : ¬ d.sg = 0 := by unfold Dy.sg; rw [if_neg h0]; split <;> omega
  have hn64 : n < 2 ^ 64 := hn
  obtain ⟨t1, t2, t3, t4, t5⟩ := lowT_facts 64 n d.e hn1 hn64
  have hfe := hf.1
  have hfe2 := hf.2
  have eN : NN d.m = .lst 1 [.int .u64 (d.m : Nat)] := by
    unfold NN
    rw [dg_one h0 hW]
    rfl
  have eD : (lowD d n).s = d.s ∧ (lowD d n).m = d.m / lowG d n ∧ (lowD d n).e = lowE d n := ⟨rfl, rfl, rfl⟩
  rw [eD.1, eD.2.1, eD.2.2]
  have hG0 : 0 < lowG d n := Nat.gcd_pos_of_pos_right _ (by omega)
  have hGm : lowG d n ≤ d.m := Nat.gcd_le_right _ (by omega)
  have hGn : lowG d n ≤ lowN d n := Nat.gcd_le_left _ t1
  have kd1 := c_Div64 (hi := 0) (lo := d.m) (y := lowN d n) (show lowN d n < W from Nat.lt_of_le_of_lt t2 hn) hW (by show 0 < (lowT 64 n d.e).1; omega)
  have kd2 := c_Div64 (hi := 0) (lo := d.m) (y := lowG d n) (by omega) hW hG0
  rw [Nat.zero_mul, Nat.zero_add] at kd1 kd2
  have hq := Nat.div_le_self d.m (lowG d n)
  have kb := n_Bare [d.m / lowG d n] (by simp) (Ok.cons (by omega) Ok.nil)
  have evl : vl [d.m / lowG d n] = d.m / lowG d n := by simp [vl, dv]
  rw [evl] at kb
  have hgr : Nat.gcd (lowN d n) (d.m % lowN d n) = lowG d n := by
    unfold lowG
    rw [Nat.gcd_comm, ← Nat.gcd_rec]
  have hNW : lowN d n < W := Nat.lt_of_le_of_lt t2 hn
  have eQ : lowQ d n = lowN d n / lowG d n := rfl
  rw [eQ]
  have hqn := Nat.div_le_self (lowN d n) (lowG d n)
  have wQ : IntKind.wrap .u64 (((lowN d n : Nat) : Int).tdiv ((lowG d n : Nat) : Int)) = ((lowN d n / lowG d n : Nat) : Int) := by
    rw [Int.tdiv_eq_ediv_of_nonneg (by omega)]
    exact wrap_nat64 (a := lowN d n / lowG d n) (by omega)
  have hJ : lowT 64 n d.e = (lowN d n, lowE d n) := rfl
  have hG0' : ¬ ((lowG d n : Nat) : Int) = 0 := by omega
  have hN0' : ¬ ((lowN d n : Nat) : Int) = 0 := by have : 1 ≤ lowN d n := t1; omega
  have z0 : (0 : Int).tmod ((lowN d n : Nat) : Int) = 0 := Int.zero_tmod _
  have hmodlt : d.m % lowN d n < lowN d n := Nat.mod_lt _ t1
  clear t1 t2 t3 t4 t5 eD
  generalize lowN d n / lowG d n = QN at *
  generalize d.m / lowG d n = MQ at *
  generalize d.m % lowG d n = MR at *
  generalize d.m / lowN d n = MQ1 at *
  generalize d.m % lowN d n = RE at *
  generalize lowG d n = G at *
  generalize lowN d n = N' at *
  generalize lowE d n = E' at *
  simp only [DP, Dy.pv, eN, u] at k1 k2 kd1 kd2
  simp only [NL, U, List.map_cons, List.map_nil, List.length_cons, List.length_nil, Nat.zero_add] at kb
  simp only [NN, NL] at kb ⊢
  refine PC.of_body follows Tryz.func233 (by decide +kernel) rfl (by kernel_rfl) (Nat.le_of_ble_eq_true rfl) (walk ?_)
  simp only [Tryz.f233, go_sem]
  refine qcall_i (k1) ?_; simp only [Tryz.f233, go_sem]
  refine qcall_i (k2) ?_; simp only [Tryz.f233, go_sem]
  refine qif_df hsg ?_
  simp only [Tryz.f233, go_sem]
  refine qif_df (by omega) ?_
  simp only [Tryz.f233, go_sem]
  refine PLoop.intro (fun i : Nat × Nat × Int => ⟨[(1, .ptr 1 0), (2, .ptr 2 0), (3, .ptr 3 0), (5, .val (.int .u64 i.2.1))],
    [(2, (.box [.bool false, .lst 0 [], .int .i64 0, .int .u64 0], false)), (3, (.box [.bool d.s, .lst 1 [.int .u64 d.m], .int .i64 i.2.2], false))]⟩)
    (fun i => lowT i.1 i.2.1 i.2.2 = (N', E') ∧ 1 ≤ i.2.1 ∧ i.2.1 < 2 ^ i.1 ∧ i.1 ≤ 64 ∧ -1073741824 ≤ i.2.2 ∧ i.2.2 ≤ 1073741824) (fun i => i.1) (64, n, d.e) ⟨hJ, hn1, hn64, Nat.le_refl _, hfe, hfe2⟩ ?_ fun i hi => walk ?_
  · simp [Wk, sget, killL, kill1, SV.key]
  obtain ⟨f, a, e'⟩ := i
  dsimp only at hi ⊢
  obtain ⟨j1, j2, j3, j4, j5, j6⟩ := hi
  have ha64 : a < W := Nat.lt_of_lt_of_le j3 (Nat.le_trans (Nat.pow_le_pow_right (by decide) j4) (by decide))
  have em : ((a : Int).tmod 2 = 0) = (a % 2 = 0) := propext (by rw [Int.tmod_eq_emod_of_nonneg (by omega)]; omega)
  have eq2 : IntKind.wrap .u64 ((a : Int).tdiv 2) = ((a / 2 : Nat) : Int) := by
    rw [Int.tdiv_eq_ediv_of_nonneg (by omega)]
    exact wrap_nat64 (a := a / 2) (by omega)
  have we : IntKind.wrap .i64 (e' - 1) = e' - 1 := wrap64 (by omega) (by omega)
  have fin : ¬ (a % 2 = 0 ∧ 0 < e') → a = N' ∧ e' = E' := fun h => by
    cases f with
    | zero => rw [Nat.pow_zero] at j3; omega
    | succ f =>
      unfold lowT at j1
      rw [if_neg h] at j1
      cases j1; exact ⟨rfl, rfl⟩
  simp only [Tryz.f233, em, Int.cast_ofNat_Int, go_sem]
  by_cases hc : a % 2 = 0 ∧ 0 < e'
  · obtain ⟨g, rfl⟩ : ∃ g, f = g + 1 := ⟨f - 1, by
      rcases Nat.eq_zero_or_pos f with h | h
      · subst h; rw [Nat.pow_zero] at j3; omega
      · omega⟩
    unfold lowT at j1
    rw [if_pos hc] at j1
    rw [Nat.pow_succ] at j3
    refine qif_dt hc.1 ?_
    simp only [Tryz.f233, em, Int.cast_ofNat_Int, go_sem]
    refine qif_dt hc.2 ?_
    simp only [Tryz.f233, eq2, we, go_sem]
    refine ⟨(g, a / 2, e' - 1), ⟨j1, by dsimp only; omega, by dsimp only; omega, by dsimp only; omega, by dsimp only; omega, by dsimp only; omega⟩, Nat.lt_succ_self g, ?_⟩
    simp [Wk, sget, killL, kill1, SV.key]
  obtain ⟨rfl, rfl⟩ := fin hc
  have v1 : IntKind.wrap .i64 (1 - 1) = 0 := by decide
  have v2 : IntKind.wrap .i64 (0 - 1) = -1 := by decide
  by_cases hm : a % 2 = 0
  case' pos =>
    refine qif_dt hm ?_
    simp only [Tryz.f233, em, Int.cast_ofNat_Int, go_sem]
    refine qif_df (fun h => hc ⟨hm, h⟩) ?_
    simp only [Tryz.f233, v1, go_sem]
  case' neg =>
    refine qif_df hm ?_
    simp only [Tryz.f233, v1, go_sem]
  all_goals
    refine qloop_u 2 ?_
    simp only [Tryz.f233, qunr_succ, Int.cast_ofNat_Int, List.range_zero, List.getD_cons_zero, List.getD_cons_succ, Nat.reduceMod, v1, v2, z0, go_sem]
    refine qif_dt (by decide) ?_
    simp only [Tryz.f233, qunr_succ, Int.cast_ofNat_Int, List.range_zero, List.getD_cons_zero, List.getD_cons_succ, Nat.reduceMod, v1, v2, z0, go_sem]
    refine qand_i hN0' ?_
    simp only [Tryz.f233, qunr_succ, Int.cast_ofNat_Int, List.range_zero, List.getD_cons_zero, List.getD_cons_succ, Nat.reduceMod, v1, v2, z0, List.getElem?_cons_zero, Int.toNat_zero, go_sem]
    refine qcall_i (kd1) ?_; simp only [Tryz.f233, qunr_succ, Int.cast_ofNat_Int, List.range_zero, List.getD_cons_zero, List.getD_cons_succ, Nat.reduceMod, v1, v2, z0, go_sem]
    refine qif_df (by decide) ?_
    simp only [Tryz.f233, qunr_succ, Int.cast_ofNat_Int, List.range_zero, List.getD_cons_zero, List.getD_cons_succ, Nat.reduceMod, v1, v2, z0, go_sem]
    refine PLoop.intro (fun i : Nat × Nat => ⟨[(1, .ptr 1 0), (2, .ptr 2 0), (3, .ptr 3 0), (5, .val (.int .u64 a)), (6, .val (.int .u64 i.1)), (7, .val (.int .u64 i.2))],
      [(2, (.box [.bool false, .lst 0 [], .int .i64 0, .int .u64 0], false)), (3, (.box [.bool d.s, .lst 1 [.int .u64 d.m], .int .i64 e'], false))]⟩)
      (fun i => Nat.gcd i.1 i.2 = G) (fun i => i.2) (a, RE) hgr ?_ fun i hi => walk ?_
    · simp [Wk, sget, killL, kill1, SV.key]
    obtain ⟨x, b⟩ := i
    dsimp only at hi ⊢
    simp only [Tryz.f233, go_sem]
    refine qif_d (fun h => ?_) (fun h => ?_)
    · have hb0 : ¬ (b : Int) = 0 := by omega
      have et : (x : Int).tmod b = ((x % b : Nat) : Int) := by rw [Int.tmod_eq_emod_of_nonneg (by omega)]; rfl
      simp only [Tryz.f233, go_sem]
      refine qand_i hb0 ?_
      simp only [Tryz.f233, et, go_sem]
      refine ⟨(b, x % b), ?_, Nat.mod_lt _ (by omega), ?_⟩
      · dsimp only
        rw [Nat.gcd_comm b, ← Nat.gcd_rec, Nat.gcd_comm]; exact hi
      · simp [Wk, sget, killL, kill1, SV.key]
    have hb : b = 0 := by omega
    subst hb
    rw [Nat.gcd_zero_right] at hi
    subst hi
    simp only [Tryz.f233, v1, List.replicate_succ, List.replicate_zero, go_sem]
    refine qand_i (by decide) ?_
    simp only [Tryz.f233, v1, List.replicate_succ, List.replicate_zero, go_sem]
    refine qloop_u 2 ?_
    simp only [Tryz.f233, qunr_succ, Int.cast_ofNat_Int, List.range_zero, List.getD_cons_zero, List.getD_cons_succ, Nat.reduceMod, v1, v2, z0, go_sem]
    refine qif_dt (by decide) ?_
    simp only [Tryz.f233, qunr_succ, Int.cast_ofNat_Int, List.range_zero, List.getD_cons_zero, List.getD_cons_succ, Nat.reduceMod, v1, v2, z0, List.getElem?_cons_zero, Int.toNat_zero, go_sem]
    refine qcall_i (kd2) ?_; simp only [Tryz.f233, qunr_succ, Int.cast_ofNat_Int, List.range_zero, List.getD_cons_zero, List.getD_cons_succ, Nat.reduceMod, v1, v2, z0, List.getElem?_cons_zero, Int.toNat_zero, List.set_cons_zero, go_sem]
    refine qif_df (by decide) ?_
    simp only [Tryz.f233, qunr_succ, Int.cast_ofNat_Int, List.range_zero, List.getD_cons_zero, List.getD_cons_succ, Nat.reduceMod, v1, v2, z0, go_sem]
    refine qcall_i (kb) ?_; simp only [Tryz.f233, go_sem]
    refine qand_i hG0' ?_
    simp only [Tryz.f233, wQ, go_sem]
end
section
open Go PG Go.Proofs
set_option maxRecDepth 100000
set_option linter.unusedSimpArgs false
set_option linter.unusedVariables false
open XX
def wholeOk (d : Dy) (n : Nat) : Prop := exOfOk (lowD d n) ∧ lowQ d n ≤ 4611686018427387904 ∧ exK (lowD d n) ≤ 4611686018427387904 / lowQ d n
instance (d : Dy) (n : Nat) : Decidable (wholeOk d n) := inferInstanceAs (Decidable (_ ∧ _))
theorem low_facts {d : Dy} {n : Nat} (h0 : d.m ≠ 0) (hod : d.m % 2 = 1) (hn1 : 1 ≤ n) (hn : n < W) : (lowD d n).m % 2 = 1 ∧ (lowD d n).m ≤ d.m ∧ (lowD d n).e ≤ d.e ∧ min d.e 0 ≤ (lowD d n).e ∧ 1 ≤ lowQ d n ∧ lowQ d n ≤ n ∧ (lowD d n).s = d.s := by
  obtain ⟨t1, t2, t3, t4, t5⟩ := lowT_facts 64 n d.e hn1 hn
  have hG0 : 0 < lowG d n := Nat.gcd_pos_of_pos_right _ (by omega)
  have hGn : lowG d n ≤ lowN d n := Nat.gcd_le_left _ t1
  have hdv : lowG d n ∣ d.m := Nat.gcd_dvd_right _ _
  have he : min d.e 0 ≤ lowE d n := by
    show min d.e 0 ≤ (lowT 64 n d.e).2
    rcases Int.le_total 0 d.e with h | h
    · have := t4 h; omega
    · have := t5 h; omega
  refine ⟨?_, Nat.div_le_self _ _, t3, he, Nat.div_pos hGn hG0, Nat.le_trans (Nat.div_le_self _ _) t2, rfl⟩
  obtain ⟨c, hc⟩ := hdv
  have e1 : (lowD d n).m = c := Nat.div_eq_of_eq_mul_right hG0 hc
  rw [e1]
  have h1 : c % 2 = 0 ∨ c % 2 = 1 := by omega
  rcases h1 with h1 | h1
  · rw [hc, Nat.mul_mod, h1, Nat.mul_zero] at hod
    omega
  · exact h1
theorem low_lim {a : Ask} (ha : AskOk a) : Lim 1200 (lowD a.y a.n) := by
  have hod := ha.y.resolve_left (fun h => ha.y0 (by rw [h]; rfl))
  obtain ⟨f1, f2, f3, f4, f5, f6, f7⟩ := low_facts ha.y0 hod ha.n1 ha.nW
  have h1 := ha.yt
  have h2 := ha.yb
  have h3 := bitLen_pos ha.y0
  have h4 := top_eq ha.y0
  have hm : (lowD a.y a.n).m ≠ 0 := by omega
  have h5 := top_eq hm
  have h6 := bitLen_mono f2
  exact lim_top (.inr f1) hm (by omega) (by omega)
set_option maxHeartbeats 2000000 in
theorem o_whole {p : PV} {a : Ask} (h : RA p a) (ha : AskOk a) {s : Bool} {P : PV} {e : Int} (hy : RD (DP s P e) a.y) :
    PC E 213 [.agg [.bool s, P, .int .i64 e, .int .u64 (a.n : Nat)]] (if wholeOk a.y a.n then .tuple [.agg [.int .i64 (exM (lowD a.y a.n)), .int .i64 (exK (lowD a.y a.n) * lowQ a.y a.n : Nat)], .bool true] else .tuple [.agg [.int .i64 0, .int .i64 0], .bool false]) := by
  have hod := ha.y.resolve_left (fun h => ha.y0 (by rw [h]; rfl))
  have hmW : a.y.m < W := (bitLen_le _ 64).1 ha.yb
  have k1 := o_lowest hy ha.y0 hmW (ha.yLim.fits (by decide)) ha.n1 ha.nW
  have hl := low_lim ha
  obtain ⟨f1, f2, f3, f4, f5, f6, f7⟩ := low_facts ha.y0 hod ha.n1 ha.nW
  have k2 := e_Of (hl.RD (by decide)) hl (by decide)
  have hnW := ha.nW
  obtain ⟨R, hR⟩ : ∃ R, R = (if wholeOk a.y a.n then PV.tuple [.agg [.int .i64 (exM (lowD a.y a.n)), .int .i64 (exK (lowD a.y a.n) * lowQ a.y a.n : Nat)], .bool true] else .tuple [.agg [.int .i64 0, .int .i64 0], .bool false]) := ⟨_, rfl⟩
  rw [← hR]
  by_cases c1 : exOfOk (lowD a.y a.n)
  case neg =>
    rw [if_neg c1] at k2
    rw [if_neg (fun h : wholeOk a.y a.n => c1 h.1)] at hR
    simp only [DP, Dy.pv, NN, NL] at k1 k2 ⊢
    refine PC.of_body follows Tryz.func213 (by decide +kernel) rfl (by kernel_rfl) (Nat.le_of_ble_eq_true rfl) (walk ?_)
    simp only [Tryz.f213, go_sem]
    refine qcall_i (k1) ?_; simp only [Tryz.f213, go_sem]
    refine qcall_i (k2) ?_; simp only [Tryz.f213, go_sem]
    first | (rw [hR]; done) | (rw [hR]; rfl)
  rw [if_pos c1] at k2
  by_cases c2 : lowQ a.y a.n ≤ 4611686018427387904
  case neg =>
    rw [if_neg (fun h : wholeOk a.y a.n => c2 h.2.1)] at hR
    simp only [DP, Dy.pv, NN, NL] at k1 k2 ⊢
    refine PC.of_body follows Tryz.func213 (by decide +kernel) rfl (by kernel_rfl) (Nat.le_of_ble_eq_true rfl) (walk ?_)
    simp only [Tryz.f213, go_sem]
    refine qcall_i (k1) ?_; simp only [Tryz.f213, go_sem]
    refine qcall_i (k2) ?_; simp only [Tryz.f213, go_sem]
    refine qif_dt (by omega) ?_
    simp only [Tryz.f213, go_sem]
    first | (rw [hR]; done) | (rw [hR]; rfl)
  have hq0 : ¬ ((lowQ a.y a.n : Nat) : Int) = 0 := by omega
  have hdq := Nat.div_le_self 4611686018427387904 (lowQ a.y a.n)
  have w1 : IntKind.wrap .u64 (Int.tdiv 4611686018427387904 ((lowQ a.y a.n : Nat) : Int)) = ((4611686018427387904 / lowQ a.y a.n : Nat) : Int) := by
    rw [Int.tdiv_eq_ediv_of_nonneg (by decide)]
    exact wrap_nat64 (a := 4611686018427387904 / lowQ a.y a.n) (Nat.lt_of_le_of_lt hdq (by decide))
  have w2 : IntKind.wrap .i64 ((4611686018427387904 / lowQ a.y a.n : Nat) : Int) = ((4611686018427387904 / lowQ a.y a.n : Nat) : Int) := by
    generalize 4611686018427387904 / lowQ a.y a.n = q at *
    exact wrap64 (by omega) (by omega)
  by_cases c3 : exK (lowD a.y a.n) ≤ 4611686018427387904 / lowQ a.y a.n
  case neg =>
    rw [if_neg (fun h : wholeOk a.y a.n => c3 h.2.2)] at hR
    generalize 4611686018427387904 / lowQ a.y a.n = q at *
    generalize lowQ a.y a.n = N' at *
    simp only [DP, Dy.pv, NN, NL] at k1 k2 ⊢
    refine PC.of_body follows Tryz.func213 (by decide +kernel) rfl (by kernel_rfl) (Nat.le_of_ble_eq_true rfl) (walk ?_)
    simp only [Tryz.f213, go_sem]
    refine qcall_i (k1) ?_; simp only [Tryz.f213, go_sem]
    refine qcall_i (k2) ?_; simp only [Tryz.f213, go_sem]
    refine qif_df (by omega) ?_
    simp only [Tryz.f213, go_sem]
    refine qand_i hq0 ?_
    simp only [Tryz.f213, w1, w2, go_sem]
    refine qif_dt (by omega) ?_
    simp only [Tryz.f213, go_sem]
    first | (rw [hR]; done) | (rw [hR]; rfl)
  rw [if_pos (show wholeOk a.y a.n from ⟨c1, c2, c3⟩)] at hR
  have hprod : exK (lowD a.y a.n) * lowQ a.y a.n ≤ 4611686018427387904 := Nat.le_trans (Nat.mul_le_mul_right _ c3) (Nat.div_mul_le_self _ _)
  have w3 : IntKind.wrap .i64 ((lowQ a.y a.n : Nat) : Int) = ((lowQ a.y a.n : Nat) : Int) := wrap64 (by omega) (by omega)
  have w4 : IntKind.wrap .i64 (((exK (lowD a.y a.n) : Nat) : Int) * ((lowQ a.y a.n : Nat) : Int)) = ((exK (lowD a.y a.n) * lowQ a.y a.n : Nat) : Int) := by
    rw [← Int.natCast_mul]
    exact wrap64 (by omega) (by omega)
  generalize exK (lowD a.y a.n) * lowQ a.y a.n = KN at *
  generalize 4611686018427387904 / lowQ a.y a.n = q at *
  generalize lowQ a.y a.n = N' at *
  simp only [DP, Dy.pv, NN, NL] at k1 k2 ⊢
  refine PC.of_body follows Tryz.func213 (by decide +kernel) rfl (by kernel_rfl) (Nat.le_of_ble_eq_true rfl) (walk ?_)
  simp only [Tryz.f213, go_sem]
  refine qcall_i (k1) ?_; simp only [Tryz.f213, go_sem]
  refine qcall_i (k2) ?_; simp only [Tryz.f213, go_sem]
  refine qif_df (by omega) ?_
  simp only [Tryz.f213, go_sem]
  refine qand_i hq0 ?_
  simp only [Tryz.f213, w1, w2, go_sem]
  refine qif_df (by omega) ?_
  simp only [Tryz.f213, w3, w4, go_sem]
  first | (rw [hR]; done) | (rw [hR]; rfl)
def exactO (a : Ask) : Option Dy :=
  if sgS a = 0 then some (norm 1 0) else if wholeOk a.y a.n then powO a.x (exM (lowD a.y a.n)) (exK (lowD a.y a.n) * lowQ a.y a.n) else none
def exPVd : Option Dy → PV
  | some p => .tuple [p.pv, .bool true]
  | none => .tuple [Dy.zero.pv, .bool false]
theorem exM_lt {d : Dy} (h : exOfOk d) : -4611686018427387904 < exM d ∧ exM d < 4611686018427387904 := by
  have := exU_lt h
  unfold exM
  split <;> omega
theorem o_Exact {p : PV} {a : Ask} (h : RA p a) (ha : AskOk a) : PC E 152 [p] (exPVd (exactO a)) := by
  have k1 := o_Right h ha
  have k2 := o_Sign h ha
  have h' := h
  obtain ⟨s1, P1, e1, s2, P2, e2, rfl, h1, h2⟩ := h'
  have k3 := c_dOf 1 (by decide) (by decide)
  have k4 := o_whole h ha h2
  obtain ⟨R, hR⟩ : ∃ R, R = exPVd (exactO a) := ⟨_, rfl⟩
  rw [← hR]
  unfold exactO at hR
  by_cases c1 : sgS a = 0
  · rw [if_pos c1] at hR
    rw [c1] at k2
    generalize norm 1 0 = N1 at *
    simp only [exPVd, DP, Dy.pv, NN, NL] at k1 k2 k3 hR ⊢
    refine PC.of_body follows Tryz.func152 (by decide +kernel) rfl (by kernel_rfl) (Nat.le_of_ble_eq_true rfl) (walk ?_)
    simp only [Tryz.f152, go_sem]
    refine qcall_i (k1) ?_; simp only [Tryz.f152, go_sem]
    refine qcall_i (k2) ?_; simp only [Tryz.f152, go_sem]
    try (refine qif_dt (by decide) ?_)
    try simp only [Tryz.f152, go_sem]
    refine qcall_i (k3) ?_; simp only [Tryz.f152, go_sem]
    first | (rw [hR]; done) | (rw [hR]; rfl)
  rw [if_neg c1] at hR
  by_cases c2 : wholeOk a.y a.n
  case neg =>
    rw [if_neg c2] at hR k4
    simp only [exPVd, zero_pv, DP, Dy.pv, NN, NL] at k1 k2 k3 k4 hR ⊢
    refine PC.of_body follows Tryz.func152 (by decide +kernel) rfl (by kernel_rfl) (Nat.le_of_ble_eq_true rfl) (walk ?_)
    simp only [Tryz.f152, go_sem]
    refine qcall_i (k1) ?_; simp only [Tryz.f152, go_sem]
    refine qcall_i (k2) ?_; simp only [Tryz.f152, go_sem]
    refine qif_df c1 ?_
    simp only [Tryz.f152, go_sem]
    refine qcall_i (k4) ?_; simp only [Tryz.f152, go_sem]
    first | (rw [hR]; done) | (rw [hR]; rfl)
  rw [if_pos c2] at hR k4
  have hM := exM_lt c2.1
  have hod := ha.y.resolve_left (fun h => ha.y0 (by rw [h]; rfl))
  obtain ⟨f1, f2, f3, f4, f5, f6, f7⟩ := low_facts ha.y0 hod ha.n1 ha.nW
  have hK := exK_range c2.1.1
  have hprod : exK (lowD a.y a.n) * lowQ a.y a.n ≤ 4611686018427387904 := Nat.le_trans (Nat.mul_le_mul_right _ c2.2.2) (Nat.div_mul_le_self _ _)
  have hp1 : 1 ≤ exK (lowD a.y a.n) * lowQ a.y a.n := Nat.mul_pos hK.1 f5
  have k5 := e_Power h1 ha.x (M := exM (lowD a.y a.n)) (K := exK (lowD a.y a.n) * lowQ a.y a.n) (by omega) hp1 (by omega)
  generalize exK (lowD a.y a.n) * lowQ a.y a.n = KN at *
  generalize exM (lowD a.y a.n) = MM at *
  cases hp : powO a.x MM KN with
  | none =>
    rw [hp] at hR k5
    simp only [powPV, exPVd, zero_pv, DP, Dy.pv, NN, NL] at k1 k2 k3 k4 k5 hR ⊢
    refine PC.of_body follows Tryz.func152 (by decide +kernel) rfl (by kernel_rfl) (Nat.le_of_ble_eq_true rfl) (walk ?_)
    simp only [Tryz.f152, go_sem]
    refine qcall_i (k1) ?_; simp only [Tryz.f152, go_sem]
    refine qcall_i (k2) ?_; simp only [Tryz.f152, go_sem]
    refine qif_df c1 ?_
    simp only [Tryz.f152, go_sem]
    refine qcall_i (k4) ?_; simp only [Tryz.f152, go_sem]
    refine qcall_i (k5) ?_; simp only [Tryz.f152, go_sem]
    first | (rw [hR]; done) | (rw [hR]; rfl)
  | some d =>
    rw [hp] at hR k5
    simp only [powPV, exPVd, DP, Dy.pv, NN, NL] at k1 k2 k3 k4 k5 hR ⊢
    refine PC.of_body follows Tryz.func152 (by decide +kernel) rfl (by kernel_rfl) (Nat.le_of_ble_eq_true rfl) (walk ?_)
    simp only [Tryz.f152, go_sem]
    refine qcall_i (k1) ?_; simp only [Tryz.f152, go_sem]
    refine qcall_i (k2) ?_; simp only [Tryz.f152, go_sem]
    refine qif_df c1 ?_
    simp only [Tryz.f152, go_sem]
    refine qcall_i (k4) ?_; simp only [Tryz.f152, go_sem]
    refine qcall_i (k5) ?_; simp only [Tryz.f152, go_sem]
    first | (rw [hR]; done) | (rw [hR]; rfl)
end
section
open Go PG Go.Proofs
set_option maxRecDepth 100000
set_option linter.unusedSimpArgs false
set_option linter.unusedVariables false
open XX
theorem ansC_pv (v : (Nat × Nat) × Iv) : ansC v = [.int .u64 (v.1.1 : Nat), .int .u8 (v.1.2 : Nat), .int .i64 0, .bool v.2.lo.s, NN v.2.lo.m, .int .i64 v.2.lo.e, .bool v.2.hi.s, NN v.2.hi.m, .int .i64 v.2.hi.e] := rfl
theorem o_Do1 {s1 : Bool} {P1 : PV} {e1 : Int} {s2 : Bool} {P2 : PV} {e2 : Int} {a : Ask} (h1 : RD (DP s1 P1 e1) a.x) (h2 : RD (DP s2 P2 e2) a.y) (ha : AskOk a) (sign : Int) {b : Nat} (hb : 32 ≤ b) (hb2 : b ≤ 8192) :
    PC E 155 [.int .i64 (b : Nat), .ref [.bool s1, P1, .int .i64 e1, .bool s2, P2, .int .i64 e2, .int .u64 (a.n : Nat), .bool a.neg, .int .i64 a.dir, .int .i64 a.f, .int .i64 a.t], .ref [.int .i64 sign]] (.tuple [.agg (ansC (tryS a sign b).1), .bool (tryS a sign b).2]) := by
  have k1 := o_try (p := .agg [.bool s1, P1, .int .i64 e1, .bool s2, P2, .int .i64 e2, .int .u64 (a.n : Nat), .bool a.neg, .int .i64 a.dir, .int .i64 a.f, .int .i64 a.t]) ⟨s1, P1, e1, s2, P2, e2, rfl, h1, h2⟩ ha sign hb hb2
  generalize tryS a sign b = T at *
  simp only [ansC_pv, NN, NL] at k1 ⊢
  refine PC.of_body follows Tryz.func155 (by decide +kernel) rfl (by kernel_rfl) (Nat.le_of_ble_eq_true rfl) (walk ?_)
  simp only [Tryz.f155, go_sem]
  refine qcall_i (k1) ?_; simp only [Tryz.f155, go_sem]
  try rfl
def runS (a : Ask) : (((Nat × Nat) × Iv) × Nat × Nat) × Nat := goS (fun n => (tryS a (sgS a) n).1) (fun n => (tryS a (sgS a) n).2) (planS a.f a.t) ans0 0 0
def doS (a : Ask) : Nat × Nat × Nat × Nat :=
  match exactO a with
  | some d => ((toS (sgnD d a.neg) false a.dir).1, (toS (sgnD d a.neg) false a.dir).2, 0, 0)
  | none => if (runS a).2 = 0 then ((runS a).1.1.1.1, (runS a).1.1.1.2, 0, (runS a).1.2.2)
    else match looseS (runS a).1.1.2 a.neg a.dir with
      | some r => (r.1, r.2 ||| 1, 1, (runS a).1.2.2)
      | none => (9221120237041090560, 1, 1, (runS a).1.2.2)
def doPV (r : Nat × Nat × Nat × Nat) : PV := .tuple [.agg [.int .u64 (r.1 : Nat), .int .u8 (r.2.1 : Nat), .int .i64 (r.2.2.1 : Nat)], .int .i64 (r.2.2.2 : Nat), .int .i64 0]
theorem goS_inv {A : Nat → (Nat × Nat) × Iv} {ok : Nat → Bool} {P : (Nat × Nat) × Iv → Prop} (hA : ∀ n, P (A n)) : ∀ (l : List Nat) (v : (Nat × Nat) × Iv) (b t : Nat), P v → P (goS A ok l v b t).1.1 ∧ (goS A ok l v b t).1.2.2 ≤ t + l.length ∧ ((goS A ok l v b t).2 = 0 ∨ (goS A ok l v b t).2 = 2)
  | [], v, b, t, h => ⟨h, Nat.le_refl _, .inr rfl⟩
  | n :: l, v, b, t, h => by
    unfold goS
    split
    · exact ⟨hA n, by simp, .inl rfl⟩
    · obtain ⟨h1, h2, h3⟩ := goS_inv (ok := ok) hA l (A n) n (t + 1) (hA n)
      exact ⟨h1, by rw [List.length_cons]; omega, h3⟩
theorem goS_mem {A : Nat → (Nat × Nat) × Iv} {ok : Nat → Bool} {P : (Nat × Nat) × Iv → Prop} : ∀ (l : List Nat) (v : (Nat × Nat) × Iv) (b t : Nat), (∀ n ∈ l, P (A n)) → P v → P (goS A ok l v b t).1.1
  | [], v, b, t, hA, h => h
  | n :: l, v, b, t, hA, h => by
    unfold goS
    split
    · exact hA n (by simp)
    · exact goS_mem l (A n) n (t + 1) (fun m hm => hA m (by simp [hm])) (hA n (by simp))
theorem try_lim {a : Ask} (ha : AskOk a) (sign : Int) {b : Nat} (hb : 32 ≤ b) : (tryS a sign b).1.2.lim 26200 := by
  have hz : Iv.zero.lim 26200 := ⟨Lim.zero _, Lim.zero _⟩
  have hsc := scS_range (y := a.y) hb
  unfold tryS
  by_cases h1 : boundS (zS a b) sign ≠ 0
  · rw [if_pos h1]; exact hz
  rw [if_neg h1]
  by_cases h2 : splitOk (zS a b) (scS a.y b)
  · rw [if_pos h2]
    have := expI_lim (i := zS a b) (s := scS a.y b) (by omega) (by omega) h2
    split
    · exact this
    · exact this
  · rw [if_neg h2]; exact hz
theorem run_lim {a : Ask} (ha : AskOk a) : (runS a).1.1.2.lim 26200 := goS_mem (P := fun v => v.2.lim 26200) _ _ _ _ (fun n hn => try_lim ha (sgS a) (planS_range ha.plan hn).1) ⟨Lim.zero _, Lim.zero _⟩
theorem run_facts (a : Ask) : (runS a).1.2.2 ≤ 9 ∧ ((runS a).2 = 0 ∨ (runS a).2 = 2) := by
  obtain ⟨-, h2, h3⟩ := goS_inv (P := fun _ => True) (A := fun n => (tryS a (sgS a) n).1) (ok := fun n => (tryS a (sgS a) n).2) (fun _ => trivial) (planS a.f a.t) ans0 0 0 trivial
  have := planL_len 8 a.f.toNat a.t.toNat
  have e : planS a.f a.t = planL 8 a.f.toNat a.t.toNat := rfl
  rw [e] at h2
  exact ⟨by show (goS _ _ (planS a.f a.t) ans0 0 0).1.2.2 ≤ 9; rw [e]; omega, h3⟩
theorem toS_flags (d : Dy) (more : Bool) (dir : Int) : (toS d more dir).2 = 0 ∨ (toS d more dir).2 = 1 ∨ (toS d more dir).2 = 3 ∨ (toS d more dir).2 = 5 := by
  unfold toS magS
  repeat' split
  all_goals simp
theorem or_one {f : Nat} (h : f = 0 ∨ f = 1 ∨ f = 3 ∨ f = 5) : bits .or .u8 (f : Int) 1 = ((f ||| 1 : Nat) : Int) := by
  rcases h with rfl | rfl | rfl | rfl <;> decide
theorem exactO_facts {a : Ask} (ha : AskOk a) {d : Dy} (h : exactO a = some d) : RD d.pv d ∧ bitLen d.m ≤ 60001 ∧ d.fits := by
  have one : RD (norm 1 0).pv (norm 1 0) ∧ bitLen (norm 1 0).m ≤ 60001 ∧ (norm 1 0).fits := by
    have hl : Lim 20 (norm 1 0) := Lim.norm (K := 20) (z := 1) (by decide) (by decide)
    exact ⟨hl.RD (by decide), by have := hl.bits; omega, hl.fits (by decide)⟩
  unfold exactO at h
  split at h
  · cases h; exact one
  split at h
  · rename_i hw
    have hod := ha.y.resolve_left (fun h => ha.y0 (by rw [h]; rfl))
    obtain ⟨f1, f2, f3, f4, f5, f6, f7⟩ := low_facts ha.y0 hod ha.n1 ha.nW
    have hK := exK_range hw.1.1
    have hp1 : 1 ≤ exK (lowD a.y a.n) * lowQ a.y a.n := Nat.mul_pos hK.1 f5
    generalize exK (lowD a.y a.n) * lowQ a.y a.n = KN at *
    have hg0 : 0 < Nat.gcd (exM (lowD a.y a.n)).natAbs KN := Nat.gcd_pos_of_pos_right _ (by omega)
    have hgK : Nat.gcd (exM (lowD a.y a.n)).natAbs KN ≤ KN := Nat.gcd_le_right _ (by omega)
    have hkq : 1 ≤ KN / Nat.gcd (exM (lowD a.y a.n)).natAbs KN := Nat.div_pos hgK hg0
    unfold powO at h
    split at h
    · cases h; exact one
    · split at h
      · cases h
      · rename_i r hr
        obtain ⟨g1, g2, g3, g4, g5⟩ := rootO_facts ha.x hkq hr
        split at h
        · cases h
        · rename_i p hp
          obtain ⟨q1, q2, q3, q4, q5⟩ := raisO_facts g1 hp
          split at h
          · cases h
            have hf : d.fits := ⟨by omega, by omega⟩
            exact ⟨RD.fit (.inr q1) (by omega) hf, q2, hf⟩
          · cases h
  · cases h
set_option maxHeartbeats 4000000 in
theorem o_Do {p : PV} {a : Ask} (h : RA p a) (ha : AskOk a) : PC E 95 [p, .np] (doPV (doS a)) := by
  have k1 := o_Right h ha
  have k2 := o_Exact h ha
  obtain ⟨R, hR⟩ : ∃ R, R = doPV (doS a) := ⟨_, rfl⟩
  rw [← hR]
  unfold doS at hR
  cases hx : exactO a with
  | some d =>
    rw [hx] at k2 hR
    obtain ⟨hRd, hbd, hfd⟩ := exactO_facts ha hx
    have k3 := r_MinusF hRd hfd
    have k4 : PC E 105 [(sgnD d a.neg).pv, .bool false, .int .i64 a.dir] (.tuple [u (toS (sgnD d a.neg) false a.dir).1, .int .u8 (toS (sgnD d a.neg) false a.dir).2, .int .i64 0]) := by
      have hs : RD (sgnD d a.neg).pv (sgnD d a.neg) ∧ (sgnD d a.neg).fits := by
        unfold sgnD
        split
        · have hf2 : d.neg.fits := by
            unfold Dy.neg
            split
            · decide
            · exact hfd
          exact ⟨RD.fit (neg_ok hRd.ok) (by
            unfold Dy.neg
            split
            · exact Nat.le_trans (show bitLen 0 ≤ 0 by decide) (Nat.zero_le _)
            · dsimp only; omega) hf2, hf2⟩
        · exact ⟨hRd, hfd⟩
      have := r_To hs.1 (by rw [sgnD_m]; omega) false a.dir
      rwa [if_pos (toE_of hs.2 ha.dir)] at this
    obtain ⟨s1, P1, e1, s2, P2, e2, rfl, h1, h2⟩ := h
    dsimp only at hR
    generalize toS (sgnD d a.neg) false a.dir = T at *
    obtain ⟨t1, t2⟩ := T
    unfold sgnD at k4
    cases hneg : a.neg with
    | true =>
      rw [hneg] at k1 k2 k4
      rw [if_pos rfl] at k4
      generalize d.neg = D2 at *
      simp only [exPVd, doPV, DP, Dy.pv, u, NN, NL] at k1 k2 k3 k4 hR ⊢
      refine PC.of_body follows Tryz.func95 (by decide +kernel) rfl (by kernel_rfl) (Nat.le_of_ble_eq_true rfl) (walk ?_)
      simp only [Tryz.f95, go_sem]
      refine qcall_i (k1) ?_; simp only [Tryz.f95, go_sem]
      refine qcall_i (k2) ?_; simp only [Tryz.f95, go_sem]
      refine qcall_i (k3) ?_; simp only [Tryz.f95, go_sem]
      refine qcall_i (k4) ?_; simp only [Tryz.f95, go_sem]
      first | (rw [hR]; done) | (rw [hR]; rfl)
    | false =>
      rw [hneg] at k1 k2 k4
      rw [if_neg Bool.false_ne_true] at k4
      simp only [exPVd, doPV, DP, Dy.pv, u, NN, NL] at k1 k2 k3 k4 hR ⊢
      refine PC.of_body follows Tryz.func95 (by decide +kernel) rfl (by kernel_rfl) (Nat.le_of_ble_eq_true rfl) (walk ?_)
      simp only [Tryz.f95, go_sem]
      refine qcall_i (k1) ?_; simp only [Tryz.f95, go_sem]
      refine qcall_i (k2) ?_; simp only [Tryz.f95, go_sem]
      refine qcall_i (k4) ?_; simp only [Tryz.f95, go_sem]
      first | (rw [hR]; done) | (rw [hR]; rfl)
  | none =>
    rw [hx] at k2 hR
    have k3 := c_Plan a.f a.t
    rw [if_pos ha.plan] at k3
    have k4 := o_Sign h ha
    obtain ⟨s1, P1, e1, s2, P2, e2, rfl, h1, h2⟩ := h
    have hlen := planL_len 8 a.f.toNat a.t.toNat
    have ePl : planS a.f a.t = planL 8 a.f.toNat a.t.toNat := rfl
    rw [← ePl] at hlen
    have k5 := c_Go (f := 155) (by kernel_rfl) (cs := [.ref [.bool s1, P1, .int .i64 e1, .bool s2, P2, .int .i64 e2, .int .u64 (a.n : Nat), .bool a.neg, .int .i64 a.dir, .int .i64 a.f, .int .i64 a.t], .ref [.int .i64 (sgS a)]]) (A := fun n => (tryS a (sgS a) n).1) (ok := fun n => (tryS a (sgS a) n).2) (P := planS a.f a.t) (by omega)
      (fun n hn => by
        obtain ⟨r1, r2, r3⟩ := planS_range ha.plan hn
        exact o_Do1 h1 h2 ha (sgS a) r1 r3)
    have eRun : goS (fun n => (tryS a (sgS a) n).1) (fun n => (tryS a (sgS a) n).2) (planS a.f a.t) ans0 0 0 = runS a := rfl
    rw [eRun] at k5
    have hlim := run_lim ha
    have hfacts := run_facts a
    have k6 := d_Loose (hlim.RI (by decide)) hlim (by decide) a.neg ha.dir
    have hfl : ∀ r, looseS (runS a).1.1.2 a.neg a.dir = some r → bits .or .u8 (r.2 : Int) 1 = ((r.2 ||| 1 : Nat) : Int) := fun r hr => by
      unfold looseS at hr
      split at hr
      · cases hr; exact or_one (toS_flags _ _ _)
      · cases hr
    have eRI : (runS a).1.1.2.pv = .agg [.bool (runS a).1.1.2.lo.s, NN (runS a).1.1.2.lo.m, .int .i64 (runS a).1.1.2.lo.e, .bool (runS a).1.1.2.hi.s, NN (runS a).1.1.2.hi.m, .int .i64 (runS a).1.1.2.hi.e] := rfl
    rw [eRI] at k6
    dsimp only at hR
    generalize looseS (runS a).1.1.2 a.neg a.dir = LO at *
    generalize runS a = RR at *
    generalize sgS a = sg at *
    generalize IL (planS a.f a.t) = IP at *
    generalize (planS a.f a.t).length = LP at *
    clear eRI eRun ePl
    obtain ⟨⟨⟨⟨b0, fl0⟩, iv⟩, nb, nt⟩, en⟩ := RR
    dsimp only at *
    have w0 : bits .or .u8 0 1 = 1 := by decide
    rcases hfacts.2 with h0 | h0
    · rw [if_pos h0] at hR
      subst h0
      simp only [exPVd, zero_pv, doPV, runC, ansC_pv, List.cons_append, List.nil_append, NN, NL] at k1 k2 k3 k4 k5 hR ⊢
      refine PC.of_body follows Tryz.func95 (by decide +kernel) rfl (by kernel_rfl) (Nat.le_of_ble_eq_true rfl) (walk ?_)
      simp only [Tryz.f95, go_sem]
      refine qcall_i (k1) ?_; simp only [Tryz.f95, go_sem]
      refine qcall_i (k2) ?_; simp only [Tryz.f95, go_sem]
      refine qcall_i (k3) ?_; simp only [Tryz.f95, go_sem]
      refine qcall_i (k4) ?_; simp only [Tryz.f95, go_sem]
      refine qcall_i (k5) ?_; simp only [Tryz.f95, go_sem]
      try (refine qif_dt (by decide) ?_)
      try simp only [Tryz.f95, go_sem]
      first | (rw [hR]; done) | (rw [hR]; rfl)
    · rw [if_neg (by omega)] at hR
      subst h0
      cases LO with
      | some r =>
        obtain ⟨lb, lf⟩ := r
        have wl := hfl _ rfl
        dsimp only at wl
        simp only [exPVd, zero_pv, doPV, bfoPV, u, runC, ansC_pv, List.cons_append, List.nil_append, NN, NL] at k1 k2 k3 k4 k5 k6 hR ⊢
        refine PC.of_body follows Tryz.func95 (by decide +kernel) rfl (by kernel_rfl) (Nat.le_of_ble_eq_true rfl) (walk ?_)
        simp only [Tryz.f95, go_sem]
        refine qcall_i (k1) ?_; simp only [Tryz.f95, go_sem]
        refine qcall_i (k2) ?_; simp only [Tryz.f95, go_sem]
        refine qcall_i (k3) ?_; simp only [Tryz.f95, go_sem]
        refine qcall_i (k4) ?_; simp only [Tryz.f95, go_sem]
        refine qcall_i (k5) ?_; simp only [Tryz.f95, go_sem]
        try (refine qif_df (by decide) ?_)
        try simp only [Tryz.f95, go_sem]
        refine qcall_i (k6) ?_; simp only [Tryz.f95, wl, go_sem]
        first | (rw [hR]; done) | (rw [hR]; rfl)
      | none =>
        simp only [exPVd, zero_pv, doPV, bfoPV, u, runC, ansC_pv, List.cons_append, List.nil_append, NN, NL] at k1 k2 k3 k4 k5 k6 hR ⊢
        refine PC.of_body follows Tryz.func95 (by decide +kernel) rfl (by kernel_rfl) (Nat.le_of_ble_eq_true rfl) (walk ?_)
        simp only [Tryz.f95, go_sem]
        refine qcall_i (k1) ?_; simp only [Tryz.f95, go_sem]
        refine qcall_i (k2) ?_; simp only [Tryz.f95, go_sem]
        refine qcall_i (k3) ?_; simp only [Tryz.f95, go_sem]
        refine qcall_i (k4) ?_; simp only [Tryz.f95, go_sem]
        refine qcall_i (k5) ?_; simp only [Tryz.f95, go_sem]
        try (refine qif_df (by decide) ?_)
        try simp only [Tryz.f95, go_sem]
        refine qcall_i (k6) ?_; simp only [Tryz.f95, w0, go_sem]
        first | (rw [hR]; done) | (rw [hR]; rfl)
end
end Go.Proofs.YtfkgaldbcngliaaGreatDoor
