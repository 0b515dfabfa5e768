/- Several parts in one text. -/
import Derived.Test.YtfkgaldbcngliaaGreatDoorM3
import Derived.Test.YtfkgaldbcngliaaGreatDoorM1
open Go PG Go.Proofs
set_option linter.unusedSimpArgs false
set_option linter.unusedVariables false
set_option maxRecDepth 100000
namespace Go.Proofs.YtfkgaldbcngliaaGreatDoor
attribute [local go_sem] Lay2 Lay3 Lay4 Lay5 Lay6 Lay7 Lay8 Lay9 Lay10 Lay11 Lay12 Lay13 Lay14 Lay15 Lay16 Lay17 Lay18 Lay19 Lay20 Lay21 Lay22 Lay26 Lay27 Lay28 Lay29 Lay31 Lay32 Lay33 Lay34 Lay35 Lay41 Lay42 Lay43 Lay47 Lay48 Lay60 Lay61 Lay62 Lay63 Lay64 Lay72 Lay73 Lay74 Lay83 Lay84 Lay86 Lay90 Lay91 Lay92 Lay93 Lay102 Lay103 Lay139 Lay143 Lay149 Lay158 Lay159 Lay160 Lay161 Lay162 Lay174 Lay175 Lay193 Lay207 Lay208 Lay209 Lay210 Lay228 Lay229 Lay237 Lay238 Lay265 Lay287 Lay295 Lay296 Lay297 Lay299 Lay301 Lay302 Lay303 Lay304 Lay305 Lay307 Lay308 Lay310 Lay311 Lay312 Lay315 Lay316 Lay317 qexec_seq qexec_skip qexec_exit qexec_ret qexec_block qexec_loop qexec_range qexec_cond qexec_region qexec_drawn qops_nil qops_none qops_some put_some put_none pblk_exit pblk_other newDsts_nil inlDsts_nil isInl sget_cons sget_nil qval_some qbool_some qgs_bool qgs_und qfree_some qgrd_true qgrd_false qif_true qif_false qval_ite qval_itn qand_true map_ite map_some' map_none' qdo_move qdo_assign qdo_binOp qdo_pick qdo_unOp qdo_convert qdo_extract qdo_makeInterface qdo_field qdo_fieldAddr qdo_alloc qdo_box qdo_build qdo_buildSlice qdo_load qdo_store qdo_nilCheck qdo_makeFunc qdo_makeSlice qdo_slice qdo_indexAddr qdo_call qcont_val qcont_new qcont_st qcont_app0 qcont_app qcont_inl qcont_call njSV_val njSV_nil njSV_row njSV_ptr njSV_sub binV_val binV_nil binV_nn binV_ptr bin_np bin_nnp nilCmp bin_add bin_sub bin_mul bin_quo bin_rem bin_and bin_or bin_xor bin_andNot bin_eql bin_neq bin_lss bin_leq bin_gtr bin_geq bin_shl bin_shr bin_seql bin_sneq bin_sadd bin_beql bin_aeql bin_aneq eqAnd_some eqCells_nil eqCells_cons fieldTypes isStruct eqCell bin_bneq un_not un_neg nj_ite Nat.beq stepA stepR isNew opSV constSV RV.sv allSome E_mu E_own qkeyIn_none qkeyIn_some qkeyAt_none qkeyAt_some Bool.or_false Bool.false_or Bool.or_true Bool.true_or cst setB res resSV pstart startL killL kill1 eraL frzL svPV rvPV rvInt rvSlice rvBytes frzOf close closeL pconv pbuiltin pmax2 partPV setCells fillPV zrow bound newSV PV.cells Bk.cells Bk.with SV.key pres presL_nil presL_tmp presL_cell presC2_some cellPV_ptr presC List.toList_toArray List.size_toArray List.getElem?_drop Nat.mul_one Int.toNat_natCast Nat.not_lt_zero Nat.lt_irrefl decide_true decide_false Nat.not_lt Option.some.injEq PV.lst.injEq PV.int.injEq PV.bool.injEq PV.tuple.injEq List.cons.injEq Option.map_some Option.map_none Option.bind_some Option.toList List.map_cons List.map_nil List.nil_append List.cons_append List.append_nil List.zip_cons_cons List.zip_nil_left List.zip_nil_right List.getElem?_cons_zero List.getElem?_cons_succ List.drop_zero List.drop_succ_cons List.take_succ_cons List.take_zero List.set_cons_zero List.set_cons_succ List.length_cons List.length_nil List.length_set List.replicate_one List.replicate_zero bne_self_eq_false beq_self_eq_true Nat.zero_add Nat.add_zero Nat.zero_mul Bool.false_eq_true Bool.true_eq_false Bool.not_true Bool.not_false and_true true_and false_and and_false or_false false_or or_true true_or not_true_eq_false not_false_eq_true ne_eq gt_iff_lt List.mem_cons List.not_mem_nil
attribute [local go_sem ↓] pseq_normal pseq_ret pseq_exit pblk_normal pblk_ret newDsts_cons inlDsts_cons gdst_zero gdst_succ retQ_normal retQ_ret qneed_nil qneed_cons retM_normal retM_ret endR_normal endR_ret endR_exit
attribute [local go_sem] Int.reduceToNat Int.reduceEq Int.reduceNe Int.reduceLT Int.reduceLE Int.reduceNeg Int.reduceAdd Nat.reduceEqDiff Nat.reduceAdd Nat.reduceSub Nat.reduceMul Nat.reduceLeDiff Nat.reduceLT
attribute [local go_sem ↓] reduceIte reduceCtorEq
section
section
open Go PG Go.Proofs
open XX
def lowT : Nat → Nat → Int → Nat × Int
  | 0, n, e => (n, e)
  | f + 1, n, e => if n % 2 = 0 ∧ 0 < e then lowT f (n / 2) (e - 1) else (n, e)
theorem lowT_facts : ∀ (f n : Nat) (e : Int), 1 ≤ n → n < 2 ^ f → 1 ≤ (lowT f n e).1 ∧ (lowT f n e).1 ≤ n ∧ (lowT f n e).2 ≤ e ∧ (0 ≤ e → 0 ≤ (lowT f n e).2) ∧ (e ≤ 0 → (lowT f n e).2 = e)
  | 0, n, e, h1, h2 => by
    rw [Nat.pow_zero] at h2; omega
  | f + 1, n, e, h1, h2 => by
    unfold lowT
    rw [Nat.pow_succ] at h2
    split
    · rename_i h
      obtain ⟨g1, g2, g3, g4, g5⟩ := lowT_facts f (n / 2) (e - 1) (by omega) (by omega)
      exact ⟨g1, by omega, by omega, fun _ => g4 (by omega), fun _ => by omega⟩
    · exact ⟨h1, Nat.le_refl _, Int.le_refl _, fun h => h, fun _ => rfl⟩
def lowN (d : Dy) (n : Nat) : Nat := (lowT 64 n d.e).1
def lowE (d : Dy) (n : Nat) : Int := (lowT 64 n d.e).2
def lowG (d : Dy) (n : Nat) : Nat := Nat.gcd (lowN d n) d.m
def lowD (d : Dy) (n : Nat) : Dy := ⟨d.s, d.m / lowG d n, lowE d n⟩
def lowQ (d : Dy) (n : Nat) : Nat := lowN d n / lowG d n
set_option maxHeartbeats 4000000 in
theorem o_lowest {s : Bool} {P : PV} {e : Int} {d : Dy} (h : RD (DP s P e) d) (h0 : d.m ≠ 0) (hW : d.m < W) (hf : d.fits) {n : Nat} (hn1 : 1 ≤ n) (hn : n < W) :
    PC E 233 [.agg [.bool s, P, .int .i64 e, .int .u64 n]] (.agg [.bool (lowD d n).s, NN (lowD d n).m, .int .i64 (lowD d n).e, .int .u64 (lowQ d n)]) := by
  have k1 := r_Bare h
  rw [okD_of hf] at k1
  have hR : RD d.pv d := RD.fit h.ok h.bits hf
  have k2 := r_Sign hR
  have hsg : ¬ d.sg = 0 := by unfold Dy.sg; rw [if_neg h0]; split <;> omega
  have hn64 : n < 2 ^ 64 := hn
  obtain ⟨t1, t2, t3, t4, t5⟩ := lowT_facts 64 n d.e hn1 hn64
  have hfe := hf.1
  have hfe2 := hf.2
  have eN : NN d.m = .lst 1 [.int .u64 (d.m : Nat)] := by
    unfold NN
    rw [dg_one h0 hW]
    rfl
  have eD : (lowD d n).s = d.s ∧ (lowD d n).m = d.m / lowG d n ∧ (lowD d n).e = lowE d n := ⟨rfl, rfl, rfl⟩
  rw [eD.1, eD.2.1, eD.2.2]
  have hG0 : 0 < lowG d n := Nat.gcd_pos_of_pos_right _ (by omega)
  have hGm : lowG d n ≤ d.m := Nat.gcd_le_right _ (by omega)
  have hGn : lowG d n ≤ lowN d n := Nat.gcd_le_left _ t1
  have kd1 := c_Div64 (hi := 0) (lo := d.m) (y := lowN d n) (show lowN d n < W from Nat.lt_of_le_of_lt t2 hn) hW (by show 0 < (lowT 64 n d.e).1; omega)
  have kd2 := c_Div64 (hi := 0) (lo := d.m) (y := lowG d n) (by omega) hW hG0
  rw [Nat.zero_mul, Nat.zero_add] at kd1 kd2
  have hq := Nat.div_le_self d.m (lowG d n)
  have kb := n_Bare [d.m / lowG d n] (by simp) (Ok.cons (by omega) Ok.nil)
  have evl : vl [d.m / lowG d n] = d.m / lowG d n := by simp [vl, dv]
  rw [evl] at kb
  have hgr : Nat.gcd (lowN d n) (d.m % lowN d n) = lowG d n := by
    unfold lowG
    rw [Nat.gcd_comm, ← Nat.gcd_rec]
  have hNW : lowN d n < W := Nat.lt_of_le_of_lt t2 hn
  have eQ : lowQ d n = lowN d n / lowG d n := rfl
  rw [eQ]
  have hqn := Nat.div_le_self (lowN d n) (lowG d n)
  have wQ : IntKind.wrap .u64 (((lowN d n : Nat) : Int).tdiv ((lowG d n : Nat) : Int)) = ((lowN d n / lowG d n : Nat) : Int) := by
    rw [Int.tdiv_eq_ediv_of_nonneg (by omega)]
    exact wrap_nat64 (a := lowN d n / lowG d n) (by omega)
  have hJ : lowT 64 n d.e = (lowN d n, lowE d n) := rfl
  have hG0' : ¬ ((lowG d n : Nat) : Int) = 0 := by omega
  have hN0' : ¬ ((lowN d n : Nat) : Int) = 0 := by have : 1 ≤ lowN d n := t1; omega
  have z0 : (0 : Int).tmod ((lowN d n : Nat) : Int) = 0 := Int.zero_tmod _
  have hmodlt : d.m % lowN d n < lowN d n := Nat.mod_lt _ t1
  clear t1 t2 t3 t4 t5 eD
  generalize lowN d n / lowG d n = QN at *
  generalize d.m / lowG d n = MQ at *
  generalize d.m % lowG d n = MR at *
  generalize d.m / lowN d n = MQ1 at *
  generalize d.m % lowN d n = RE at *
  generalize lowG d n = G at *
  generalize lowN d n = N' at *
  generalize lowE d n = E' at *
  simp only [DP, Dy.pv, eN, u] at k1 k2 kd1 kd2
  simp only [NL, U, List.map_cons, List.map_nil, List.length_cons, List.length_nil, Nat.zero_add] at kb
  simp only [NN, NL] at kb ⊢
  refine PC.of_body follows Tryz.func233 (by decide +kernel) rfl (by kernel_rfl) (Nat.le_of_ble_eq_true rfl) (walk ?_)
  simp only [Tryz.f233, go_sem]
  refine qcall_i (k1) ?_; simp only [Tryz.f233, go_sem]
  refine qcall_i (k2) ?_; simp only [Tryz.f233, go_sem]
  refine qif_df hsg ?_
  simp only [Tryz.f233, go_sem]
  refine qif_df (by omega) ?_
  simp only [Tryz.f233, go_sem]
  refine PLoop.intro (fun i : Nat × Nat × Int => ⟨[(1, .ptr 1 0), (2, .ptr 2 0), (3, .ptr 3 0), (5, .val (.int .u64 i.2.1))],
    [(2, (.box [.bool false, .lst 0 [], .int .i64 0, .int .u64 0], false)), (3, (.box [.bool d.s, .lst 1 [.int .u64 d.m], .int .i64 i.2.2], false))]⟩)
    (fun i => lowT i.1 i.2.1 i.2.2 = (N', E') ∧ 1 ≤ i.2.1 ∧ i.2.1 < 2 ^ i.1 ∧ i.1 ≤ 64 ∧ -1073741824 ≤ i.2.2 ∧ i.2.2 ≤ 1073741824) (fun i => i.1) (64, n, d.e) ⟨hJ, hn1, hn64, Nat.le_refl _, hfe, hfe2⟩ ?_ fun i hi => walk ?_
  · simp [Wk, sget, killL, kill1, SV.key]
  obtain ⟨f, a, e'⟩ := i
  dsimp only at hi ⊢
  obtain ⟨j1, j2, j3, j4, j5, j6⟩ := hi
  have ha64 : a < W := Nat.lt_of_lt_of_le j3 (Nat.le_trans (Nat.pow_le_pow_right (by decide) j4) (by decide))
  have em : ((a : Int).tmod 2 = 0) = (a % 2 = 0) := propext (by rw [Int.tmod_eq_emod_of_nonneg (by omega)]; omega)
  have eq2 : IntKind.wrap .u64 ((a : Int).tdiv 2) = ((a / 2 : Nat) : Int) := by
    rw [Int.tdiv_eq_ediv_of_nonneg (by omega)]
    exact wrap_nat64 (a := a / 2) (by omega)
  have we : IntKind.wrap .i64 (e' - 1) = e' - 1 := wrap64 (by omega) (by omega)
  have fin : ¬ (a % 2 = 0 ∧ 0 < e') → a = N' ∧ e' = E' := fun h => by
    cases f with
    | zero => rw [Nat.pow_zero] at j3; omega
    | succ f =>
      unfold lowT at j1
      rw [if_neg h] at j1
      cases j1; exact ⟨rfl, rfl⟩
  simp only [Tryz.f233, em, Int.cast_ofNat_Int, go_sem]
  by_cases hc : a % 2 = 0 ∧ 0 < e'
  · obtain ⟨g, rfl⟩ : ∃ g, f = g + 1 := ⟨f - 1, by
      rcases Nat.eq_zero_or_pos f with h | h
      · subst h; rw [Nat.pow_zero] at j3; omega
      · omega⟩
    unfold lowT at j1
    rw [if_pos hc] at j1
    rw [Nat.pow_succ] at j3
    refine qif_dt hc.1 ?_
    simp only [Tryz.f233, em, Int.cast_ofNat_Int, go_sem]
    refine qif_dt hc.2 ?_
    simp only [Tryz.f233, eq2, we, go_sem]
    refine ⟨(g, a / 2, e' - 1), ⟨j1, by dsimp only; omega, by dsimp only; omega, by dsimp only; omega, by dsimp only; omega, by dsimp only; omega⟩, Nat.lt_succ_self g, ?_⟩
    simp [Wk, sget, killL, kill1, SV.key]
  obtain ⟨rfl, rfl⟩ := fin hc
  have v1 : IntKind.wrap .i64 (1 - 1) = 0 := by decide
  have v2 : IntKind.wrap .i64 (0 - 1) = -1 := by decide
  by_cases hm : a % 2 = 0
  case' pos =>
    refine qif_dt hm ?_
    simp only [Tryz.f233, em, Int.cast_ofNat_Int, go_sem]
    refine qif_df (fun h => hc ⟨hm, h⟩) ?_
    simp only [Tryz.f233, v1, go_sem]
  case' neg =>
    refine qif_df hm ?_
    simp only [Tryz.f233, v1, go_sem]
  all_goals
    refine qloop_u 2 ?_
    simp only [Tryz.f233, qunr_succ, Int.cast_ofNat_Int, List.range_zero, List.getD_cons_zero, List.getD_cons_succ, Nat.reduceMod, v1, v2, z0, go_sem]
    refine qif_dt (by decide) ?_
    simp only [Tryz.f233, qunr_succ, Int.cast_ofNat_Int, List.range_zero, List.getD_cons_zero, List.getD_cons_succ, Nat.reduceMod, v1, v2, z0, go_sem]
    refine qand_i hN0' ?_
    simp only [Tryz.f233, qunr_succ, Int.cast_ofNat_Int, List.range_zero, List.getD_cons_zero, List.getD_cons_succ, Nat.reduceMod, v1, v2, z0, List.getElem?_cons_zero, Int.toNat_zero, go_sem]
    refine qcall_i (kd1) ?_; simp only [Tryz.f233, qunr_succ, Int.cast_ofNat_Int, List.range_zero, List.getD_cons_zero, List.getD_cons_succ, Nat.reduceMod, v1, v2, z0, go_sem]
    refine qif_df (by decide) ?_
    simp only [Tryz.f233, qunr_succ, Int.cast_ofNat_Int, List.range_zero, List.getD_cons_zero, List.getD_cons_succ, Nat.reduceMod, v1, v2, z0, go_sem]
    refine PLoop.intro (fun i : Nat × Nat => ⟨[(1, .ptr 1 0), (2, .ptr 2 0), (3, .ptr 3 0), (5, .val (.int .u64 a)), (6, .val (.int .u64 i.1)), (7, .val (.int .u64 i.2))],
      [(2, (.box [.bool false, .lst 0 [], .int .i64 0, .int .u64 0], false)), (3, (.box [.bool d.s, .lst 1 [.int .u64 d.m], .int .i64 e'], false))]⟩)
      (fun i => Nat.gcd i.1 i.2 = G) (fun i => i.2) (a, RE) hgr ?_ fun i hi => walk ?_
    · simp [Wk, sget, killL, kill1, SV.key]
    obtain ⟨x, b⟩ := i
    dsimp only at hi ⊢
    simp only [Tryz.f233, go_sem]
    refine qif_d (fun h => ?_) (fun h => ?_)
    · have hb0 : ¬ (b : Int) = 0 := by omega
      have et : (x : Int).tmod b = ((x % b : Nat) : Int) := by rw [Int.tmod_eq_emod_of_nonneg (by omega)]; rfl
      simp only [Tryz.f233, go_sem]
      refine qand_i hb0 ?_
      simp only [Tryz.f233, et, go_sem]
      refine ⟨(b, x % b), ?_, Nat.mod_lt _ (by omega), ?_⟩
      · dsimp only
        rw [Nat.gcd_comm b, ← Nat.gcd_rec, Nat.gcd_comm]; exact hi
      · simp [Wk, sget, killL, kill1, SV.key]
    have hb : b = 0 := by omega
    subst hb
    rw [Nat.gcd_zero_right] at hi
    subst hi
    simp only [Tryz.f233, v1, List.replicate_succ, List.replicate_zero, go_sem]
    refine qand_i (by decide) ?_
    simp only [Tryz.f233, v1, List.replicate_succ, List.replicate_zero, go_sem]
    refine qloop_u 2 ?_
    simp only [Tryz.f233, qunr_succ, Int.cast_ofNat_Int, List.range_zero, List.getD_cons_zero, List.getD_cons_succ, Nat.reduceMod, v1, v2, z0, go_sem]
    refine qif_dt (by decide) ?_
    simp only [Tryz.f233, qunr_succ, Int.cast_ofNat_Int, List.range_zero, List.getD_cons_zero, List.getD_cons_succ, Nat.reduceMod, v1, v2, z0, List.getElem?_cons_zero, Int.toNat_zero, go_sem]
    refine qcall_i (kd2) ?_; simp only [Tryz.f233, qunr_succ, Int.cast_ofNat_Int, List.range_zero, List.getD_cons_zero, List.getD_cons_succ, Nat.reduceMod, v1, v2, z0, List.getElem?_cons_zero, Int.toNat_zero, List.set_cons_zero, go_sem]
    refine qif_df (by decide) ?_
    simp only [Tryz.f233, qunr_succ, Int.cast_ofNat_Int, List.range_zero, List.getD_cons_zero, List.getD_cons_succ, Nat.reduceMod, v1, v2, z0, go_sem]
    refine qcall_i (kb) ?_; simp only [Tryz.f233, go_sem]
    refine qand_i hG0' ?_
    simp only [Tryz.f233, wQ, go_sem]
end
section
open Go PG Go.Proofs
open XX
def wholeOk (d : Dy) (n : Nat) : Prop := exOfOk (lowD d n) ∧ lowQ d n ≤ 4611686018427387904 ∧ exK (lowD d n) ≤ 4611686018427387904 / lowQ d n
instance (d : Dy) (n : Nat) : Decidable (wholeOk d n) := inferInstanceAs (Decidable (_ ∧ _))
theorem low_facts {d : Dy} {n : Nat} (h0 : d.m ≠ 0) (hod : d.m % 2 = 1) (hn1 : 1 ≤ n) (hn : n < W) : (lowD d n).m % 2 = 1 ∧ (lowD d n).m ≤ d.m ∧ (lowD d n).e ≤ d.e ∧ min d.e 0 ≤ (lowD d n).e ∧ 1 ≤ lowQ d n ∧ lowQ d n ≤ n ∧ (lowD d n).s = d.s := by
  obtain ⟨t1, t2, t3, t4, t5⟩ := lowT_facts 64 n d.e hn1 hn
  have hG0 : 0 < lowG d n := Nat.gcd_pos_of_pos_right _ (by omega)
  have hGn : lowG d n ≤ lowN d n := Nat.gcd_le_left _ t1
  have hdv : lowG d n ∣ d.m := Nat.gcd_dvd_right _ _
  have he : min d.e 0 ≤ lowE d n := by
    show min d.e 0 ≤ (lowT 64 n d.e).2
    rcases Int.le_total 0 d.e with h | h
    · have := t4 h; omega
    · have := t5 h; omega
  refine ⟨?_, Nat.div_le_self _ _, t3, he, Nat.div_pos hGn hG0, Nat.le_trans (Nat.div_le_self _ _) t2, rfl⟩
  obtain ⟨c, hc⟩ := hdv
  have e1 : (lowD d n).m = c := Nat.div_eq_of_eq_mul_right hG0 hc
  rw [e1]
  have h1 : c % 2 = 0 ∨ c % 2 = 1 := by omega
  rcases h1 with h1 | h1
  · rw [hc, Nat.mul_mod, h1, Nat.mul_zero] at hod
    omega
  · exact h1
theorem low_lim {a : Ask} (ha : AskOk a) : Lim 1200 (lowD a.y a.n) := by
  have hod := ha.y.resolve_left (fun h => ha.y0 (by rw [h]; rfl))
  obtain ⟨f1, f2, f3, f4, f5, f6, f7⟩ := low_facts ha.y0 hod ha.n1 ha.nW
  have h1 := ha.yt
  have h2 := ha.yb
  have h3 := bitLen_pos ha.y0
  have h4 := top_eq ha.y0
  have hm : (lowD a.y a.n).m ≠ 0 := by omega
  have h5 := top_eq hm
  have h6 := bitLen_mono f2
  exact lim_top (.inr f1) hm (by omega) (by omega)
set_option maxHeartbeats 2000000 in
theorem o_whole {p : PV} {a : Ask} (h : RA p a) (ha : AskOk a) {s : Bool} {P : PV} {e : Int} (hy : RD (DP s P e) a.y) :
    PC E 213 [.agg [.bool s, P, .int .i64 e, .int .u64 (a.n : Nat)]] (if wholeOk a.y a.n then .tuple [.agg [.int .i64 (exM (lowD a.y a.n)), .int .i64 (exK (lowD a.y a.n) * lowQ a.y a.n : Nat)], .bool true] else .tuple [.agg [.int .i64 0, .int .i64 0], .bool false]) := by
  have hod := ha.y.resolve_left (fun h => ha.y0 (by rw [h]; rfl))
  have hmW : a.y.m < W := (bitLen_le _ 64).1 ha.yb
  have k1 := o_lowest hy ha.y0 hmW (ha.yLim.fits (by decide)) ha.n1 ha.nW
  have hl := low_lim ha
  obtain ⟨f1, f2, f3, f4, f5, f6, f7⟩ := low_facts ha.y0 hod ha.n1 ha.nW
  have k2 := e_Of (hl.RD (by decide)) hl (by decide)
  have hnW := ha.nW
  obtain ⟨R, hR⟩ : ∃ R, R = (if wholeOk a.y a.n then PV.tuple [.agg [.int .i64 (exM (lowD a.y a.n)), .int .i64 (exK (lowD a.y a.n) * lowQ a.y a.n : Nat)], .bool true] else .tuple [.agg [.int .i64 0, .int .i64 0], .bool false]) := ⟨_, rfl⟩
  rw [← hR]
  by_cases c1 : exOfOk (lowD a.y a.n)
  case neg =>
    rw [if_neg c1] at k2
    rw [if_neg (fun h : wholeOk a.y a.n => c1 h.1)] at hR
    simp only [DP, Dy.pv, NN, NL] at k1 k2 ⊢
    refine PC.of_body follows Tryz.func213 (by decide +kernel) rfl (by kernel_rfl) (Nat.le_of_ble_eq_true rfl) (walk ?_)
    simp only [Tryz.f213, go_sem]
    refine qcall_i (k1) ?_; simp only [Tryz.f213, go_sem]
    refine qcall_i (k2) ?_; simp only [Tryz.f213, go_sem]
    first | (rw [hR]; done) | (rw [hR]; rfl)
  rw [if_pos c1] at k2
  by_cases c2 : lowQ a.y a.n ≤ 4611686018427387904
  case neg =>
    rw [if_neg (fun h : wholeOk a.y a.n => c2 h.2.1)] at hR
    simp only [DP, Dy.pv, NN, NL] at k1 k2 ⊢
    refine PC.of_body follows Tryz.func213 (by decide +kernel) rfl (by kernel_rfl) (Nat.le_of_ble_eq_true rfl) (walk ?_)
    simp only [Tryz.f213, go_sem]
    refine qcall_i (k1) ?_; simp only [Tryz.f213, go_sem]
    refine qcall_i (k2) ?_; simp only [Tryz.f213, go_sem]
    refine qif_dt (by omega) ?_
    simp only [Tryz.f213, go_sem]
    first | (rw [hR]; done) | (rw [hR]; rfl)
  have hq0 : ¬ ((lowQ a.y a.n : Nat) : Int) = 0 := by omega
  have hdq := Nat.div_le_self 4611686018427387904 (lowQ a.y a.n)
  have w1 : IntKind.wrap .u64 (Int.tdiv 4611686018427387904 ((lowQ a.y a.n : Nat) : Int)) = ((4611686018427387904 / lowQ a.y a.n : Nat) : Int) := by
    rw [Int.tdiv_eq_ediv_of_nonneg (by decide)]
    exact wrap_nat64 (a := 4611686018427387904 / lowQ a.y a.n) (Nat.lt_of_le_of_lt hdq (by decide))
  have w2 : IntKind.wrap .i64 ((4611686018427387904 / lowQ a.y a.n : Nat) : Int) = ((4611686018427387904 / lowQ a.y a.n : Nat) : Int) := by
    generalize 4611686018427387904 / lowQ a.y a.n = q at *
    exact wrap64 (by omega) (by omega)
  by_cases c3 : exK (lowD a.y a.n) ≤ 4611686018427387904 / lowQ a.y a.n
  case neg =>
    rw [if_neg (fun h : wholeOk a.y a.n => c3 h.2.2)] at hR
    generalize 4611686018427387904 / lowQ a.y a.n = q at *
    generalize lowQ a.y a.n = N' at *
    simp only [DP, Dy.pv, NN, NL] at k1 k2 ⊢
    refine PC.of_body follows Tryz.func213 (by decide +kernel) rfl (by kernel_rfl) (Nat.le_of_ble_eq_true rfl) (walk ?_)
    simp only [Tryz.f213, go_sem]
    refine qcall_i (k1) ?_; simp only [Tryz.f213, go_sem]
    refine qcall_i (k2) ?_; simp only [Tryz.f213, go_sem]
    refine qif_df (by omega) ?_
    simp only [Tryz.f213, go_sem]
    refine qand_i hq0 ?_
    simp only [Tryz.f213, w1, w2, go_sem]
    refine qif_dt (by omega) ?_
    simp only [Tryz.f213, go_sem]
    first | (rw [hR]; done) | (rw [hR]; rfl)
  rw [if_pos (show wholeOk a.y a.n from ⟨c1, c2, c3⟩)] at hR
  have hprod : exK (lowD a.y a.n) * lowQ a.y a.n ≤ 4611686018427387904 := Nat.le_trans (Nat.mul_le_mul_right _ c3) (Nat.div_mul_le_self _ _)
  have w3 : IntKind.wrap .i64 ((lowQ a.y a.n : Nat) : Int) = ((lowQ a.y a.n : Nat) : Int) := wrap64 (by omega) (by omega)
  have w4 : IntKind.wrap .i64 (((exK (lowD a.y a.n) : Nat) : Int) * ((lowQ a.y a.n : Nat) : Int)) = ((exK (lowD a.y a.n) * lowQ a.y a.n : Nat) : Int) := by
    rw [← Int.natCast_mul]
    exact wrap64 (by omega) (by omega)
  generalize exK (lowD a.y a.n) * lowQ a.y a.n = KN at *
  generalize 4611686018427387904 / lowQ a.y a.n = q at *
  generalize lowQ a.y a.n = N' at *
  simp only [DP, Dy.pv, NN, NL] at k1 k2 ⊢
  refine PC.of_body follows Tryz.func213 (by decide +kernel) rfl (by kernel_rfl) (Nat.le_of_ble_eq_true rfl) (walk ?_)
  simp only [Tryz.f213, go_sem]
  refine qcall_i (k1) ?_; simp only [Tryz.f213, go_sem]
  refine qcall_i (k2) ?_; simp only [Tryz.f213, go_sem]
  refine qif_df (by omega) ?_
  simp only [Tryz.f213, go_sem]
  refine qand_i hq0 ?_
  simp only [Tryz.f213, w1, w2, go_sem]
  refine qif_df (by omega) ?_
  simp only [Tryz.f213, w3, w4, go_sem]
  first | (rw [hR]; done) | (rw [hR]; rfl)
def exactO (a : Ask) : Option Dy :=
  if sgS a = 0 then some (norm 1 0) else if wholeOk a.y a.n then powO a.x (exM (lowD a.y a.n)) (exK (lowD a.y a.n) * lowQ a.y a.n) else none
def exPVd : Option Dy → PV
  | some p => .tuple [p.pv, .bool true]
  | none => .tuple [Dy.zero.pv, .bool false]
theorem exM_lt {d : Dy} (h : exOfOk d) : -4611686018427387904 < exM d ∧ exM d < 4611686018427387904 := by
  have := exU_lt h
  unfold exM
  split <;> omega
theorem o_Exact {p : PV} {a : Ask} (h : RA p a) (ha : AskOk a) : PC E 152 [p] (exPVd (exactO a)) := by
  have k1 := o_Right h ha
  have k2 := o_Sign h ha
  have h' := h
  obtain ⟨s1, P1, e1, s2, P2, e2, rfl, h1, h2⟩ := h'
  have k3 := c_dOf 1 (by decide) (by decide)
  have k4 := o_whole h ha h2
  obtain ⟨R, hR⟩ : ∃ R, R = exPVd (exactO a) := ⟨_, rfl⟩
  rw [← hR]
  unfold exactO at hR
  by_cases c1 : sgS a = 0
  · rw [if_pos c1] at hR
    rw [c1] at k2
    generalize norm 1 0 = N1 at *
    simp only [exPVd, DP, Dy.pv, NN, NL] at k1 k2 k3 hR ⊢
    refine PC.of_body follows Tryz.func152 (by decide +kernel) rfl (by kernel_rfl) (Nat.le_of_ble_eq_true rfl) (walk ?_)
    simp only [Tryz.f152, go_sem]
    refine qcall_i (k1) ?_; simp only [Tryz.f152, go_sem]
    refine qcall_i (k2) ?_; simp only [Tryz.f152, go_sem]
    try (refine qif_dt (by decide) ?_)
    try simp only [Tryz.f152, go_sem]
    refine qcall_i (k3) ?_; simp only [Tryz.f152, go_sem]
    first | (rw [hR]; done) | (rw [hR]; rfl)
  rw [if_neg c1] at hR
  by_cases c2 : wholeOk a.y a.n
  case neg =>
    rw [if_neg c2] at hR k4
    simp only [exPVd, zero_pv, DP, Dy.pv, NN, NL] at k1 k2 k3 k4 hR ⊢
    refine PC.of_body follows Tryz.func152 (by decide +kernel) rfl (by kernel_rfl) (Nat.le_of_ble_eq_true rfl) (walk ?_)
    simp only [Tryz.f152, go_sem]
    refine qcall_i (k1) ?_; simp only [Tryz.f152, go_sem]
    refine qcall_i (k2) ?_; simp only [Tryz.f152, go_sem]
    refine qif_df c1 ?_
    simp only [Tryz.f152, go_sem]
    refine qcall_i (k4) ?_; simp only [Tryz.f152, go_sem]
    first | (rw [hR]; done) | (rw [hR]; rfl)
  rw [if_pos c2] at hR k4
  have hM := exM_lt c2.1
  have hod := ha.y.resolve_left (fun h => ha.y0 (by rw [h]; rfl))
  obtain ⟨f1, f2, f3, f4, f5, f6, f7⟩ := low_facts ha.y0 hod ha.n1 ha.nW
  have hK := exK_range c2.1.1
  have hprod : exK (lowD a.y a.n) * lowQ a.y a.n ≤ 4611686018427387904 := Nat.le_trans (Nat.mul_le_mul_right _ c2.2.2) (Nat.div_mul_le_self _ _)
  have hp1 : 1 ≤ exK (lowD a.y a.n) * lowQ a.y a.n := Nat.mul_pos hK.1 f5
  have k5 := e_Power h1 ha.x (M := exM (lowD a.y a.n)) (K := exK (lowD a.y a.n) * lowQ a.y a.n) (by omega) hp1 (by omega)
  generalize exK (lowD a.y a.n) * lowQ a.y a.n = KN at *
  generalize exM (lowD a.y a.n) = MM at *
  cases hp : powO a.x MM KN with
  | none =>
    rw [hp] at hR k5
    simp only [powPV, exPVd, zero_pv, DP, Dy.pv, NN, NL] at k1 k2 k3 k4 k5 hR ⊢
    refine PC.of_body follows Tryz.func152 (by decide +kernel) rfl (by kernel_rfl) (Nat.le_of_ble_eq_true rfl) (walk ?_)
    simp only [Tryz.f152, go_sem]
    refine qcall_i (k1) ?_; simp only [Tryz.f152, go_sem]
    refine qcall_i (k2) ?_; simp only [Tryz.f152, go_sem]
    refine qif_df c1 ?_
    simp only [Tryz.f152, go_sem]
    refine qcall_i (k4) ?_; simp only [Tryz.f152, go_sem]
    refine qcall_i (k5) ?_; simp only [Tryz.f152, go_sem]
    first | (rw [hR]; done) | (rw [hR]; rfl)
  | some d =>
    rw [hp] at hR k5
    simp only [powPV, exPVd, DP, Dy.pv, NN, NL] at k1 k2 k3 k4 k5 hR ⊢
    refine PC.of_body follows Tryz.func152 (by decide +kernel) rfl (by kernel_rfl) (Nat.le_of_ble_eq_true rfl) (walk ?_)
    simp only [Tryz.f152, go_sem]
    refine qcall_i (k1) ?_; simp only [Tryz.f152, go_sem]
    refine qcall_i (k2) ?_; simp only [Tryz.f152, go_sem]
    refine qif_df c1 ?_
    simp only [Tryz.f152, go_sem]
    refine qcall_i (k4) ?_; simp only [Tryz.f152, go_sem]
    refine qcall_i (k5) ?_; simp only [Tryz.f152, go_sem]
    first | (rw [hR]; done) | (rw [hR]; rfl)
end
section
open Go PG Go.Proofs
open XX
theorem ansC_pv (v : (Nat × Nat) × Iv) : ansC v = [.int .u64 (v.1.1 : Nat), .int .u8 (v.1.2 : Nat), .int .i64 0, .bool v.2.lo.s, NN v.2.lo.m, .int .i64 v.2.lo.e, .bool v.2.hi.s, NN v.2.hi.m, .int .i64 v.2.hi.e] := rfl
theorem o_Do1 {s1 : Bool} {P1 : PV} {e1 : Int} {s2 : Bool} {P2 : PV} {e2 : Int} {a : Ask} (h1 : RD (DP s1 P1 e1) a.x) (h2 : RD (DP s2 P2 e2) a.y) (ha : AskOk a) (sign : Int) {b : Nat} (hb : 32 ≤ b) (hb2 : b ≤ 8192) :
    PC E 155 [.int .i64 (b : Nat), .ref [.bool s1, P1, .int .i64 e1, .bool s2, P2, .int .i64 e2, .int .u64 (a.n : Nat), .bool a.neg, .int .i64 a.dir, .int .i64 a.f, .int .i64 a.t], .ref [.int .i64 sign]] (.tuple [.agg (ansC (tryS a sign b).1), .bool (tryS a sign b).2]) := by
  have k1 := o_try (p := .agg [.bool s1, P1, .int .i64 e1, .bool s2, P2, .int .i64 e2, .int .u64 (a.n : Nat), .bool a.neg, .int .i64 a.dir, .int .i64 a.f, .int .i64 a.t]) ⟨s1, P1, e1, s2, P2, e2, rfl, h1, h2⟩ ha sign hb hb2
  generalize tryS a sign b = T at *
  simp only [ansC_pv, NN, NL] at k1 ⊢
  refine PC.of_body follows Tryz.func155 (by decide +kernel) rfl (by kernel_rfl) (Nat.le_of_ble_eq_true rfl) (walk ?_)
  simp only [Tryz.f155, go_sem]
  refine qcall_i (k1) ?_; simp only [Tryz.f155, go_sem]
  try rfl
def runS (a : Ask) : (((Nat × Nat) × Iv) × Nat × Nat) × Nat := goS (fun n => (tryS a (sgS a) n).1) (fun n => (tryS a (sgS a) n).2) (planS a.f a.t) ans0 0 0
def doS (a : Ask) : Nat × Nat × Nat × Nat :=
  match exactO a with
  | some d => ((toS (sgnD d a.neg) false a.dir).1, (toS (sgnD d a.neg) false a.dir).2, 0, 0)
  | none => if (runS a).2 = 0 then ((runS a).1.1.1.1, (runS a).1.1.1.2, 0, (runS a).1.2.2)
    else match looseS (runS a).1.1.2 a.neg a.dir with
      | some r => (r.1, r.2 ||| 1, 1, (runS a).1.2.2)
      | none => (9221120237041090560, 1, 1, (runS a).1.2.2)
def doPV (r : Nat × Nat × Nat × Nat) : PV := .tuple [.agg [.int .u64 (r.1 : Nat), .int .u8 (r.2.1 : Nat), .int .i64 (r.2.2.1 : Nat)], .int .i64 (r.2.2.2 : Nat), .int .i64 0]
theorem goS_inv {A : Nat → (Nat × Nat) × Iv} {ok : Nat → Bool} {P : (Nat × Nat) × Iv → Prop} (hA : ∀ n, P (A n)) : ∀ (l : List Nat) (v : (Nat × Nat) × Iv) (b t : Nat), P v → P (goS A ok l v b t).1.1 ∧ (goS A ok l v b t).1.2.2 ≤ t + l.length ∧ ((goS A ok l v b t).2 = 0 ∨ (goS A ok l v b t).2 = 2)
  | [], v, b, t, h => ⟨h, Nat.le_refl _, .inr rfl⟩
  | n :: l, v, b, t, h => by
    unfold goS
    split
    · exact ⟨hA n, by simp, .inl rfl⟩
    · obtain ⟨h1, h2, h3⟩ := goS_inv (ok := ok) hA l (A n) n (t + 1) (hA n)
      exact ⟨h1, by rw [List.length_cons]; omega, h3⟩
theorem goS_mem {A : Nat → (Nat × Nat) × Iv} {ok : Nat → Bool} {P : (Nat × Nat) × Iv → Prop} : ∀ (l : List Nat) (v : (Nat × Nat) × Iv) (b t : Nat), (∀ n ∈ l, P (A n)) → P v → P (goS A ok l v b t).1.1
  | [], v, b, t, hA, h => h
  | n :: l, v, b, t, hA, h => by
    unfold goS
    split
    · exact hA n (by simp)
    · exact goS_mem l (A n) n (t + 1) (fun m hm => hA m (by simp [hm])) (hA n (by simp))
theorem try_lim {a : Ask} (ha : AskOk a) (sign : Int) {b : Nat} (hb : 32 ≤ b) : (tryS a sign b).1.2.lim 26200 := by
  have hz : Iv.zero.lim 26200 := ⟨Lim.zero _, Lim.zero _⟩
  have hsc := scS_range (y := a.y) hb
  unfold tryS
  by_cases h1 : boundS (zS a b) sign ≠ 0
  · rw [if_pos h1]; exact hz
  rw [if_neg h1]
  by_cases h2 : splitOk (zS a b) (scS a.y b)
  · rw [if_pos h2]
    have := expI_lim (i := zS a b) (s := scS a.y b) (by omega) (by omega) h2
    split
    · exact this
    · exact this
  · rw [if_neg h2]; exact hz
theorem run_lim {a : Ask} (ha : AskOk a) : (runS a).1.1.2.lim 26200 := goS_mem (P := fun v => v.2.lim 26200) _ _ _ _ (fun n hn => try_lim ha (sgS a) (planS_range ha.plan hn).1) ⟨Lim.zero _, Lim.zero _⟩
theorem run_facts (a : Ask) : (runS a).1.2.2 ≤ 9 ∧ ((runS a).2 = 0 ∨ (runS a).2 = 2) := by
  obtain ⟨-, h2, h3⟩ := goS_inv (P := fun _ => True) (A := fun n => (tryS a (sgS a) n).1) (ok := fun n => (tryS a (sgS a) n).2) (fun _ => trivial) (planS a.f a.t) ans0 0 0 trivial
  have := planL_len 8 a.f.toNat a.t.toNat
  have e : planS a.f a.t = planL 8 a.f.toNat a.t.toNat := rfl
  rw [e] at h2
  exact ⟨by show (goS _ _ (planS a.f a.t) ans0 0 0).1.2.2 ≤ 9; rw [e]; omega, h3⟩
theorem toS_flags (d : Dy) (more : Bool) (dir : Int) : (toS d more dir).2 = 0 ∨ (toS d more dir).2 = 1 ∨ (toS d more dir).2 = 3 ∨ (toS d more dir).2 = 5 := by
  unfold toS magS
  repeat' split
  all_goals simp
theorem or_one {f : Nat} (h : f = 0 ∨ f = 1 ∨ f = 3 ∨ f = 5) : bits .or .u8 (f : Int) 1 = ((f ||| 1 : Nat) : Int) := by
  rcases h with rfl | rfl | rfl | rfl <;> decide
theorem exactO_facts {a : Ask} (ha : AskOk a) {d : Dy} (h : exactO a = some d) : RD d.pv d ∧ bitLen d.m ≤ 60001 ∧ d.fits := by
  have one : RD (norm 1 0).pv (norm 1 0) ∧ bitLen (norm 1 0).m ≤ 60001 ∧ (norm 1 0).fits := by
    have hl : Lim 20 (norm 1 0) := Lim.norm (K := 20) (z := 1) (by decide) (by decide)
    exact ⟨hl.RD (by decide), by have := hl.bits; omega, hl.fits (by decide)⟩
  unfold exactO at h
  split at h
  · cases h; exact one
  split at h
  · rename_i hw
    have hod := ha.y.resolve_left (fun h => ha.y0 (by rw [h]; rfl))
    obtain ⟨f1, f2, f3, f4, f5, f6, f7⟩ := low_facts ha.y0 hod ha.n1 ha.nW
    have hK := exK_range hw.1.1
    have hp1 : 1 ≤ exK (lowD a.y a.n) * lowQ a.y a.n := Nat.mul_pos hK.1 f5
    generalize exK (lowD a.y a.n) * lowQ a.y a.n = KN at *
    have hg0 : 0 < Nat.gcd (exM (lowD a.y a.n)).natAbs KN := Nat.gcd_pos_of_pos_right _ (by omega)
    have hgK : Nat.gcd (exM (lowD a.y a.n)).natAbs KN ≤ KN := Nat.gcd_le_right _ (by omega)
    have hkq : 1 ≤ KN / Nat.gcd (exM (lowD a.y a.n)).natAbs KN := Nat.div_pos hgK hg0
    unfold powO at h
    split at h
    · cases h; exact one
    · split at h
      · cases h
      · rename_i r hr
        obtain ⟨g1, g2, g3, g4, g5⟩ := rootO_facts ha.x hkq hr
        split at h
        · cases h
        · rename_i p hp
          obtain ⟨q1, q2, q3, q4, q5⟩ := raisO_facts g1 hp
          split at h
          · cases h
            have hf : d.fits := ⟨by omega, by omega⟩
            exact ⟨RD.fit (.inr q1) (by omega) hf, q2, hf⟩
          · cases h
  · cases h
set_option maxHeartbeats 4000000 in
theorem o_Do {p : PV} {a : Ask} (h : RA p a) (ha : AskOk a) : PC E 95 [p, .np] (doPV (doS a)) := by
  have k1 := o_Right h ha
  have k2 := o_Exact h ha
  obtain ⟨R, hR⟩ : ∃ R, R = doPV (doS a) := ⟨_, rfl⟩
  rw [← hR]
  unfold doS at hR
  cases hx : exactO a with
  | some d =>
    rw [hx] at k2 hR
    obtain ⟨hRd, hbd, hfd⟩ := exactO_facts ha hx
    have k3 := r_MinusF hRd hfd
    have k4 : PC E 105 [(sgnD d a.neg).pv, .bool false, .int .i64 a.dir] (.tuple [u (toS (sgnD d a.neg) false a.dir).1, .int .u8 (toS (sgnD d a.neg) false a.dir).2, .int .i64 0]) := by
      have hs : RD (sgnD d a.neg).pv (sgnD d a.neg) ∧ (sgnD d a.neg).fits := by
        unfold sgnD
        split
        · have hf2 : d.neg.fits := by
            unfold Dy.neg
            split
            · decide
            · exact hfd
          exact ⟨RD.fit (neg_ok hRd.ok) (by
            unfold Dy.neg
            split
            · exact Nat.le_trans (show bitLen 0 ≤ 0 by decide) (Nat.zero_le _)
            · dsimp only; omega) hf2, hf2⟩
        · exact ⟨hRd, hfd⟩
      have := r_To hs.1 (by rw [sgnD_m]; omega) false a.dir
      rwa [if_pos (toE_of hs.2 ha.dir)] at this
    obtain ⟨s1, P1, e1, s2, P2, e2, rfl, h1, h2⟩ := h
    dsimp only at hR
    generalize toS (sgnD d a.neg) false a.dir = T at *
    obtain ⟨t1, t2⟩ := T
    unfold sgnD at k4
    cases hneg : a.neg with
    | true =>
      rw [hneg] at k1 k2 k4
      rw [if_pos rfl] at k4
      generalize d.neg = D2 at *
      simp only [exPVd, doPV, DP, Dy.pv, u, NN, NL] at k1 k2 k3 k4 hR ⊢
      refine PC.of_body follows Tryz.func95 (by decide +kernel) rfl (by kernel_rfl) (Nat.le_of_ble_eq_true rfl) (walk ?_)
      simp only [Tryz.f95, go_sem]
      refine qcall_i (k1) ?_; simp only [Tryz.f95, go_sem]
      refine qcall_i (k2) ?_; simp only [Tryz.f95, go_sem]
      refine qcall_i (k3) ?_; simp only [Tryz.f95, go_sem]
      refine qcall_i (k4) ?_; simp only [Tryz.f95, go_sem]
      first | (rw [hR]; done) | (rw [hR]; rfl)
    | false =>
      rw [hneg] at k1 k2 k4
      rw [if_neg Bool.false_ne_true] at k4
      simp only [exPVd, doPV, DP, Dy.pv, u, NN, NL] at k1 k2 k3 k4 hR ⊢
      refine PC.of_body follows Tryz.func95 (by decide +kernel) rfl (by kernel_rfl) (Nat.le_of_ble_eq_true rfl) (walk ?_)
      simp only [Tryz.f95, go_sem]
      refine qcall_i (k1) ?_; simp only [Tryz.f95, go_sem]
      refine qcall_i (k2) ?_; simp only [Tryz.f95, go_sem]
      refine qcall_i (k4) ?_; simp only [Tryz.f95, go_sem]
      first | (rw [hR]; done) | (rw [hR]; rfl)
  | none =>
    rw [hx] at k2 hR
    have k3 := c_Plan a.f a.t
    rw [if_pos ha.plan] at k3
    have k4 := o_Sign h ha
    obtain ⟨s1, P1, e1, s2, P2, e2, rfl, h1, h2⟩ := h
    have hlen := planL_len 8 a.f.toNat a.t.toNat
    have ePl : planS a.f a.t = planL 8 a.f.toNat a.t.toNat := rfl
    rw [← ePl] at hlen
    have k5 := c_Go (f := 155) (by kernel_rfl) (cs := [.ref [.bool s1, P1, .int .i64 e1, .bool s2, P2, .int .i64 e2, .int .u64 (a.n : Nat), .bool a.neg, .int .i64 a.dir, .int .i64 a.f, .int .i64 a.t], .ref [.int .i64 (sgS a)]]) (A := fun n => (tryS a (sgS a) n).1) (ok := fun n => (tryS a (sgS a) n).2) (P := planS a.f a.t) (by omega)
      (fun n hn => by
        obtain ⟨r1, r2, r3⟩ := planS_range ha.plan hn
        exact o_Do1 h1 h2 ha (sgS a) r1 r3)
    have eRun : goS (fun n => (tryS a (sgS a) n).1) (fun n => (tryS a (sgS a) n).2) (planS a.f a.t) ans0 0 0 = runS a := rfl
    rw [eRun] at k5
    have hlim := run_lim ha
    have hfacts := run_facts a
    have k6 := d_Loose (hlim.RI (by decide)) hlim (by decide) a.neg ha.dir
    have hfl : ∀ r, looseS (runS a).1.1.2 a.neg a.dir = some r → bits .or .u8 (r.2 : Int) 1 = ((r.2 ||| 1 : Nat) : Int) := fun r hr => by
      unfold looseS at hr
      split at hr
      · cases hr; exact or_one (toS_flags _ _ _)
      · cases hr
    have eRI : (runS a).1.1.2.pv = .agg [.bool (runS a).1.1.2.lo.s, NN (runS a).1.1.2.lo.m, .int .i64 (runS a).1.1.2.lo.e, .bool (runS a).1.1.2.hi.s, NN (runS a).1.1.2.hi.m, .int .i64 (runS a).1.1.2.hi.e] := rfl
    rw [eRI] at k6
    dsimp only at hR
    generalize looseS (runS a).1.1.2 a.neg a.dir = LO at *
    generalize runS a = RR at *
    generalize sgS a = sg at *
    generalize IL (planS a.f a.t) = IP at *
    generalize (planS a.f a.t).length = LP at *
    clear eRI eRun ePl
    obtain ⟨⟨⟨⟨b0, fl0⟩, iv⟩, nb, nt⟩, en⟩ := RR
    dsimp only at *
    have w0 : bits .or .u8 0 1 = 1 := by decide
    rcases hfacts.2 with h0 | h0
    · rw [if_pos h0] at hR
      subst h0
      simp only [exPVd, zero_pv, doPV, runC, ansC_pv, List.cons_append, List.nil_append, NN, NL] at k1 k2 k3 k4 k5 hR ⊢
      refine PC.of_body follows Tryz.func95 (by decide +kernel) rfl (by kernel_rfl) (Nat.le_of_ble_eq_true rfl) (walk ?_)
      simp only [Tryz.f95, go_sem]
      refine qcall_i (k1) ?_; simp only [Tryz.f95, go_sem]
      refine qcall_i (k2) ?_; simp only [Tryz.f95, go_sem]
      refine qcall_i (k3) ?_; simp only [Tryz.f95, go_sem]
      refine qcall_i (k4) ?_; simp only [Tryz.f95, go_sem]
      refine qcall_i (k5) ?_; simp only [Tryz.f95, go_sem]
      try (refine qif_dt (by decide) ?_)
      try simp only [Tryz.f95, go_sem]
      first | (rw [hR]; done) | (rw [hR]; rfl)
    · rw [if_neg (by omega)] at hR
      subst h0
      cases LO with
      | some r =>
        obtain ⟨lb, lf⟩ := r
        have wl := hfl _ rfl
        dsimp only at wl
        simp only [exPVd, zero_pv, doPV, bfoPV, u, runC, ansC_pv, List.cons_append, List.nil_append, NN, NL] at k1 k2 k3 k4 k5 k6 hR ⊢
        refine PC.of_body follows Tryz.func95 (by decide +kernel) rfl (by kernel_rfl) (Nat.le_of_ble_eq_true rfl) (walk ?_)
        simp only [Tryz.f95, go_sem]
        refine qcall_i (k1) ?_; simp only [Tryz.f95, go_sem]
        refine qcall_i (k2) ?_; simp only [Tryz.f95, go_sem]
        refine qcall_i (k3) ?_; simp only [Tryz.f95, go_sem]
        refine qcall_i (k4) ?_; simp only [Tryz.f95, go_sem]
        refine qcall_i (k5) ?_; simp only [Tryz.f95, go_sem]
        try (refine qif_df (by decide) ?_)
        try simp only [Tryz.f95, go_sem]
        refine qcall_i (k6) ?_; simp only [Tryz.f95, wl, go_sem]
        first | (rw [hR]; done) | (rw [hR]; rfl)
      | none =>
        simp only [exPVd, zero_pv, doPV, bfoPV, u, runC, ansC_pv, List.cons_append, List.nil_append, NN, NL] at k1 k2 k3 k4 k5 k6 hR ⊢
        refine PC.of_body follows Tryz.func95 (by decide +kernel) rfl (by kernel_rfl) (Nat.le_of_ble_eq_true rfl) (walk ?_)
        simp only [Tryz.f95, go_sem]
        refine qcall_i (k1) ?_; simp only [Tryz.f95, go_sem]
        refine qcall_i (k2) ?_; simp only [Tryz.f95, go_sem]
        refine qcall_i (k3) ?_; simp only [Tryz.f95, go_sem]
        refine qcall_i (k4) ?_; simp only [Tryz.f95, go_sem]
        refine qcall_i (k5) ?_; simp only [Tryz.f95, go_sem]
        try (refine qif_df (by decide) ?_)
        try simp only [Tryz.f95, go_sem]
        refine qcall_i (k6) ?_; simp only [Tryz.f95, w0, go_sem]
        first | (rw [hR]; done) | (rw [hR]; rfl)
end
end
section
section
open Go PG Go.Proofs
def resA (o : Option (Nat × Nat)) : PV := match o with
  | some (b, f) => .agg [.int .u64 b, .int .u8 f, .int .i64 0]
  | none => .agg [.int .u64 0, .int .u8 0, .int .i64 0]
end
section
open Go PG Go.Proofs
def podd (n : Int) : Bool := decide (n % 2 = 1)
def endsS (x : Nat) (n : Int) : Option (Nat × Nat) :=
  if kind x = 0 then (if n < 0 then some (sgd bInf x (podd n), 8) else some (sgd 0 x (podd n), 0))
  else if kind x = 3 then (if n < 0 then some (sgd 0 x (podd n), 0) else some (sgd bInf x (podd n), 0)) else none
def pownS (x : Nat) (n : Int) : Option (Nat × Nat) := if kind x = 5 then some (bNaN, 16) else if n = 0 then some (bOne, 0) else if kind x = 4 then some (bNaN, 0) else endsS x n
def rootnS (x : Nat) (n : Int) : Option (Nat × Nat) :=
  if kind x = 5 then some (bNaN, 16) else if kind x = 4 then some (bNaN, 0) else if n = 0 then some (bNaN, 16) else if fs x = true ∧ ¬ kind x = 0 ∧ podd n = false then some (bNaN, 16) else endsS x n
def compS (x : Nat) (n : Int) : Option (Nat × Nat) :=
  if kind x = 5 then some (bNaN, 16) else if ¬ kind x = 4 ∧ fs x = true ∧ 4607182418800017408 < fsz x then some (bNaN, 16)
  else if n = 0 then some (bOne, 0) else if kind x = 4 then some (bNaN, 0)
  else if fs x = true ∧ fsz x = 4607182418800017408 then (if n < 0 then some (bInf, 8) else some (0, 0))
  else if kind x = 0 then some (bOne, 0) else if kind x = 3 then (if n < 0 then some (0, 0) else some (bInf, 0)) else none
end
end
section
section
open Go PG Go.Proofs
open XX
def hvv (dir f t : Int) : PV := .agg [.int .i64 dir, .int .i64 f, .int .i64 t, .np]
def hOk (dir f t : Int) : Prop := planOk f t ∧ 0 ≤ dir ∧ dir ≤ 3
instance (dir f t : Int) : Decidable (hOk dir f t) := inferInstanceAs (Decidable (_ ∧ _))
theorem w_Plain : PC E 13 [] (hvv 0 64 1024) := by
  unfold hvv
  refine PC.of_body follows Tryz.func13 (by decide +kernel) rfl (by kernel_rfl) (Nat.le_of_ble_eq_true rfl) (walk ?_)
  simp only [Tryz.f13, go_sem]
  try rfl
theorem w_right (dir f t : Int) : PC E 94 [hvv dir f t] (.bool (decide (hOk dir f t))) := by
  have k1 := c_Plan f t
  unfold hvv
  obtain ⟨R, hR⟩ : ∃ R, R = PV.bool (decide (hOk dir f t)) := ⟨_, rfl⟩
  rw [← hR]
  by_cases c1 : planOk f t
  case neg =>
    rw [if_neg c1] at k1
    rw [decide_eq_false (fun h : hOk dir f t => c1 h.1)] at hR
    refine PC.of_body follows Tryz.func94 (by decide +kernel) rfl (by kernel_rfl) (Nat.le_of_ble_eq_true rfl) (walk ?_)
    simp only [Tryz.f94, go_sem]
    refine qcall_i (k1) ?_; simp only [Tryz.f94, go_sem]
    first | (rw [hR]; done) | (rw [hR]; rfl)
  rw [if_pos c1] at k1
  have e : decide (hOk dir f t) = decide (0 ≤ dir ∧ dir ≤ 3) := decide_eq_decide.2 ⟨fun h => h.2, fun h => ⟨c1, h⟩⟩
  rw [e] at hR
  generalize IL (planS f t) = IP at *
  generalize (planS f t).length = LP at *
  refine PC.of_body follows Tryz.func94 (by decide +kernel) rfl (by kernel_rfl) (Nat.le_of_ble_eq_true rfl) (walk ?_)
  simp only [Tryz.f94, go_sem]
  refine qcall_i (k1) ?_; simp only [Tryz.f94, go_sem]
  refine qif_d (fun h => ?_) (fun h => ?_)
  · simp only [Tryz.f94, go_sem]
    rw [hR]
    congr 1
    exact decide_eq_decide.2 (by omega)
  · simp only [Tryz.f94, go_sem]
    rw [hR]
    congr 1
    exact (decide_eq_false (by omega)).symm
def resC (r : Nat × Nat) : PV := .agg [.int .u64 (r.1 : Nat), .int .u8 (r.2 : Nat), .int .i64 0]
theorem w_doesArg {dir f t : Int} (h : ¬ hOk dir f t) (r : Nat × Nat) (b : Bool) (g : FuncId) (cs : List PV) : PC E 41 [hvv dir f t, resC r, .bool b, .clo g cs] (.tuple [.agg [.int .u64 0, .int .u8 0, .int .i64 0], .int .i64 0, .int .i64 1]) := by
  have k1 := w_right dir f t
  rw [decide_eq_false h] at k1
  unfold hvv at *
  unfold resC
  refine PC.of_body follows Tryz.func41 (by decide +kernel) rfl (by kernel_rfl) (Nat.le_of_ble_eq_true rfl) (walk ?_)
  simp only [Tryz.f41, go_sem]
  refine qcall_i (k1) ?_; simp only [Tryz.f41, go_sem]
  try rfl
theorem w_doesIs {dir f t : Int} (h : hOk dir f t) (r : Nat × Nat) (g : FuncId) (cs : List PV) : PC E 41 [hvv dir f t, resC r, .bool true, .clo g cs] (.tuple [resC r, .int .i64 0, .int .i64 0]) := by
  have k1 := w_right dir f t
  rw [decide_eq_true h] at k1
  unfold hvv at *
  unfold resC
  refine PC.of_body follows Tryz.func41 (by decide +kernel) rfl (by kernel_rfl) (Nat.le_of_ble_eq_true rfl) (walk ?_)
  simp only [Tryz.f41, go_sem]
  refine qcall_i (k1) ?_; simp only [Tryz.f41, go_sem]
  try rfl
theorem w_does {dir f t : Int} (h : hOk dir f t) (r : Nat × Nat) {g : FuncId} (hmu : E.mu g = false) {cs : List PV} {p : PV} {a : Ask} (hp : RA p a) (ha : AskOk a) (hc : PC E g cs p) : PC E 41 [hvv dir f t, resC r, .bool false, .clo g cs] (doPV (doS a)) := by
  have k1 := w_right dir f t
  rw [decide_eq_true h] at k1
  have k2 := o_Do hp ha
  rw [E_mu] at hmu
  generalize doS a = D at *
  obtain ⟨d1, d2, d3, d4⟩ := D
  obtain ⟨s1, P1, e1, s2, P2, e2, rfl, h1, h2⟩ := hp
  unfold hvv at *
  unfold resC
  simp only [doPV] at k2 ⊢
  refine PC.of_body follows Tryz.func41 (by decide +kernel) rfl (by kernel_rfl) (Nat.le_of_ble_eq_true rfl) (walk ?_)
  simp only [Tryz.f41, hmu, go_sem]
  refine qcall_i (k1) ?_; simp only [Tryz.f41, hmu, go_sem]
  refine qcall_i (hc) ?_; simp only [Tryz.f41, hmu, go_sem]
  refine qcall_i (k2) ?_; simp only [Tryz.f41, go_sem]
  try rfl
theorem RD.lst {s : Bool} {P : PV} {e : Int} {d : Dy} (h : RD (DP s P e) d) : ∃ n cs, P = .lst n cs := by
  obtain ⟨s', q, x, e', hp, ⟨l, rfl, -⟩, -⟩ := h
  simp only [DP, PV.agg.injEq, List.cons.injEq] at hp
  exact ⟨_, _, hp.2.1⟩
theorem w_ask {s1 : Bool} {n1 : Nat} {c1 : List PV} {e1 : Int} {s2 : Bool} {n2 : Nat} {c2 : List PV} {e2 : Int} (n : Nat) (neg : Bool) (dir f t : Int) :
    PC E 96 [.agg [.bool s1, .lst n1 c1, .int .i64 e1], .agg [.bool s2, .lst n2 c2, .int .i64 e2], .int .u64 n, .bool neg, hvv dir f t] (.agg [.bool s1, .lst n1 c1, .int .i64 e1, .bool s2, .lst n2 c2, .int .i64 e2, .int .u64 n, .bool neg, .int .i64 dir, .int .i64 f, .int .i64 t]) := by
  unfold hvv
  refine PC.of_body follows Tryz.func96 (by decide +kernel) rfl (by kernel_rfl) (Nat.le_of_ble_eq_true rfl) (walk ?_)
  simp only [Tryz.f96, go_sem]
  try rfl
def askA (x : Nat) (y : Dy) (n : Nat) (neg : Bool) (dir f t : Int) : Ask := ⟨fd (fsz x), y, n, neg, dir, f, t⟩
theorem fe_fsz (b : Nat) : fe (fsz b) = fe b := (fm_fsz b).2
theorem fsz2 (b : Nat) : fsz (fsz b) = fsz b := Nat.mod_eq_of_lt (fsz_lt b)
theorem w_Asked {x : Nat} (hx : x < W) (hf : fe x < 2047) {p : PV} {y : Dy} (hy : RD p y) (n : Nat) (neg : Bool) (dir f t : Int) :
    ∃ r, PC E 43 [u x, p, .int .u64 n, .bool neg, hvv dir f t] r ∧ RA r (askA x y n neg dir f t) := by
  have e1 := n63 hx
  have k1 := r_FDyad (b := fsz x) (Nat.lt_trans (fsz_lt x) (by decide))
  rw [fe_fsz, if_pos hf] at k1
  generalize decide (fe x < 2047) = bb at *
  have hR := RD.fd (fsz x)
  have hy' := hy
  obtain ⟨s2, P2, x2, e2, rfl, -⟩ := hy'
  obtain ⟨n2, c2, rfl⟩ := RD.lst hy
  have k2 := w_ask (s1 := (fd (fsz x)).s) (n1 := (dg W (fd (fsz x)).m).length) (c1 := U (dg W (fd (fsz x)).m)) (e1 := (fd (fsz x)).e) (s2 := s2) (n2 := n2) (c2 := c2) (e2 := e2) n neg dir f t
  refine ⟨_, ?_, (fd (fsz x)).s, NN (fd (fsz x)).m, (fd (fsz x)).e, s2, .lst n2 c2, e2, rfl, hR, hy⟩
  show PC E _ _ (.agg [.bool (fd (fsz x)).s, NN (fd (fsz x)).m, .int .i64 (fd (fsz x)).e, .bool s2, .lst n2 c2, .int .i64 e2, .int .u64 n, .bool neg, .int .i64 dir, .int .i64 f, .int .i64 t])
  generalize fd (fsz x) = D at *
  unfold hvv at *
  simp only [DP, Dy.pv, u, NN, NL] at k1 k2 ⊢
  refine PC.of_body follows Tryz.func43 (by decide +kernel) rfl (by kernel_rfl) (Nat.le_of_ble_eq_true rfl) (walk ?_)
  simp only [Tryz.f43, go_sem]
  simp only [Tryz.f43, e1, go_sem]
  refine qcall_i (k1) ?_; simp only [Tryz.f43, go_sem]
  refine qcall_i (k2) ?_; simp only [Tryz.f43, go_sem]
  try rfl
theorem fin_ask {x : Nat} (hf : fe x < 2047) (h0 : fsz x ≠ 0) : LgOk (fd (fsz x)) ∧ -1074 ≤ (fd (fsz x)).top ∧ (fd (fsz x)).top ≤ 1153 ∧ bitLen (fd (fsz x)).m ≤ 53 := by
  have hm : (fd (fsz x)).m ≠ 0 := fun h => h0 (by
    have := (fd_m0 (b := fsz x) (by rw [fe_fsz]; exact hf)).1 h
    rwa [fsz2] at this)
  have he := fd_e (fsz x)
  have hb := fd_bits (fsz x)
  have hl := (fd_lim (fsz x)).top_lt hm
  have hb0 := bitLen_pos hm
  have ht := top_eq hm
  have hs : (fd (fsz x)).s = false := by
    rw [fd_s hm]
    exact fs_small (fsz_lt x)
  exact ⟨⟨fd_ok' _, hs, hm, by omega, by omega, by omega⟩, by omega, by omega, hb⟩
theorem fin_y {y : Nat} (hf : fe y < 2047) (h0 : fsz y ≠ 0) : (fd y).m ≠ 0 ∧ bitLen (fd y).m ≤ 64 ∧ -1100 ≤ (fd y).top ∧ (fd y).top ≤ 1100 := by
  have hm : (fd y).m ≠ 0 := fun h => h0 ((fd_m0 hf).1 h)
  have he := fd_e y
  have hb := fd_bits y
  have hb0 := bitLen_pos hm
  have ht := top_eq hm
  exact ⟨hm, by omega, by omega, by omega⟩
theorem askOk_fin {x : Nat} (hf : fe x < 2047) (h0 : fsz x ≠ 0) {y : Dy} (hy : y.ok) (hy0 : y.m ≠ 0) (hyb : bitLen y.m ≤ 64) (hyt : -1100 ≤ y.top ∧ y.top ≤ 1100) {n : Nat} (hn1 : 1 ≤ n) (hn : n < W) {neg : Bool} {dir f t : Int} (h : hOk dir f t) : AskOk (askA x y n neg dir f t) := by
  obtain ⟨a1, a2, a3, a4⟩ := fin_ask hf h0
  exact ⟨a1, ⟨by show -2200 ≤ (fd (fsz x)).top; omega, by show (fd (fsz x)).top ≤ 2200; omega⟩, by show bitLen (fd (fsz x)).m ≤ _; omega, hy, hy0, hyb, hyt, hn1, hn, h.2, h.1⟩
end
section
open Go PG Go.Proofs
open XX
theorem kind_fin {b : Nat} (h : kind b = 1 ∨ kind b = 2) : fe b < 2047 ∧ fsz b ≠ 0 := by
  have hk : kind b ≠ 0 ∧ kind b ≤ 2 := by omega
  constructor
  · refine Nat.not_le.1 fun h1 => ?_
    have h2 := hk.2
    unfold kind at h2
    rw [if_neg (by omega), if_neg (by omega), if_neg (by omega)] at h2
    split at h2
    · omega
    · split at h2 <;> omega
  · intro h0
    refine hk.1 ?_
    unfold kind
    have : fe b = 0 ∧ ff b = 0 := by
      unfold fsz at h0
      unfold fe ff
      omega
    rw [if_pos this]
theorem powS_none {x y : Nat} (h : powS x y = none) : (kind x = 1 ∨ kind x = 2) ∧ (kind y = 1 ∨ kind y = 2) := by
  have h1 := kind_le x
  have h2 := kind_le y
  unfold powS at h
  split at h
  · cases h
  split at h
  · cases h
  split at h
  · cases h
  split at h
  · split at h
    · split at h <;> cases h
    · cases h
  split at h
  · split at h
    · cases h
    · split at h <;> cases h
  split at h
  · split at h <;> cases h
  omega
def opPV (o : Option (Nat × Nat)) (dir f t : Int) (a : Ask) : PV :=
  if hOk dir f t then (match o with | some r => doPV (r.1, r.2, 0, 0) | none => doPV (doS a)) else .tuple [resC (0, 0), .int .i64 0, .int .i64 1]
def resD (o : Option (Nat × Nat)) : Nat × Nat := o.getD (0, 0)
theorem resPV_C (o : Option (Nat × Nat)) : resPV o = .tuple [resC (resD o), .bool o.isSome] := by cases o <;> rfl
theorem w_doesO {dir f t : Int} (o : Option (Nat × Nat)) {g : FuncId} (hmu : E.mu g = false) {cs : List PV} {a : Ask} (hc : o = none → hOk dir f t → ∃ p, RA p a ∧ AskOk a ∧ PC E g cs p) :
    PC E 41 [hvv dir f t, resC (resD o), .bool o.isSome, .clo g cs] (opPV o dir f t a) := by
  unfold opPV
  by_cases h : hOk dir f t
  · rw [if_pos h]
    cases o with
    | some r => exact w_doesIs h r g cs
    | none =>
      obtain ⟨p, h1, h2, h3⟩ := hc rfl h
      exact w_does h _ hmu h1 h2 h3
  · rw [if_neg h]
    exact w_doesArg h _ _ g cs
theorem w_Pow1 {x y : Nat} (hx : x < W) (hy : y < W) (fx : fe x < 2047) (fy : fe y < 2047) (dir f t : Int) :
    ∃ r, PC E 71 [.ref [u y], .ref [u x], .ref [.int .i64 dir, .int .i64 f, .int .i64 t, .np]] r ∧ RA r (askA x (fd y) 1 (fs x && od y) dir f t) := by
  obtain ⟨r, k4, hr⟩ := w_Asked hx fx (RD.fd y) 1 (fs x && od y) dir f t
  refine ⟨r, ?_, hr⟩
  have k1 := c_Whole' y hy
  have k2 := r_FDyad hy
  rw [if_pos fy, decide_eq_true fy] at k2
  have k3 := c_Neg x hx
  obtain ⟨s1, P1, e1, s2, P2, e2, rfl, h1, h2⟩ := hr
  have e1' : ((1 : Nat) : Int) = 1 := rfl
  generalize wh y = w1 at *
  generalize fd y = D at *
  unfold hvv at k4
  simp only [DP, Dy.pv, u, NN, NL, askA, e1'] at k1 k2 k3 k4 ⊢
  cases hs : fs x with
  | true =>
    rw [hs] at k3 k4
    rw [Bool.true_and] at k4 ⊢
    refine PC.of_body follows Tryz.func71 (by decide +kernel) rfl (by kernel_rfl) (Nat.le_of_ble_eq_true rfl) (walk ?_)
    simp only [Tryz.f71, go_sem]
    refine qcall_i (k1) ?_; simp only [Tryz.f71, go_sem]
    refine qcall_i (k2) ?_; simp only [Tryz.f71, go_sem]
    refine qcall_i (k3) ?_; simp only [Tryz.f71, go_sem]
    refine qcall_i (k4) ?_; simp only [Tryz.f71, go_sem]
    try rfl
  | false =>
    rw [hs] at k3 k4
    rw [Bool.false_and] at k4 ⊢
    refine PC.of_body follows Tryz.func71 (by decide +kernel) rfl (by kernel_rfl) (Nat.le_of_ble_eq_true rfl) (walk ?_)
    simp only [Tryz.f71, go_sem]
    refine qcall_i (k1) ?_; simp only [Tryz.f71, go_sem]
    refine qcall_i (k2) ?_; simp only [Tryz.f71, go_sem]
    refine qcall_i (k3) ?_; simp only [Tryz.f71, go_sem]
    refine qcall_i (k4) ?_; simp only [Tryz.f71, go_sem]
    try rfl
theorem w_Pow {x y : Nat} (hx : x < W) (hy : y < W) (dir f t : Int) : PC E 26 [u x, u y, hvv dir f t] (opPV (powS x y) dir f t (askA x (fd y) 1 (fs x && od y) dir f t)) := by
  have k1 := c_Pow x y hx hy
  rw [resPV_C] at k1
  have k2 := w_doesO (dir := dir) (f := f) (t := t) (powS x y) (g := 71) (by kernel_rfl) (cs := [.ref [u y], .ref [u x], .ref [.int .i64 dir, .int .i64 f, .int .i64 t, .np]]) (a := askA x (fd y) 1 (fs x && od y) dir f t) (fun ho hk => by
    obtain ⟨kx, ky⟩ := powS_none ho
    obtain ⟨fx, x0⟩ := kind_fin kx
    obtain ⟨fy, y0⟩ := kind_fin ky
    obtain ⟨r, q1, q2⟩ := w_Pow1 hx hy fx fy dir f t
    obtain ⟨g1, g2, g3⟩ := fin_y fy y0
    exact ⟨r, q2, askOk_fin fx x0 (fd_ok' y) g1 g2 g3 (Nat.le_refl 1) (by decide) hk, q1⟩)
  have ho : ∃ a b c d e, opPV (powS x y) dir f t (askA x (fd y) 1 (fs x && od y) dir f t) = .tuple [.agg [.int .u64 a, .int .u8 b, .int .i64 c], .int .i64 d, .int .i64 e] := by
    unfold opPV
    split
    · split <;> exact ⟨_, _, _, _, _, rfl⟩
    · exact ⟨_, _, _, _, _, rfl⟩
  obtain ⟨a1, a2, a3, a4, a5, ho⟩ := ho
  rw [ho] at k2 ⊢
  generalize resD (powS x y) = RR at *
  generalize (powS x y).isSome = bb at *
  simp only [resC, hvv, u] at k1 k2 ⊢
  refine PC.of_body follows Tryz.func26 (by decide +kernel) rfl (by kernel_rfl) (Nat.le_of_ble_eq_true rfl) (walk ?_)
  simp only [Tryz.f26, go_sem]
  refine qcall_i (k1) ?_; simp only [Tryz.f26, go_sem]
  refine qcall_i (k2) ?_; simp only [Tryz.f26, go_sem]
  try rfl
end
section
open Go PG Go.Proofs
open XX
def pownA (x : Nat) (n : Int) (dir f t : Int) : Ask := askA x (norm n 0) 1 (fs x && podd n) dir f t
def rootA (x : Nat) (n : Int) (dir f t : Int) : Ask := askA x (mkD (decide (n < 0)) 1 0) n.natAbs (fs x) dir f t
def onePlus (x : Nat) : Dy := addS (norm 1 0) (fd x)
def compA (x : Nat) (n : Int) (dir f t : Int) : Ask := ⟨onePlus x, norm n 0, 1, false, dir, f, t⟩
end
section
open Go PG Go.Proofs
open XX
theorem alive_val : doS (askA 4611686018427387904 (fd 4602678819172646912) 1 (fs 4611686018427387904 && od 4602678819172646912) 0 64 1024) = (4609047870845172685, 1, 0, 1) := by decide +kernel
theorem alive_none : powS 4611686018427387904 4602678819172646912 = none := by decide +kernel
theorem l_alive : PC E 10 [] (.bool true) := by
  have k1 := w_Plain
  have k2 := w_Pow (x := 4611686018427387904) (y := 4602678819172646912) (by decide) (by decide) 0 64 1024
  have hh : hOk 0 64 1024 := by decide
  unfold opPV at k2
  rw [if_pos hh, alive_none] at k2
  dsimp only at k2
  rw [alive_val] at k2
  unfold hvv at k1 k2
  simp only [doPV, u, Int.cast_ofNat_Int] at k2
  refine PC.of_body follows Tryz.func10 (by decide +kernel) rfl (by kernel_rfl) (Nat.le_of_ble_eq_true rfl) (walk ?_)
  simp only [Tryz.f10, go_sem]
  refine qcall_i (k1) ?_; simp only [Tryz.f10, go_sem]
  refine qcall_i (k2) ?_; simp only [Tryz.f10, go_sem]
  try rfl
def opv (k : Int) (x y : Nat) (n : Int) : PV := .agg [.int .i64 k, .int .u64 (x : Nat), .int .u64 (y : Nat), .int .i64 n]
def wayv (dir f t : Int) : PV := .agg [.int .i64 dir, .int .i64 f, .int .i64 t]
def farW (t : Int) : Prop := 1024 < t ∧ t ≤ 8192
instance (t : Int) : Decidable (farW t) := inferInstanceAs (Decidable (_ ∧ _))
def opO (k : Int) (x y : Nat) (n : Int) : Option (Nat × Nat) := if k = 0 then powS x y else if k = 1 then pownS x n else if k = 2 then rootnS x n else compS x n
def opA (k : Int) (x y : Nat) (n : Int) (dir f t : Int) : Ask :=
  if k = 0 then askA x (fd y) 1 (fs x && od y) dir f t else if k = 1 then pownA x n dir f t else if k = 2 then rootA x n dir f t else compA x n dir f t
end
section
open Go PG Go.Proofs Go.RowKit
def pI64 (l : List PV) : Prop := ∃ n : Int, l = [.int .i64 n] ∧ IntKind.min .i64 ≤ n ∧ n ≤ IntKind.max .i64
def pU64 (l : List PV) : Prop := ∃ n : Int, l = [.int .u64 n] ∧ IntKind.min .u64 ≤ n ∧ n ≤ IntKind.max .u64
def in64 (n : Int) : Prop := -9223372036854775808 ≤ n ∧ n < 9223372036854775808
def qOp (p : PV) : Prop := ∃ (k : Int) (x y : Nat) (n : Int), p = opv k x y n ∧ in64 k ∧ x < W ∧ y < W ∧ in64 n
def qWay (p : PV) : Prop := ∃ (d f t : Int), p = wayv d f t ∧ in64 d ∧ in64 f ∧ in64 t
end
end
section
open XX
theorem LayF : lk E.P 110 = .one ∧ sz E.P 110 = some 1 := ⟨by kernel_rfl, by kernel_rfl⟩
theorem e_is {b : Nat} : PC E 50 [u b] (.tuple [.agg [.int .u64 (b : Nat), .int .u8 0, .int .i64 0], .int .i64 0, .int .i64 0]) := by
  simp only [u]
  refine PC.of_body follows Tryz.func50 (by decide +kernel) rfl (by kernel_rfl) (Nat.le_of_ble_eq_true rfl) (walk ?_)
  simp only [Tryz.f50, go_sem]
  try rfl
theorem e_early {x : Nat} (hx : x < W) (hk : kind x ≤ 3) {dir f t : Int} (h : hOk dir f t) : PC E 49 [u x, hvv dir f t] (.tuple [.agg [.int .u64 0, .int .u8 0, .int .i64 0], .int .i64 0, .bool false]) := by
  have k1 := c_Plan f t
  rw [if_pos h.1] at k1
  have k2 := c_Kind x hx
  have g1 : decide (dir < 0) = false := decide_eq_false (by have := h.2.1; omega)
  have g2 : decide (dir > 3) = false := decide_eq_false (by have := h.2.2; omega)
  generalize (planS f t).length = LP at *
  generalize IL (planS f t) = IP at *
  simp only [hvv, u] at k1 k2 ⊢
  refine PC.of_body follows Tryz.func49 (by decide +kernel) rfl (by kernel_rfl) (Nat.le_of_ble_eq_true rfl) (walk ?_)
  simp only [Tryz.f49, go_sem]
  refine qcall_i (k1) ?_; simp only [Tryz.f49, go_sem]
  refine qcall_i (k2) ?_; simp only [Tryz.f49, g1, g2, go_sem]
  refine qif_df (by omega) ?_
  simp only [Tryz.f49, go_sem]
  refine qif_df (by omega) ?_
  simp only [Tryz.f49, go_sem]
  try rfl
def eTry (I : Nat → Option Iv) (neg : Bool) (dir : Int) (n : Nat) : ((Nat × Nat) × Iv) × Bool :=
  match I n with
  | none => (((0, 0), Iv.zero), false)
  | some i => match roundS i neg dir with
    | some r => ((r, i), true)
    | none => (((0, 0), i), false)
def hold (o : Option Iv) : PV := match o with
  | some i => .tuple [i.pv, .int .i64 0]
  | none => .tuple [Iv.zero.pv, .int .i64 1]
theorem e_run1 {fh : Nat} (hmu : E.mu fh = false) {ch : List PV} {I : Nat → Option Iv} {n : Nat} (hh : PC E fh (.int .i64 (n : Nat) :: ch) (hold (I n))) {K : Nat} (hl : ∀ i, I n = some i → i.lim K) (hK : K ≤ 200000) (neg : Bool) {dir f t : Int} (hd : 0 ≤ dir ∧ dir ≤ 3) :
    PC E 107 [.int .i64 (n : Nat), .ref [.clo fh ch], .ref [.bool neg], .ref [.int .i64 dir, .int .i64 f, .int .i64 t, .np]] (.tuple [.agg (ansC (eTry I neg dir n).1), .bool (eTry I neg dir n).2]) := by
  rw [E_mu] at hmu
  obtain ⟨R, hR⟩ : ∃ R, R = PV.tuple [.agg (ansC (eTry I neg dir n).1), .bool (eTry I neg dir n).2] := ⟨_, rfl⟩
  rw [← hR]
  unfold eTry at hR
  cases hI : I n with
  | none =>
    rw [hI] at hh hR
    simp only [hold, Iv.pv, Iv.zero, Dy.zero, ansC, NN0] at hh hR
    refine PC.of_body follows Tryz.func107 (by decide +kernel) rfl (by kernel_rfl) (Nat.le_of_ble_eq_true rfl) (walk ?_)
    simp only [Tryz.f107, hmu, LayF, go_sem]
    refine qcall_i (hh) ?_; simp only [Tryz.f107, hmu, go_sem]
    first | (rw [hR]; done) | (rw [hR]; rfl)
  | some i =>
    rw [hI] at hh hR
    have li := hl i hI
    have k4 := d_Round (li.RI (by omega)) li hK neg hd
    dsimp only at hR
    generalize roundS i neg dir = O at *
    cases O with
    | some r =>
      obtain ⟨r1, r2⟩ := r
      simp only [hold, Dy.pv, Iv.pv, NN, NL, bfoPV, u, ansC] at hh k4 hR
      refine PC.of_body follows Tryz.func107 (by decide +kernel) rfl (by kernel_rfl) (Nat.le_of_ble_eq_true rfl) (walk ?_)
      simp only [Tryz.f107, hmu, LayF, go_sem]
      refine qcall_i (hh) ?_; simp only [Tryz.f107, hmu, go_sem]
      refine qcall_i (k4) ?_; simp only [Tryz.f107, go_sem]
      first | (rw [hR]; done) | (rw [hR]; rfl)
    | none =>
      simp only [hold, Dy.pv, Iv.pv, NN, NL, bfoPV, u, ansC] at hh k4 hR
      refine PC.of_body follows Tryz.func107 (by decide +kernel) rfl (by kernel_rfl) (Nat.le_of_ble_eq_true rfl) (walk ?_)
      simp only [Tryz.f107, hmu, LayF, go_sem]
      refine qcall_i (hh) ?_; simp only [Tryz.f107, hmu, go_sem]
      refine qcall_i (k4) ?_; simp only [Tryz.f107, go_sem]
      first | (rw [hR]; done) | (rw [hR]; rfl)
end
section
open XX
def flOk (f : Nat) : Prop := f = 0 ∨ f = 1 ∨ f = 3 ∨ f = 5
end
theorem c_Beside (b : Nat) (hb : b < W) : PC E 27 [u b] (if fe b < 2047 ∧ fsz b ≠ 0 then .tuple [(mid (fsz b - 1)).pv, (mid (fsz b)).pv, .bool true] else .tuple [Dy.zero.pv, Dy.zero.pv, .bool false]) := by
  refine PC.of_body follows Tryz.func27 (by decide +kernel) rfl (by kernel_rfl) (Nat.le_of_ble_eq_true rfl) (walk ?_)
  have k1 := c_Finite b hb
  have hn := n63 hb
  have hz := fsz_lt b
  have hzW : fsz b < W := Nat.lt_trans hz (by decide)
  by_cases hf : fe b < 2047
  · rw [decide_eq_true hf] at k1
    by_cases h0 : fsz b = 0
    · rw [if_neg (fun h => h.2 h0)]
      simp only [u, Dy.pv, Dy.zero, DP, NN, NL] at k1 ⊢
      simp only [Tryz.f27, hn, go_sem]
      refine qcall_i (k1) ?_; simp only [Tryz.f27, go_sem]
      refine qif_dt (by omega) ?_
      simp only [Tryz.f27, go_sem]
      exact ⟨rfl, rfl⟩
    · rw [if_pos ⟨hf, h0⟩]
      have hI := fsz_INF.1 hf
      have hI' := INF_lt
      have k2 := c_Middle (fsz b - 1) (Nat.lt_of_le_of_lt (Nat.sub_le _ _) hzW)
      have k3 := c_Middle (fsz b) hzW
      have f1 : fe (fsz b - 1) < 2047 := fsz_INF.2 (by unfold fsz; rw [Nat.mod_eq_of_lt (by unfold fsz at *; omega)]; unfold fsz at *; omega)
      have f2 : fe (fsz b) < 2047 := by rw [(fm_fsz b).2]; exact hf
      rw [if_pos f1] at k2
      rw [if_pos f2] at k3
      have s1 : mdS (fsz b - 1) = mid (fsz b - 1) := by unfold mdS; rw [fs_small (by omega)]; rfl
      have s2 : mdS (fsz b) = mid (fsz b) := by unfold mdS; rw [fs_small (by omega)]; rfl
      rw [s1] at k2
      rw [s2] at k3
      have w1 := wrapu (x := (fsz b : Int) - 1) (n := fsz b - 1) (by omega) (Nat.lt_of_le_of_lt (Nat.sub_le _ _) hzW)
      generalize mid (fsz b - 1) = m1 at *
      generalize mid (fsz b) = m2 at *
      simp only [u, Dy.pv, Dy.zero, DP, NN, NL] at k1 k2 k3 ⊢
      simp only [Tryz.f27, hn, go_sem]
      refine qcall_i (k1) ?_; simp only [Tryz.f27, go_sem]
      refine qif_df (by omega) ?_
      simp only [Tryz.f27, w1, go_sem]
      refine qcall_i (k2) ?_; simp only [Tryz.f27, go_sem]
      refine qcall_i (k3) ?_; simp only [Tryz.f27, go_sem]
      exact ⟨rfl, rfl⟩
  · rw [decide_eq_false hf] at k1
    rw [if_neg (fun h => hf h.1)]
    simp only [u, Dy.pv, Dy.zero, DP, NN, NL] at k1 ⊢
    simp only [Tryz.f27, hn, go_sem]
    refine qcall_i (k1) ?_; simp only [Tryz.f27, go_sem]
    exact ⟨rfl, rfl⟩
theorem cmp_transR {a b c : Dy} (h1 : cmpD a b ≤ 0) (h2 : cmpD b c ≤ 0) : cmpD a c ≤ 0 := by
  rw [cmp_at (k := min a.e (min b.e c.e)) (.inr (by omega)) (.inr (by omega)), sgn_le] at h1 h2 ⊢
  omega
theorem cmp_mono {a b m : Dy} (h : cmpD a b ≤ 0) : cmpD a m ≤ cmpD b m := by
  have e1 := cmp_at (a := a) (b := m) (k := min a.e (min b.e m.e)) (.inr (by omega)) (.inr (by omega))
  have e2 := cmp_at (a := b) (b := m) (k := min a.e (min b.e m.e)) (.inr (by omega)) (.inr (by omega))
  rw [cmp_at (a := a) (b := b) (k := min a.e (min b.e m.e)) (.inr (by omega)) (.inr (by omega)), sgn_le] at h
  rw [e1, e2]
  unfold sgn
  repeat' split
  all_goals omega
theorem abs_tops {a b : Dy} (ha : a.m ≠ 0) (hb : b.m ≠ 0) (h : cmpD a.abs b.abs ≤ 0) : a.top ≤ b.top := by
  have t1 := top_at ha (k := min a.e b.e) (by omega)
  have t2 := top_at hb (k := min a.e b.e) (by omega)
  rw [cmp_at (k := min a.e b.e) (abs_le (by omega)) (abs_le (by omega)), sgn_le, abs_at, abs_at] at h
  refine Decidable.byContradiction fun hn => ?_
  have : 2 ^ (b.top + 1 - min a.e b.e).toNat ≤ 2 ^ (a.top - min a.e b.e).toNat := Nat.pow_le_pow_right (by decide) (by omega)
  omega
theorem low_mono {a b : Dy} (h : cmpD a.abs b.abs ≤ 0) : low a ≤ low b := by
  refine Decidable.byContradiction fun hn => ?_
  have ha : Bel (low a) a.abs := bel_low
  have hb : Bel (low b) b.abs := bel_low
  have h1 := hb.2.2.resolve_left (by have := ha.1; omega)
  have h2 := fd_le_trans ha.1 (show low b + 1 ≤ low a by omega) ha.2.1
  have h3 := cmp_transR h2 h
  omega
theorem away_mono {a b : Dy} (ha : a.m ≠ 0) (hb : b.m ≠ 0) (ta : a.top ≤ 1023) (tb : b.top ≤ 1023) (hs : a.s = b.s) (h : cmpD a.abs b.abs ≤ 0) (hl : low a = low b) (dir : Int)
    (hw : upM a false dir (unitOf a.top) = true) : upM b false dir (unitOf b.top) = true := by
  obtain ⟨a1, a2⟩ := pos_mid ha ta
  obtain ⟨b1, b2⟩ := pos_mid hb tb
  rw [upM_low ha ta] at hw
  rw [upM_low hb tb]
  rw [← hl, ← hs]
  rw [← hl] at b1 b2
  have hm := cmp_mono (m := mid (low a)) h
  rw [a1, b1] at hm
  have hx : hf b (unitOf b.top) = false ∧ bl b (unitOf b.top) = false → hf a (unitOf a.top) = false ∧ bl a (unitOf a.top) = false := fun hh => by
    rw [← a2]
    have h1 := b2.2 hh
    have h2 : cmpD (fd (low a)) a.abs ≤ 0 := (bel_low (d := a)).2.1
    have h3 : cmpD a.abs (fd (low a)) ≤ 0 := by
      refine cmp_transR h ?_
      rw [cmp_swap, h1]; decide
    rw [cmp_swap] at h3
    omega
  clear a1 a2 b1 b2
  generalize hf a (unitOf a.top) = Ha at *
  generalize bl a (unitOf a.top) = La at *
  generalize hf b (unitOf b.top) = Hb at *
  generalize bl b (unitOf b.top) = Lb at *
  generalize decide (low a % 2 = 1) = o at *
  unfold awayS at *
  generalize upw dir a.s = w at *
  by_cases h0 : dir = 0
  · rw [if_pos h0] at *
    cases Ha <;> cases La <;> cases Hb <;> cases Lb <;> cases o <;> simp_all
  · rw [if_neg h0] at *
    cases Ha <;> cases La <;> cases Hb <;> cases Lb <;> cases w <;> simp_all
theorem mag_no {d : Dy} (ht : d.top ≤ 1023) (more : Bool) (dir : Int) (h0 : d.m ≠ 0) : (magS d more dir).1 = vS d (upM d more dir (unitOf d.top)) := by
  unfold magS
  rw [if_neg (by omega), ← upM_low h0 ht]
  unfold vS
  generalize upM d more dir (unitOf d.top) = a
  by_cases h : (if a = true then low d + 1 else low d) = INF
  · rw [if_pos h, h]
  · rw [if_neg h]
theorem mag_le {d : Dy} (h0 : d.m ≠ 0) (more : Bool) (dir : Int) : (magS d more dir).1 ≤ INF := by
  by_cases ht : 1023 < d.top
  · unfold magS
    rw [if_pos ht]
    dsimp only
    split <;> decide
  · rw [mag_no (by omega) more dir h0]
    exact (vS_fd h0 (by omega) _).1
theorem mag_mono {a b : Dy} (ha : a.m ≠ 0) (hb : b.m ≠ 0) (hs : a.s = b.s) (h : cmpD a.abs b.abs ≤ 0) (dir : Int) : (magS a false dir).1 ≤ (magS b false dir).1 := by
  have htt := abs_tops ha hb h
  have hle := mag_le ha false dir
  have hlm := low_mono h
  by_cases tb : 1023 < b.top
  · have eb : (magS b false dir).1 = if dir = 0 ∨ upw dir b.s = true then INF else MAX := by
      unfold magS; rw [if_pos tb]
    rw [eb]
    by_cases hu : dir = 0 ∨ upw dir b.s = true
    · rw [if_pos hu]; exact hle
    · rw [if_neg hu]
      by_cases ta : 1023 < a.top
      · unfold magS; rw [if_pos ta, hs, if_neg hu]; exact Nat.le_refl _
      · rw [mag_no (by omega) false dir ha, upM_low ha (by omega)]
        have hp := flo_ok ha (show a.top ≤ 1023 by omega)
        have hl : low a = packB (flo a (unitOf a.top)) (unitOf a.top) := if_neg ta
        have hlt := pack_lt_inf hp
        have hn : awayS dir a.s (decide (low a % 2 = 1)) (hf a (unitOf a.top)) (bl a (unitOf a.top) || false) = false := by
          cases hh : awayS dir a.s (decide (low a % 2 = 1)) (hf a (unitOf a.top)) (bl a (unitOf a.top) || false)
          · rfl
          · exact absurd (hs ▸ away_dir hh) hu
        rw [hn]
        show low a ≤ MAX
        have hI : INF = MAX + 1 := rfl
        omega
  · have ta : a.top ≤ 1023 := by omega
    rw [mag_no ta false dir ha, mag_no (by omega) false dir hb]
    unfold vS
    by_cases hl : low a = low b
    · rw [hl]
      cases hw : upM a false dir (unitOf a.top)
      · rw [if_neg (by decide)]; split <;> omega
      · rw [away_mono ha hb ta (by omega) hs h hl dir hw]; exact Nat.le_refl _
    · split <;> split <;> omega
def svb (b : Nat) : Int := if fs b = true then -(fsz b : Int) else fsz b
theorem svb_withS (s : Bool) {v : Nat} (hv : v < 9223372036854775808) : svb (withS s v) = if s = true then -(v : Int) else v := by
  obtain ⟨_, h1, _, _, h2⟩ := withS_fields s hv
  unfold svb; rw [h1, h2]
theorem toS_svb {d : Dy} (h0 : d.m ≠ 0) (dir : Int) : svb (toS d false dir).1 = if d.s = true then -((magS d false dir).1 : Int) else (magS d false dir).1 := by
  have h := mag_le h0 false dir
  have hI := INF_lt
  unfold toS
  rw [if_neg h0]
  exact svb_withS _ (by omega)
theorem toS_mono {a b : Dy} (h : cmpD a b ≤ 0) (dir : Int) : svb (toS a false dir).1 ≤ svb (toS b false dir).1 := by
  have s0 : svb 0 = 0 := by decide
  have hsa := at_sg a (min a.e b.e)
  have hsb := at_sg b (min a.e b.e)
  have hcmp := h
  rw [cmp_at (k := min a.e b.e) (.inr (by omega)) (.inr (by omega)), sgn_le] at h
  by_cases za : a.m = 0
  · have e1 : toS a false dir = (0, 0) := if_pos za
    rw [e1]
    by_cases zb : b.m = 0
    · have e2 : toS b false dir = (0, 0) := if_pos zb
      rw [e2]; exact Int.le_refl _
    · rw [toS_svb zb, s0]
      have : b.s = false := by
        rw [at_zero za] at h
        cases hs : b.s
        · rfl
        · have h5 : b.sg = -1 := by unfold Dy.sg; rw [if_neg zb, if_pos hs]
          have := hsb.2.2.2 h5
          omega
      rw [this, if_neg (by decide)]
      omega
  · rw [toS_svb za]
    by_cases zb : b.m = 0
    · have e2 : toS b false dir = (0, 0) := if_pos zb
      rw [e2, s0]
      have : a.s = true := by
        rw [at_zero zb] at h
        cases hs : a.s
        · have h5 : a.sg = 1 := by unfold Dy.sg; rw [if_neg za, if_neg (by rw [hs]; decide)]
          have := hsa.2.1.2 h5
          omega
        · rfl
      rw [this, if_pos rfl]
      omega
    · rw [toS_svb zb]
      have habs : ∀ {x y : Dy}, x.m ≠ 0 → y.m ≠ 0 → x.s = y.s → cmpD x y = x.sg * cmpD x.abs y.abs := fun {x y} hx hy hh => cmp_abs (by unfold Dy.sg; rw [if_neg hx, if_neg hy, hh]) hx hy
      cases sa : a.s
      · rw [if_neg (by decide)]
        cases sb : b.s
        · rw [if_neg (by decide)]
          have e := habs za zb (by rw [sa, sb])
          rw [show a.sg = 1 by unfold Dy.sg; rw [if_neg za, if_neg (by rw [sa]; decide)], Int.one_mul] at e
          have := mag_mono za zb (by rw [sa, sb]) (by omega) dir
          omega
        · exfalso
          have h5 : a.sg = 1 := by unfold Dy.sg; rw [if_neg za, if_neg (by rw [sa]; decide)]
          have h6 : b.sg = -1 := by unfold Dy.sg; rw [if_neg zb, if_pos sb]
          have := hsa.2.1.2 h5
          have := hsb.2.2.2 h6
          omega
      · rw [if_pos rfl]
        cases sb : b.s
        · rw [if_neg (by decide)]; omega
        · rw [if_pos rfl]
          have hsw := hcmp
          have e := habs zb za (by rw [sa, sb])
          rw [show b.sg = -1 by unfold Dy.sg; rw [if_neg zb, if_pos sb], cmp_swap] at e
          have := mag_mono zb za (by rw [sa, sb]) (by omega) dir
          omega
def mir (k : Nat) : Nat := if k = 2 then 3 else if k = 3 then 2 else k
theorem toS_fd {b : Nat} (hf0 : fe b < 2047) (dir : Int) : toS (fd b) false dir = (if fsz b = 0 then 0 else withS (fs b) (fsz b), 0) := by
  have hI := fsz_INF.1 hf0
  by_cases hz : fsz b = 0
  · rw [if_pos hz]
    exact if_pos ((fd_m0 hf0).2 hz)
  · rw [if_neg hz]
    have h0 : (fd b).m ≠ 0 := fun h => hz ((fd_m0 hf0).1 h)
    have hlow : low (fd b) = fsz b := by
      have hI' := INF_lt
      refine bel_unique (n := (fd b).abs) bel_low ⟨by omega, ?_, .inr ?_⟩
      · rw [fd_abs, cmp_self]; decide
      · rw [fd_abs, fd_cmp (by omega) (by omega), sgn_pos]; omega
    have ht : (fd b).top ≤ 1023 := by
      refine Decidable.byContradiction fun hn => ?_
      have : low (fd b) = INF := if_pos (by omega)
      omega
    have hx := (pos_mid h0 ht).2.1 (by rw [hlow, fd_abs, cmp_self])
    rw [toS_no h0 ht, upM_low h0 ht, hx.1, hx.2]
    have ha : awayS dir (fd b).s (decide (low (fd b) % 2 = 1)) false (false || false) = false := by
      unfold awayS; split <;> rfl
    rw [ha]
    unfold vS
    rw [hlow, fd_s h0, if_neg (by decide), if_neg (by omega), if_neg (by decide)]
section
open XX
theorem mk_val (s : Bool) (x : Nat) {e : Int} (h : -2147483648 ≤ e ∧ e ≤ 2147483648) : (mkD s x e).val = (if s = true then -(x : Rat) else (x : Rat)) * (2 : Rat) ^ e := by
  by_cases hx : x = 0
  · subst hx
    have : (mkD s 0 e).m = 0 := rfl
    rw [val_zero this]
    cases s <;> simp <;> grind
  cases s with
  | false =>
    have e1 : mkD false x e = norm (x : Int) e := by unfold norm; rw [decide_eq_false (by omega)]; rfl
    rw [e1, val_norm _ h.1 h.2]; rfl
  | true =>
    have e1 : mkD true x e = norm (-(x : Int)) e := by unfold norm; rw [decide_eq_true (by omega), Int.natAbs_neg]; rfl
    rw [e1, val_norm _ h.1 h.2, if_pos rfl, Rat.intCast_neg]; rfl
theorem z2_sub (x : Rat) (s : Nat) : x * (2 : Rat) ^ (-(s : Int)) = x / ((2 ^ s : Nat) : Rat) := by
  rw [Rat.zpow_neg, z2_nat, Rat.div_def]
def Br (w : Rat) (i : Iv) : Prop := XU i.lo.val w ∧ XL w i.hi.val
theorem Br.pick {w : Rat} (hw : 0 < w) {a b : Dy} (h1 : XU a.val w) (h2 : XL w b.val) : Br w (if 0 < cmpD a b then ⟨b, a⟩ else ⟨a, b⟩) := by
  split
  · rename_i h
    have h := cmp_val_gt.1 h
    exact ⟨h1.mono (Rat.le_of_lt h) Rat.le_refl (Rat.le_of_lt hw), h2.mono (Rat.le_of_lt h) Rat.le_refl (Rat.le_of_lt hw)⟩
  · exact ⟨h1, h2⟩
theorem Br.pick' {w : Rat} (hw : 0 < w) {a b : Dy} (h1 : XU b.val w) (h2 : XL w a.val) : Br w (if 0 < cmpD a b then ⟨b, a⟩ else ⟨a, b⟩) := by
  split
  · exact ⟨h1, h2⟩
  · rename_i h
    have h : a.val ≤ b.val := cmp_val_le.1 (by omega)
    exact ⟨h1.mono h Rat.le_refl (Rat.le_of_lt hw), h2.mono h Rat.le_refl (Rat.le_of_lt hw)⟩
theorem rone_div {w : Rat} (h : 0 < w) : 0 < 1 / w := by
  rw [Rat.div_def, Rat.one_mul]; exact Rat.inv_pos.2 h
theorem Br.within {w : Rat} (hw : 0 < w) {lo hi s : Nat} (hs : s ≤ 100000) (h1 : XU ((lo : Rat) / ((2 ^ s : Nat) : Rat)) w) (h2 : XL w ((hi : Rat) / ((2 ^ s : Nat) : Rat))) (neg : Bool) :
    Br (if neg = true then 1 / w else w) (withinS lo hi s neg) := by
  have r : -2147483648 ≤ -(s : Int) ∧ -(s : Int) ≤ 2147483648 := ⟨by omega, by omega⟩
  unfold withinS
  cases neg with
  | false =>
    refine Br.pick hw ?_ ?_
    · rw [mk_val false lo r, if_neg (by decide), z2_sub]; exact h1
    · rw [mk_val false hi r, if_neg (by decide), z2_sub]; exact h2
  | true =>
    have n1 : ∀ x : Rat, -x / ((2 ^ s : Nat) : Rat) = -(x / ((2 ^ s : Nat) : Rat)) := fun x => by rw [Rat.div_def, Rat.div_def, Rat.neg_mul]
    refine Br.pick' (rone_div hw) ?_ ?_
    · rw [mk_val true hi r, if_pos rfl, z2_sub, n1]; exact h2.inv hw
    · rw [mk_val true lo r, if_pos rfl, z2_sub, n1]; exact h1.inv hw
theorem Br.add {w v : Rat} (hw : 0 < w) (hv : 0 < v) {i k : Iv} {K : Nat} (li : i.lim K) (lk : k.lim K) (hK : K ≤ 1000000) (h1 : Br w i) (h2 : Br v k) : Br (w * v) (addI i k) := by
  constructor
  · show XU (addS i.lo k.lo).val _
    rw [li.1.val_add lk.1 hK]
    exact h1.1.mul h2.1 (Rat.le_of_lt hw) (Rat.le_of_lt hv)
  · show XL _ (addS i.hi k.hi).val
    rw [li.2.val_add lk.2 hK]
    exact h1.2.mul h2.2 (Rat.le_of_lt hw) (Rat.le_of_lt hv)
theorem nc_pos {n : Nat} (h : 0 < n) : (0 : Rat) < (n : Rat) := by
  have := ncast_le (show 1 ≤ n from h)
  have e : ((1 : Nat) : Rat) = 1 := rfl
  grind
theorem z2_inv (n : Nat) : 1 / ((2 : Rat) ^ n) = (2 : Rat) ^ (-(n : Int)) := by
  rw [Rat.zpow_neg, Rat.zpow_natCast, Rat.div_def, Rat.one_mul]
theorem near_val {d : Dy} (hl : LgOk d) : d.val = (if nNeg d.m = true then 1 / gR ((nNum d.m : Rat) / (nDen d.m : Rat)) else gR ((nNum d.m : Rat) / (nDen d.m : Rat))) * (2 : Rat) ^ nE d := by
  obtain ⟨f1, f2⟩ := near_facts hl.m0
  have hv : d.val = (d.m : Rat) * (2 : Rat) ^ d.e := by unfold Dy.val; rw [hl.pos, if_neg (by decide), Int.one_mul]; rfl
  obtain ⟨J, hJ1, hJ2⟩ : ∃ J : Nat, nOne d.m = 2 ^ J ∧ nE d = J + d.e := by
    have ht : d.top = bitLen d.m - 1 + d.e := if_neg hl.m0
    have hb := bitLen_pos hl.m0
    unfold nOne nE
    by_cases hu : nUp d.m = true
    · rw [if_pos hu, if_pos hu]
      exact ⟨bitLen d.m - 1 + 1, by rw [Nat.pow_succ]; omega, by omega⟩
    · rw [if_neg hu, if_neg hu]
      exact ⟨bitLen d.m - 1, rfl, by omega⟩
  rw [hv, hJ2, z2_add, z2_nat, ← hJ1]
  have hm := nc_pos (Nat.pos_of_ne_zero hl.m0)
  have ho : 0 < nOne d.m := by rw [hJ1]; exact Nat.two_pow_pos J
  have hoR := nc_pos ho
  have hd := nc_pos f1
  have key : (d.m : Rat) = (if nNeg d.m = true then 1 / gR ((nNum d.m : Rat) / (nDen d.m : Rat)) else gR ((nNum d.m : Rat) / (nDen d.m : Rat))) * (nOne d.m : Rat) := by
    have hD : (nDen d.m : Rat) = (d.m : Rat) + (nOne d.m : Rat) := by unfold nDen; exact ncast_add _ _
    have hy : ∀ y : Rat, y / (nDen d.m : Rat) * (nDen d.m : Rat) = y := fun y => Rat.div_mul_cancel (by grind)
    unfold gR nNeg
    by_cases hlt : d.m < nOne d.m
    · rw [decide_eq_true hlt, if_pos rfl]
      have hN : (nNum d.m : Rat) + (d.m : Rat) = (nOne d.m : Rat) := by
        unfold nNum; rw [if_pos hlt, ← ncast_add]; congr 1; omega
      have h3 := hy (nNum d.m : Rat)
      generalize (nNum d.m : Rat) / (nDen d.m : Rat) = y at *
      generalize (nNum d.m : Rat) = N at *
      generalize (nDen d.m : Rat) = D at *
      generalize (nOne d.m : Rat) = O at *
      generalize (d.m : Rat) = M at *
      have e1 : (1 + y) * D = O + O := by grind
      have e2 : (1 - y) * D = M + M := by grind
      have p1 : 0 < 1 + y := by
        have : 0 < (1 + y) * D := by grind
        refine Rat.lt_of_mul_lt_mul_right (c := D) ?_ (Rat.le_of_lt hd)
        rwa [Rat.zero_mul]
      have p2 : 0 < 1 - y := by
        have : 0 < (1 - y) * D := by grind
        refine Rat.lt_of_mul_lt_mul_right (c := D) ?_ (Rat.le_of_lt hd)
        rwa [Rat.zero_mul]
      have e3 : 1 / ((1 + y) / (1 - y)) = (1 - y) / (1 + y) := by
        have q1 : 1 + y ≠ 0 := by grind
        have q2 : 1 - y ≠ 0 := by grind
        grind
      rw [e3]
      have e4 : (1 - y) / (1 + y) * (1 + y) = 1 - y := Rat.div_mul_cancel (by grind)
      generalize (1 - y) / (1 + y) = q at *
      have e5 : q * (O + O) = M + M := by rw [← e1, ← e2, ← Rat.mul_assoc, e4]
      grind
    · rw [decide_eq_false hlt, if_neg (by decide)]
      have hN : (nNum d.m : Rat) + (nOne d.m : Rat) = (d.m : Rat) := by
        unfold nNum; rw [if_neg hlt, ← ncast_add]; congr 1; omega
      have h3 := hy (nNum d.m : Rat)
      generalize (nNum d.m : Rat) / (nDen d.m : Rat) = y at *
      generalize (nNum d.m : Rat) = N at *
      generalize (nDen d.m : Rat) = D at *
      generalize (nOne d.m : Rat) = O at *
      generalize (d.m : Rat) = M at *
      have e1 : (1 + y) * D = M + M := by grind
      have e2 : (1 - y) * D = O + O := by grind
      have p2 : 0 < 1 - y := by
        have : 0 < (1 - y) * D := by grind
        refine Rat.lt_of_mul_lt_mul_right (c := D) ?_ (Rat.le_of_lt hd)
        rwa [Rat.zero_mul]
      have e4 : (1 + y) / (1 - y) * (1 - y) = 1 + y := Rat.div_mul_cancel (by grind)
      generalize (1 + y) / (1 - y) = q at *
      have e5 : q * (O + O) = M + M := by rw [← e1, ← e2, ← Rat.mul_assoc, e4]
      grind
  rw [← Rat.mul_assoc, ← key]
theorem gR_pos' {y : Rat} (h0 : 0 ≤ y) (h : y ≤ 1 / 3) : 0 < gR y := by have := gR_pos h0 h; grind
theorem mul_div_r (n a : Nat) (S : Rat) : ((a * n : Nat) : Rat) / S = (n : Rat) * ((a : Rat) / S) := by
  rw [ncast_mul, Rat.div_def, Rat.div_def]; grind
theorem log_br {d : Dy} (hl : LgOk d) {s : Nat} (hs : s ≤ 9000) : 0 < d.val ∧ Br d.val (logS d s) := by
  obtain ⟨f1, f2⟩ := near_facts hl.m0
  obtain ⟨y1, y2⟩ := y_facts f1 f2
  have l1 := log_lo (s := s) f1 f2
  have l2 := log_hi (s := s) f1 f2
  have hg := gR_pos' y1 y2
  have c2 : ((2 : Nat) : Rat) = 2 := rfl
  have hx := Br.within (lo := (atanhS (nNum d.m) (nDen d.m) s).lo * 2) (hi := (atanhS (nNum d.m) (nDen d.m) s).hi * 2) hg (s := s) (by omega)
    (by rw [ncast_mul, c2, Rat.mul_comm]; exact l1) (by rw [ncast_mul, c2, Rat.mul_comm]; exact l2) (nNeg d.m)
  have p2 : (0 : Rat) < 2 := by decide
  have hn2 : (0 : Rat) < 2 ^ (nE d).natAbs := Rat.pow_pos p2
  have k1 := (ln2_lo s).pow (Rat.le_of_lt p2) (nE d).natAbs
  have k2 := (ln2_hi s).pow (Rat.le_of_lt p2) (nE d).natAbs
  have hy := Br.within (lo := (ln2S s).lo * (nE d).natAbs) (hi := (ln2S s).hi * (nE d).natAbs) hn2 (s := s) (by omega)
    (by rw [mul_div_r]; exact k1) (by rw [mul_div_r]; exact k2) (decide (nE d < 0))
  have e2 : (if decide (nE d < 0) = true then 1 / (2 : Rat) ^ (nE d).natAbs else (2 : Rat) ^ (nE d).natAbs) = (2 : Rat) ^ nE d := by
    by_cases h : nE d < 0
    · rw [decide_eq_true h, if_pos rfl, z2_inv]; congr 1; omega
    · rw [decide_eq_false h, if_neg (by decide), ← Rat.zpow_natCast]; congr 1; omega
  rw [e2] at hy
  have hv := near_val hl
  have hw : 0 < (if nNeg d.m = true then 1 / gR ((nNum d.m : Rat) / (nDen d.m : Rat)) else gR ((nNum d.m : Rat) / (nDen d.m : Rat))) := by
    split
    · exact rone_div hg
    · exact hg
  have hz := z2_pos (nE d)
  rw [hv]
  exact ⟨Rat.mul_pos hw hz, Br.add hw hz (logX_lim hl hs) (logY_lim hl hs) (by decide) hx hy⟩
end
section
open XX
theorem ic_neg (n : Nat) : ((-(n : Int) : Int) : Rat) = -(n : Rat) := by rw [Rat.intCast_neg]; rfl
theorem XX.XU.zpow {d t t' u : Rat} (hd : 0 < d) (h1 : XU t d) (h2 : XL d t') (P : Int) (g1 : u ≤ (P : Rat) * t) (g2 : u ≤ (P : Rat) * t') : XU u (d ^ P) := by
  rcases Int.le_total 0 P with h | h
  · obtain ⟨n, rfl⟩ := Int.eq_ofNat_of_zero_le h
    rw [Rat.zpow_natCast]
    exact (h1.pow (Rat.le_of_lt hd) n).mono g1 Rat.le_refl (Rat.le_of_lt (Rat.pow_pos hd))
  · obtain ⟨n, hn⟩ := Int.eq_ofNat_of_zero_le (show 0 ≤ -P by omega)
    obtain rfl : P = -(n : Int) := by omega
    have hp : 0 < d ^ n := Rat.pow_pos hd
    rw [Rat.zpow_neg, Rat.zpow_natCast, ← Rat.one_mul (d ^ n)⁻¹, ← Rat.div_def]
    refine ((h2.pow (Rat.le_of_lt hd) n).inv hp).mono ?_ Rat.le_refl (Rat.le_of_lt (rone_div hp))
    rw [ic_neg] at g2
    grind
theorem XX.XL.zpow {d t t' u : Rat} (hd : 0 < d) (h1 : XU t d) (h2 : XL d t') (P : Int) (g1 : (P : Rat) * t ≤ u) (g2 : (P : Rat) * t' ≤ u) : XL (d ^ P) u := by
  rcases Int.le_total 0 P with h | h
  · obtain ⟨n, rfl⟩ := Int.eq_ofNat_of_zero_le h
    rw [Rat.zpow_natCast]
    exact (h2.pow (Rat.le_of_lt hd) n).mono g2 Rat.le_refl (Rat.le_of_lt (Rat.pow_pos hd))
  · obtain ⟨n, hn⟩ := Int.eq_ofNat_of_zero_le (show 0 ≤ -P by omega)
    obtain rfl : P = -(n : Int) := by omega
    have hp : 0 < d ^ n := Rat.pow_pos hd
    rw [Rat.zpow_neg, Rat.zpow_natCast, ← Rat.one_mul (d ^ n)⁻¹, ← Rat.div_def]
    refine ((h1.pow (Rat.le_of_lt hd) n).inv hp).mono ?_ Rat.le_refl (Rat.le_of_lt (rone_div hp))
    rw [ic_neg] at g1
    grind
theorem un_bound (d : Dy) (s : Nat) : (divM d s false : Rat) ≤ (d.m : Rat) * (2 : Rat) ^ d.e * ((2 ^ s : Nat) : Rat) ∧ (d.m : Rat) * (2 : Rat) ^ d.e * ((2 ^ s : Nat) : Rat) ≤ (divM d s true : Rat) := by
  have e1 : (d.m : Rat) * (2 : Rat) ^ d.e * ((2 ^ s : Nat) : Rat) = (d.m : Rat) * (2 : Rat) ^ (d.e + s) := by rw [← z2_nat, Rat.mul_assoc, ← z2_add]
  rw [e1]
  unfold divM
  by_cases h : 0 ≤ d.e + s
  · rw [if_pos h, if_pos h]
    have e2 : ((d.m * 2 ^ (d.e + s).toNat : Nat) : Rat) = (d.m : Rat) * (2 : Rat) ^ (d.e + s) := by
      rw [ncast_mul, ← z2_nat]; congr 2; omega
    rw [e2]
    exact ⟨Rat.le_refl, Rat.le_refl⟩
  · rw [if_neg h, if_neg h]
    have hp : 0 < 2 ^ (-d.e - s).toNat := Nat.two_pow_pos _
    have e2 : (d.m : Rat) * (2 : Rat) ^ (d.e + s) * ((2 ^ (-d.e - s).toNat : Nat) : Rat) = (d.m : Rat) := by
      rw [← z2_nat, Rat.mul_assoc, ← z2_add, show d.e + s + ((-d.e - s).toNat : Int) = 0 by omega, z2_zero, Rat.mul_one]
    generalize (d.m : Rat) * (2 : Rat) ^ (d.e + s) = v at *
    generalize 2 ^ (-d.e - s).toNat = D at *
    have hD := nc_pos hp
    have h1 := Nat.div_add_mod d.m D
    have h2 := Nat.mod_lt d.m hp
    constructor
    · rw [if_neg (fun h => Bool.false_ne_true h.2), Nat.add_zero]
      refine scale_le hD ?_
      rw [e2, ← ncast_mul]
      exact ncast_le (Nat.div_mul_le_self _ _)
    · refine scale_le hD ?_
      rw [e2, ← ncast_mul]
      refine ncast_le ?_
      by_cases h0 : d.m % D = 0
      · rw [if_neg (fun h => h.1 h0), Nat.add_zero]
        rw [h0] at h1
        rw [Nat.mul_comm]; omega
      · rw [if_pos ⟨h0, rfl⟩, Nat.add_mul, Nat.mul_comm]; omega
theorem val_form (d : Dy) : d.val = if d.s = true then -((d.m : Rat) * (2 : Rat) ^ d.e) else (d.m : Rat) * (2 : Rat) ^ d.e := by
  unfold Dy.val
  split
  · rw [show (-1 * (d.m : Int)) = -(d.m : Int) by omega, ic_neg, Rat.neg_mul]
  · rw [Int.one_mul]; rfl
def askK (a : Ask) : Nat := (-a.y.e).toNat
def askP (a : Ask) : Int := a.y.at (-(askK a : Int))
def askQ (a : Ask) : Nat := a.n * 2 ^ askK a
def askW (a : Ask) : Rat := a.x.val ^ askP a
end
section
open XX
def sv (n : Bool × Nat) : Rat := if n.1 = true then -(n.2 : Rat) else (n.2 : Rat)
theorem sv_le (n : Bool × Nat) : sv n ≤ (n.2 : Rat) := by
  unfold sv
  have := natc0 n.2
  split <;> grind
theorem plus_sv (n : Bool × Nat) (m : Nat) : sv (plusS n m) = sv n + (m : Rat) := by
  obtain ⟨ng, n⟩ := n
  unfold sv plusS
  dsimp only
  cases ng with
  | false => simp only [Bool.false_eq_true, if_false]; exact ncast_add n m
  | true =>
    simp only [if_true]
    by_cases h : n ≤ m
    · simp only [if_pos h, Bool.false_eq_true, if_false]
      have : ((m - n : Nat) : Rat) + (n : Rat) = (m : Rat) := by rw [← ncast_add]; congr 1; omega
      grind
    · simp only [if_neg h, if_true]
      have : ((n - m : Nat) : Rat) + (m : Rat) = (n : Rat) := by rw [← ncast_add]; congr 1; omega
      grind
theorem minus_sv (n : Bool × Nat) (m : Nat) : sv (minusS n m) = sv n - (m : Rat) := by
  obtain ⟨ng, n⟩ := n
  unfold sv minusS
  dsimp only
  cases ng with
  | true =>
    simp only [if_true]
    have := ncast_add n m
    grind
  | false =>
    simp only [Bool.false_eq_true, if_false]
    by_cases h : m ≤ n
    · simp only [if_pos h, Bool.false_eq_true, if_false]
      have : ((n - m : Nat) : Rat) + (m : Rat) = (n : Rat) := by rw [← ncast_add]; congr 1; omega
      grind
    · simp only [if_neg h, if_true]
      have : ((m - n : Nat) : Rat) + (n : Rat) = (m : Rat) := by rw [← ncast_add]; congr 1; omega
      grind
theorem fl_bound (d : Dy) (s : Nat) : sv (floorS d s) ≤ d.val * ((2 ^ s : Nat) : Rat) ∧ d.val * ((2 ^ s : Nat) : Rat) ≤ sv (ceilS d s) := by
  obtain ⟨h1, h2⟩ := un_bound d s
  have hv := val_form d
  have e1 : ∀ a, unitsS d s a = divM d s a := fun _ => rfl
  unfold sv floorS ceilS
  dsimp only
  rw [e1, e1]
  by_cases hn : d.sg < 0
  · rw [decide_eq_true hn, if_pos rfl, if_pos rfl]
    have hs : d.s = true := by
      unfold Dy.sg at hn
      split at hn
      · omega
      · split at hn
        · assumption
        · omega
    rw [if_pos hs] at hv
    show -(divM d s true : Rat) ≤ _ ∧ _ ≤ -(divM d s false : Rat)
    rw [hv, Rat.neg_mul]
    grind
  · rw [decide_eq_false hn, if_neg (by decide), if_neg (by decide)]
    have hv2 : d.val = (d.m : Rat) * (2 : Rat) ^ d.e := by
      by_cases h0 : d.m = 0
      · rw [val_zero h0, h0]
        have : ((0 : Nat) : Rat) = 0 := rfl
        rw [this, Rat.zero_mul]
      · rw [hv, if_neg]
        intro hs
        apply hn
        unfold Dy.sg
        rw [if_neg h0, hs]
        decide
    rw [hv2]
    exact ⟨h1, h2⟩
theorem split_br {i : Iv} {s : Nat} (h8 : 8 ≤ s) :
    ∃ u u' : Rat, XL ((2 : Rat) ^ (splitK i s).1) u ∧ XU u' ((2 : Rat) ^ (splitK i s).1) ∧ ((splitK i s).2.1 : Rat) / ((2 ^ s : Nat) : Rat) + u ≤ i.lo.val ∧ i.hi.val ≤ ((splitK i s).2.2 : Rat) / ((2 ^ s : Nat) : Rat) + u' := by
  obtain ⟨b1, b2⟩ := ln2_big h8
  have l1 := ln2_lo s
  have l2 := ln2_hi s
  have hS := nc_pos (Nat.two_pow_pos s)
  have f1 := (fl_bound i.lo s).1
  have f2 := (fl_bound i.hi s).2
  have p2 : (0 : Rat) < 2 := by decide
  have hlo : 0 < (ln2S s).lo := Nat.lt_of_lt_of_le (Nat.two_pow_pos _) b1
  have hle := ncast_le b2
  have z1 := fun (u : Rat) (P : Int) => XL.zpow (u := u) p2 l1 l2 P
  have z2 := fun (u : Rat) (P : Int) => XU.zpow (u := u) p2 l1 l2 P
  have hdiv : ∀ x : Rat, x / ((2 ^ s : Nat) : Rat) * ((2 ^ s : Nat) : Rat) = x := fun x => Rat.div_mul_cancel (by grind)
  have t1 := hdiv ((ln2S s).lo : Rat)
  have t2 := hdiv ((ln2S s).hi : Rat)
  have c0 : ∀ k : Nat, ((k : Int) : Rat) = (k : Rat) := fun _ => rfl
  unfold splitK
  by_cases hn : (floorS i.lo s).1 = true
  · rw [if_pos hn]
    dsimp only
    generalize hq : cD (floorS i.lo s).2 (ln2S s).lo = q
    have g1 := cD_ge (a := (floorS i.lo s).2) hlo
    rw [hq] at g1
    have q1 := plus_sv (floorS i.lo s) (q * (ln2S s).lo)
    have q2 := plus_sv (ceilS i.hi s) (q * (ln2S s).hi)
    have e1 : sv (plusS (floorS i.lo s) (q * (ln2S s).lo)) = ((plusS (floorS i.lo s) (q * (ln2S s).lo)).2 : Rat) := by
      unfold plusS sv
      simp only [if_pos hn, if_pos g1, Bool.false_eq_true, if_false]
    have q3 := sv_le (plusS (ceilS i.hi s) (q * (ln2S s).hi))
    rw [ncast_mul] at q1 q2
    rw [e1] at q1
    generalize ((plusS (floorS i.lo s) (q * (ln2S s).lo)).2 : Rat) = X at *
    generalize ((plusS (ceilS i.hi s) (q * (ln2S s).hi)).2 : Rat) = Y at *
    generalize sv (plusS (ceilS i.hi s) (q * (ln2S s).hi)) = Y' at *
    have d1 := hdiv X
    have d2 := hdiv Y
    have qn := natc0 q
    have s1 : ((ln2S s).lo : Rat) / ((2 ^ s : Nat) : Rat) ≤ ((ln2S s).hi : Rat) / ((2 ^ s : Nat) : Rat) := scale_le hS (by rw [t1, t2]; exact hle)
    generalize ((ln2S s).lo : Rat) / ((2 ^ s : Nat) : Rat) = A at *
    generalize ((ln2S s).hi : Rat) / ((2 ^ s : Nat) : Rat) = B at *
    generalize X / ((2 ^ s : Nat) : Rat) = x at *
    generalize Y / ((2 ^ s : Nat) : Rat) = y at *
    have m1 : (q : Rat) * A ≤ (q : Rat) * B := Rat.mul_le_mul_of_nonneg_left s1 qn
    have e3 : ((-(q : Int) : Int) : Rat) = -(q : Rat) := ic_neg q
    refine ⟨-((q : Rat) * A), -((q : Rat) * B), z1 _ _ (by rw [e3]; grind) (by rw [e3]; grind), z2 _ _ (by rw [e3]; grind) (by rw [e3]; grind), scale_le hS ?_, scale_le hS ?_⟩
    · rw [← d1, ← t1] at q1
      clear z1 z2 l1 l2 hdiv c0
      generalize ((2 ^ s : Nat) : Rat) = S at *
      grind
    · rw [← t2] at q2
      rw [← d2] at q3
      clear z1 z2 l1 l2 hdiv c0
      generalize ((2 ^ s : Nat) : Rat) = S at *
      grind
  · rw [if_neg hn]
    dsimp only
    generalize hq : (floorS i.lo s).2 / (ln2S s).hi = q
    have g1 := Nat.div_add_mod (floorS i.lo s).2 (ln2S s).hi
    rw [hq] at g1
    have q2 := minus_sv (ceilS i.hi s) (q * (ln2S s).lo)
    have e1 : sv (floorS i.lo s) = ((floorS i.lo s).2 : Rat) := by
      unfold sv
      rw [if_neg hn]
    have q3 := sv_le (minusS (ceilS i.hi s) (q * (ln2S s).lo))
    have q1 : ((ln2S s).hi : Rat) * (q : Rat) + ((((floorS i.lo s).2 % (ln2S s).hi : Nat)) : Rat) = ((floorS i.lo s).2 : Rat) := by rw [← ncast_mul, ← ncast_add, g1]
    rw [ncast_mul] at q2
    rw [e1, ← q1] at f1
    generalize (((floorS i.lo s).2 % (ln2S s).hi : Nat) : Rat) = X at *
    generalize ((minusS (ceilS i.hi s) (q * (ln2S s).lo)).2 : Rat) = Y at *
    generalize sv (minusS (ceilS i.hi s) (q * (ln2S s).lo)) = Y' at *
    have d1 := hdiv X
    have d2 := hdiv Y
    have qn := natc0 q
    have s1 : ((ln2S s).lo : Rat) / ((2 ^ s : Nat) : Rat) ≤ ((ln2S s).hi : Rat) / ((2 ^ s : Nat) : Rat) := scale_le hS (by rw [t1, t2]; exact hle)
    generalize ((ln2S s).lo : Rat) / ((2 ^ s : Nat) : Rat) = A at *
    generalize ((ln2S s).hi : Rat) / ((2 ^ s : Nat) : Rat) = B at *
    generalize X / ((2 ^ s : Nat) : Rat) = x at *
    generalize Y / ((2 ^ s : Nat) : Rat) = y at *
    have m1 : (q : Rat) * A ≤ (q : Rat) * B := Rat.mul_le_mul_of_nonneg_left s1 qn
    have e3 : (((q : Nat) : Int) : Rat) = (q : Rat) := rfl
    refine ⟨(q : Rat) * B, (q : Rat) * A, z1 _ _ (by rw [e3]; grind) (by rw [e3]; grind), z2 _ _ (by rw [e3]; grind) (by rw [e3]; grind), scale_le hS ?_, scale_le hS ?_⟩
    · rw [← d1, ← t2] at f1
      clear z1 z2 l1 l2 hdiv c0
      generalize ((2 ^ s : Nat) : Rat) = S at *
      grind
    · rw [← t1] at q2
      rw [← d2] at q3
      clear z1 z2 l1 l2 hdiv c0
      generalize ((2 ^ s : Nat) : Rat) = S at *
      grind
theorem exp_br {i : Iv} {s : Nat} (h8 : 8 ≤ s) (hs : s ≤ 8900) (h : splitOk i s) (hd : decR (expI i s)) :
    0 < (expI i s).lo.val ∧ 0 < (expI i s).hi.val ∧ XL (expI i s).lo.val i.lo.val ∧ XU i.hi.val (expI i s).hi.val := by
  have hK := splitK_range h8 h
  have h0 : 0 < (expI i s).lo.val := sg_val.2.2.1 hd.2
  have hle : (expI i s).lo.val ≤ (expI i s).hi.val := cmp_val_le.1 hd.1.2.2
  have h1 : 0 < (expI i s).hi.val := by grind
  obtain ⟨u, u', z1, z2, z3, z4⟩ := split_br (i := i) h8
  have hz := z2_pos (splitK i s).1
  have r : -2147483648 ≤ -((s : Int) - (splitK i s).1) ∧ -((s : Int) - (splitK i s).1) ≤ 2147483648 := ⟨by omega, by omega⟩
  have ev : ∀ n : Nat, (mkD false n (-((s : Int) - (splitK i s).1))).val = (n : Rat) / ((2 ^ s : Nat) : Rat) * (2 : Rat) ^ (splitK i s).1 := fun n => by
    rw [mk_val _ _ r, if_neg (by decide), show -((s : Int) - (splitK i s).1) = -(s : Int) + (splitK i s).1 by omega, z2_add, ← Rat.mul_assoc, z2_sub]
  have hS := nc_pos (Nat.two_pow_pos s)
  refine ⟨h0, h1, ?_⟩
  by_cases hc : (splitK i s).2.1 ≤ (splitK i s).2.2 ∧ (splitK i s).2.2 ≤ 2 ^ s
  · have e1 : expPN (splitK i s).2.1 (splitK i s).2.2 s = expN (splitK i s).2.1 (splitK i s).2.2 s := if_pos hc
    have x1 := exp_lo (a := (splitK i s).2.1) hc.2
    have x2 := exp_hi (a := (splitK i s).2.1) hc.2
    have n1 := ndiv (natc0 (expN (splitK i s).2.1 (splitK i s).2.2 s).lo) (2 ^ s)
    have n2 := ndiv (natc0 (expN (splitK i s).2.1 (splitK i s).2.2 s).hi) (2 ^ s)
    have y1 := (x1.mul z1 n1 (Rat.le_of_lt hz)).mono z3 Rat.le_refl (Rat.mul_nonneg n1 (Rat.le_of_lt hz))
    have y2 := (x2.mul z2 n2 (Rat.le_of_lt hz)).mono z4 Rat.le_refl (Rat.mul_nonneg n2 (Rat.le_of_lt hz))
    rw [← ev] at y1 y2
    unfold expI at h0 h1 ⊢
    rw [e1] at h0 h1 ⊢
    unfold withinS at h0 h1 ⊢
    by_cases hc2 : 0 < cmpD (mkD false (expN (splitK i s).2.1 (splitK i s).2.2 s).lo (-((s : Int) - (splitK i s).1))) (mkD false (expN (splitK i s).2.1 (splitK i s).2.2 s).hi (-((s : Int) - (splitK i s).1)))
    · have hlt := cmp_val_gt.1 hc2
      rw [if_pos hc2] at h0 h1 ⊢
      exact ⟨y1.mono Rat.le_refl (Rat.le_of_lt hlt) (Rat.le_of_lt h0), y2.mono Rat.le_refl (Rat.le_of_lt hlt) (Rat.le_of_lt h0)⟩
    · rw [if_neg hc2] at h0 h1 ⊢
      exact ⟨y1, y2⟩
  · exfalso
    have e1 : expPN (splitK i s).2.1 (splitK i s).2.2 s = ⟨0, 0⟩ := if_neg hc
    unfold expI withinS at h0
    rw [e1] at h0
    rw [show (if 0 < cmpD (mkD false 0 (-((s : Int) - (splitK i s).1))) (mkD false 0 (-((s : Int) - (splitK i s).1))) then (⟨mkD false 0 (-((s : Int) - (splitK i s).1)), mkD false 0 (-((s : Int) - (splitK i s).1))⟩ : Iv) else ⟨mkD false 0 (-((s : Int) - (splitK i s).1)), mkD false 0 (-((s : Int) - (splitK i s).1))⟩) = ⟨mkD false 0 (-((s : Int) - (splitK i s).1)), mkD false 0 (-((s : Int) - (splitK i s).1))⟩ by split <;> rfl] at h0
    dsimp only at h0
    rw [val_zero (d := mkD false 0 (-((s : Int) - (splitK i s).1))) rfl] at h0
    exact absurd h0 (by decide)
end
section
open XX
theorem goS_found {A : Nat → (Nat × Nat) × Iv} {ok : Nat → Bool} : ∀ (l : List Nat) (v : (Nat × Nat) × Iv) (b t : Nat), (goS A ok l v b t).2 = 0 → ∃ n ∈ l, ok n = true ∧ (goS A ok l v b t).1.1 = A n
  | [], v, b, t, h => by cases h
  | n :: l, v, b, t, h => by
    unfold goS at h ⊢
    split at h
    · rename_i hk
      rw [if_pos hk]
      exact ⟨n, by simp, hk, rfl⟩
    · rename_i hk
      rw [if_neg hk]
      obtain ⟨m, h1, h2, h3⟩ := goS_found l (A n) n (t + 1) h
      exact ⟨m, by simp [h1], h2, h3⟩
end
section
open XX
def runE (I : Nat → Option Iv) (neg : Bool) (dir f t : Int) : (((Nat × Nat) × Iv) × Nat × Nat) × Nat := goS (fun n => (eTry I neg dir n).1) (fun n => (eTry I neg dir n).2) (planS f t) ans0 0 0
theorem eTry_lim {I : Nat → Option Iv} {K : Nat} {n : Nat} (hl : ∀ i, I n = some i → i.lim K) (neg : Bool) (dir : Int) : (eTry I neg dir n).1.2.lim K := by
  unfold eTry
  cases h : I n with
  | none => exact ⟨Lim.zero _, Lim.zero _⟩
  | some i =>
    dsimp only
    cases roundS i neg dir <;> exact hl i h
theorem eTry_ok {I : Nat → Option Iv} {neg : Bool} {dir : Int} {n : Nat} (h : (eTry I neg dir n).2 = true) : ∃ i, I n = some i ∧ roundS i neg dir = some (eTry I neg dir n).1.1 := by
  unfold eTry at h ⊢
  cases hI : I n with
  | none => rw [hI] at h; exact absurd h Bool.false_ne_true
  | some i =>
    rw [hI] at h
    dsimp only at h ⊢
    cases hr : roundS i neg dir with
    | none => rw [hr] at h; exact absurd h Bool.false_ne_true
    | some r => exact ⟨i, rfl, hr⟩
set_option maxHeartbeats 4000000 in
theorem e_run {fh : Nat} (hmu : E.mu fh = false) {ch : List PV} {I : Nat → Option Iv} {dir f t : Int} (ho : hOk dir f t) (hh : ∀ n ∈ planS f t, PC E fh (.int .i64 (n : Nat) :: ch) (hold (I n))) {K : Nat} (hl : ∀ n ∈ planS f t, ∀ i, I n = some i → i.lim K) (hK : K ≤ 200000) (neg : Bool) :
    ∃ (b fl st tr : Nat), PC E 54 [hvv dir f t, .bool neg, .clo fh ch] (.tuple [.agg [.int .u64 (b : Nat), .int .u8 (fl : Nat), .int .i64 (st : Nat)], .int .i64 (tr : Nat), .int .i64 0]) ∧ (st = 0 → ∃ n ∈ planS f t, ∃ i, I n = some i ∧ roundS i neg dir = some (b, fl)) := by
  have k3 := c_Plan f t
  rw [if_pos ho.1] at k3
  have hlen := planL_len 8 f.toNat t.toNat
  have ePl : planS f t = planL 8 f.toNat t.toNat := rfl
  rw [← ePl] at hlen
  have k5 := c_GoE (f := 107) (by kernel_rfl) (cs := [.ref [.clo fh ch], .ref [.bool neg], .ref [.int .i64 dir, .int .i64 f, .int .i64 t, .np]]) (A := fun n => (eTry I neg dir n).1) (ok := fun n => (eTry I neg dir n).2) (P := planS f t) (by omega)
    (fun n hn => e_run1 hmu (hh n hn) (hl n hn) hK neg ⟨ho.2.1, ho.2.2⟩)
  have eRun : goS (fun n => (eTry I neg dir n).1) (fun n => (eTry I neg dir n).2) (planS f t) ans0 0 0 = runE I neg dir f t := rfl
  rw [eRun] at k5
  have hlim : (runE I neg dir f t).1.1.2.lim K := goS_mem (P := fun v => v.2.lim K) _ _ _ _ (fun n hn => eTry_lim (hl n hn) neg dir) ⟨Lim.zero _, Lim.zero _⟩
  have hfound : (runE I neg dir f t).2 = 0 → ∃ n ∈ planS f t, ∃ i, I n = some i ∧ roundS i neg dir = some ((runE I neg dir f t).1.1.1.1, (runE I neg dir f t).1.1.1.2) := fun h => by
    obtain ⟨n, h1, h2, h3⟩ := goS_found _ _ _ _ h
    obtain ⟨i, i1, i2⟩ := eTry_ok h2
    refine ⟨n, h1, i, i1, ?_⟩
    rw [i2]
    show some (eTry I neg dir n).1.1 = some (runE I neg dir f t).1.1.1
    exact congrArg (fun v : (Nat × Nat) × Iv => some v.1) h3.symm
  have hends := (goS_inv (A := fun n => (eTry I neg dir n).1) (ok := fun n => (eTry I neg dir n).2) (P := fun _ => True) (fun _ => trivial) (planS f t) ans0 0 0 trivial).2.2
  rw [eRun] at hends
  have k6 := d_Loose (hlim.RI (by omega)) hlim (by omega) neg ho.2
  have hfl : ∀ r, looseS (runE I neg dir f t).1.1.2 neg dir = some r → bits .or .u8 (r.2 : Int) 1 = ((r.2 ||| 1 : Nat) : Int) := fun r hr => by
    unfold looseS at hr
    split at hr
    · cases hr; exact or_one (toS_flags _ _ _)
    · cases hr
  have eRI : (runE I neg dir f t).1.1.2.pv = .agg [.bool (runE I neg dir f t).1.1.2.lo.s, NN (runE I neg dir f t).1.1.2.lo.m, .int .i64 (runE I neg dir f t).1.1.2.lo.e, .bool (runE I neg dir f t).1.1.2.hi.s, NN (runE I neg dir f t).1.1.2.hi.m, .int .i64 (runE I neg dir f t).1.1.2.hi.e] := rfl
  rw [eRI] at k6
  generalize looseS (runE I neg dir f t).1.1.2 neg dir = LO at *
  generalize runE I neg dir f t = RR at *
  have hP : ∀ n ∈ planS f t, True := fun _ _ => trivial
  generalize hIP : IL (planS f t) = IP at *
  generalize hLP : (planS f t).length = LP at *
  clear eRI eRun ePl
  obtain ⟨⟨⟨⟨b0, fl0⟩, iv⟩, nb, nt⟩, en⟩ := RR
  dsimp only at *
  have w0 : bits .or .u8 0 1 = 1 := by decide
  rcases hends with h0 | h0
  · subst h0
    refine ⟨b0, fl0, 0, nt, ?_, fun _ => hfound rfl⟩
    simp only [hvv, runC, ansC_pv, List.cons_append, List.nil_append, NN, NL] at k3 k5 ⊢
    refine PC.of_body follows Tryz.func54 (by decide +kernel) rfl (by kernel_rfl) (Nat.le_of_ble_eq_true rfl) (walk ?_)
    simp only [Tryz.f54, LayF, go_sem]
    refine qcall_i (k3) ?_; simp only [Tryz.f54, LayF, go_sem]
    refine qcall_i (k5) ?_; simp only [Tryz.f54, LayF, go_sem]
    try (refine qif_dt (by decide) ?_)
    try simp only [Tryz.f54, go_sem]
    try rfl
  · subst h0
    cases LO with
    | some r =>
      obtain ⟨lb, lf⟩ := r
      have wl := hfl _ rfl
      dsimp only at wl
      refine ⟨lb, lf ||| 1, 1, nt, ?_, fun h => absurd h (by decide)⟩
      simp only [hvv, bfoPV, u, runC, ansC_pv, List.cons_append, List.nil_append, NN, NL] at k3 k5 k6 ⊢
      refine PC.of_body follows Tryz.func54 (by decide +kernel) rfl (by kernel_rfl) (Nat.le_of_ble_eq_true rfl) (walk ?_)
      simp only [Tryz.f54, LayF, go_sem]
      refine qcall_i (k3) ?_; simp only [Tryz.f54, LayF, go_sem]
      refine qcall_i (k5) ?_; simp only [Tryz.f54, LayF, go_sem]
      try (refine qif_df (by decide) ?_)
      try simp only [Tryz.f54, go_sem]
      refine qcall_i (k6) ?_; simp only [Tryz.f54, wl, go_sem]
      try rfl
    | none =>
      refine ⟨9221120237041090560, 1, 1, nt, ?_, fun h => absurd h (by decide)⟩
      simp only [hvv, bfoPV, u, runC, ansC_pv, List.cons_append, List.nil_append, NN, NL] at k3 k5 k6 ⊢
      refine PC.of_body follows Tryz.func54 (by decide +kernel) rfl (by kernel_rfl) (Nat.le_of_ble_eq_true rfl) (walk ?_)
      simp only [Tryz.f54, LayF, go_sem]
      refine qcall_i (k3) ?_; simp only [Tryz.f54, LayF, go_sem]
      refine qcall_i (k5) ?_; simp only [Tryz.f54, LayF, go_sem]
      try (refine qif_df (by decide) ?_)
      try simp only [Tryz.f54, go_sem]
      refine qcall_i (k6) ?_; simp only [Tryz.f54, w0, go_sem]
      try rfl
end
section
open XX
def sz (d : Dy) (neg : Bool) : Dy := ⟨neg, d.m, d.e⟩
theorem pw_val (e : Int) : (⟨false, 1, e⟩ : Dy).val = (2 : Rat) ^ e := by
  unfold Dy.val
  rw [if_neg Bool.false_ne_true]
  show ((1 : Int) : Rat) * _ = _
  exact Rat.one_mul _
def ONE : Nat := 4607182418800017408
end
section
open XX
theorem rpow_lt {x y : Rat} (h0 : 0 ≤ x) (h : x < y) {n : Nat} (hn : 0 < n) : x ^ n < y ^ n := by
  obtain ⟨k, rfl⟩ : ∃ k, n = k + 1 := ⟨n - 1, by omega⟩
  rw [Rat.pow_succ, Rat.pow_succ]
  have h1 := rpow_le h0 (Rat.le_of_lt h) k
  have hy : 0 < y := by grind
  have hp : 0 < y ^ k := Rat.pow_pos hy
  have h2 : x ^ k * x ≤ y ^ k * x := Rat.mul_le_mul_of_nonneg_right h1 h0
  have h3 : y ^ k * x < y ^ k * y := Rat.mul_lt_mul_of_pos_left h hp
  grind
theorem rpow_le_iff {x y : Rat} (h0 : 0 ≤ y) {n : Nat} (hn : 0 < n) (h : x ^ n ≤ y ^ n) : x ≤ y := by
  refine Decidable.byContradiction fun hc => ?_
  have := rpow_lt h0 (show y < x by grind) hn
  grind
structure En (a : Ask) (neg : Bool) (dir : Int) (r : Nat × Nat) (A B : Dy) : Prop where
  sA : A.s = false
  sB : B.s = false
  mA : A.m ≠ 0
  mB : B.m ≠ 0
  iA : ∀ d, (toS (sgnD A neg) false d).2 ≠ 0
  iB : ∀ d, (toS (sgnD B neg) false d).2 ≠ 0
  lo : A.val ^ askQ a ≤ askW a
  hi : askW a ≤ B.val ^ askQ a
  rA : toS (sgnD A neg) false dir = r
  rB : toS (sgnD B neg) false dir = r
end
section
open XX
theorem pos_s {d : Dy} (h : 0 < d.sg) : d.s = false := by
  unfold Dy.sg at h
  split at h
  · omega
  · cases hs : d.s with
    | false => rfl
    | true => rw [hs] at h; exact absurd h (by decide)
structure Mt (a : Ask) (neg : Bool) (d : Dy) : Prop where
  s : d.s = false
  m : d.m ≠ 0
  i : ∀ dd, (toS (sgnD d neg) false dd).2 ≠ 0
  lo : d.val ^ askQ a ≤ askW a
end
section
open XX
def tFar (k dir f t : Int) : Prop := k < 0 ∨ 3 < k ∨ farW t ∨ ¬ hOk dir f t
instance (k dir f t : Int) : Decidable (tFar k dir f t) := inferInstanceAs (Decidable (_ ∨ _))
def opR (k : Int) (x y : Nat) (n dir f t : Int) : Nat × Nat × Nat :=
  match opO k x y n with
  | some r => (r.1, r.2, 0)
  | none => ((doS (opA k x y n dir f t)).1, (doS (opA k x y n dir f t)).2.1, (doS (opA k x y n dir f t)).2.2.1)
def rPV (r : Nat × Nat × Nat) : PV := .agg [.int .u64 (r.1 : Nat), .int .u8 (r.2.1 : Nat), .int .i64 (r.2.2 : Nat)]
end
section
open XX
def powD (d : Dy) (k : Nat) : Dy := ⟨false, d.m ^ k, d.e * k⟩
theorem irt_unique {j a r r' : Nat} (h : Irt j a r) (h' : Irt j a r') : r = r' := by
  have key : ∀ {r r'}, Irt j a r → Irt j a r' → r ≤ r' := fun {r r'} h h' => Nat.not_lt.1 fun hlt => by
    have h1 := Nat.pow_le_pow_left (show r' + 1 ≤ r from hlt) (j + 1)
    have h2 := h.1
    have h3 := h'.2
    omega
  exact Nat.le_antisymm (key h h') (key h' h)
theorem irt_pow {j m : Nat} : Irt j (m ^ (j + 1)) m := ⟨Nat.le_refl _, Nat.pow_lt_pow_left (by omega) (by omega)⟩
theorem pow_gt_bits {m k : Nat} (h : 3 ≤ m) (hk : 1 ≤ k) : k ≤ bitLen (m ^ k) := by
  have h1 : 2 ^ k ≤ m ^ k := Nat.pow_le_pow_left (by omega) k
  refine Nat.not_lt.1 fun hlt => ?_
  have h2 := (bitLen_le (m ^ k) (k - 1)).1 (by omega)
  have h3 : 2 ^ (k - 1) ≤ 2 ^ k := Nat.pow_le_pow_right (by decide) (by omega)
  omega
theorem root_pow {d : Dy} (hs : d.s = false) (hm : d.m % 2 = 1) {k : Nat} (hk : 1 ≤ k) : rootO (powD d k) k = some d := by
  obtain ⟨s, m, e⟩ := d
  dsimp only at hs hm
  subst hs
  unfold rootO powD
  dsimp only
  by_cases c1 : k = 1
  · rw [if_pos c1, c1, Nat.pow_one]; simp
  rw [if_neg c1, if_neg (by simp)]
  have hq : e * (k : Int) / (k : Int) = e := Int.mul_ediv_cancel _ (by omega)
  by_cases c2 : m ^ k = 1
  · have hm1 : m = 1 := by
      rcases Nat.lt_or_ge m 2 with h | h
      · omega
      · have h1 : 2 ≤ m ^ k := Nat.le_trans h (Nat.le_self_pow (n := k) (by omega) m)
        omega
    rw [if_pos c2, hq, hm1]
  rw [if_neg c2]
  have hm3 : 3 ≤ m := by
    rcases Nat.lt_or_ge m 2 with h | h
    · have : m = 1 := by omega
      subst this
      rw [Nat.one_pow] at c2
      exact absurd rfl c2
    · omega
  rw [if_neg (by have := pow_gt_bits hm3 hk; omega)]
  obtain ⟨j, rfl⟩ : ∃ j, k = j + 1 := ⟨k - 1, by omega⟩
  have hr : irtF (j + 1 - 1) (m ^ (j + 1)) = m := irt_unique (irtF_spec _ _) irt_pow
  rw [hr, if_pos rfl, hq]
theorem pow_root {d r : Dy} (hs : d.s = false) {k : Nat} (hk : 1 ≤ k) (h : rootO d k = some r) : powD r k = d := by
  obtain ⟨s, m, e⟩ := d
  dsimp only at hs
  subst hs
  unfold rootO at h
  dsimp only at h
  unfold powD
  split at h
  · rename_i c
    cases h
    subst c
    simp
  rename_i c1
  split at h
  · cases h
  rename_i c2
  have he : e / (k : Int) * k = e := Int.ediv_mul_cancel (Int.dvd_of_emod_eq_zero (Decidable.byContradiction c2))
  split at h
  · rename_i c3
    cases h
    dsimp only
    rw [Nat.one_pow, he, c3]
  split at h
  · cases h
  split at h
  · rename_i c5
    cases h
    dsimp only
    rw [c5, he]
  · cases h
theorem one_dy : norm 1 0 = ⟨false, 1, 0⟩ := by decide
theorem fd_brk {b : Nat} (hf : fe b < 2047) : brkP (fd b) := by
  by_cases h0 : (fd b).m = 0
  · exact .inl h0
  · obtain ⟨h1, h2⟩ := fd_exact b hf h0
    refine .inr ?_
    rw [if_neg (by omega)]
    omega
end
section
open XX
theorem kind_pos {b : Nat} (h0 : b ≠ 0) (hI : b < INF) : (kind b = 1 ∨ kind b = 2) ∧ fs b = false ∧ fsz b = b ∧ fe b < 2047 ∧ b < W := by
  have hI2 := INF_lt
  have hz : fsz b = b := Nat.mod_eq_of_lt (by omega)
  have hf : fe b < 2047 := fsz_INF.2 (by rw [hz]; exact hI)
  refine ⟨?_, fs_small (by omega), hz, hf, Nat.lt_trans (by omega : b < 9223372036854775808) (by decide)⟩
  unfold kind
  split
  · rename_i hk
    exfalso
    have hb : b < 9223372036854775808 := by omega
    unfold fe ff at hk
    omega
  split
  · exact .inl rfl
  · exact .inr rfl
theorem hOk_plain : hOk 0 64 1024 := by decide
theorem fd_pos {b : Nat} (h0 : b ≠ 0) (hI : b < INF) : (fd b).s = false ∧ (fd b).m % 2 = 1 ∧ (fd b).m ≠ 0 := by
  obtain ⟨h1, h2, h3, h4, h5⟩ := kind_pos h0 hI
  have hm : (fd b).m ≠ 0 := fun h => by
    have := (fd_m0 h4).1 h
    omega
  exact ⟨by rw [fd_s hm, h2], (fd_ok b).resolve_left hm, hm⟩
end
section
open XX
theorem t_order {b : Nat} (hb : b < W) : PC E 17 [u b] (.int .i64 (svb b)) := by
  have e1 := n63 hb
  have hW : b < 18446744073709551616 := hb
  have hl := fsz_lt b
  unfold svb
  simp only [u]
  refine PC.of_body follows Tryz.func17 (by decide +kernel) rfl (by kernel_rfl) (Nat.le_of_ble_eq_true rfl) (walk ?_)
  simp only [Tryz.f17, go_sem]
  refine qif_d (fun h => ?_) (fun h => ?_)
  · have hs : fs b = true := by unfold fs; exact decide_eq_true (by omega)
    rw [if_pos hs]
    have w1 : IntKind.wrap .i64 (fsz b : Int) = fsz b := wrap64 (by omega) (by omega)
    have w2 : IntKind.wrap .i64 (0 - (fsz b : Int)) = -(fsz b : Int) := by rw [wrap64 (by omega) (by omega)]; omega
    simp only [Tryz.f17, e1, w1, w2, go_sem]
    try rfl
  · have hs : fs b = false := by unfold fs; exact decide_eq_false (by omega)
    rw [hs, if_neg Bool.false_ne_true]
    have hz : fsz b = b := Nat.mod_eq_of_lt (by omega)
    have w1 : IntKind.wrap .i64 (b : Int) = b := wrap64 (by omega) (by omega)
    rw [hz]
    simp only [Tryz.f17, w1, go_sem]
    try rfl
end
section
open XX
theorem e_at (s : Bool) (P : Nat) (cs : List PV) (e : Int) : PC E 52 [.agg [.bool s, .lst P cs, .int .i64 e]] (.agg [.bool s, .lst P cs, .int .i64 e, .bool s, .lst P cs, .int .i64 e]) := by
  refine PC.of_body follows Tryz.func52 (by decide +kernel) rfl (by kernel_rfl) (Nat.le_of_ble_eq_true rfl) (walk ?_)
  simp only [Tryz.f52, go_sem]
  try rfl
def expJ (d : Dy) (n : Nat) : Option Iv := if splitOk ⟨d, d⟩ (n + 64) then some (expI ⟨d, d⟩ (n + 64)) else none
theorem e_Exp1 {d : Dy} {K : Nat} (h : Lim K d) (hK : K ≤ 200000) {n : Nat} (hn : n ≤ 8192) : PC E 55 [.int .i64 (n : Nat), .ref [.bool d.s, NN d.m, .int .i64 d.e]] (hold (expJ d n)) := by
  have hR := h.RD (by omega)
  have k1 := e_at d.s (dg W d.m).length (U (dg W d.m)) d.e
  have k2 := x_Exp (p := .agg [.bool d.s, NN d.m, .int .i64 d.e, .bool d.s, NN d.m, .int .i64 d.e]) (i := ⟨d, d⟩) ⟨d.s, NN d.m, d.e, d.s, NN d.m, d.e, rfl, hR, hR⟩ ⟨h, h⟩ hK (s := n + 64) (by omega) (by omega)
  have wn : IntKind.wrap .i64 ((n : Int) + 64) = ((n + 64 : Nat) : Int) := by rw [wrap64 (by omega) (by omega)]; omega
  unfold expJ
  by_cases ho : splitOk ⟨d, d⟩ (n + 64)
  · rw [if_pos ho] at k2 ⊢
    generalize expI ⟨d, d⟩ (n + 64) = X at *
    simp only [hold, Iv.pv, NN, NL] at k1 k2 ⊢
    refine PC.of_body follows Tryz.func55 (by decide +kernel) rfl (by kernel_rfl) (Nat.le_of_ble_eq_true rfl) (walk ?_)
    simp only [Tryz.f55, go_sem]
    refine qcall_i (k1) ?_; simp only [Tryz.f55, wn, go_sem]
    refine qcall_i (k2) ?_; simp only [Tryz.f55, wn, go_sem]
    try rfl
  · rw [if_neg ho] at k2 ⊢
    simp only [hold, Iv.pv, Iv.zero, Dy.zero, NN, NL] at k1 k2 ⊢
    refine PC.of_body follows Tryz.func55 (by decide +kernel) rfl (by kernel_rfl) (Nat.le_of_ble_eq_true rfl) (walk ?_)
    simp only [Tryz.f55, go_sem]
    refine qcall_i (k1) ?_; simp only [Tryz.f55, wn, go_sem]
    refine qcall_i (k2) ?_; simp only [Tryz.f55, wn, go_sem]
    try rfl
def sizeI (i : Iv) (neg : Bool) : Iv := if neg = true then ⟨i.hi.neg, i.lo.neg⟩ else i
theorem sizeI_lim {i : Iv} {K : Nat} (h : i.lim K) (neg : Bool) : (sizeI i neg).lim K := by
  unfold sizeI
  split
  · exact ⟨h.2.neg, h.1.neg⟩
  · exact h
theorem e_sizeI {i : Iv} {K : Nat} (h : i.lim K) (hK : K ≤ 200000) (neg : Bool) : PC E 59 [i.pv, .bool neg] (sizeI i neg).pv := by
  have k1 := r_MinusF (h.1.RD (by omega)) (h.1.fits (by omega))
  have k2 := r_MinusF (h.2.RD (by omega)) (h.2.fits (by omega))
  unfold sizeI
  cases neg with
  | true =>
    rw [if_pos rfl]
    generalize i.lo.neg = A at *
    generalize i.hi.neg = B at *
    simp only [Iv.pv, DP, Dy.pv, NN, NL] at k1 k2 ⊢
    refine PC.of_body follows Tryz.func59 (by decide +kernel) rfl (by kernel_rfl) (Nat.le_of_ble_eq_true rfl) (walk ?_)
    simp only [Tryz.f59, go_sem]
    refine qcall_i (k2) ?_; simp only [Tryz.f59, go_sem]
    refine qcall_i (k1) ?_; simp only [Tryz.f59, go_sem]
    try rfl
  | false =>
    rw [if_neg Bool.false_ne_true]
    simp only [Iv.pv, NN, NL]
    refine PC.of_body follows Tryz.func59 (by decide +kernel) rfl (by kernel_rfl) (Nat.le_of_ble_eq_true rfl) (walk ?_)
    simp only [Tryz.f59, go_sem]
    try rfl
def lnJ (d : Dy) (neg : Bool) (n : Nat) : Option Iv := some (sizeI (logS d (n + 128)) neg)
theorem e_Ln1 {d : Dy} (hl : LgOk d) {K : Nat} (h : Lim K d) (hK : K ≤ 200000) (neg : Bool) {n : Nat} (hn : n ≤ 8192) : PC E 57 [.int .i64 (n : Nat), .ref [.bool d.s, NN d.m, .int .i64 d.e], .ref [.bool neg]] (hold (lnJ d neg n)) := by
  have k1 := g_Log (p := .agg [.bool d.s, NN d.m, .int .i64 d.e]) (h.RD (by omega)) hl (s := n + 128) (by omega) (by omega)
  have ll := logS_lim hl (s := n + 128) (by omega)
  have k2 := e_sizeI ll (by decide) neg
  have wn : IntKind.wrap .i64 ((n : Int) + 128) = ((n + 128 : Nat) : Int) := by rw [wrap64 (by omega) (by omega)]; omega
  unfold lnJ
  generalize sizeI (logS d (n + 128)) neg = Y at *
  generalize logS d (n + 128) = X at *
  simp only [hold, Iv.pv, NN, NL] at k1 k2 ⊢
  refine PC.of_body follows Tryz.func57 (by decide +kernel) rfl (by kernel_rfl) (Nat.le_of_ble_eq_true rfl) (walk ?_)
  simp only [Tryz.f57, wn, go_sem]
  refine qcall_i (k1) ?_; simp only [Tryz.f57, wn, go_sem]
  refine qcall_i (k2) ?_; simp only [Tryz.f57, wn, go_sem]
  try rfl
def eRes (b fl st tr : Nat) : PV := .tuple [.agg [.int .u64 (b : Nat), .int .u8 (fl : Nat), .int .i64 (st : Nat)], .int .i64 (tr : Nat), .int .i64 0]
theorem fd_lim' {x : Nat} (h0 : (fd x).m ≠ 0) : Lim 2200 (fd x) := by
  have h1 := fd_e x
  have h2 := fd_bits x
  exact lim_top (fd_ok' x) h0 (by omega) (by rw [top_eq h0]; omega)
theorem e_Exp {x : Nat} (hx : x < W) (hk : kind x = 2) {dir f t : Int} (ho : hOk dir f t) (hb : boundS ⟨fd x, fd x⟩ (fd x).sg = 0) :
    ∃ b fl st tr, PC E 18 [u x, hvv dir f t] (eRes b fl st tr) ∧ (st = 0 → ∃ n ∈ planS f t, ∃ i, expJ (fd x) n = some i ∧ roundS i false dir = some (b, fl)) := by
  have hf : fe x < 2047 := Decidable.byContradiction fun h => by
    have := (kind_num x).2 h
    omega
  have k1 := e_early hx (by omega) ho
  have k2 := r_FDyad hx
  rw [if_pos hf, decide_eq_true hf] at k2
  have hm0 : (fd x).m ≠ 0 := fun h0 => by
    have := (fd_m0 hf).1 h0
    unfold kind at hk
    have hz : fe x = 0 ∧ ff x = 0 := by
      unfold fsz at this
      unfold fe ff
      omega
    rw [if_pos hz] at hk
    omega
  have hs0 : (fd x).sg ≠ 0 := fun h => by
    unfold Dy.sg at h
    split at h
    · exact hm0 ‹_›
    · split at h <;> omega
  have hl := fd_lim' hm0
  have hR := hl.RD (by decide)
  have k3 := r_Sign hR
  have k4 := e_at (fd x).s (dg W (fd x).m).length (U (dg W (fd x).m)) (fd x).e
  have k5 := b_Of (p := .agg [.bool (fd x).s, NN (fd x).m, .int .i64 (fd x).e, .bool (fd x).s, NN (fd x).m, .int .i64 (fd x).e]) (z := ⟨fd x, fd x⟩) ⟨_, _, _, _, _, _, rfl, hR, hR⟩ ⟨hl, hl⟩ (by decide) (fd x).sg
  rw [hb] at k5
  obtain ⟨b, fl, st, tr, k6, h6⟩ := e_run (fh := 55) (by kernel_rfl) (ch := [.ref [.bool (fd x).s, NN (fd x).m, .int .i64 (fd x).e]]) (I := expJ (fd x)) ho (fun n hn => by
    have := (planS_range ho.1 hn).2.2
    exact e_Exp1 hl (by decide) this) (K := 26200) (fun n hn i hi => by
    unfold expJ at hi
    have := (planS_range ho.1 hn).2.2
    split at hi
    · rename_i hs
      cases hi
      exact expI_lim (by omega) (by omega) hs
    · cases hi) (by decide) false
  refine ⟨b, fl, st, tr, ?_, h6⟩
  generalize (fd x).sg = sg at *
  simp only [eRes, hvv, u, DP, Dy.pv, NN, NL] at k1 k2 k3 k4 k5 k6 ⊢
  refine PC.of_body follows Tryz.func18 (by decide +kernel) rfl (by kernel_rfl) (Nat.le_of_ble_eq_true rfl) (walk ?_)
  simp only [Tryz.f18, go_sem]
  refine qcall_i (k1) ?_; simp only [Tryz.f18, go_sem]
  refine qcall_i (k2) ?_; simp only [Tryz.f18, go_sem]
  refine qcall_i (k3) ?_; simp only [Tryz.f18, go_sem]
  refine qif_df hs0 ?_
  simp only [Tryz.f18, go_sem]
  refine qcall_i (k4) ?_; simp only [Tryz.f18, go_sem]
  refine qcall_i (k3) ?_; simp only [Tryz.f18, go_sem]
  refine qcall_i (k5) ?_; simp only [Tryz.f18, go_sem]
  refine qcall_i (k6) ?_; simp only [Tryz.f18, go_sem]
  try rfl
theorem e_Ln {x : Nat} (hx : x < INF) (h0 : x ≠ 0) {dir f t : Int} (ho : hOk dir f t) :
    ∃ b fl st tr, PC E 19 [u x, hvv dir f t] (eRes b fl st tr) ∧ ((x = 4607182418800017408 → b = 0) ∧ (x ≠ 4607182418800017408 → st = 0 → ∃ n ∈ planS f t, roundS (sizeI (logS (fd x) (n + 128)) (decide (x < 4607182418800017408))) (decide (x < 4607182418800017408)) dir = some (b, fl))) := by
  obtain ⟨hkd, h1, h2, h3, h4⟩ := kind_pos h0 hx
  have k1 := e_early h4 (by omega) ho
  have k2 := c_Kind x h4
  have k3 := c_Neg x h4
  rw [h1] at k3
  have hI : INF = 9218868437227405312 := rfl
  have hc0 : (kind x : Int) ≠ 0 := by omega
  by_cases h5 : x = 4607182418800017408
  · refine ⟨0, 0, 0, 0, ?_, fun _ => rfl, fun h => absurd h5 h⟩
    have k4 := e_is (b := 0)
    simp only [eRes, hvv, u] at k1 k2 k3 k4 ⊢
    refine PC.of_body follows Tryz.func19 (by decide +kernel) rfl (by kernel_rfl) (Nat.le_of_ble_eq_true rfl) (walk ?_)
    simp only [Tryz.f19, go_sem]
    refine qcall_i (k1) ?_; simp only [Tryz.f19, go_sem]
    refine qcall_i (k2) ?_; simp only [Tryz.f19, go_sem]
    refine qif_df hc0 ?_
    simp only [Tryz.f19, go_sem]
    refine qcall_i (k3) ?_; simp only [Tryz.f19, go_sem]
    refine qif_df (by omega) ?_
    simp only [Tryz.f19, go_sem]
    refine qif_dt (by omega) ?_
    simp only [Tryz.f19, go_sem]
    refine qcall_i (k4) ?_; simp only [Tryz.f19, go_sem]
    exact ⟨rfl, rfl⟩
  have k4 := r_FDyad h4
  rw [if_pos h3, decide_eq_true h3] at k4
  obtain ⟨p1, p2, p3⟩ := fd_pos h0 hx
  have hl := fd_lim' p3
  have hlg : LgOk (fd x) := by
    have b1 := fd_bits x
    have b2 := fd_e x
    have b3 := bitLen_pos p3
    have ht : (fd x).top = bitLen (fd x).m - 1 + (fd x).e := if_neg p3
    exact ⟨fd_ok' x, p1, p3, by omega, by omega, by omega⟩
  obtain ⟨b, fl, st, tr, k6, h6⟩ := e_run (fh := 57) (by kernel_rfl) (ch := [.ref [.bool (fd x).s, NN (fd x).m, .int .i64 (fd x).e], .ref [.bool (decide (x < 4607182418800017408))]]) (I := lnJ (fd x) (decide (x < 4607182418800017408))) ho (fun n hn => by
    have := (planS_range ho.1 hn).2.2
    exact e_Ln1 hlg hl (by decide) _ this) (K := 18051) (fun n hn i hi => by
    have := (planS_range ho.1 hn).2.2
    cases hi
    exact sizeI_lim (logS_lim hlg (by omega)) _) (by decide) (decide (x < 4607182418800017408))
  refine ⟨b, fl, st, tr, ?_, fun h => absurd h h5, fun _ hst => ?_⟩
  · have hd : decide ((x : Int) < 4607182418800017408) = decide (x < 4607182418800017408) := decide_eq_decide.2 (by omega)
    generalize decide (x < 4607182418800017408) = ng at *
    simp only [eRes, hvv, u, DP, Dy.pv, NN, NL] at k1 k2 k3 k4 k6 ⊢
    refine PC.of_body follows Tryz.func19 (by decide +kernel) rfl (by kernel_rfl) (Nat.le_of_ble_eq_true rfl) (walk ?_)
    simp only [Tryz.f19, go_sem]
    refine qcall_i (k1) ?_; simp only [Tryz.f19, go_sem]
    refine qcall_i (k2) ?_; simp only [Tryz.f19, go_sem]
    refine qif_df hc0 ?_
    simp only [Tryz.f19, go_sem]
    refine qcall_i (k3) ?_; simp only [Tryz.f19, go_sem]
    refine qif_df (by omega) ?_
    simp only [Tryz.f19, go_sem]
    refine qif_df (by omega) ?_
    simp only [Tryz.f19, go_sem]
    refine qcall_i (k4) ?_; simp only [Tryz.f19, hd, go_sem]
    refine qcall_i (k6) ?_; simp only [Tryz.f19, go_sem]
    try rfl
  · obtain ⟨n, n1, i, i1, i2⟩ := h6 hst
    cases i1
    exact ⟨n, n1, i2⟩
end
section
open XX
theorem toS_W2 {D : Dy} (h0 : D.m ≠ 0) (d : Int) : (toS D false d).1 < W := by
  have h := mag_le h0 false d
  have hI : INF = 9218868437227405312 := rfl
  have hW : W = 18446744073709551616 := rfl
  rw [show toS D false d = (withS D.s (magS D false d).1, (magS D false d).2) from if_neg h0]
  unfold withS
  dsimp only
  split <;> omega
theorem exp_cert {d : Dy} {n : Nat} (hn : n ≤ 8192) {i : Iv} (hi : expJ d n = some i) {dir : Int} {r : Nat × Nat} (h : roundS i false dir = some r) :
    0 < i.lo.val ∧ 0 < i.hi.val ∧ XL i.lo.val d.val ∧ XU d.val i.hi.val ∧ toS i.lo false dir = r ∧ toS i.hi false dir = r := by
  unfold expJ at hi
  split at hi
  · rename_i hs
    cases hi
    unfold roundS at h
    split at h
    · rename_i hc
      cases h
      obtain ⟨h1, h2, h3, h4⟩ := exp_br (i := ⟨d, d⟩) (by omega) (by omega) hs hc.1.1
      exact ⟨h1, h2, h3, h4, rfl, hc.2.symm⟩
    · cases h
  · cases hi
theorem ln_cert {d : Dy} (hl : LgOk d) {s : Nat} (hs : s ≤ 9000) {neg : Bool} {dir : Int} {r : Nat × Nat} (h : roundS (sizeI (logS d s) neg) neg dir = some r) :
    toS (logS d s).lo false dir = r ∧ toS (logS d s).hi false dir = r := by
  have ll := logS_lim hl hs
  unfold roundS at h
  split at h
  · rename_i hc
    cases h
    have h2 := hc.2
    unfold sizeI at h2 ⊢
    cases neg with
    | false =>
      rw [if_neg Bool.false_ne_true] at h2 ⊢
      exact ⟨rfl, h2.symm⟩
    | true =>
      rw [if_pos rfl] at h2 ⊢
      dsimp only at h2 ⊢
      have e : ∀ d : Dy, d.ok → sgnD d.neg true = d := fun d hd => by
        show d.neg.neg = d
        exact neg_neg hd
      rw [e _ ll.1.ok, e _ ll.2.ok] at h2
      rw [e _ ll.2.ok]
      exact ⟨h2.symm, rfl⟩
  · cases h
theorem toS_self {b : Nat} (hb : b < W) (hf : fe b < 2047) (dir : Int) : svb (toS (fd b) false dir).1 = svb b := by
  rw [toS_fd hf]
  by_cases hz : fsz b = 0
  · rw [if_pos hz]
    unfold svb
    rw [hz]
    show svb 0 = _
    have : svb 0 = 0 := by decide
    rw [this]
    split <;> rfl
  · rw [if_neg hz, withS_self hb]
theorem svb_pos {b : Nat} (h : b < INF) : svb b = b := by
  have hI := INF_lt
  have h1 := fs_small (b := b) (by omega)
  have h2 : fsz b = b := Nat.mod_eq_of_lt (by omega)
  unfold svb
  rw [h1, h2, if_neg Bool.false_ne_true]
def nearX (x : Nat) : Prop := kind x = 2 ∧ svb x ≤ 4647714815446351872 ∧ -4647714815446351872 ≤ svb x ∧ 4377498837804122112 ≤ fsz x
theorem x_range {x : Nat} (hx : x < W) (h : nearX x) : fe x < 2047 ∧ -512 ≤ (fd x).val ∧ (fd x).val ≤ 512 ∧ ((fd x).val ≤ -(1 / 2251799813685248) ∨ 1 / 2251799813685248 ≤ (fd x).val) := by
  obtain ⟨hk, h1, h2, h3⟩ := h
  have hf : fe x < 2047 := Decidable.byContradiction fun h => by
    have := (kind_num x).2 h
    omega
  have hz : fsz x ≤ 4647714815446351872 := by
    unfold svb at h1 h2
    split at h1 <;> rename_i hs
    · rw [if_pos hs] at h2; omega
    · omega
  have c1 := fd_abs_cmp x 4647714815446351872
  have c2 := fd_abs_cmp 4377498837804122112 x
  have z1 : fsz 4647714815446351872 = 4647714815446351872 := by decide
  have z2 : fsz 4377498837804122112 = 4377498837804122112 := by decide
  rw [z1] at c1
  rw [z2] at c2
  have d1 := cmp_val_le.1 (show cmpD (fd x).abs (fd 4647714815446351872).abs ≤ 0 by rw [c1]; exact (sgn_le _ _).2 (by omega))
  have d2 := cmp_val_le.1 (show cmpD (fd 4377498837804122112).abs (fd x).abs ≤ 0 by rw [c2]; exact (sgn_le _ _).2 (by omega))
  have v1 : (fd 4647714815446351872).abs.val = 512 := by decide +kernel
  have v2 : (fd 4377498837804122112).abs.val = 1 / 2251799813685248 := by decide +kernel
  rw [v1, val_abs] at d1
  rw [v2, val_abs] at d2
  refine ⟨hf, ?_, ?_, ?_⟩
  · split at d1 <;> grind
  · split at d1 <;> grind
  · split at d2
    · left; grind
    · right; exact d2
theorem x_open {x : Nat} (hx : x < W) (h : nearX x) : boundS ⟨fd x, fd x⟩ (fd x).sg = 0 := by
  obtain ⟨hf, h1, h2, h3⟩ := x_range hx h
  have v1 : (norm 710 0).val = 710 := by decide +kernel
  have v2 : (norm (-746) 0).val = -746 := by decide +kernel
  have v3 : nearD.val = 1 / 1152921504606846976 := by decide +kernel
  have v4 : nearD.neg.val = -(1 / 1152921504606846976) := by rw [val_neg, v3]
  have k1 : (1 : Rat) / 1152921504606846976 < 1 / 2251799813685248 := by decide +kernel
  have k0 : (0 : Rat) < 1 / 1152921504606846976 := by decide +kernel
  unfold boundS
  by_cases c0 : (fd x).sg = 0 ∨ ¬ (⟨fd x, fd x⟩ : Iv).right
  · exact if_pos c0
  rw [if_neg c0]
  dsimp only
  rw [if_neg (fun c => by
    have := cmp_val_ge.1 c
    rw [v1] at this
    grind), if_neg (fun c => by
    have := cmp_val_le.1 c
    rw [v2] at this
    grind), if_neg (fun c => by
    have a := cmp_val_lt.1 c.2
    have b := sg_val.2.2.1 (show 0 < (fd x).sg by omega)
    rw [v3] at a
    rcases h3 with h3 | h3 <;> grind), if_neg (fun c => by
    have a := cmp_val_gt.1 c.2
    have b := sg_val.2.1.1 (show (fd x).sg < 0 by omega)
    rw [v4] at a
    rcases h3 with h3 | h3 <;> grind)]
structure Cx (x r : Nat) : Prop where
  vV : ∃ v V : Dy, 0 < v.val ∧ 0 < V.val ∧ XL v.val (fd x).val ∧ XU (fd x).val V.val ∧ (toS v false 0).1 = r ∧ (toS V false 0).1 = r
theorem val_s {d : Dy} (h : 0 < d.val) : d.s = false ∧ d.m ≠ 0 := by
  have hs := sg_val.2.2.2 h
  exact ⟨pos_s hs, sg_m0 hs⟩
theorem far_ln : XL ((2 : Rat) ^ (-1000 : Int)) (-512) ∧ XU 512 ((2 : Rat) ^ (1000 : Int)) := by
  have p2 : (0 : Rat) < 2 := by decide
  have l1 := ln2_lo 20
  have l2 := ln2_hi 20
  constructor
  · exact XL.zpow p2 l1 l2 (-1000) (by decide +kernel) (by decide +kernel)
  · exact XU.zpow p2 l1 l2 1000 (by decide +kernel) (by decide +kernel)
theorem near_r {x r : Nat} (hx : x < W) (h : nearX x) (c : Cx x r) : 103582791429521408 ≤ r ∧ r ≤ 9110782046170513408 := by
  obtain ⟨hf, h1, h2, -⟩ := x_range hx h
  obtain ⟨v, V, v0, V0, l, u, e1, e2⟩ := c.vV
  obtain ⟨f1, f2⟩ := far_ln
  have a1 := (f1.mono h1 Rat.le_refl (Rat.le_of_lt (z2_pos _))).le u (Rat.le_of_lt (z2_pos _)) (Rat.le_of_lt V0)
  have a2 := l.le (f2.mono h2 Rat.le_refl (Rat.le_of_lt (z2_pos _))) (Rat.le_of_lt v0) (Rat.le_of_lt (z2_pos _))
  rw [← pw_val] at a1 a2
  have m1 := toS_mono (cmp_val_le.2 a1) 0
  have m2 := toS_mono (cmp_val_le.2 a2) 0
  rw [e2, show svb (toS ⟨false, 1, -1000⟩ false 0).1 = 103582791429521408 by decide +kernel] at m1
  rw [e1, show svb (toS ⟨false, 1, 1000⟩ false 0).1 = 9110782046170513408 by decide +kernel] at m2
  have hI : INF = 9218868437227405312 := rfl
  obtain ⟨sv0, sm0⟩ := val_s v0
  have hr : r ≤ INF := by
    have := mag_le sm0 false 0
    have e : (toS v false 0).1 = withS v.s (magS v false 0).1 := by
      rw [show toS v false 0 = (withS v.s (magS v false 0).1, (magS v false 0).2) from if_neg sm0]
    rw [sv0] at e
    have e3 : withS false (magS v false 0).1 = (magS v false 0).1 := by unfold withS; rw [if_neg Bool.false_ne_true]
    rw [e3] at e
    omega
  have hs : svb r = r := by
    have hI2 := INF_lt
    have h1 := fs_small (b := r) (by omega)
    have h2 : fsz r = r := Nat.mod_eq_of_lt (by omega)
    unfold svb
    rw [h1, h2, if_neg Bool.false_ne_true]
  rw [hs] at m1 m2
  omega
theorem near_low {x r m : Nat} (hx : x < W) (h : nearX x) (c : Cx x r) (hm : m < r) (hmI : m < INF) (hr : r < INF) (t : Rat) (ht : XU t (fd m).val) (hm0 : 0 < (fd m).val) : ¬ (fd x).val < t := fun hlt => by
  obtain ⟨v, V, v0, V0, l, u, e1, e2⟩ := c.vV
  have a := l.le (ht.mono (Rat.le_of_lt hlt) Rat.le_refl (Rat.le_of_lt hm0)) (Rat.le_of_lt v0) (Rat.le_of_lt hm0)
  have m1 := toS_mono (cmp_val_le.2 a) 0
  have hI := INF_lt
  have hW : W = 18446744073709551616 := rfl
  rw [e1, toS_self (by omega) (fsz_INF.2 (by rw [show fsz m = m from Nat.mod_eq_of_lt (by omega)]; exact hmI)), svb_pos hmI, svb_pos hr] at m1
  omega
theorem near_high {x r m : Nat} (hx : x < W) (h : nearX x) (c : Cx x r) (hm : r < m) (hmI : m < INF) (t : Rat) (ht : XL (fd m).val t) (hm0 : 0 < (fd m).val) : ¬ t < (fd x).val := fun hlt => by
  obtain ⟨v, V, v0, V0, l, u, e1, e2⟩ := c.vV
  have a := (ht.mono (Rat.le_of_lt hlt) Rat.le_refl (Rat.le_of_lt hm0)).le u (Rat.le_of_lt hm0) (Rat.le_of_lt V0)
  have m1 := toS_mono (cmp_val_le.2 a) 0
  have hI := INF_lt
  have hW : W = 18446744073709551616 := rfl
  rw [e2, toS_self (by omega) (fsz_INF.2 (by rw [show fsz m = m from Nat.mod_eq_of_lt (by omega)]; exact hmI)), svb_pos hmI, svb_pos (show r < INF by omega)] at m1
  omega
theorem ln_low {x r m : Nat} (hx : x < W) (h : nearX x) (c : Cx x r) (hm : m < r) (hm0 : m ≠ 0) (hr : r < INF) {neg : Bool} {n : Nat} (hn : n ≤ 8192) {b fl : Nat}
    (hc : roundS (sizeI (logS (fd m) (n + 128)) neg) neg 3 = some (b, fl)) (hlg : LgOk (fd m)) : svb b ≤ svb x := by
  obtain ⟨hf, -⟩ := x_range hx h
  obtain ⟨q1, q2⟩ := ln_cert hlg (by omega) hc
  obtain ⟨p0, p1, p2⟩ := log_br hlg (s := n + 128) (by omega)
  refine Decidable.byContradiction fun hn => ?_
  refine near_low hx h c hm (by omega) hr _ p1 p0 ?_
  refine Decidable.byContradiction fun hle => ?_
  have m1 := toS_mono (a := (logS (fd m) (n + 128)).lo) (b := fd x) (cmp_val_le.2 (by grind)) 3
  rw [q1, toS_self hx hf] at m1
  exact hn m1
theorem ln_high {x r m : Nat} (hx : x < W) (h : nearX x) (c : Cx x r) (hm : r < m) (hmI : m < INF) {neg : Bool} {n : Nat} (hn : n ≤ 8192) {b fl : Nat}
    (hc : roundS (sizeI (logS (fd m) (n + 128)) neg) neg 2 = some (b, fl)) (hlg : LgOk (fd m)) : svb x ≤ svb b := by
  obtain ⟨hf, -⟩ := x_range hx h
  obtain ⟨q1, q2⟩ := ln_cert hlg (by omega) hc
  obtain ⟨p0, p1, p2⟩ := log_br hlg (s := n + 128) (by omega)
  refine Decidable.byContradiction fun hn => ?_
  refine near_high hx h c hm hmI _ p2 p0 ?_
  refine Decidable.byContradiction fun hle => ?_
  have m1 := toS_mono (a := fd x) (b := (logS (fd m) (n + 128)).hi) (cmp_val_le.2 (by grind)) 2
  rw [q2, toS_self hx hf] at m1
  exact hn m1
theorem sv_zero {x : Nat} (hx : x < W) (hf : fe x < 2047) : (svb x < 0 → (fd x).val < 0) ∧ (0 < svb x → 0 < (fd x).val) := by
  have z : svb (toS Dy.zero false 0).1 = 0 := by decide
  have v0 : Dy.zero.val = 0 := val_zero rfl
  constructor
  · intro h
    refine Decidable.byContradiction fun hn => ?_
    have m1 := toS_mono (a := Dy.zero) (b := fd x) (cmp_val_le.2 (by rw [v0]; grind)) 0
    rw [z, toS_self hx hf] at m1
    omega
  · intro h
    refine Decidable.byContradiction fun hn => ?_
    have m1 := toS_mono (a := fd x) (b := Dy.zero) (cmp_val_le.2 (by rw [v0]; grind)) 0
    rw [z, toS_self hx hf] at m1
    omega
theorem one_low {x r : Nat} (hx : x < W) (h : nearX x) (c : Cx x r) (hm : ONE < r) (hr : r < INF) : 0 ≤ svb x := by
  have v1 : (fd ONE).val = 1 := by decide +kernel
  refine Decidable.byContradiction fun hn => ?_
  have h0 := (sv_zero hx (x_range hx h).1).1 (by omega)
  exact near_low hx h c hm (by decide) hr 0 (by rw [v1]; exact XU.zero) (by rw [v1]; decide) h0
theorem one_high {x r : Nat} (hx : x < W) (h : nearX x) (c : Cx x r) (hm : r < ONE) : svb x ≤ 0 := by
  have v1 : (fd ONE).val = 1 := by decide +kernel
  refine Decidable.byContradiction fun hn => ?_
  have h0 := (sv_zero hx (x_range hx h).1).2 (by omega)
  exact near_high hx h c hm (by decide) 0 (by rw [v1]; exact XL.zero) (by rw [v1]; decide) h0
end
section
open XX
set_option maxHeartbeats 8000000 in
theorem law_WholeNearest (pvs : List PV) (h : Fits [qU64] pvs) : PC E 4 pvs (.bool true) := by
  obtain ⟨_, rfl, ⟨x, rfl, hx⟩⟩ := fitsO1 h
  have k0 := l_alive
  have k1 := c_rKind x hx
  have o1 := t_order hx
  have oA := t_order (b := 4647714815446351872) (by decide)
  have oB := t_order (b := 13871086852301127680) (by decide)
  rw [show svb 4647714815446351872 = 4647714815446351872 by decide] at oA
  rw [show svb 13871086852301127680 = -4647714815446351872 by decide] at oB
  have e1 := n63 hx
  simp only [u] at k1 o1 oA oB ⊢
  by_cases c1 : kind x = 2
  case neg =>
    have g1 : decide (¬ (kind x : Int) = 2) = true := decide_eq_true (by omega)
    refine PC.of_body follows Tryz.func4 (by decide +kernel) rfl (by kernel_rfl) (Nat.le_of_ble_eq_true rfl) (walk ?_)
    simp only [Tryz.f4, go_sem]
    refine qcall_i (k0) ?_; simp only [Tryz.f4, go_sem]
    refine qcall_i (k1) ?_; simp only [Tryz.f4, g1, go_sem]
  have g1 : decide (¬ (kind x : Int) = 2) = false := decide_eq_false (by omega)
  by_cases c2 : svb x ≤ 4647714815446351872
  case neg =>
    have g2 : decide (svb x > 4647714815446351872) = true := decide_eq_true (by omega)
    refine PC.of_body follows Tryz.func4 (by decide +kernel) rfl (by kernel_rfl) (Nat.le_of_ble_eq_true rfl) (walk ?_)
    simp only [Tryz.f4, go_sem]
    refine qcall_i (k0) ?_; simp only [Tryz.f4, go_sem]
    refine qcall_i (k1) ?_; simp only [Tryz.f4, g1, go_sem]
    refine qcall_i (o1) ?_; simp only [Tryz.f4, g1, go_sem]
    refine qcall_i (oA) ?_; simp only [Tryz.f4, g1, g2, go_sem]
  have g2 : decide (svb x > 4647714815446351872) = false := decide_eq_false (by omega)
  by_cases c3 : -4647714815446351872 ≤ svb x
  case neg =>
    have g3 : decide (svb x < -4647714815446351872) = true := decide_eq_true (by omega)
    refine PC.of_body follows Tryz.func4 (by decide +kernel) rfl (by kernel_rfl) (Nat.le_of_ble_eq_true rfl) (walk ?_)
    simp only [Tryz.f4, go_sem]
    refine qcall_i (k0) ?_; simp only [Tryz.f4, go_sem]
    refine qcall_i (k1) ?_; simp only [Tryz.f4, g1, go_sem]
    refine qcall_i (o1) ?_; simp only [Tryz.f4, g1, go_sem]
    refine qcall_i (oA) ?_; simp only [Tryz.f4, g1, g2, go_sem]
    refine qcall_i (o1) ?_; simp only [Tryz.f4, g1, g2, go_sem]
    refine qcall_i (oB) ?_; simp only [Tryz.f4, g1, g2, g3, go_sem]
  have g3 : decide (svb x < -4647714815446351872) = false := decide_eq_false (by omega)
  by_cases c4 : 4377498837804122112 ≤ fsz x
  case neg =>
    have g4 : decide ((fsz x : Int) < 4377498837804122112) = true := decide_eq_true (by omega)
    refine PC.of_body follows Tryz.func4 (by decide +kernel) rfl (by kernel_rfl) (Nat.le_of_ble_eq_true rfl) (walk ?_)
    simp only [Tryz.f4, go_sem]
    refine qcall_i (k0) ?_; simp only [Tryz.f4, go_sem]
    refine qcall_i (k1) ?_; simp only [Tryz.f4, g1, go_sem]
    refine qcall_i (o1) ?_; simp only [Tryz.f4, g1, go_sem]
    refine qcall_i (oA) ?_; simp only [Tryz.f4, g1, g2, go_sem]
    refine qcall_i (o1) ?_; simp only [Tryz.f4, g1, g2, go_sem]
    refine qcall_i (oB) ?_; simp only [Tryz.f4, g1, g2, g3, e1, g4, go_sem]
  have g4 : decide ((fsz x : Int) < 4377498837804122112) = false := decide_eq_false (by omega)
  have hN : nearX x := ⟨c1, c2, c3, c4⟩
  have k2 := w_Plain
  have ho : hOk 0 64 1024 := hOk_plain
  obtain ⟨r, fl, st, tr, k3, hc⟩ := e_Exp hx c1 ho (x_open hx hN)
  by_cases z0 : st = 0
  case neg =>
    simp only [hvv, eRes, u] at k2 k3
    refine PC.of_body follows Tryz.func4 (by decide +kernel) rfl (by kernel_rfl) (Nat.le_of_ble_eq_true rfl) (walk ?_)
    simp only [Tryz.f4, go_sem]
    refine qcall_i (k0) ?_; simp only [Tryz.f4, go_sem]
    refine qcall_i (k1) ?_; simp only [Tryz.f4, g1, go_sem]
    refine qcall_i (o1) ?_; simp only [Tryz.f4, g1, go_sem]
    refine qcall_i (oA) ?_; simp only [Tryz.f4, g1, g2, go_sem]
    refine qcall_i (o1) ?_; simp only [Tryz.f4, g1, g2, go_sem]
    refine qcall_i (oB) ?_; simp only [Tryz.f4, g1, g2, g3, e1, g4, go_sem]
    refine qcall_i (k2) ?_; simp only [Tryz.f4, go_sem]
    refine qcall_i (k3) ?_; simp only [Tryz.f4, go_sem]
    refine qif_dt (by omega) ?_
    simp only [Tryz.f4, go_sem]
    try rfl
  have cx : Cx x r := by
    obtain ⟨n, n1, i, i1, i2⟩ := hc z0
    obtain ⟨h1, h2, h3, h4, h5, h6⟩ := exp_cert (planS_range ho.1 n1).2.2 i1 i2
    exact ⟨⟨i.lo, i.hi, h1, h2, h3, h4, by rw [h5], by rw [h6]⟩⟩
  obtain ⟨r1, r2⟩ := near_r hx hN cx
  have hI : INF = 9218868437227405312 := rfl
  have hW : W = 18446744073709551616 := rfl
  have hOne : ONE = 4607182418800017408 := rfl
  obtain ⟨m, hm⟩ : ∃ m, m = r - 1 := ⟨_, rfl⟩
  obtain ⟨M, hM⟩ : ∃ M, M = r + 1 := ⟨_, rfl⟩
  have wm : IntKind.wrap .u64 ((r : Int) - 1) = (m : Int) := by rw [show (r : Int) - 1 = ((m : Nat) : Int) by omega]; exact wrap_nat64 (by omega)
  have wM : IntKind.wrap .u64 ((r : Int) + 1) = (M : Int) := by rw [show (r : Int) + 1 = ((M : Nat) : Int) by omega]; exact wrap_nat64 (by omega)
  have ho3 : hOk 3 64 1024 := ⟨hOk_plain.1, by decide, by decide⟩
  have ho2 : hOk 2 64 1024 := ⟨hOk_plain.1, by decide, by decide⟩
  obtain ⟨lb, lf, ls, lt, k4, lc1, lc2⟩ := e_Ln (x := m) (by omega) (by omega) ho3
  obtain ⟨hb, hf, hs, ht, k5, hc1, hc2⟩ := e_Ln (x := M) (by omega) (by omega) ho2
  have lgm : ∀ q, q ≠ 0 → q < INF → LgOk (fd q) := fun q q0 qI => by
    obtain ⟨p1, p2, p3⟩ := fd_pos q0 qI
    have b1 := fd_bits q
    have b2 := fd_e q
    have b3 := bitLen_pos p3
    have ht : (fd q).top = bitLen (fd q).m - 1 + (fd q).e := if_neg p3
    exact ⟨fd_ok' q, p1, p3, by omega, by omega, by omega⟩
  have rW : ∀ {i : Iv} {ng : Bool} {dd : Int} {b f : Nat}, roundS i ng dd = some (b, f) → b < W := fun {i ng dd b f} h => by
    unfold roundS at h
    split at h
    · rename_i hq
      have h0 := sg_m0 hq.1.1.2
      have := toS_W2 (D := sgnD i.lo ng) (by rw [sgnD_m]; exact h0) dd
      simp only [Option.some.injEq] at h
      rw [h] at this
      exact this
    · cases h
  have low : ls = 0 → lb < W ∧ svb lb ≤ svb x := fun hls => by
    by_cases hq : m = 4607182418800017408
    · rw [lc1 hq]
      have := one_low hx hN cx (by omega) (by omega)
      exact ⟨by omega, by rw [show svb 0 = 0 by decide]; exact this⟩
    · obtain ⟨n, n1, n2⟩ := lc2 hq hls
      exact ⟨rW n2, ln_low hx hN cx (by omega) (by omega) (by omega) (planS_range ho.1 n1).2.2 n2 (lgm m (by omega) (by omega))⟩
  have high : hs = 0 → hb < W ∧ svb x ≤ svb hb := fun hhs => by
    by_cases hq : M = 4607182418800017408
    · rw [hc1 hq]
      have := one_high hx hN cx (by omega)
      exact ⟨by omega, by rw [show svb 0 = 0 by decide]; exact this⟩
    · obtain ⟨n, n1, n2⟩ := hc2 hq hhs
      exact ⟨rW n2, ln_high hx hN cx (by omega) (by omega) (planS_range ho.1 n1).2.2 n2 (lgm M (by omega) (by omega))⟩
  clear lc1 lc2 hc1 hc2 hc rW lgm
  simp only [hvv, eRes, u] at k2 k3 k4 k5
  have s0 : decide (¬ (st : Int) = 0) = false := decide_eq_false (by omega)
  by_cases z1 : ls = 0
  · have q1 : decide (¬ (ls : Int) = 0) = false := decide_eq_false (by omega)
    obtain ⟨l1, l2⟩ := low z1
    have oL := t_order l1
    simp only [u] at oL
    generalize svb lb = sL at *
    generalize svb x = sx at *
    have q2 : decide (sL ≤ sx) = true := decide_eq_true l2
    by_cases z2 : hs = 0
    · have q3 : decide (¬ (hs : Int) = 0) = false := decide_eq_false (by omega)
      obtain ⟨l3, l4⟩ := high z2
      have oH := t_order l3
      simp only [u] at oH
      generalize svb hb = sH at *
      have q4 : decide (sH ≥ sx) = true := decide_eq_true l4
      refine PC.of_body follows Tryz.func4 (by decide +kernel) rfl (by kernel_rfl) (Nat.le_of_ble_eq_true rfl) (walk ?_)
      simp only [Tryz.f4, go_sem]
      refine qcall_i (k0) ?_; simp only [Tryz.f4, go_sem]
      refine qcall_i (k1) ?_; simp only [Tryz.f4, g1, go_sem]
      refine qcall_i (o1) ?_; simp only [Tryz.f4, g1, go_sem]
      refine qcall_i (oA) ?_; simp only [Tryz.f4, g1, g2, go_sem]
      refine qcall_i (o1) ?_; simp only [Tryz.f4, g1, g2, go_sem]
      refine qcall_i (oB) ?_; simp only [Tryz.f4, g1, g2, g3, e1, g4, go_sem]
      refine qcall_i (k2) ?_; simp only [Tryz.f4, go_sem]
      refine qcall_i (k3) ?_; simp only [Tryz.f4, s0, wm, go_sem]
      refine qcall_i (k4) ?_; simp only [Tryz.f4, wM, go_sem]
      refine qcall_i (k5) ?_; simp only [Tryz.f4, q1, q3, go_sem]
      refine qcall_i (oL) ?_; simp only [Tryz.f4, q1, q3, go_sem]
      refine qcall_i (o1) ?_; simp only [Tryz.f4, q1, q2, q3, go_sem]
      refine qcall_i (oH) ?_; simp only [Tryz.f4, q1, q2, q3, go_sem]
      refine qcall_i (o1) ?_; simp only [Tryz.f4, q1, q2, q3, q4, go_sem]
      try rfl
    · have q3 : decide (¬ (hs : Int) = 0) = true := decide_eq_true (by omega)
      refine PC.of_body follows Tryz.func4 (by decide +kernel) rfl (by kernel_rfl) (Nat.le_of_ble_eq_true rfl) (walk ?_)
      simp only [Tryz.f4, go_sem]
      refine qcall_i (k0) ?_; simp only [Tryz.f4, go_sem]
      refine qcall_i (k1) ?_; simp only [Tryz.f4, g1, go_sem]
      refine qcall_i (o1) ?_; simp only [Tryz.f4, g1, go_sem]
      refine qcall_i (oA) ?_; simp only [Tryz.f4, g1, g2, go_sem]
      refine qcall_i (o1) ?_; simp only [Tryz.f4, g1, g2, go_sem]
      refine qcall_i (oB) ?_; simp only [Tryz.f4, g1, g2, g3, e1, g4, go_sem]
      refine qcall_i (k2) ?_; simp only [Tryz.f4, go_sem]
      refine qcall_i (k3) ?_; simp only [Tryz.f4, s0, wm, go_sem]
      refine qcall_i (k4) ?_; simp only [Tryz.f4, wM, go_sem]
      refine qcall_i (k5) ?_; simp only [Tryz.f4, q1, q3, go_sem]
      refine qcall_i (oL) ?_; simp only [Tryz.f4, q1, q3, go_sem]
      refine qcall_i (o1) ?_; simp only [Tryz.f4, q1, q2, q3, go_sem]
      try rfl
  · have q1 : decide (¬ (ls : Int) = 0) = true := decide_eq_true (by omega)
    by_cases z2 : hs = 0
    · have q3 : decide (¬ (hs : Int) = 0) = false := decide_eq_false (by omega)
      obtain ⟨l3, l4⟩ := high z2
      have oH := t_order l3
      simp only [u] at oH
      generalize svb hb = sH at *
      generalize svb x = sx at *
      have q4 : decide (sH ≥ sx) = true := decide_eq_true l4
      refine PC.of_body follows Tryz.func4 (by decide +kernel) rfl (by kernel_rfl) (Nat.le_of_ble_eq_true rfl) (walk ?_)
      simp only [Tryz.f4, go_sem]
      refine qcall_i (k0) ?_; simp only [Tryz.f4, go_sem]
      refine qcall_i (k1) ?_; simp only [Tryz.f4, g1, go_sem]
      refine qcall_i (o1) ?_; simp only [Tryz.f4, g1, go_sem]
      refine qcall_i (oA) ?_; simp only [Tryz.f4, g1, g2, go_sem]
      refine qcall_i (o1) ?_; simp only [Tryz.f4, g1, g2, go_sem]
      refine qcall_i (oB) ?_; simp only [Tryz.f4, g1, g2, g3, e1, g4, go_sem]
      refine qcall_i (k2) ?_; simp only [Tryz.f4, go_sem]
      refine qcall_i (k3) ?_; simp only [Tryz.f4, s0, wm, go_sem]
      refine qcall_i (k4) ?_; simp only [Tryz.f4, wM, go_sem]
      refine qcall_i (k5) ?_; simp only [Tryz.f4, q1, q3, go_sem]
      refine qcall_i (oH) ?_; simp only [Tryz.f4, q1, q3, go_sem]
      refine qcall_i (o1) ?_; simp only [Tryz.f4, q1, q3, q4, go_sem]
      try rfl
    · have q3 : decide (¬ (hs : Int) = 0) = true := decide_eq_true (by omega)
      refine PC.of_body follows Tryz.func4 (by decide +kernel) rfl (by kernel_rfl) (Nat.le_of_ble_eq_true rfl) (walk ?_)
      simp only [Tryz.f4, go_sem]
      refine qcall_i (k0) ?_; simp only [Tryz.f4, go_sem]
      refine qcall_i (k1) ?_; simp only [Tryz.f4, g1, go_sem]
      refine qcall_i (o1) ?_; simp only [Tryz.f4, g1, go_sem]
      refine qcall_i (oA) ?_; simp only [Tryz.f4, g1, g2, go_sem]
      refine qcall_i (o1) ?_; simp only [Tryz.f4, g1, g2, go_sem]
      refine qcall_i (oB) ?_; simp only [Tryz.f4, g1, g2, g3, e1, g4, go_sem]
      refine qcall_i (k2) ?_; simp only [Tryz.f4, go_sem]
      refine qcall_i (k3) ?_; simp only [Tryz.f4, s0, wm, go_sem]
      refine qcall_i (k4) ?_; simp only [Tryz.f4, wM, go_sem]
      refine qcall_i (k5) ?_; simp only [Tryz.f4, q1, q3, go_sem]
      try rfl
end
section
open XX
theorem powD_fits {d : Dy} {n : Nat} (hfit : fitsR d n) : (powD d n).fits := by
  have h2 := hfit.2
  have e : (d.e * (n : Int)).natAbs = d.e.natAbs * n := by rw [Int.natAbs_mul, Int.natAbs_natCast]
  rw [Int.natAbs_natCast] at h2
  constructor
  · show (-1073741824 : Int) ≤ d.e * n
    omega
  · show d.e * (n : Int) ≤ 1073741824
    omega
theorem t_PowF {d : Dy} (hs : d.s = false) (hm : d.m % 2 = 1) (hf : d.fits) (hb : bitLen d.m ≤ 60000) {n : Nat} (hn : n < 4611686018427387904) (hfit : fitsR d n) : PC E 125 [d.pv, .int .i64 n] (.tuple [(powD d n).pv, .int .i64 0]) := by
  have hok : d.ok := .inr hm
  have hR : RD d.pv d := RD.fit hok (by omega) hf
  have k1 := r_Bare hR
  rw [okD_of hf] at k1
  have k2 := t_Fits hR hf (m := n) (by omega) (by omega)
  rw [decide_eq_true hfit] at k2
  have hf1 := hfit.1
  rw [Int.natAbs_natCast] at hf1
  have k3 := k_PowG (x := d.m) (n := n) (by omega) (by omega) hn
  have hpb := pow_bits d.m n
  have hpf := powD_fits hfit
  have k4 := r_Make (num_bits (x := d.m ^ n) (by omega)) (by omega) false (d.e * n)
  rw [mkD_odd (odd_pow hm n) (by have := hpf.1; show -2147483648 ≤ d.e * (n : Int); have e : (powD d n).e = d.e * n := rfl; omega) (by have := hpf.2; have e : (powD d n).e = d.e * n := rfl; omega), okD_of (d := ⟨false, d.m ^ n, d.e * n⟩) hpf] at k4
  have w0 : IntKind.wrap .i64 (d.e * (n : Int)) = d.e * n := by
    have h1 := hpf.1
    have h2 := hpf.2
    have e : (powD d n).e = d.e * n := rfl
    exact wrap64 (by omega) (by omega)
  obtain ⟨s, m, e⟩ := d
  dsimp only at hs
  subst hs
  unfold powD
  dsimp only at *
  generalize m ^ n = P at *
  simp only [DP, Dy.pv, NN, NL] at k1 k2 k3 k4 ⊢
  refine PC.of_body follows Tryz.func125 (by decide +kernel) rfl (by kernel_rfl) (Nat.le_of_ble_eq_true rfl) (walk ?_)
  simp only [Tryz.f125, go_sem]
  refine qcall_i (k1) ?_; simp only [Tryz.f125, go_sem]
  refine qif_df (by omega) ?_
  simp only [Tryz.f125, go_sem]
  refine qcall_i (k2) ?_; simp only [Tryz.f125, go_sem]
  refine qcall_i (k3) ?_; simp only [Tryz.f125, go_sem]
  simp only [Tryz.f125, w0, go_sem]
  refine qcall_i (k4) ?_; simp only [Tryz.f125, go_sem]
  try exact ⟨rfl, rfl⟩
  try rfl
theorem t_power {d : Dy} (hs : d.s = false) (hm : d.m % 2 = 1) (hf : d.fits) (hb : bitLen d.m ≤ 60000) {n : Int} (hn : -2147483648 ≤ n ∧ n ≤ 2147483648) (hfit : fitsR d n) : PC E 127 [d.pv, .int .i64 n] (.tuple [(powD d n.natAbs).pv, .int .i64 0]) := by
  have k1 := t_PowF hs hm hf hb (n := n.natAbs) (by omega) (by unfold fitsR at hfit ⊢; rwa [Int.natAbs_natCast])
  have w0 : IntKind.wrap .i64 (0 - n) = -n := by rw [wrap64 (by omega) (by omega)]; omega
  simp only [DP, Dy.pv, NN, NL] at k1 ⊢
  by_cases h : n < 0
  · have e : ((n.natAbs : Nat) : Int) = -n := by omega
    rw [e] at k1
    refine PC.of_body follows Tryz.func127 (by decide +kernel) rfl (by kernel_rfl) (Nat.le_of_ble_eq_true rfl) (walk ?_)
    simp only [Tryz.f127, go_sem]
    refine qif_dt h ?_
    simp only [Tryz.f127, w0, go_sem]
    refine qcall_i (k1) ?_; simp only [Tryz.f127, go_sem]
    try rfl
  · have e : ((n.natAbs : Nat) : Int) = n := by omega
    rw [e] at k1
    refine PC.of_body follows Tryz.func127 (by decide +kernel) rfl (by kernel_rfl) (Nat.le_of_ble_eq_true rfl) (walk ?_)
    simp only [Tryz.f127, go_sem]
    refine qif_df h ?_
    simp only [Tryz.f127, w0, go_sem]
    refine qcall_i (k1) ?_; simp only [Tryz.f127, go_sem]
    try rfl
theorem dv_zeros (i : Nat) (l : List Nat) : dv W (List.replicate i 0 ++ l) = dv W l * W ^ i := by
  induction i with
  | zero => simp
  | succ i ih =>
    show 0 + W * dv W (List.replicate i 0 ++ l) = _
    rw [ih, Nat.pow_succ]
    rw [Nat.zero_add, Nat.mul_comm, Nat.mul_assoc]
theorem shl_num {i x : Nat} (h : i + (dg W x).length ≤ 1048576) : Num (.lst (i + (dg W x).length) (List.replicate i (PV.int .u64 0) ++ U (dg W x))) (x * W ^ i) := by
  refine ⟨List.replicate i 0 ++ dg W x, ?_, ?_, ?_, ?_⟩
  · unfold NL
    rw [← U_replicate, U_append, List.length_append, List.length_replicate]
  · intro d hd
    rcases List.mem_append.1 hd with hd | hd
    · rw [(List.mem_replicate.1 hd).2]; decide
    · exact ok_dg W2 x d hd
  · show dv W _ = _
    rw [dv_zeros, dv_dg W2]
  · rw [List.length_append, List.length_replicate]; exact h
theorem t_mul {a b : Nat} (ha : bitLen a ≤ 60000) (hb : bitLen b ≤ 60000) : PC E 198 [NN a, NN b] (NN (a * b)) := by
  have hL := w_of_bits (x := b) (n := 938) (by omega)
  obtain ⟨L, hLe⟩ : ∃ L, L = (dg W b).length := ⟨_, rfl⟩
  have hbL : b < W ^ L := by
    have := dv_lt (b := W) (dg W b) (ok_dg W2 b)
    rw [dv_dg W2] at this
    rwa [hLe]
  have hg : ∀ i, i < L → (U (dg W b))[i]? = some (.int .u64 ((b / W ^ i % W : Nat) : Int)) := fun i hi => by
    have := digit_at (l := dg W b) (ok_dg W2 b) (i := i) (by omega)
    rwa [show vl (dg W b) = b from dv_dg W2 b] at this
  rw [← hLe] at hL
  obtain ⟨R, hR⟩ : ∃ R, R = NN (a * b) := ⟨_, rfl⟩
  rw [← hR]
  simp only [NN, NL]
  rw [← hLe]
  generalize U (dg W b) = UB at *
  refine PC.of_body follows Tryz.func198 (by decide +kernel) rfl (by kernel_rfl) (Nat.le_of_ble_eq_true rfl) (walk ?_)
  simp only [Tryz.f198, go_sem]
  refine PLoop.nilval 5 rfl ?_
  refine PLoop.intro (fun i : Nat => ⟨[(0, .val (NN a)), (5, .val (NN (a * (b % W ^ i)))), (10, .val (.lst L UB)), (11, .val (.int .i64 L)), (12, .val (.int .i64 i))], []⟩) (fun i => i ≤ L) (fun i => L - i) 0 (Nat.zero_le _) ?_ fun i hi => walk ?_
  · simp [Wk, sget, killL, kill1, SV.key, Nat.mod_one, NN, NL]
    exact ⟨rfl, rfl⟩
  have wi : IntKind.wrap .i64 ((i : Int) + 1) = ((i + 1 : Nat) : Int) := by rw [wrap64 (by omega) (by omega)]; omega
  have hx := hg i
  have kT := k_times (x := a) (n := b / W ^ i % W) (by omega) (Nat.mod_lt _ (by decide))
  simp only [NN, NL] at kT ⊢
  simp only [Tryz.f198, go_sem]
  refine qif_d (fun h => ?_) (fun h => ?_)
  · have hx := hx (by omega)
    simp only [Tryz.f198, go_sem]
    refine qand_i (by first | omega | (simp [V_length, U_length, tab_length, maxLen]; done) | (simp [V_length, U_length, tab_length, maxLen]; omega) | (refine ⟨?_, ?_⟩ <;> first | omega | (simp [V_length, U_length, tab_length, maxLen]; done) | (simp [V_length, U_length, tab_length, maxLen]; omega))) ?_; simp only [Tryz.f198, go_sem]
    refine qval_i (congrArg (Option.map _) hx) ?_
    simp only [Tryz.f198, go_sem]
    refine qcall_i (kT) ?_; simp only [Tryz.f198, go_sem]
    refine qand_i ⟨by omega, by omega, by omega⟩ ?_
    simp only [Tryz.f198, go_sem]
    refine qand_i (by simp [U_length]) ?_
    simp only [Tryz.f198, go_sem]
    have hpl : (dg W (a * (b / W ^ i % W))).length ≤ 940 := w_of_bits (by
      have h1 := bitLen_mul_le a (b / W ^ i % W)
      have h2 : bitLen (b / W ^ i % W) ≤ 64 := (bitLen_le _ _).2 (Nat.mod_lt _ (by decide))
      omega)
    have hmx : maxLen = 9223372036854775807 := rfl
    refine qand_i ⟨by rw [hmx]; omega, by omega⟩ ?_
    simp only [Tryz.f198, go_sem]
    have hb1 : bitLen (a * (b % W ^ i)) ≤ 900000 := by
      have h1 := bitLen_mul_le a (b % W ^ i)
      have h2 := bitLen_mono (Nat.mod_le b (W ^ i))
      omega
    have kA := k_Add (num_bits (x := a * (b % W ^ i)) (by omega)) (shl_num (i := i) (x := a * (b / W ^ i % W)) (by omega))
    have es : a * (b % W ^ i) + a * (b / W ^ i % W) * W ^ i = a * (b % W ^ (i + 1)) := by
      rw [Nat.mod_pow_succ, Nat.mul_add, Nat.mul_comm (W ^ i), Nat.mul_assoc]
    rw [es] at kA
    simp only [NN, NL] at kA
    refine qcall_i (kA) ?_; simp only [Tryz.f198, wi, go_sem]
    refine ⟨i + 1, by omega, by omega, ?_⟩
    simp [Wk, sget, killL, kill1, SV.key, NN, NL]
  · have e : i = L := by omega
    subst e
    simp only [Tryz.f198, go_sem]
    rw [hR, Nat.mod_eq_of_lt hbL]
    try rfl
end
section
open XX
structure PosD (d : Dy) : Prop where
  s : d.s = false
  o : d.m % 2 = 1
  b : bitLen d.m ≤ 60000
  e : -100000 ≤ d.e ∧ d.e ≤ 100000
theorem PosD.fits {d : Dy} (h : PosD d) : d.fits := by
  have := h.e
  constructor <;> omega
theorem PosD.ok {d : Dy} (h : PosD d) : d.ok := .inr h.o
theorem PosD.RD {d : Dy} (h : PosD d) : RD d.pv d := RD.fit h.ok (by have := h.b; omega) h.fits
theorem PosD.m {d : Dy} (h : PosD d) : d.m ≠ 0 := fun h0 => by have := h.o; rw [h0] at this; omega
theorem PosD.sg {d : Dy} (h : PosD d) : d.sg = 1 := by unfold Dy.sg; rw [if_neg h.m, h.s]; rfl
theorem PosD.val {d : Dy} (h : PosD d) : d.val = (d.m : Rat) * (2 : Rat) ^ d.e := by
  rw [val_form, h.s, if_neg Bool.false_ne_true]
theorem PosD.val_pos {d : Dy} (h : PosD d) : 0 < d.val := by
  rw [h.val]; exact Rat.mul_pos (nc_pos (Nat.pos_of_ne_zero h.m)) (z2_pos _)
theorem z2_pow (e : Int) : ∀ n : Nat, ((2 : Rat) ^ e) ^ n = (2 : Rat) ^ (e * (n : Int))
  | 0 => by simp
  | n + 1 => by
    rw [Rat.pow_succ, z2_pow e n, ← z2_add]
    congr 1
    rw [Int.natCast_add, Int.mul_add]
    simp
theorem powD_val {d : Dy} (h : PosD d) (n : Nat) : (powD d n).val = d.val ^ n := by
  rw [h.val, rmul_pow, z2_pow]
  show (⟨false, d.m ^ n, d.e * n⟩ : Dy).val = _
  rw [val_form, if_neg Bool.false_ne_true]
  dsimp only
  rw [Rat.natCast_pow]
theorem powD_pos {d : Dy} (h : PosD d) {n : Nat} (hfit : fitsR d n) : PosD (powD d n) := by
  have h1 := hfit.1
  have h2 := hfit.2
  rw [Int.natAbs_natCast] at h1 h2
  have e : (d.e * (n : Int)).natAbs = d.e.natAbs * n := by rw [Int.natAbs_mul, Int.natAbs_natCast]
  refine ⟨rfl, odd_pow h.o n, ?_, ?_, ?_⟩
  · show bitLen (d.m ^ n) ≤ 60000
    cases n with
    | zero => exact Nat.le_trans (show bitLen (d.m ^ 0) ≤ 1 by rw [Nat.pow_zero]; decide) (by decide)
    | succ n =>
      have := pow_bits d.m (n + 1)
      have hb := bitLen_pos h.m
      refine Nat.le_trans ?_ h1
      rw [bitLen_le]
      have h3 := (bitLen_le d.m (bitLen d.m)).1 (Nat.le_refl _)
      rw [Nat.pow_mul]
      exact Nat.pow_lt_pow_left h3 (by omega)
  · show -100000 ≤ d.e * (n : Int); omega
  · show d.e * (n : Int) ≤ 100000; omega
theorem val_tops {d : Dy} (h : PosD d) : (2 : Rat) ^ d.top ≤ d.val ∧ d.val < (2 : Rat) ^ (d.top + 1) := by
  have ht : d.top = bitLen d.m - 1 + d.e := if_neg h.m
  have hb := bitLen_pos h.m
  have h1 := (bitLen_le d.m (bitLen d.m)).1 (Nat.le_refl _)
  have h2 : 2 ^ (bitLen d.m - 1) ≤ d.m := by
    refine Decidable.byContradiction fun hn => ?_
    have := (bitLen_le d.m (bitLen d.m - 1)).2 (by omega)
    omega
  rw [h.val, ht]
  constructor
  · rw [show (bitLen d.m : Int) - 1 + d.e = ((bitLen d.m - 1 : Nat) : Int) + d.e by omega, z2_add, z2_nat]
    exact Rat.mul_le_mul_of_nonneg_right (ncast_le h2) (Rat.le_of_lt (z2_pos _))
  · rw [show (bitLen d.m : Int) - 1 + d.e + 1 = ((bitLen d.m : Nat) : Int) + d.e by omega, z2_add, z2_nat]
    exact Rat.mul_lt_mul_of_pos_right (Rat.natCast_lt_natCast.2 h1) (z2_pos _)
theorem t_against {p q : Dy} (hp : PosD p) (hq : PosD q) : ∃ c : Int, PC E 128 [p.pv, q.pv] (.tuple [.int .i64 c, .int .i64 0]) ∧ (c = 0 ↔ p.val * q.val = 1) := by
  have k1 := r_Top hp.RD
  have k2 := r_Top hq.RD
  obtain ⟨a1, a2⟩ := val_tops hp
  obtain ⟨b1, b2⟩ := val_tops hq
  have vp := hp.val_pos
  have vq := hq.val_pos
  have tp : p.top = bitLen p.m - 1 + p.e := if_neg hp.m
  have tq : q.top = bitLen q.m - 1 + q.e := if_neg hq.m
  have e1 := hp.e
  have e2 := hq.e
  have g1 := hp.b
  have g2 := hq.b
  have ws : IntKind.wrap .i64 (p.top + q.top) = p.top + q.top := wrap64 (by omega) (by omega)
  have we : IntKind.wrap .i64 (p.e + q.e) = p.e + q.e := wrap64 (by omega) (by omega)
  rw [decide_eq_true hp.m] at k1
  rw [decide_eq_true hq.m] at k2
  have lo : (2 : Rat) ^ (p.top + q.top) ≤ p.val * q.val := by
    rw [z2_add]
    exact Rat.le_trans (Rat.mul_le_mul_of_nonneg_right a1 (Rat.le_of_lt (z2_pos _))) (Rat.mul_le_mul_of_nonneg_left b1 (Rat.le_of_lt vp))
  have hi : p.val * q.val < (2 : Rat) ^ (p.top + 1 + (q.top + 1)) := by
    rw [z2_add]
    have x1 := Rat.mul_lt_mul_of_pos_right a2 vq
    have x2 := Rat.mul_lt_mul_of_pos_left b2 (z2_pos (p.top + 1))
    grind
  by_cases c1 : 0 < p.top + q.top
  · refine ⟨-1, ?_, ?_⟩
    · generalize p.top = P at *
      generalize q.top = Q at *
      simp only [DP, Dy.pv, NN, NL] at k1 k2 ⊢
      refine PC.of_body follows Tryz.func128 (by decide +kernel) rfl (by kernel_rfl) (Nat.le_of_ble_eq_true rfl) (walk ?_)
      simp only [Tryz.f128, go_sem]
      refine qcall_i (k1) ?_; simp only [Tryz.f128, go_sem]
      refine qcall_i (k2) ?_; simp only [Tryz.f128, ws, go_sem]
      refine qif_dt (by omega) ?_
      simp only [Tryz.f128, go_sem]
      try rfl
    · refine ⟨fun h => absurd h (by decide), fun h => ?_⟩
      exfalso
      rw [h, show p.top + q.top = 1 + ((p.top + q.top - 1).toNat : Int) by omega, z2_add, z2_one, z2_nat] at lo
      have := ncast_le (Nat.two_pow_pos (p.top + q.top - 1).toNat)
      have : ((0 + 1 : Nat) : Rat) = 1 := rfl
      grind
  by_cases c2 : p.top + q.top < -1
  · refine ⟨1, ?_, ?_⟩
    · generalize p.top = P at *
      generalize q.top = Q at *
      simp only [DP, Dy.pv, NN, NL] at k1 k2 ⊢
      refine PC.of_body follows Tryz.func128 (by decide +kernel) rfl (by kernel_rfl) (Nat.le_of_ble_eq_true rfl) (walk ?_)
      simp only [Tryz.f128, go_sem]
      refine qcall_i (k1) ?_; simp only [Tryz.f128, go_sem]
      refine qcall_i (k2) ?_; simp only [Tryz.f128, ws, go_sem]
      refine qif_df (by omega) ?_
      simp only [Tryz.f128, ws, go_sem]
      refine qif_dt (by omega) ?_
      simp only [Tryz.f128, go_sem]
      try rfl
    · refine ⟨fun h => absurd h (by decide), fun h => ?_⟩
      exfalso
      rw [h, show p.top + 1 + (q.top + 1) = -((-(p.top + 1 + (q.top + 1))).toNat : Int) by omega] at hi
      have h3 := ncast_le (Nat.two_pow_pos (-(p.top + 1 + (q.top + 1))).toNat)
      have h5 : ((0 + 1 : Nat) : Rat) = 1 := rfl
      have h4 : (2 : Rat) ^ (-((-(p.top + 1 + (q.top + 1))).toNat : Int)) * (2 : Rat) ^ ((-(p.top + 1 + (q.top + 1))).toNat : Int) = 1 := by rw [← z2_add, Int.add_left_neg, z2_zero]
      rw [← z2_nat] at h3
      have h6 := z2_pos (-((-(p.top + 1 + (q.top + 1))).toNat : Int))
      generalize (2 : Rat) ^ (-((-(p.top + 1 + (q.top + 1))).toNat : Int)) = X at *
      generalize (2 : Rat) ^ ((-(p.top + 1 + (q.top + 1))).toNat : Int) = Y at *
      have := Rat.mul_le_mul_of_nonneg_left h3 (Rat.le_of_lt h6)
      grind
  have hr : RD (DP false (NN (p.m * q.m)) (p.e + q.e)) ⟨false, p.m * q.m, p.e + q.e⟩ := by
    have hb := bitLen_mul_le p.m q.m
    exact RD.fit (d := ⟨false, p.m * q.m, p.e + q.e⟩) (.inr (odd_mul hp.o hq.o)) (by dsimp only; omega) ⟨by dsimp only; omega, by dsimp only; omega⟩
  have k3 : PC E 44 [.int .i64 1] (norm 1 0).pv := c_dOf 1 (by decide) (by decide)
  have k4 := t_mul hp.b hq.b
  have k5 := r_Cmp (p := (norm 1 0).pv) (a := norm 1 0) (RD.fit (norm_ok 1 0) (by decide) (by decide)) hr
  refine ⟨cmpD (norm 1 0) ⟨false, p.m * q.m, p.e + q.e⟩, ?_, ?_⟩
  · rw [one_dy] at k3 k5 ⊢
    generalize cmpD ⟨false, 1, 0⟩ ⟨false, p.m * q.m, p.e + q.e⟩ = C at *
    generalize p.top = P at *
    generalize q.top = Q at *
    generalize p.m * q.m = PQ at *
    simp only [DP, Dy.pv, NN, NL] at k1 k2 k3 k4 k5 ⊢
    refine PC.of_body follows Tryz.func128 (by decide +kernel) rfl (by kernel_rfl) (Nat.le_of_ble_eq_true rfl) (walk ?_)
    simp only [Tryz.f128, go_sem]
    refine qcall_i (k1) ?_; simp only [Tryz.f128, go_sem]
    refine qcall_i (k2) ?_; simp only [Tryz.f128, ws, go_sem]
    refine qif_df (by omega) ?_
    simp only [Tryz.f128, ws, go_sem]
    refine qif_df (by omega) ?_
    simp only [Tryz.f128, go_sem]
    refine qcall_i (k3) ?_; simp only [Tryz.f128, go_sem]
    refine qcall_i (k4) ?_; simp only [Tryz.f128, we, go_sem]
    refine qcall_i (k5) ?_; simp only [Tryz.f128, go_sem]
    try rfl
  · rw [cmp_val_eq]
    have v1 : (norm 1 0).val = 1 := by decide +kernel
    have v2 : (⟨false, p.m * q.m, p.e + q.e⟩ : Dy).val = p.val * q.val := by
      rw [hp.val, hq.val, val_form, if_neg Bool.false_ne_true]
      dsimp only
      rw [ncast_mul, z2_add]
      grind
    rw [v1, v2]
    exact ⟨fun h => h.symm, fun h => h.symm⟩
theorem fits_abs {d : Dy} {m : Int} (h : fitsR d m) : fitsR d (m.natAbs : Int) := by
  unfold fitsR at h ⊢
  rwa [Int.natAbs_natCast]
theorem t_Cmp {x b : Dy} (hx : PosD x) (hb : PosD b) {m : Int} (hm : -2147483648 ≤ m ∧ m ≤ 2147483648) {k : Nat} (hk : 1 ≤ k ∧ k ≤ 2147483648) :
    ∃ c e : Int, PC E 69 [x.pv, .int .i64 m, b.pv, .int .i64 (k : Nat)] (.tuple [.int .i64 c, .int .i64 e]) ∧ (e = 0 → (c = 0 ↔ x.val ^ m = b.val ^ k)) := by
  have k1 := r_Bare hx.RD
  rw [okD_of hx.fits] at k1
  have k2 := r_Bare hb.RD
  rw [okD_of hb.fits] at k2
  have k3 := r_Sign hx.RD
  rw [hx.sg] at k3
  have k4 := r_Sign hb.RD
  rw [hb.sg] at k4
  have k5 := t_Fits hx.RD hx.fits (m := m) (by omega) (by omega)
  have k6 := t_Fits hb.RD hb.fits (m := (k : Int)) (by omega) (by omega)
  have g1 : decide ((k : Int) < 1) = false := decide_eq_false (by omega)
  by_cases f1 : fitsR x m
  case neg =>
    refine ⟨0, 2, ?_, fun h => absurd h (by decide)⟩
    rw [decide_eq_false f1] at k5
    simp only [DP, Dy.pv, NN, NL] at k1 k2 k3 k4 k5 k6 ⊢
    refine PC.of_body follows Tryz.func69 (by decide +kernel) rfl (by kernel_rfl) (Nat.le_of_ble_eq_true rfl) (walk ?_)
    simp only [Tryz.f69, go_sem]
    refine qcall_i (k1) ?_; simp only [Tryz.f69, go_sem]
    refine qcall_i (k2) ?_; simp only [Tryz.f69, go_sem]
    refine qcall_i (k3) ?_; simp only [Tryz.f69, go_sem]
    refine qcall_i (k4) ?_; simp only [Tryz.f69, g1, go_sem]
    refine qcall_i (k5) ?_; simp only [Tryz.f69, go_sem]
    try rfl
  rw [decide_eq_true f1] at k5
  by_cases f2 : fitsR b k
  case neg =>
    refine ⟨0, 2, ?_, fun h => absurd h (by decide)⟩
    rw [decide_eq_false f2] at k6
    simp only [DP, Dy.pv, NN, NL] at k1 k2 k3 k4 k5 k6 ⊢
    refine PC.of_body follows Tryz.func69 (by decide +kernel) rfl (by kernel_rfl) (Nat.le_of_ble_eq_true rfl) (walk ?_)
    simp only [Tryz.f69, go_sem]
    refine qcall_i (k1) ?_; simp only [Tryz.f69, go_sem]
    refine qcall_i (k2) ?_; simp only [Tryz.f69, go_sem]
    refine qcall_i (k3) ?_; simp only [Tryz.f69, go_sem]
    refine qcall_i (k4) ?_; simp only [Tryz.f69, g1, go_sem]
    refine qcall_i (k5) ?_; simp only [Tryz.f69, go_sem]
    refine qcall_i (k6) ?_; simp only [Tryz.f69, go_sem]
    try rfl
  rw [decide_eq_true f2] at k6
  have k7 := t_power hx.s hx.o hx.fits hx.b hm f1
  have k8 := t_power hb.s hb.o hb.fits hb.b (n := (k : Int)) (by omega) f2
  have pp := powD_pos hx (fits_abs f1)
  have pq := powD_pos hb f2
  have vp := powD_val hx m.natAbs
  have vq := powD_val hb k
  rw [Int.natAbs_natCast] at k8
  by_cases h0 : 0 ≤ m
  · have k9 := r_Cmp pp.RD pq.RD
    refine ⟨cmpD (powD x m.natAbs) (powD b k), 0, ?_, fun _ => ?_⟩
    · generalize cmpD (powD x m.natAbs) (powD b k) = C at *
      generalize powD x m.natAbs = P at *
      generalize powD b k = Q at *
      simp only [DP, Dy.pv, NN, NL] at k1 k2 k3 k4 k5 k6 k7 k8 k9 ⊢
      refine PC.of_body follows Tryz.func69 (by decide +kernel) rfl (by kernel_rfl) (Nat.le_of_ble_eq_true rfl) (walk ?_)
      simp only [Tryz.f69, go_sem]
      refine qcall_i (k1) ?_; simp only [Tryz.f69, go_sem]
      refine qcall_i (k2) ?_; simp only [Tryz.f69, go_sem]
      refine qcall_i (k3) ?_; simp only [Tryz.f69, go_sem]
      refine qcall_i (k4) ?_; simp only [Tryz.f69, g1, go_sem]
      refine qcall_i (k5) ?_; simp only [Tryz.f69, go_sem]
      refine qcall_i (k6) ?_; simp only [Tryz.f69, go_sem]
      refine qcall_i (k7) ?_; simp only [Tryz.f69, go_sem]
      refine qcall_i (k8) ?_; simp only [Tryz.f69, go_sem]
      refine qif_dt (by omega) ?_
      simp only [Tryz.f69, go_sem]
      refine qcall_i (k9) ?_; simp only [Tryz.f69, go_sem]
      try rfl
    · rw [cmp_val_eq, vp, vq, ← Rat.zpow_natCast x.val, show ((m.natAbs : Nat) : Int) = m by omega]
  · obtain ⟨c, k9, hc⟩ := t_against pp pq
    refine ⟨c, 0, ?_, fun _ => ?_⟩
    · generalize powD x m.natAbs = P at *
      generalize powD b k = Q at *
      simp only [DP, Dy.pv, NN, NL] at k1 k2 k3 k4 k5 k6 k7 k8 k9 ⊢
      refine PC.of_body follows Tryz.func69 (by decide +kernel) rfl (by kernel_rfl) (Nat.le_of_ble_eq_true rfl) (walk ?_)
      simp only [Tryz.f69, go_sem]
      refine qcall_i (k1) ?_; simp only [Tryz.f69, go_sem]
      refine qcall_i (k2) ?_; simp only [Tryz.f69, go_sem]
      refine qcall_i (k3) ?_; simp only [Tryz.f69, go_sem]
      refine qcall_i (k4) ?_; simp only [Tryz.f69, g1, go_sem]
      refine qcall_i (k5) ?_; simp only [Tryz.f69, go_sem]
      refine qcall_i (k6) ?_; simp only [Tryz.f69, go_sem]
      refine qcall_i (k7) ?_; simp only [Tryz.f69, go_sem]
      refine qcall_i (k8) ?_; simp only [Tryz.f69, go_sem]
      refine qif_df (by omega) ?_
      simp only [Tryz.f69, go_sem]
      refine qcall_i (k9) ?_; simp only [Tryz.f69, go_sem]
      try rfl
    · rw [hc, vp, vq]
      have e : x.val ^ m = (x.val ^ m.natAbs)⁻¹ := by rw [← Rat.zpow_natCast, ← Rat.zpow_neg]; congr 1; omega
      rw [e]
      have hp : 0 < x.val ^ m.natAbs := Rat.pow_pos hx.val_pos
      have hi : (x.val ^ m.natAbs)⁻¹ * x.val ^ m.natAbs = 1 := Rat.inv_mul_cancel _ (by grind)
      generalize x.val ^ m.natAbs = A at *
      generalize b.val ^ k = B at *
      constructor
      · intro h
        have : A⁻¹ * (A * B) = B := by rw [← Rat.mul_assoc, hi, Rat.one_mul]
        rw [h, Rat.mul_one] at this
        exact this
      · intro h
        rw [← h, Rat.mul_comm]
        exact hi
theorem e_IsC {x b : Dy} (hx : PosD x) (hb : PosD b) {M : Int} (hM : -9223372036854775808 < M ∧ M < 9223372036854775808) {K : Nat} (hK : 1 ≤ K) (hK2 : K < 9223372036854775808) :
    ∃ (y : Bool) (e : Int), PC E 25 [x.pv, .agg [.int .i64 M, .int .i64 (K : Nat)], b.pv] (.tuple [.bool y, .int .i64 e]) ∧ (e = 0 → (y = true ↔ x.val ^ M = b.val ^ K)) := by
  by_cases c : -2147483648 ≤ M ∧ M ≤ 2147483648 ∧ K ≤ 2147483648
  · obtain ⟨c1, c2, c3⟩ := c
    obtain ⟨c, e, k1, h1⟩ := t_Cmp hx hb ⟨c1, c2⟩ ⟨hK, c3⟩
    have g1 : decide (M < -2147483648) = false := decide_eq_false (by omega)
    have g2 : decide (M > 2147483648) = false := decide_eq_false (by omega)
    have g3 : decide ((K : Int) < -2147483648) = false := decide_eq_false (by omega)
    have g4 : decide ((K : Int) > 2147483648) = false := decide_eq_false (by omega)
    by_cases he : e = 0
    · subst he
      refine ⟨decide (c = 0), 0, ?_, fun _ => by rw [decide_eq_true_eq]; exact h1 rfl⟩
      simp only [DP, Dy.pv, NN, NL] at k1 ⊢
      refine PC.of_body follows Tryz.func25 (by decide +kernel) rfl (by kernel_rfl) (Nat.le_of_ble_eq_true rfl) (walk ?_)
      simp only [Tryz.f25, g1, g2, g3, g4, go_sem]
      refine qcall_i (k1) ?_; simp only [Tryz.f25, go_sem]
      try rfl
    · refine ⟨false, e, ?_, fun h => absurd h he⟩
      have g5 : decide (e = 0) = false := decide_eq_false he
      simp only [DP, Dy.pv, NN, NL] at k1 ⊢
      refine PC.of_body follows Tryz.func25 (by decide +kernel) rfl (by kernel_rfl) (Nat.le_of_ble_eq_true rfl) (walk ?_)
      simp only [Tryz.f25, g1, g2, g3, g4, go_sem]
      refine qcall_i (k1) ?_; simp only [Tryz.f25, g5, go_sem]
      try rfl
  · refine ⟨false, 1, ?_, fun h => absurd h (by decide)⟩
    simp only [DP, Dy.pv, NN, NL]
    by_cases c1 : M < -2147483648
    · have g1 : decide (M < -2147483648) = true := decide_eq_true c1
      refine PC.of_body follows Tryz.func25 (by decide +kernel) rfl (by kernel_rfl) (Nat.le_of_ble_eq_true rfl) (walk ?_)
      simp only [Tryz.f25, g1, go_sem]
      try rfl
    have g1 : decide (M < -2147483648) = false := decide_eq_false c1
    by_cases c2 : M > 2147483648
    · have g2 : decide (M > 2147483648) = true := decide_eq_true c2
      refine PC.of_body follows Tryz.func25 (by decide +kernel) rfl (by kernel_rfl) (Nat.le_of_ble_eq_true rfl) (walk ?_)
      simp only [Tryz.f25, g1, g2, go_sem]
      try rfl
    have g2 : decide (M > 2147483648) = false := decide_eq_false c2
    have g3 : decide ((K : Int) < -2147483648) = false := decide_eq_false (by omega)
    have g4 : decide ((K : Int) > 2147483648) = true := decide_eq_true (by omega)
    refine PC.of_body follows Tryz.func25 (by decide +kernel) rfl (by kernel_rfl) (Nat.le_of_ble_eq_true rfl) (walk ?_)
    simp only [Tryz.f25, g1, g2, g3, g4, go_sem]
    try rfl
end
section
open XX
theorem cop_roots : ∀ n M K a b : Nat, M + K ≤ n → Nat.gcd M K = 1 → 0 < a → 0 < b → a ^ M = b ^ K → ∃ c, a = c ^ K ∧ b = c ^ M
  | n, 0, K, a, b, hn, hg, ha, hb, h => by
    rw [Nat.gcd_zero_left] at hg
    subst hg
    rw [Nat.pow_zero, Nat.pow_one] at h
    exact ⟨a, (Nat.pow_one a).symm, by rw [Nat.pow_zero]; exact h.symm⟩
  | n, M + 1, 0, a, b, hn, hg, ha, hb, h => by
    rw [Nat.gcd_zero_right] at hg
    rw [hg, Nat.pow_zero, Nat.pow_one] at h
    exact ⟨b, by rw [Nat.pow_zero]; exact h, by rw [hg, Nat.pow_one]⟩
  | 0, M + 1, K + 1, a, b, hn, hg, ha, hb, h => by omega
  | n + 1, M + 1, K + 1, a, b, hn, hg, ha, hb, h => by
    obtain ⟨P, hP⟩ : ∃ P, P = M + 1 := ⟨_, rfl⟩
    obtain ⟨Q, hQ⟩ : ∃ Q, Q = K + 1 := ⟨_, rfl⟩
    rw [← hP, ← hQ] at h hg
    rw [← hP, ← hQ]
    rcases Nat.le_total P Q with hle | hle
    · obtain ⟨D, hD⟩ : ∃ D, Q = D + P := ⟨Q - P, by omega⟩
      have h2 : b ^ P ∣ a ^ P := by
        rw [h, hD, Nat.pow_add]
        exact Nat.dvd_mul_left _ _
      obtain ⟨a', rfl⟩ := (Nat.pow_dvd_pow_iff (show P ≠ 0 by omega)).1 h2
      have hb2 : 0 < b ^ P := Nat.pow_pos hb
      have h3 : a' ^ P = b ^ D := by
        rw [Nat.mul_pow, hD, Nat.pow_add, Nat.mul_comm (b ^ D)] at h
        exact Nat.eq_of_mul_eq_mul_left hb2 h
      have hg2 : Nat.gcd P D = 1 := by
        rw [← hg, show D = Q - P by omega, Nat.gcd_sub_self_right hle]
      obtain ⟨c, c1, c2⟩ := cop_roots n P D a' b (by omega) hg2 (Nat.pos_of_ne_zero (fun h0 => by rw [h0, Nat.mul_zero] at ha; omega)) hb h3
      refine ⟨c, ?_, c2⟩
      rw [c1, c2, hD, Nat.pow_add, Nat.mul_comm]
    · obtain ⟨D, hD⟩ : ∃ D, P = D + Q := ⟨P - Q, by omega⟩
      have h2 : a ^ Q ∣ b ^ Q := by
        rw [← h, hD, Nat.pow_add]
        exact Nat.dvd_mul_left _ _
      obtain ⟨b', rfl⟩ := (Nat.pow_dvd_pow_iff (show Q ≠ 0 by omega)).1 h2
      have ha2 : 0 < a ^ Q := Nat.pow_pos ha
      have h3 : a ^ D = b' ^ Q := by
        rw [Nat.mul_pow, hD, Nat.pow_add, Nat.mul_comm (a ^ D)] at h
        exact Nat.eq_of_mul_eq_mul_left ha2 h
      have hg2 : Nat.gcd D Q = 1 := by
        rw [Nat.gcd_comm, ← hg, show D = P - Q by omega, Nat.gcd_sub_self_right hle, Nat.gcd_comm]
      obtain ⟨c, c1, c2⟩ := cop_roots n D Q a b' (by omega) hg2 ha (Nat.pos_of_ne_zero (fun h0 => by rw [h0, Nat.mul_zero] at hb; omega)) h3
      refine ⟨c, c1, ?_⟩
      rw [c1, c2, hD, Nat.pow_add, Nat.mul_comm]
theorem zp_mul {x : Rat} (h : x ≠ 0) (P : Int) : ∀ n : Nat, x ^ (P * (n : Int)) = (x ^ P) ^ n
  | 0 => by simp
  | n + 1 => by
    rw [Rat.pow_succ, ← zp_mul h P n, ← Rat.zpow_add h]
    congr 1
    rw [Int.natCast_add, Int.mul_add]
    simp
theorem rpw_mul {x : Rat} (h : x ≠ 0) (m n : Nat) : x ^ (m * n) = (x ^ m) ^ n := by
  have := zp_mul h (m : Int) n
  rw [← Int.natCast_mul, Rat.zpow_natCast, Rat.zpow_natCast] at this
  exact this
theorem rpow_inj {x y : Rat} (hx : 0 ≤ x) (hy : 0 ≤ y) {n : Nat} (hn : 0 < n) (h : x ^ n = y ^ n) : x = y := by
  have h1 := rpow_le_iff hy hn (rle_of_eq h)
  have h2 := rpow_le_iff hx hn (rle_of_eq h.symm)
  grind
theorem powD_valS {d : Dy} (hs : d.s = false) (n : Nat) : (powD d n).val = d.val ^ n := by
  have hv : d.val = (d.m : Rat) * (2 : Rat) ^ d.e := by rw [val_form, hs, if_neg Bool.false_ne_true]
  rw [hv, rmul_pow, z2_pow]
  show (⟨false, d.m ^ n, d.e * n⟩ : Dy).val = _
  rw [val_form, if_neg Bool.false_ne_true]
  dsimp only
  rw [Rat.natCast_pow]
theorem low_terms {M : Int} {K : Nat} (hK : 1 ≤ K) : ∃ g M' K', 0 < g ∧ g = Nat.gcd M.natAbs K ∧ M' = M.tdiv (g : Int) ∧ K' = K / g ∧ 1 ≤ K' ∧ M = M' * g ∧ K = K' * g ∧ Nat.gcd M'.natAbs K' = 1 := by
  have hg : 0 < Nat.gcd M.natAbs K := Nat.gcd_pos_of_pos_right _ (by omega)
  have d1 : ((Nat.gcd M.natAbs K : Nat) : Int) ∣ M := Int.ofNat_dvd_left.2 (Nat.gcd_dvd_left _ _)
  have d2 : Nat.gcd M.natAbs K ∣ K := Nat.gcd_dvd_right _ _
  have e1 := Int.tdiv_mul_cancel d1
  have e2 := Nat.div_mul_cancel d2
  refine ⟨_, _, _, hg, rfl, rfl, rfl, ?_, e1.symm, e2.symm, ?_⟩
  · refine Nat.pos_of_ne_zero fun h => ?_
    rw [h, Nat.zero_mul] at e2
    omega
  · rw [Int.natAbs_tdiv, Int.natAbs_natCast]
    exact Nat.coprime_div_gcd_div_gcd hg
theorem brk_small {d : Dy} (h0 : d.m ≠ 0) (h : brkP d) : bitLen d.m ≤ 54 ∧ d.e.natAbs ≤ 1100 := by
  have ht : d.top = bitLen d.m - 1 + d.e := if_neg h0
  have hb := bitLen_pos h0
  have hu : unitOf d.top = max (d.top - 52) (-1074) := rfl
  rcases h with h | h
  · exact absurd h h0
  · split at h
    · rw [h.1, h.2]
      exact ⟨by decide, by decide⟩
    · omega
theorem pow_parts {x b : Dy} (hx : PosD x) (hb : PosD b) {M : Int} {K : Nat} (h : x.val ^ M = b.val ^ K) : x.e * M = b.e * K ∧ (0 ≤ M → x.m ^ M.natAbs = b.m ^ K) ∧ (M < 0 → x.m ^ M.natAbs * b.m ^ K = 1) := by
  have okx : (powD x M.natAbs).ok := .inr (odd_pow hx.o _)
  have okb : (powD b K).ok := .inr (odd_pow hb.o _)
  rcases Int.lt_or_le M 0 with hM | hM
  · have e : x.val ^ M = (x.val ^ M.natAbs)⁻¹ := by rw [← Rat.zpow_natCast, ← Rat.zpow_neg]; congr 1; omega
    have hp : 0 < x.val ^ M.natAbs := Rat.pow_pos hx.val_pos
    have hi : (x.val ^ M.natAbs)⁻¹ * x.val ^ M.natAbs = 1 := Rat.inv_mul_cancel _ (by grind)
    have hv : (mulS (powD x M.natAbs) (powD b K)).val = (norm 1 0).val := by
      rw [val_mul, powD_valS hx.s, powD_valS hb.s, ← h, e, Rat.mul_comm, hi]
      decide +kernel
    have h1 := val_inj (mulS_ok okx okb) (norm_ok 1 0) hv
    rw [one_dy] at h1
    have m1 : (powD x M.natAbs).m ≠ 0 := fun h0 => by have := odd_pow hx.o M.natAbs; rw [show x.m ^ M.natAbs = 0 from h0] at this; omega
    have m2 : (powD b K).m ≠ 0 := fun h0 => by have := odd_pow hb.o K; rw [show b.m ^ K = 0 from h0] at this; omega
    unfold mulS at h1
    rw [if_neg (by omega)] at h1
    have hm := congrArg Dy.m h1
    have he := congrArg Dy.e h1
    dsimp only at hm he
    refine ⟨?_, fun h => absurd h (by omega), fun _ => hm⟩
    have he2 : x.e * (M.natAbs : Int) + b.e * K = 0 := he
    have : (M.natAbs : Int) = -M := by omega
    rw [this, Int.mul_neg] at he2
    omega
  · have e : x.val ^ M = x.val ^ M.natAbs := by rw [← Rat.zpow_natCast]; congr 1; omega
    have hv : (powD x M.natAbs).val = (powD b K).val := by rw [powD_valS hx.s, powD_valS hb.s, ← h, e]
    have h1 := val_inj okx okb hv
    have hm := congrArg Dy.m h1
    have he : x.e * (M.natAbs : Int) = b.e * K := congrArg Dy.e h1
    have : (M.natAbs : Int) = M := by omega
    rw [this] at he
    exact ⟨he, fun _ => hm, fun h => absurd h (by omega)⟩
theorem pow_found {x b : Dy} (hx : PosD x) (hxb : bitLen x.m ≤ 64) (hb : PosD b) (hbr : brkP b) {M : Int} {K : Nat} (hK : 1 ≤ K) (h : x.val ^ M = b.val ^ K) : powO x M K ≠ none := by
  obtain ⟨g, M', K', g0, eg, eM, eK, k1, hM, hKg, hc⟩ := low_terms (M := M) hK
  have hx0 := hx.val_pos
  have hb0 := hb.val_pos
  have h2 : x.val ^ M' = b.val ^ K' := by
    rw [hM, zp_mul (by grind), hKg, rpw_mul (by grind)] at h
    exact rpow_inj (Rat.le_of_lt (Rat.zpow_pos hx0)) (Rat.le_of_lt (Rat.pow_pos hb0)) g0 h
  obtain ⟨p1, p2, p3⟩ := pow_parts hx hb h2
  obtain ⟨s1, s2⟩ := brk_small hb.m hbr
  unfold powO
  rw [← eg, ← eM, ← eK]
  by_cases z : M' = 0
  · rw [if_pos z]; exact fun h => by cases h
  rw [if_neg z]
  -- the root
  have hdv : (K' : Int) ∣ x.e := by
    have d1 : (K' : Int) ∣ x.e * M' := ⟨b.e, by rw [p1, Int.mul_comm]⟩
    have d2 : K' ∣ x.e.natAbs * M'.natAbs := by
      rw [← Int.natAbs_mul]
      exact Int.ofNat_dvd_left.1 d1
    refine Int.ofNat_dvd_left.2 (Nat.Coprime.dvd_of_dvd_mul_right ?_ d2)
    rw [Nat.coprime_comm]
    exact hc
  obtain ⟨q, hq⟩ := hdv
  obtain ⟨c, c1, c2⟩ : ∃ c, x.m = c ^ K' ∧ (if 0 ≤ M' then b.m = c ^ M'.natAbs else c = 1 ∧ b.m = 1) := by
    by_cases hs : 0 ≤ M'
    · obtain ⟨c, c1, c2⟩ := cop_roots _ _ _ x.m b.m (Nat.le_refl _) hc (Nat.pos_of_ne_zero hx.m) (Nat.pos_of_ne_zero hb.m) (p2 hs)
      exact ⟨c, c1, by rw [if_pos hs]; exact c2⟩
    · have h3 := p3 (by omega)
      have h4 := Nat.eq_one_of_mul_eq_one_right h3
      have h5 := Nat.eq_one_of_mul_eq_one_left h3
      have one : ∀ {y n : Nat}, y ^ n = 1 → n ≠ 0 → y = 1 := fun {y n} hy hn => (Nat.pow_eq_one.1 hy).resolve_right hn
      have x1 := one h4 (by omega)
      have b1 := one h5 (by omega)
      exact ⟨1, by rw [Nat.one_pow]; exact x1, by rw [if_neg hs]; exact ⟨rfl, b1⟩⟩
  have codd : c % 2 = 1 := odd_of_pow c1.symm hx.o k1
  have hxr : x = powD ⟨false, c, q⟩ K' := by
    obtain ⟨s, m, e⟩ := x
    have hs := hx.s
    dsimp only at hs c1 hq
    subst hs c1 hq
    unfold powD
    dsimp only
    rw [Int.mul_comm]
  have hroot : rootO x K' = some ⟨false, c, q⟩ := by
    have := root_pow (d := ⟨false, c, q⟩) rfl codd k1
    rwa [← hxr] at this
  rw [hroot]
  dsimp only
  have he : b.e = q * M' := by
    have hk0 : (K' : Int) ≠ 0 := by omega
    rw [hq] at p1
    refine Int.eq_of_mul_eq_mul_right hk0 ?_
    rw [← p1, Int.mul_assoc, Int.mul_comm]
  have hrais : raisO ⟨false, c, q⟩ M' = some b := by
    obtain ⟨bs, bm, be⟩ := b
    have hbs := hb.s
    dsimp only at hbs he c2 s1 s2
    subst hbs
    unfold raisO
    dsimp only
    rw [if_neg (by rw [← Int.natAbs_mul, ← he]; omega)]
    by_cases c3 : c = 1
    · rw [if_pos c3, ← he]
      have : bm = 1 := by
        split at c2
        · rw [c2, c3, Nat.one_pow]
        · exact c2.2
      rw [this]
    · rw [if_neg c3]
      have hs : 0 ≤ M' := Decidable.byContradiction fun hn => by rw [if_neg hn] at c2; exact c3 c2.1
      rw [if_pos hs] at c2
      have h3 : 3 ≤ c := by omega
      have h4 := pow_gt_bits h3 (k := M'.natAbs) (by omega)
      rw [← c2] at h4
      have hcb : bitLen c ≤ 64 := by
        refine Nat.le_trans (bitLen_mono ?_) hxb
        rw [c1]
        exact Nat.le_self_pow (by omega) c
      rw [if_neg (by omega), if_pos (by
        have := Nat.mul_le_mul hcb (show M'.natAbs ≤ 54 by omega)
        omega), ← c2, ← he]
  rw [hrais]
  dsimp only
  rw [if_pos hbr]
  exact fun h => by cases h
theorem pow_sound {x p : Dy} (hx : PosD x) (hl : LgOk x) {M : Int} {K : Nat} (hK : 1 ≤ K) (h : powO x M K = some p) : PosD p ∧ brkP p ∧ x.val ^ M = p.val ^ K := by
  obtain ⟨g, M', K', g0, eg, eM, eK, k1, hM, hKg, hc⟩ := low_terms (M := M) hK
  have hx0 := hx.val_pos
  unfold powO at h
  rw [← eg, ← eM, ← eK] at h
  by_cases z : M' = 0
  · rw [if_pos z] at h
    cases h
    rw [one_dy]
    refine ⟨⟨rfl, rfl, by decide, by decide⟩, by decide +kernel, ?_⟩
    have v1 : (⟨false, 1, 0⟩ : Dy).val = 1 := by decide +kernel
    rw [hM, z, Int.zero_mul, v1, one_pow']
    exact Rat.zpow_zero _
  rw [if_neg z] at h
  cases hr : rootO x K' with
  | none => rw [hr] at h; cases h
  | some r =>
    rw [hr] at h
    dsimp only at h
    obtain ⟨f1, f2, f3, f4, f5⟩ := rootO_facts hl k1 hr
    have hpr := pow_root hx.s k1 hr
    cases hp : raisO r M' with
    | none => rw [hp] at h; cases h
    | some p' =>
      rw [hp] at h
      dsimp only at h
      split at h
      · rename_i hbr
        cases h
        obtain ⟨q1, q2, q3, q4, q5⟩ := raisO_facts f1 hp
        have pm : p.m ≠ 0 := fun h0 => by rw [h0] at q1; omega
        obtain ⟨s1, s2⟩ := brk_small pm hbr
        refine ⟨⟨q5, q1, by omega, by omega⟩, hbr, ?_⟩
        have rv : x.val = r.val ^ K' := by rw [← powD_valS f5, hpr]
        have rm : r.m ≠ 0 := fun h0 => by rw [h0] at f1; omega
        have r0 : 0 < r.val := by
          rw [val_form, f5, if_neg Bool.false_ne_true]
          exact Rat.mul_pos (nc_pos (Nat.pos_of_ne_zero rm)) (z2_pos _)
        have pv : p.val = r.val ^ M' := by
          have hform : p = ⟨false, r.m ^ M'.natAbs, r.e * M'⟩ ∧ (0 ≤ M' ∨ r.m = 1) := by
            unfold raisO at hp
            split at hp
            · cases hp
            · split at hp
              · rename_i hone
                cases hp
                exact ⟨by rw [hone, Nat.one_pow], .inr hone⟩
              · split at hp
                · cases hp
                · split at hp
                  · cases hp
                    exact ⟨rfl, .inl (by omega)⟩
                  · cases hp
          obtain ⟨e1, e2⟩ := hform
          rcases Int.lt_or_le M' 0 with hM2 | hM2
          · have hone := e2.resolve_left (by omega)
            have hv : r.val = (2 : Rat) ^ r.e := by
              rw [val_form, f5, if_neg Bool.false_ne_true, hone]
              show (1 : Rat) * _ = _
              exact Rat.one_mul _
            rw [e1, val_form, if_neg Bool.false_ne_true, hone, Nat.one_pow, hv]
            dsimp only
            have e3 : (2 : Rat) ^ (r.e * M') = (2 : Rat) ^ (-(r.e * (M'.natAbs : Int))) := by
              congr 1
              have : (M'.natAbs : Int) = -M' := by omega
              rw [this, Int.mul_neg, Int.neg_neg]
            have e4 : ((2 : Rat) ^ r.e) ^ M' = (((2 : Rat) ^ r.e) ^ M'.natAbs)⁻¹ := by rw [← Rat.zpow_natCast, ← Rat.zpow_neg]; congr 1; omega
            rw [e3, e4, z2_pow, Rat.zpow_neg]
            show (1 : Rat) * _ = _
            exact Rat.one_mul _
          · have e3 : p = powD r M'.natAbs := by
              rw [e1]
              unfold powD
              congr 1
              congr 1
              omega
            rw [e3, powD_valS f5, ← Rat.zpow_natCast]
            congr 1
            omega
        rw [rv, pv]
        have rn : r.val ≠ 0 := by grind
        have A : (r.val ^ K') ^ M = r.val ^ ((K' : Int) * M) := by
          rcases Int.lt_or_le M 0 with hM2 | hM2
          · have e4 : (r.val ^ K') ^ M = ((r.val ^ K') ^ M.natAbs)⁻¹ := by rw [← Rat.zpow_natCast (r.val ^ K'), ← Rat.zpow_neg]; congr 1; omega
            rw [e4, ← Rat.zpow_natCast r.val, ← zp_mul rn, ← Rat.zpow_neg]
            congr 1
            have : (M.natAbs : Int) = -M := by omega
            rw [this, Int.mul_neg, Int.neg_neg]
          · have e4 : (r.val ^ K') ^ M = (r.val ^ K') ^ M.natAbs := by rw [← Rat.zpow_natCast (r.val ^ K')]; congr 1; omega
            rw [e4, ← Rat.zpow_natCast r.val, ← zp_mul rn]
            congr 1
            have : (M.natAbs : Int) = M := by omega
            rw [this]
        rw [A, ← zp_mul rn]
        congr 1
        rw [hM, hKg, Int.natCast_mul]
        grind
      · cases h
theorem mid_pos {b : Nat} (hb : b < INF) : PosD (mid b) ∧ brkP (mid b) := by
  have hI := INF_lt
  have hf : fe b < 2047 := fsz_INF.2 (by rw [show fsz b = b from Nat.mod_eq_of_lt (by omega)]; exact hb)
  have h1 := mid_bits b
  have he : (mid b).e = max (fe b : Int) 1 - 1076 := rfl
  have hm : (mid b).m ≠ 0 := fun h => by have : 2 * fm b + 1 = 0 := h; omega
  have hb0 := bitLen_pos hm
  refine ⟨⟨rfl, show (2 * fm b + 1) % 2 = 1 by omega, by omega, by omega⟩, .inr ?_⟩
  have ht : (mid b).top = bitLen (mid b).m - 1 + (mid b).e := if_neg hm
  have hu : unitOf (mid b).top = max ((mid b).top - 52) (-1074) := rfl
  rw [if_neg (by omega)]
  omega
theorem toS_W3 (d : Dy) (more : Bool) (dir : Int) : (toS d more dir).1 < W := by
  have hI : INF = 9218868437227405312 := rfl
  have hW : W = 18446744073709551616 := rfl
  by_cases h0 : d.m = 0
  · rw [show toS d more dir = (0, 0) from if_pos h0]; show 0 < W; omega
  · have h := mag_le h0 more dir
    rw [show toS d more dir = (withS d.s (magS d more dir).1, (magS d more dir).2) from if_neg h0]
    unfold withS
    dsimp only
    split <;> omega
theorem classS_W (c : Int) (neg : Bool) (dir : Int) : (classS c neg dir).1 < W := by
  have hI : INF = 9218868437227405312 := rfl
  have hM : MAX = 9218868437227405311 := rfl
  have hW : W = 18446744073709551616 := rfl
  unfold classS
  split
  · unfold withS
    dsimp only
    split <;> split <;> omega
  split
  · unfold withS
    dsimp only
    split <;> split <;> omega
  split
  · exact toS_W3 _ _ _
  · exact toS_W3 _ _ _
theorem tryS_W (a : Ask) (sign : Int) (b : Nat) : (tryS a sign b).1.1.1 < W := by
  have hW : 0 < W := by decide
  unfold tryS
  split
  · exact classS_W _ _ _
  split
  · split
    · rename_i r hr
      unfold roundS at hr
      split at hr
      · cases hr; exact toS_W3 _ _ _
      · cases hr
    · exact hW
  · exact hW
theorem doS_W (a : Ask) : (doS a).1 < W := by
  have hf : (runS a).1.1.1.1 < W := (goS_inv (P := fun v => v.1.1 < W) (fun n => tryS_W a (sgS a) n) (planS a.f a.t) ans0 0 0 (by decide)).1
  unfold doS
  split
  · exact toS_W3 _ _ _
  split
  · exact hf
  split
  · rename_i r h
    unfold looseS at h
    split at h
    · cases h; exact toS_W3 _ _ _
    · cases h
  · show (9221120237041090560 : Nat) < W
    decide
end
section
open XX
theorem t_CmpN {x b : Dy} (hx : PosD x) (hR : RD b.pv b) (hf : b.fits) (hs : b.sg ≤ 0) (m : Int) (k : Nat) : PC E 69 [x.pv, .int .i64 m, b.pv, .int .i64 (k : Nat)] (.tuple [.int .i64 0, .int .i64 1]) := by
  have k1 := r_Bare hx.RD
  rw [okD_of hx.fits] at k1
  have k2 := r_Bare hR
  rw [okD_of hf] at k2
  have k3 := r_Sign hx.RD
  rw [hx.sg] at k3
  have k4 := r_Sign hR
  have g1 : decide (b.sg ≤ 0) = true := decide_eq_true hs
  generalize b.sg = sg at *
  simp only [DP, Dy.pv, NN, NL] at k1 k2 k3 k4 ⊢
  refine PC.of_body follows Tryz.func69 (by decide +kernel) rfl (by kernel_rfl) (Nat.le_of_ble_eq_true rfl) (walk ?_)
  simp only [Tryz.f69, go_sem]
  refine qcall_i (k1) ?_; simp only [Tryz.f69, go_sem]
  refine qcall_i (k2) ?_; simp only [Tryz.f69, go_sem]
  refine qcall_i (k3) ?_; simp only [Tryz.f69, go_sem]
  refine qcall_i (k4) ?_; simp only [Tryz.f69, g1, go_sem]
  try rfl
theorem e_IsN {x b : Dy} (hx : PosD x) (hR : RD b.pv b) (hf : b.fits) (hs : b.sg ≤ 0) (M : Int) (K : Nat) :
    PC E 25 [x.pv, .agg [.int .i64 M, .int .i64 (K : Nat)], b.pv] (.tuple [.bool false, .int .i64 1]) := by
  have k1 := t_CmpN hx hR hf hs M K
  simp only [DP, Dy.pv, NN, NL] at k1 ⊢
  by_cases c1 : M < -2147483648
  · have g1 : decide (M < -2147483648) = true := decide_eq_true c1
    refine PC.of_body follows Tryz.func25 (by decide +kernel) rfl (by kernel_rfl) (Nat.le_of_ble_eq_true rfl) (walk ?_)
    simp only [Tryz.f25, g1, go_sem]
    try rfl
  have g1 : decide (M < -2147483648) = false := decide_eq_false c1
  by_cases c2 : M > 2147483648
  · have g2 : decide (M > 2147483648) = true := decide_eq_true c2
    refine PC.of_body follows Tryz.func25 (by decide +kernel) rfl (by kernel_rfl) (Nat.le_of_ble_eq_true rfl) (walk ?_)
    simp only [Tryz.f25, g1, g2, go_sem]
    try rfl
  have g2 : decide (M > 2147483648) = false := decide_eq_false c2
  have g3 : decide ((K : Int) < -2147483648) = false := decide_eq_false (by omega)
  by_cases c4 : (K : Int) > 2147483648
  · have g4 : decide ((K : Int) > 2147483648) = true := decide_eq_true c4
    refine PC.of_body follows Tryz.func25 (by decide +kernel) rfl (by kernel_rfl) (Nat.le_of_ble_eq_true rfl) (walk ?_)
    simp only [Tryz.f25, g1, g2, g3, g4, go_sem]
    try rfl
  have g4 : decide ((K : Int) > 2147483648) = false := decide_eq_false c4
  refine PC.of_body follows Tryz.func25 (by decide +kernel) rfl (by kernel_rfl) (Nat.le_of_ble_eq_true rfl) (walk ?_)
  simp only [Tryz.f25, g1, g2, g3, g4, go_sem]
  refine qcall_i (k1) ?_; simp only [Tryz.f25, go_sem]
  try rfl
theorem fd_limA {x : Nat} (hf : fe x < 2047) : Lim 2200 (fd x) := by
  by_cases h0 : (fd x).m = 0
  · rw [(fd_ok' x).z h0]; exact Lim.zero _
  · exact fd_lim' h0
theorem fd_posD {x : Nat} (h0 : (fd x).m ≠ 0) (hs : (fd x).s = false) : PosD (fd x) := by
  have b1 := fd_bits x
  have b2 := fd_e x
  exact ⟨hs, (fd_ok x).resolve_left h0, by omega, by omega⟩
theorem no_is {x b : Dy} (hx : PosD x) (hxb : bitLen x.m ≤ 64) (hR : RD b.pv b) (hf : b.fits) (hm : b.m ≠ 0) (hb : b.s = false → PosD b) (hbr : brkP b) {M : Int} (hM : -9223372036854775808 < M ∧ M < 9223372036854775808) {K : Nat} (hK : 1 ≤ K) (hK2 : K < 9223372036854775808) (hn : powO x M K = none) :
    ∃ (y : Bool) (e : Int), PC E 25 [x.pv, .agg [.int .i64 M, .int .i64 (K : Nat)], b.pv] (.tuple [.bool y, .int .i64 e]) ∧ (decide (¬ e = 0) = true ∨ decide (¬ e = 0) = false ∧ y = false) := by
  cases hs : b.s with
  | true =>
    refine ⟨false, 1, e_IsN hx hR hf (by unfold Dy.sg; rw [if_neg hm, hs]; decide) M K, .inl (by decide)⟩
  | false =>
    have pb := hb hs
    obtain ⟨y, e, k, h⟩ := e_IsC hx pb hM hK hK2
    refine ⟨y, e, k, ?_⟩
    by_cases he : e = 0
    · refine .inr ⟨by rw [he]; decide, ?_⟩
      cases hy : y with
      | false => rfl
      | true => exact absurd hn (pow_found hx hxb pb hbr hK ((h he).1 hy))
    · exact .inl (decide_eq_true he)
end
section
open XX
theorem pow_W {x y : Nat} (hx : kind x = 1 ∨ kind x = 2) (hs : fs x = false) (hy : kind y ≤ 2) {f t : Int} : ∃ b fl st tr er, b < W ∧ opPV (powS x y) 0 64 1024 (askA x (fd y) 1 (fs x && od y) 0 64 1024) = .tuple [.agg [.int .u64 (b : Nat), .int .u8 (fl : Nat), .int .i64 (st : Nat)], .int .i64 tr, .int .i64 er] := by
  unfold opPV
  rw [if_pos hOk_plain]
  cases h : powS x y with
  | none => exact ⟨_, _, _, _, _, doS_W _, rfl⟩
  | some r =>
    have hr : r.1 < W := by
      unfold powS at h
      rw [if_neg (by omega)] at h
      split at h
      · cases h; show (bOne : Nat) < W; decide
      · rw [if_neg (by omega), if_neg (by omega), if_neg (by omega), if_neg (by omega), if_neg (by rw [hs]; exact fun h => Bool.false_ne_true h.1)] at h
        cases h
    exact ⟨_, _, _, _, _, hr, rfl⟩
set_option maxHeartbeats 8000000 in
theorem law_WholeDetect (pvs : List PV) (h : Fits [qU64, qU64] pvs) : PC E 5 pvs (.bool true) := by
  obtain ⟨_, _, rfl, ⟨x, rfl, hx⟩, ⟨y, rfl, hy⟩⟩ := fits2 h
  have k0 := l_alive
  have k1 := r_FDyad hx
  have k2 := r_FDyad hy
  by_cases fx : fe x < 2047
  case neg =>
    rw [decide_eq_false fx] at k1
    generalize (if fe x < 2047 then fd x else Dy.zero) = X at *
    generalize (if fe y < 2047 then fd y else Dy.zero) = Y at *
    generalize decide (fe y < 2047) = by' at *
    simp only [DP, Dy.pv, NN, NL, u] at k1 k2 ⊢
    refine PC.of_body follows Tryz.func5 (by decide +kernel) rfl (by kernel_rfl) (Nat.le_of_ble_eq_true rfl) (walk ?_)
    simp only [Tryz.f5, go_sem]
    refine qcall_i (k0) ?_; simp only [Tryz.f5, go_sem]
    refine qcall_i (k1) ?_; simp only [Tryz.f5, go_sem]
    refine qcall_i (k2) ?_; simp only [Tryz.f5, go_sem]
    try rfl
  rw [if_pos fx, decide_eq_true fx] at k1
  by_cases fy : fe y < 2047
  case neg =>
    rw [decide_eq_false fy] at k2
    generalize (if fe y < 2047 then fd y else Dy.zero) = Y at *
    simp only [DP, Dy.pv, NN, NL, u] at k1 k2 ⊢
    refine PC.of_body follows Tryz.func5 (by decide +kernel) rfl (by kernel_rfl) (Nat.le_of_ble_eq_true rfl) (walk ?_)
    simp only [Tryz.f5, go_sem]
    refine qcall_i (k0) ?_; simp only [Tryz.f5, go_sem]
    refine qcall_i (k1) ?_; simp only [Tryz.f5, go_sem]
    refine qcall_i (k2) ?_; simp only [Tryz.f5, go_sem]
    try rfl
  rw [if_pos fy, decide_eq_true fy] at k2
  have lx := fd_limA fx
  have ly := fd_limA fy
  have k3 := r_Sign (lx.RD (by decide))
  by_cases c1 : (fd x).sg ≤ 0
  · have g1 : decide ((fd x).sg ≤ 0) = true := decide_eq_true c1
    generalize (fd x).sg = sg at *
    simp only [DP, Dy.pv, NN, NL, u] at k1 k2 k3 ⊢
    refine PC.of_body follows Tryz.func5 (by decide +kernel) rfl (by kernel_rfl) (Nat.le_of_ble_eq_true rfl) (walk ?_)
    simp only [Tryz.f5, go_sem]
    refine qcall_i (k0) ?_; simp only [Tryz.f5, go_sem]
    refine qcall_i (k1) ?_; simp only [Tryz.f5, go_sem]
    refine qcall_i (k2) ?_; simp only [Tryz.f5, go_sem]
    refine qcall_i (k3) ?_; simp only [Tryz.f5, g1, go_sem]
    try rfl
  have g1 : decide ((fd x).sg ≤ 0) = false := decide_eq_false c1
  have k4 := e_Of (ly.RD (by decide)) ly (by decide)
  by_cases c2 : exOfOk (fd y)
  case neg =>
    rw [if_neg c2] at k4
    generalize (fd x).sg = sg at *
    simp only [DP, Dy.pv, NN, NL, u] at k1 k2 k3 k4 ⊢
    refine PC.of_body follows Tryz.func5 (by decide +kernel) rfl (by kernel_rfl) (Nat.le_of_ble_eq_true rfl) (walk ?_)
    simp only [Tryz.f5, go_sem]
    refine qcall_i (k0) ?_; simp only [Tryz.f5, go_sem]
    refine qcall_i (k1) ?_; simp only [Tryz.f5, go_sem]
    refine qcall_i (k2) ?_; simp only [Tryz.f5, go_sem]
    refine qcall_i (k3) ?_; simp only [Tryz.f5, g1, go_sem]
    refine qcall_i (k4) ?_; simp only [Tryz.f5, go_sem]
    try rfl
  rw [if_pos c2] at k4
  have xs := pos_s (show 0 < (fd x).sg by omega)
  have xm := sg_m0 (show 0 < (fd x).sg by omega)
  have px := fd_posD xm xs
  have hxb := fd_bits x
  have hlg : LgOk (fd x) := by
    have b1 := fd_bits x
    have b2 := fd_e x
    have b3 := bitLen_pos xm
    have ht : (fd x).top = bitLen (fd x).m - 1 + (fd x).e := if_neg xm
    exact ⟨fd_ok' x, xs, xm, by omega, by omega, by omega⟩
  have hM := exM_lt c2
  have hK := exK_range c2.1
  have k5 := e_Power (lx.RD (by decide)) hlg (M := exM (fd y)) (K := exK (fd y)) ⟨by omega, by omega⟩ hK.1 (by omega)
  cases hp : powO (fd x) (exM (fd y)) (exK (fd y)) with
  | some p =>
    rw [hp] at k5
    obtain ⟨pp, pb, pe⟩ := pow_sound px hlg hK.1 hp
    have k6 := c_Break pp.RD
    rw [decide_eq_true ⟨pp.fits, pb⟩] at k6
    obtain ⟨yy, e, k7, h7⟩ := e_IsC px pp (M := exM (fd y)) (K := exK (fd y)) ⟨by omega, by omega⟩ hK.1 (by omega)
    generalize (fd x).sg = sg at *
    generalize exM (fd y) = M at *
    generalize exK (fd y) = K at *
    simp only [powPV, DP, Dy.pv, NN, NL, u] at k1 k2 k3 k4 k5 k6 k7 ⊢
    by_cases he : e = 0
    · have hy1 := (h7 he).2 pe
      subst he hy1
      refine PC.of_body follows Tryz.func5 (by decide +kernel) rfl (by kernel_rfl) (Nat.le_of_ble_eq_true rfl) (walk ?_)
      simp only [Tryz.f5, go_sem]
      refine qcall_i (k0) ?_; simp only [Tryz.f5, go_sem]
      refine qcall_i (k1) ?_; simp only [Tryz.f5, go_sem]
      refine qcall_i (k2) ?_; simp only [Tryz.f5, go_sem]
      refine qcall_i (k3) ?_; simp only [Tryz.f5, g1, go_sem]
      refine qcall_i (k4) ?_; simp only [Tryz.f5, go_sem]
      refine qcall_i (k5) ?_; simp only [Tryz.f5, go_sem]
      refine qcall_i (k6) ?_; simp only [Tryz.f5, go_sem]
      refine qcall_i (k7) ?_; simp only [Tryz.f5, go_sem]
      try rfl
    · have g2 : decide (¬ e = 0) = true := decide_eq_true he
      refine PC.of_body follows Tryz.func5 (by decide +kernel) rfl (by kernel_rfl) (Nat.le_of_ble_eq_true rfl) (walk ?_)
      simp only [Tryz.f5, go_sem]
      refine qcall_i (k0) ?_; simp only [Tryz.f5, go_sem]
      refine qcall_i (k1) ?_; simp only [Tryz.f5, go_sem]
      refine qcall_i (k2) ?_; simp only [Tryz.f5, go_sem]
      refine qcall_i (k3) ?_; simp only [Tryz.f5, g1, go_sem]
      refine qcall_i (k4) ?_; simp only [Tryz.f5, go_sem]
      refine qcall_i (k5) ?_; simp only [Tryz.f5, go_sem]
      refine qcall_i (k6) ?_; simp only [Tryz.f5, go_sem]
      refine qcall_i (k7) ?_; simp only [Tryz.f5, g2, go_sem]
      try rfl
  | none =>
    rw [hp] at k5
    have kp := w_Plain
    have kw := w_Pow hx hy 0 64 1024
    have kx : kind x = 1 ∨ kind x = 2 := by
      have h1 : ¬ 2 < kind x := fun h => (kind_num x).1 h fx
      have h2 : kind x ≠ 0 := fun h => by
        unfold kind at h
        split at h
        · rename_i hz
          have : fsz x = 0 := by
            unfold fsz
            unfold fe ff at hz
            omega
          exact xm ((fd_m0 fx).2 this)
        · exfalso
          repeat' split at h
          all_goals omega
      omega
    have ky : kind y ≤ 2 := Nat.not_lt.1 fun h => (kind_num y).1 h fy
    have xf : fs x = false := by rw [← fd_s xm]; exact xs
    obtain ⟨R, fl, st, tr, er, hRW, eR⟩ := pow_W kx xf ky (f := 0) (t := 0)
    rw [eR] at kw
    have kk := c_rKind R hRW
    by_cases d1 : kind R > 2
    · have g2 : decide ((kind R : Int) > 2) = true := decide_eq_true (by omega)
      generalize (fd x).sg = sg at *
      generalize exM (fd y) = M at *
      generalize exK (fd y) = K at *
      simp only [powPV, zero_pv, hvv, DP, Dy.pv, NN, NL, u] at k1 k2 k3 k4 k5 kp kw kk ⊢
      refine PC.of_body follows Tryz.func5 (by decide +kernel) rfl (by kernel_rfl) (Nat.le_of_ble_eq_true rfl) (walk ?_)
      simp only [Tryz.f5, go_sem]
      refine qcall_i (k0) ?_; simp only [Tryz.f5, go_sem]
      refine qcall_i (k1) ?_; simp only [Tryz.f5, go_sem]
      refine qcall_i (k2) ?_; simp only [Tryz.f5, go_sem]
      refine qcall_i (k3) ?_; simp only [Tryz.f5, g1, go_sem]
      refine qcall_i (k4) ?_; simp only [Tryz.f5, go_sem]
      refine qcall_i (k5) ?_; simp only [Tryz.f5, go_sem]
      refine qcall_i (kp) ?_; simp only [Tryz.f5, go_sem]
      refine qcall_i (kw) ?_; simp only [Tryz.f5, go_sem]
      refine qcall_i (kk) ?_; simp only [Tryz.f5, g2, go_sem]
      try rfl
    have g2 : decide ((kind R : Int) > 2) = false := decide_eq_false (by omega)
    by_cases d2 : kind R = 0
    · have g3 : decide ((kind R : Int) = 0) = true := decide_eq_true (by omega)
      generalize (fd x).sg = sg at *
      generalize exM (fd y) = M at *
      generalize exK (fd y) = K at *
      simp only [powPV, zero_pv, hvv, DP, Dy.pv, NN, NL, u] at k1 k2 k3 k4 k5 kp kw kk ⊢
      refine PC.of_body follows Tryz.func5 (by decide +kernel) rfl (by kernel_rfl) (Nat.le_of_ble_eq_true rfl) (walk ?_)
      simp only [Tryz.f5, go_sem]
      refine qcall_i (k0) ?_; simp only [Tryz.f5, go_sem]
      refine qcall_i (k1) ?_; simp only [Tryz.f5, go_sem]
      refine qcall_i (k2) ?_; simp only [Tryz.f5, go_sem]
      refine qcall_i (k3) ?_; simp only [Tryz.f5, g1, go_sem]
      refine qcall_i (k4) ?_; simp only [Tryz.f5, go_sem]
      refine qcall_i (k5) ?_; simp only [Tryz.f5, go_sem]
      refine qcall_i (kp) ?_; simp only [Tryz.f5, go_sem]
      refine qcall_i (kw) ?_; simp only [Tryz.f5, go_sem]
      refine qcall_i (kk) ?_; simp only [Tryz.f5, g2, go_sem]
      refine qcall_i (kk) ?_; simp only [Tryz.f5, g2, g3, go_sem]
      try rfl
    have g3 : decide ((kind R : Int) = 0) = false := decide_eq_false (by omega)
    have fR : fe R < 2047 := Decidable.byContradiction fun hn => by
      have := (kind_num R).2 hn
      omega
    have zR : fsz R ≠ 0 := fun hz => d2 (by
      have : fe R = 0 ∧ ff R = 0 := by
        unfold fsz at hz
        unfold fe ff
        omega
      unfold kind
      rw [if_pos this])
    have mR : (fd R).m ≠ 0 := fun h0 => zR ((fd_m0 fR).1 h0)
    have hIR := fsz_INF.1 fR
    have q1 := r_FDyad hRW
    rw [if_pos fR, decide_eq_true fR] at q1
    have q2 := c_Beside R hRW
    rw [if_pos ⟨fR, zR⟩] at q2
    have lR := fd_limA fR
    obtain ⟨m1, m2⟩ := mid_pos (b := fsz R - 1) (by omega)
    obtain ⟨m3, m4⟩ := mid_pos (b := fsz R) hIR
    obtain ⟨y1, e1, i1, j1⟩ := no_is px (by omega) (lR.RD (by decide)) (lR.fits (by decide)) mR (fd_posD mR) (fd_brk fR) (M := exM (fd y)) (K := exK (fd y)) ⟨by omega, by omega⟩ hK.1 (by omega) hp
    obtain ⟨y2, e2, i2, j2⟩ := no_is px (by omega) m1.RD m1.fits m1.m (fun _ => m1) m2 (M := exM (fd y)) (K := exK (fd y)) ⟨by omega, by omega⟩ hK.1 (by omega) hp
    obtain ⟨y3, e3, i3, j3⟩ := no_is px (by omega) m3.RD m3.fits m3.m (fun _ => m3) m4 (M := exM (fd y)) (K := exK (fd y)) ⟨by omega, by omega⟩ hK.1 (by omega) hp
    generalize (fd x).sg = sg at *
    generalize exM (fd y) = M at *
    generalize exK (fd y) = K at *
    generalize mid (fsz R - 1) = A at *
    generalize mid (fsz R) = B at *
    generalize fd R = V at *
    simp only [powPV, zero_pv, hvv, DP, Dy.pv, NN, NL, u] at k1 k2 k3 k4 k5 kp kw kk q1 q2 i1 i2 i3 ⊢
    rcases j1 with j1 | ⟨j1, rfl⟩ <;> rcases j2 with j2 | ⟨j2, rfl⟩ <;> rcases j3 with j3 | ⟨j3, rfl⟩
    all_goals
      refine PC.of_body follows Tryz.func5 (by decide +kernel) rfl (by kernel_rfl) (Nat.le_of_ble_eq_true rfl) (walk ?_)
      simp only [Tryz.f5, go_sem]
      refine qcall_i (k0) ?_; simp only [Tryz.f5, go_sem]
      refine qcall_i (k1) ?_; simp only [Tryz.f5, go_sem]
      refine qcall_i (k2) ?_; simp only [Tryz.f5, go_sem]
      refine qcall_i (k3) ?_; simp only [Tryz.f5, g1, go_sem]
      refine qcall_i (k4) ?_; simp only [Tryz.f5, go_sem]
      refine qcall_i (k5) ?_; simp only [Tryz.f5, go_sem]
      refine qcall_i (kp) ?_; simp only [Tryz.f5, go_sem]
      refine qcall_i (kw) ?_; simp only [Tryz.f5, go_sem]
      refine qcall_i (kk) ?_; simp only [Tryz.f5, g2, go_sem]
      refine qcall_i (kk) ?_; simp only [Tryz.f5, g2, g3, go_sem]
      refine qcall_i (q1) ?_; simp only [Tryz.f5, go_sem]
      refine qcall_i (q2) ?_; simp only [Tryz.f5, go_sem]
      refine qcall_i (i1) ?_; simp only [Tryz.f5, go_sem]
      refine qcall_i (i2) ?_; simp only [Tryz.f5, go_sem]
      refine qcall_i (i3) ?_; simp only [Tryz.f5, j1, j2, j3, go_sem]
      try rfl
end
end Go.Proofs.YtfkgaldbcngliaaGreatDoor
