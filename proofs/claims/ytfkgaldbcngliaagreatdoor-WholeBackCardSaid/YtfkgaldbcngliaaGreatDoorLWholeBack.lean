import Derived.Test.YtfkgaldbcngliaaGreatDoorWb2
open Go PG Go.Proofs
set_option maxRecDepth 100000
set_option linter.unusedSimpArgs false
set_option linter.unusedVariables false
namespace Go.Proofs.YtfkgaldbcngliaaGreatDoor
attribute [local go_sem] Lay2 Lay3 Lay4 Lay5 Lay6 Lay7 Lay8 Lay9 Lay10 Lay11 Lay12 Lay13 Lay14 Lay15 Lay16 Lay17 Lay18 Lay19 Lay20 Lay21 Lay22 Lay26 Lay27 Lay28 Lay29 Lay31 Lay32 Lay33 Lay34 Lay35 Lay41 Lay42 Lay43 Lay47 Lay48 Lay60 Lay61 Lay62 Lay63 Lay64 Lay72 Lay73 Lay74 Lay83 Lay84 Lay86 Lay90 Lay91 Lay92 Lay93 Lay102 Lay103 Lay139 Lay143 Lay149 Lay158 Lay159 Lay160 Lay161 Lay162 Lay174 Lay175 Lay193 Lay207 Lay208 Lay209 Lay210 Lay228 Lay229 Lay237 Lay238 Lay265 Lay287 Lay295 Lay296 Lay297 Lay299 Lay301 Lay302 Lay303 Lay304 Lay305 Lay307 Lay308 Lay310 Lay311 Lay312 Lay315 Lay316 Lay317 qexec_seq qexec_skip qexec_exit qexec_ret qexec_block qexec_loop qexec_range qexec_cond qexec_region qexec_drawn qops_nil qops_none qops_some put_some put_none pblk_exit pblk_other newDsts_nil inlDsts_nil isInl sget_cons sget_nil qval_some qbool_some qgs_bool qgs_und qfree_some qgrd_true qgrd_false qif_true qif_false qval_ite qval_itn qand_true map_ite map_some' map_none' qdo_move qdo_assign qdo_binOp qdo_pick qdo_unOp qdo_convert qdo_extract qdo_makeInterface qdo_field qdo_fieldAddr qdo_alloc qdo_box qdo_build qdo_buildSlice qdo_load qdo_store qdo_nilCheck qdo_makeFunc qdo_makeSlice qdo_slice qdo_indexAddr qdo_call qcont_val qcont_new qcont_st qcont_app0 qcont_app qcont_inl qcont_call njSV_val njSV_nil njSV_row njSV_ptr njSV_sub binV_val binV_nil binV_nn binV_ptr bin_np bin_nnp nilCmp bin_add bin_sub bin_mul bin_quo bin_rem bin_and bin_or bin_xor bin_andNot bin_eql bin_neq bin_lss bin_leq bin_gtr bin_geq bin_shl bin_shr bin_seql bin_sneq bin_sadd bin_beql bin_aeql bin_aneq eqAnd_some eqCells_nil eqCells_cons fieldTypes isStruct eqCell bin_bneq un_not un_neg nj_ite Nat.beq stepA stepR isNew opSV constSV RV.sv allSome E_mu E_own qkeyIn_none qkeyIn_some qkeyAt_none qkeyAt_some Bool.or_false Bool.false_or Bool.or_true Bool.true_or cst setB res resSV pstart startL killL kill1 eraL frzL svPV rvPV rvInt rvSlice rvBytes frzOf close closeL pconv pbuiltin pmax2 partPV setCells fillPV zrow bound newSV PV.cells Bk.cells Bk.with SV.key pres presL_nil presL_tmp presL_cell presC2_some cellPV_ptr presC List.toList_toArray List.size_toArray List.getElem?_drop Nat.mul_one Int.toNat_natCast Nat.not_lt_zero Nat.lt_irrefl decide_true decide_false Nat.not_lt Option.some.injEq PV.lst.injEq PV.int.injEq PV.bool.injEq PV.tuple.injEq List.cons.injEq Option.map_some Option.map_none Option.bind_some Option.toList List.map_cons List.map_nil List.nil_append List.cons_append List.append_nil List.zip_cons_cons List.zip_nil_left List.zip_nil_right List.getElem?_cons_zero List.getElem?_cons_succ List.drop_zero List.drop_succ_cons List.take_succ_cons List.take_zero List.set_cons_zero List.set_cons_succ List.length_cons List.length_nil List.length_set List.replicate_one List.replicate_zero bne_self_eq_false beq_self_eq_true Nat.zero_add Nat.add_zero Nat.zero_mul Bool.false_eq_true Bool.true_eq_false Bool.not_true Bool.not_false and_true true_and false_and and_false or_false false_or or_true true_or not_true_eq_false not_false_eq_true ne_eq gt_iff_lt List.mem_cons List.not_mem_nil
attribute [local go_sem ↓] pseq_normal pseq_ret pseq_exit pblk_normal pblk_ret newDsts_cons inlDsts_cons gdst_zero gdst_succ retQ_normal retQ_ret qneed_nil qneed_cons retM_normal retM_ret endR_normal endR_ret endR_exit
attribute [local go_sem] Int.reduceToNat Int.reduceEq Int.reduceNe Int.reduceLT Int.reduceLE Int.reduceNeg Int.reduceAdd Nat.reduceEqDiff Nat.reduceAdd Nat.reduceSub Nat.reduceMul Nat.reduceLeDiff Nat.reduceLT
attribute [local go_sem ↓] reduceIte reduceCtorEq
open XX
theorem kind_pos {b : Nat} (h0 : b ≠ 0) (hI : b < INF) : (kind b = 1 ∨ kind b = 2) ∧ fs b = false ∧ fsz b = b ∧ fe b < 2047 ∧ b < W := by
  have hI2 := INF_lt
  have hz : fsz b = b := Nat.mod_eq_of_lt (by omega)
  have hf : fe b < 2047 := fsz_INF.2 (by rw [hz]; exact hI)
  refine ⟨?_, fs_small (by omega), hz, hf, Nat.lt_trans (by omega : b < 9223372036854775808) (by decide)⟩
  unfold kind
  split
  · rename_i hk
    exfalso
    have hb : b < 9223372036854775808 := by omega
    unfold fe ff at hk
    omega
  split
  · exact .inl rfl
  · exact .inr rfl
theorem pownS_pos {b : Nat} (h0 : b ≠ 0) (hI : b < INF) {k : Int} (hk : k ≠ 0) : pownS b k = none := by
  obtain ⟨h1, h2, h3, h4, h5⟩ := kind_pos h0 hI
  unfold pownS endsS
  rw [if_neg (by omega), if_neg hk, if_neg (by omega), if_neg (by omega), if_neg (by omega)]
theorem rootnS_pos {b : Nat} (h0 : b ≠ 0) (hI : b < INF) {k : Int} (hk : k ≠ 0) : rootnS b k = none := by
  obtain ⟨h1, h2, h3, h4, h5⟩ := kind_pos h0 hI
  unfold rootnS endsS
  rw [if_neg (by omega), if_neg (by omega), if_neg hk, if_neg (fun h => by rw [h2] at h; exact Bool.false_ne_true h.1), if_neg (by omega), if_neg (by omega)]
theorem hOk_plain : hOk 0 64 1024 := by decide
theorem pown_ok {b : Nat} (h0 : b ≠ 0) (hI : b < INF) {k : Nat} (hk : 1 ≤ k) (hk2 : k ≤ 1000) : AskOk (pownA b (k : Int) 0 64 1024) := by
  obtain ⟨h1, h2, h3, h4, h5⟩ := kind_pos h0 hI
  have := opA_ok (k := 1) (x := b) (y := 0) (n := (k : Int)) (dir := 0) (f := 64) (t := 1024) h5 (by decide) (by omega) (by omega) (by unfold opO; rw [if_neg (by decide), if_pos rfl]; exact pownS_pos h0 hI (by omega)) hOk_plain
  unfold opA at this
  rwa [if_neg (by decide), if_pos rfl] at this
theorem root_ok {b : Nat} (h0 : b ≠ 0) (hI : b < INF) {k : Nat} (hk : 1 ≤ k) (hk2 : k ≤ 1000) : AskOk (rootA b (k : Int) 0 64 1024) := by
  obtain ⟨h1, h2, h3, h4, h5⟩ := kind_pos h0 hI
  have := opA_ok (k := 2) (x := b) (y := 0) (n := (k : Int)) (dir := 0) (f := 64) (t := 1024) h5 (by decide) (by omega) (by omega) (by unfold opO; rw [if_neg (by decide), if_neg (by decide), if_pos rfl]; exact rootnS_pos h0 hI (by omega)) hOk_plain
  unfold opA at this
  rwa [if_neg (by decide), if_neg (by decide), if_pos rfl] at this
theorem pown_neg {b : Nat} (h0 : b ≠ 0) (hI : b < INF) (k : Int) : (pownA b k 0 64 1024).neg = false ∧ (rootA b k 0 64 1024).neg = false := by
  obtain ⟨h1, h2, h3, h4, h5⟩ := kind_pos h0 hI
  constructor
  · show (fs b && podd k) = false
    rw [h2]; rfl
  · exact h2
theorem fd_pos {b : Nat} (h0 : b ≠ 0) (hI : b < INF) : (fd b).s = false ∧ (fd b).m % 2 = 1 ∧ (fd b).m ≠ 0 := by
  obtain ⟨h1, h2, h3, h4, h5⟩ := kind_pos h0 hI
  have hm : (fd b).m ≠ 0 := fun h => by
    have := (fd_m0 h4).1 h
    omega
  exact ⟨by rw [fd_s hm, h2], (fd_ok b).resolve_left hm, hm⟩
theorem exactO_form {a : Ask} (ha : AskOk a) {d : Dy} (h : exactO a = some d) : d.ok ∧ d.m ≠ 0 ∧ d.s = false := by
  unfold exactO at h
  split at h
  · cases h
    rw [one_dy]
    exact ⟨.inr rfl, by decide, rfl⟩
  split at h
  · rename_i hw
    have hod := ha.y.resolve_left (fun h => ha.y0 (by rw [h]; rfl))
    obtain ⟨f1, f2, f3, f4, f5, f6, f7⟩ := low_facts ha.y0 hod ha.n1 ha.nW
    have hK := exK_range hw.1.1
    have hp1 : 1 ≤ exK (lowD a.y a.n) * lowQ a.y a.n := Nat.mul_pos hK.1 f5
    generalize exK (lowD a.y a.n) * lowQ a.y a.n = KN at *
    have hg0 : 0 < Nat.gcd (exM (lowD a.y a.n)).natAbs KN := Nat.gcd_pos_of_pos_right _ (by omega)
    have hgK : Nat.gcd (exM (lowD a.y a.n)).natAbs KN ≤ KN := Nat.gcd_le_right _ (by omega)
    have hkq : 1 ≤ KN / Nat.gcd (exM (lowD a.y a.n)).natAbs KN := Nat.div_pos hgK hg0
    unfold powO at h
    split at h
    · cases h
      rw [one_dy]
      exact ⟨.inr rfl, by decide, rfl⟩
    · split at h
      · cases h
      · rename_i r hr
        obtain ⟨g1, g2, g3, g4, g5⟩ := rootO_facts ha.x hkq hr
        split at h
        · cases h
        · rename_i p hp
          obtain ⟨q1, q2, q3, q4, q5⟩ := raisO_facts g1 hp
          split at h
          · cases h
            exact ⟨.inr q1, by omega, q5⟩
          · cases h
  · cases h
theorem back1 {s : Nat} (h0 : s ≠ 0) (hI : s < INF) {k : Nat} (hk : 1 ≤ k) (hk2 : k ≤ 20) (h : (doS (pownA s (k : Int) 0 64 1024)).2.1 = 0) :
    ∃ b, b ≠ 0 ∧ b < INF ∧ doS (pownA s (k : Int) 0 64 1024) = (b, 0, 0, 0) ∧ doS (rootA b (k : Int) 0 64 1024) = (s, 0, 0, 0) := by
  have ha := pown_ok h0 hI hk (show k ≤ 1000 by omega)
  obtain ⟨d, h1, h2, h3⟩ := doS_zero ha h
  rw [(pown_neg h0 hI _).1] at h2 h3
  obtain ⟨o1, o2, o3⟩ := exactO_form ha h1
  have es : sgnD d false = d := rfl
  rw [es] at h2 h3
  obtain ⟨b, b1, b2, b3, b4⟩ := toS_exact o1 o2 o3 h2
  have ed : (pownA s (k : Int) 0 64 1024).dir = 0 := rfl
  rw [b4] at h3
  refine ⟨b, b2, b1, h3, ?_⟩
  obtain ⟨s1, s2, s3, s4, s5⟩ := kind_pos h0 hI
  obtain ⟨t1, t2, t3, t4, t5⟩ := kind_pos b2 b1
  have hp := exact_pown hk (show k ≤ 1000 by omega) h1
  rw [s3] at hp
  have hfs := fd_pos h0 hI
  have hx := find_root (x := b) (k := k) (d := fd s) hfs.1 hfs.2.1 (by rw [t3, b3, hp]) hk (by omega) (by have := fd_e s; omega) (by have := fd_bits s; omega) (fd_brk s4) (dir := 0) (f := 64) (t := 1024)
  unfold doS
  rw [hx, (pown_neg b2 b1 _).2]
  dsimp only
  have es2 : sgnD (fd s) false = fd s := rfl
  rw [es2, toS_fd s4, s3, if_neg h0, s2]
  rfl
theorem back2 {s : Nat} (h0 : s ≠ 0) (hI : s < INF) {k : Nat} (hk : 1 ≤ k) (hk2 : k ≤ 20) (h : (doS (rootA s (k : Int) 0 64 1024)).2.1 = 0) :
    ∃ b, b ≠ 0 ∧ b < INF ∧ doS (rootA s (k : Int) 0 64 1024) = (b, 0, 0, 0) ∧ doS (pownA b (k : Int) 0 64 1024) = (s, 0, 0, 0) := by
  have ha := root_ok h0 hI hk (show k ≤ 1000 by omega)
  obtain ⟨d, h1, h2, h3⟩ := doS_zero ha h
  rw [(pown_neg h0 hI _).2] at h2 h3
  obtain ⟨o1, o2, o3⟩ := exactO_form ha h1
  have es : sgnD d false = d := rfl
  rw [es] at h2 h3
  obtain ⟨b, b1, b2, b3, b4⟩ := toS_exact o1 o2 o3 h2
  rw [b4] at h3
  refine ⟨b, b2, b1, h3, ?_⟩
  obtain ⟨s1, s2, s3, s4, s5⟩ := kind_pos h0 hI
  obtain ⟨t1, t2, t3, t4, t5⟩ := kind_pos b2 b1
  have hfs := fd_pos h0 hI
  have hp := exact_root (x := s) (by rw [s3]; exact hfs.1) hk h1
  rw [s3, ← b3] at hp
  have hee : (fd b).e * k = (fd s).e := by rw [← hp]; rfl
  have hx := find_pown (x := b) (k := k) hk (by omega) (by
    rw [t3]
    have h4 : ((fd b).e * (k : Int)).natAbs = (fd b).e.natAbs * k := by rw [Int.natAbs_mul, Int.natAbs_natCast]
    have := fd_e s
    rw [hee] at h4
    omega) (by rw [t3, hp]; exact fd_brk s4) (dir := 0) (f := 64) (t := 1024)
  rw [t3, hp] at hx
  unfold doS
  rw [hx, (pown_neg b2 b1 _).1]
  dsimp only
  have es2 : sgnD (fd s) false = fd s := rfl
  rw [es2, toS_fd s4, s3, if_neg h0, s2]
  rfl
theorem doPV_0 (b : Nat) : doPV (b, 0, 0, 0) = .tuple [.agg [.int .u64 (b : Nat), .int .u8 0, .int .i64 0], .int .i64 0, .int .i64 0] := rfl
set_option maxHeartbeats 4000000 in
theorem law_WholeBack (pvs : List PV) (h : Fits [qU64, qU8] pvs) : PC E 3 pvs (.bool true) := by
  obtain ⟨_, _, rfl, ⟨x, rfl, hx⟩, ⟨n, rfl, hn⟩⟩ := fits2 h
  have k0 := l_alive
  have k1 := c_Finite x hx
  have k2 := c_Kind x hx
  have k3 := w_Plain
  have e1 := n63 hx
  simp only [u] at k1 k2 ⊢
  by_cases c1 : fe x < 2047
  case neg =>
    rw [decide_eq_false c1] at k1
    refine PC.of_body follows Tryz.func3 (by decide +kernel) rfl (by kernel_rfl) (Nat.le_of_ble_eq_true rfl) (walk ?_)
    simp only [Tryz.f3, go_sem]
    refine qcall_i (k0) ?_; simp only [Tryz.f3, go_sem]
    refine qcall_i (k1) ?_; simp only [Tryz.f3, go_sem]
    try rfl
  rw [decide_eq_true c1] at k1
  by_cases c2 : kind x = 0
  · refine PC.of_body follows Tryz.func3 (by decide +kernel) rfl (by kernel_rfl) (Nat.le_of_ble_eq_true rfl) (walk ?_)
    simp only [Tryz.f3, go_sem]
    refine qcall_i (k0) ?_; simp only [Tryz.f3, go_sem]
    refine qcall_i (k1) ?_; simp only [Tryz.f3, go_sem]
    refine qcall_i (k2) ?_; simp only [Tryz.f3, go_sem]
    refine qif_dt (by omega) ?_
    simp only [Tryz.f3, go_sem]
    try rfl
  have h0 : fsz x ≠ 0 := fun h => c2 (by
    unfold kind
    have : fe x = 0 ∧ ff x = 0 := by
      unfold fsz at h
      unfold fe ff
      omega
    rw [if_pos this])
  have hI := fsz_INF.1 c1
  obtain ⟨k, hkn⟩ : ∃ k : Nat, k = 1 + n % 20 := ⟨_, rfl⟩
  have hk1 : 1 ≤ k := by omega
  have hk2 : k ≤ 20 := by omega
  have wc : IntKind.wrap .i64 (n : Int) = n := wrap64 (by omega) (by omega)
  have wm : (n : Int).tmod 20 = ((n % 20 : Nat) : Int) := by rw [Int.tmod_eq_emod_of_nonneg (by omega)]; rfl
  have wk : IntKind.wrap .i64 (1 + ((n % 20 : Nat) : Int)) = (k : Int) := by rw [wrap64 (by omega) (by omega)]; omega
  have hsW : fsz x < W := Nat.lt_trans (fsz_lt x) (by decide)
  have p1 := w_Pown (x := fsz x) hsW (n := (k : Int)) (by omega) (by omega) 0 64 1024
  have p2 := w_Rootn (x := fsz x) hsW (n := (k : Int)) (by omega) (by omega) 0 64 1024
  unfold opPV at p1 p2
  rw [if_pos hOk_plain, pownS_pos h0 hI (by omega)] at p1
  rw [if_pos hOk_plain, rootnS_pos h0 hI (by omega)] at p2
  dsimp only at p1 p2
  have f1 := doS_facts (pownA (fsz x) (k : Int) 0 64 1024)
  have f2 := doS_facts (rootA (fsz x) (k : Int) 0 64 1024)
  have b1 := back1 h0 hI hk1 hk2
  have b2 := back2 h0 hI hk1 hk2
  have r1 : ∀ b, b ≠ 0 → b < INF → PC E 15 [u b, .int .i64 (k : Int), hvv 0 64 1024] (doPV (doS (rootA b (k : Int) 0 64 1024))) ∧ PC E 14 [u b, .int .i64 (k : Int), hvv 0 64 1024] (doPV (doS (pownA b (k : Int) 0 64 1024))) ∧ PC E 11 [u b] (.bool true) := fun b hb hbI => by
    obtain ⟨t1, t2, t3, t4, t5⟩ := kind_pos hb hbI
    have q1 := w_Rootn (x := b) t5 (n := (k : Int)) (by omega) (by omega) 0 64 1024
    have q2 := w_Pown (x := b) t5 (n := (k : Int)) (by omega) (by omega) 0 64 1024
    have q3 := c_Finite b t5
    unfold opPV at q1 q2
    rw [if_pos hOk_plain, rootnS_pos hb hbI (by omega)] at q1
    rw [if_pos hOk_plain, pownS_pos hb hbI (by omega)] at q2
    rw [decide_eq_true t4] at q3
    exact ⟨q1, q2, q3⟩
  generalize doS (pownA (fsz x) (k : Int) 0 64 1024) = D1 at *
  generalize doS (rootA (fsz x) (k : Int) 0 64 1024) = D2 at *
  generalize fsz x = S at *
  clear hkn wm
  have wm : (n : Int).tmod 20 = ((n % 20 : Nat) : Int) := by rw [Int.tmod_eq_emod_of_nonneg (by omega)]; rfl
  -- the second half
  obtain ⟨d1, fl1, st1, tr1⟩ := D1
  obtain ⟨d2, fl2, st2, tr2⟩ := D2
  dsimp only at f1 f2 b1 b2
  have c3' : (kind x : Int) ≠ 0 := by clear b1 b2; omega
  by_cases z1 : fl1 = 0
  · obtain ⟨b, hb0, hbI, hb1, hb2⟩ := b1 z1
    obtain ⟨q1, q2, q3⟩ := r1 b hb0 hbI
    rw [hb2, doPV_0] at q1
    simp only [Prod.mk.injEq] at hb1
    obtain ⟨rfl, -, rfl, rfl⟩ := hb1
    subst z1
    rw [show doPV (d1, 0, 0, 0) = .tuple [.agg [.int .u64 (d1 : Nat), .int .u8 0, .int .i64 0], .int .i64 0, .int .i64 0] from rfl] at p1
    by_cases z2 : fl2 = 0
    · obtain ⟨b', hb0', hbI', hb1', hb2'⟩ := b2 z2
      obtain ⟨q1', q2', q3'⟩ := r1 b' hb0' hbI'
      rw [hb2', doPV_0] at q2'
      simp only [Prod.mk.injEq] at hb1'
      obtain ⟨rfl, -, rfl, rfl⟩ := hb1'
      subst z2
      rw [show doPV (d2, 0, 0, 0) = .tuple [.agg [.int .u64 (d2 : Nat), .int .u8 0, .int .i64 0], .int .i64 0, .int .i64 0] from rfl] at p2
      simp only [u, hvv] at k3 p1 p2 q1 q3 q2'
      refine PC.of_body follows Tryz.func3 (by decide +kernel) rfl (by kernel_rfl) (Nat.le_of_ble_eq_true rfl) (walk ?_)
      simp only [Tryz.f3, go_sem]
      refine qcall_i (k0) ?_; simp only [Tryz.f3, go_sem]
      refine qcall_i (k1) ?_; simp only [Tryz.f3, go_sem]
      refine qcall_i (k2) ?_; simp only [Tryz.f3, go_sem]
      refine qif_df c3' ?_
      simp only [Tryz.f3, wc, wm, wk, go_sem]
      refine qcall_i (k3) ?_; simp only [Tryz.f3, e1, go_sem]
      refine qcall_i (p1) ?_; simp only [Tryz.f3, go_sem]
      refine qcall_i (q3) ?_; simp only [Tryz.f3, go_sem]
      refine qcall_i (q1) ?_; simp only [Tryz.f3, Bool.and_self, Bool.not_true, go_sem]
      refine qcall_i (p2) ?_; simp only [Tryz.f3, go_sem]
      refine qcall_i (q2') ?_; simp only [Tryz.f3, go_sem]
      try rfl
    · simp only [u, hvv, doPV] at k3 p1 p2 q1 q3
      refine PC.of_body follows Tryz.func3 (by decide +kernel) rfl (by kernel_rfl) (Nat.le_of_ble_eq_true rfl) (walk ?_)
      simp only [Tryz.f3, go_sem]
      refine qcall_i (k0) ?_; simp only [Tryz.f3, go_sem]
      refine qcall_i (k1) ?_; simp only [Tryz.f3, go_sem]
      refine qcall_i (k2) ?_; simp only [Tryz.f3, go_sem]
      refine qif_df c3' ?_
      simp only [Tryz.f3, wc, wm, wk, go_sem]
      refine qcall_i (k3) ?_; simp only [Tryz.f3, e1, go_sem]
      refine qcall_i (p1) ?_; simp only [Tryz.f3, go_sem]
      refine qcall_i (q3) ?_; simp only [Tryz.f3, go_sem]
      refine qcall_i (q1) ?_; simp only [Tryz.f3, Bool.and_self, Bool.not_true, go_sem]
      refine qcall_i (p2) ?_; simp only [Tryz.f3, go_sem]
      clear b1 b2
      refine qif_dt (by omega) ?_
      simp only [Tryz.f3, go_sem]
      try rfl
  · by_cases z2 : fl2 = 0
    · obtain ⟨b', hb0', hbI', hb1', hb2'⟩ := b2 z2
      obtain ⟨q1', q2', q3'⟩ := r1 b' hb0' hbI'
      rw [hb2', doPV_0] at q2'
      simp only [Prod.mk.injEq] at hb1'
      obtain ⟨rfl, -, rfl, rfl⟩ := hb1'
      subst z2
      rw [show doPV (d2, 0, 0, 0) = .tuple [.agg [.int .u64 (d2 : Nat), .int .u8 0, .int .i64 0], .int .i64 0, .int .i64 0] from rfl] at p2
      simp only [u, hvv, doPV] at k3 p1 p2 q2'
      refine PC.of_body follows Tryz.func3 (by decide +kernel) rfl (by kernel_rfl) (Nat.le_of_ble_eq_true rfl) (walk ?_)
      simp only [Tryz.f3, go_sem]
      refine qcall_i (k0) ?_; simp only [Tryz.f3, go_sem]
      refine qcall_i (k1) ?_; simp only [Tryz.f3, go_sem]
      refine qcall_i (k2) ?_; simp only [Tryz.f3, go_sem]
      refine qif_df c3' ?_
      simp only [Tryz.f3, wc, wm, wk, go_sem]
      refine qcall_i (k3) ?_; simp only [Tryz.f3, e1, go_sem]
      refine qcall_i (p1) ?_; simp only [Tryz.f3, go_sem]
      clear b1 b2
      refine qif_df (by omega) ?_
      simp only [Tryz.f3, go_sem]
      refine qcall_i (p2) ?_; simp only [Tryz.f3, go_sem]
      refine qcall_i (q2') ?_; simp only [Tryz.f3, go_sem]
      try rfl
    · simp only [u, hvv, doPV] at k3 p1 p2
      refine PC.of_body follows Tryz.func3 (by decide +kernel) rfl (by kernel_rfl) (Nat.le_of_ble_eq_true rfl) (walk ?_)
      simp only [Tryz.f3, go_sem]
      refine qcall_i (k0) ?_; simp only [Tryz.f3, go_sem]
      refine qcall_i (k1) ?_; simp only [Tryz.f3, go_sem]
      refine qcall_i (k2) ?_; simp only [Tryz.f3, go_sem]
      refine qif_df c3' ?_
      simp only [Tryz.f3, wc, wm, wk, go_sem]
      refine qcall_i (k3) ?_; simp only [Tryz.f3, e1, go_sem]
      refine qcall_i (p1) ?_; simp only [Tryz.f3, go_sem]
      clear b1 b2
      refine qif_df (by omega) ?_
      simp only [Tryz.f3, go_sem]
      refine qcall_i (p2) ?_; simp only [Tryz.f3, go_sem]
      refine qif_dt (by omega) ?_
      simp only [Tryz.f3, go_sem]
      try rfl
end Go.Proofs.YtfkgaldbcngliaaGreatDoor
