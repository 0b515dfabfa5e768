/- The contract of the law PolyTells: at whatever reads as its arguments it returns true. -/
import Derived.Test.YtejmlngnpekagaaGreatDoorPol3
import Derived.Test.YtejmlngnpekagaaGreatDoorPr1
import Derived.Test.YtejmlngnpekagaaGreatDoorRd9
import Derived.Test.YtejmlngnpekagaaGreatDoorTs0
import Derived.Test.YtejmlngnpekagaaGreatDoorG7
import Derived.Test.YtejmlngnpekagaaGreatDoorCut
open Go PG Go.Proofs
set_option maxRecDepth 100000
set_option linter.unusedSimpArgs false
set_option linter.unusedVariables false
namespace Go.Proofs.YtejmlngnpekagaaGreatDoor
attribute [local go_sem] Lay2 Lay3 Lay4 Lay5 Lay6 Lay7 Lay8 Lay9 Lay10 Lay11 Lay12 Lay13 Lay14 Lay15 Lay16 Lay17 Lay18 Lay19 Lay21 Lay22 Lay23 Lay25 Lay26 Lay27 Lay30 Lay31 Lay32 Lay33 Lay36 Lay37 Lay41 Lay42 Lay43 Lay47 Lay56 Lay57 Lay59 Lay60 Lay65 Lay66 Lay74 Lay75 Lay105 Lay114 Lay145 Lay146 Lay149 Lay150 Lay151 Lay173 Lay185 Lay189 Lay204 Lay205 Lay208 Lay214 Lay215 Lay216 Lay217 Lay218 Lay220 Lay221 Lay223 Lay224 Lay225 Lay228 qexec_seq qexec_skip qexec_exit qexec_ret qexec_block qexec_loop qexec_range qexec_cond qexec_region qexec_drawn qops_nil qops_none qops_some put_some put_none pblk_exit pblk_other newDsts_nil sget_cons sget_nil qval_some qbool_some qgs_bool qgs_und qfree_some qgrd_true qgrd_false qif_true qif_false qval_ite qval_itn qand_true map_ite map_some' map_none' qdo_move qdo_assign qdo_binOp qdo_pick qdo_unOp qdo_convert qdo_extract qdo_field qdo_fieldAddr qdo_alloc qdo_box qdo_build qdo_buildSlice qdo_load qdo_store qdo_nilCheck qdo_makeFunc qdo_makeSlice qdo_slice qdo_indexAddr qdo_call qcont_val qcont_new qcont_st qcont_app0 qcont_app qcont_inl qcont_call njSV_val njSV_nil njSV_row njSV_ptr njSV_sub binV_val binV_nil binV_nn binV_ptr bin_np bin_nnp nilCmp bin_add bin_sub bin_mul bin_quo bin_rem bin_and bin_or bin_xor bin_andNot bin_eql bin_neq bin_lss bin_leq bin_gtr bin_geq bin_shl bin_shr bin_seql bin_sneq bin_sadd bin_beql bin_aeql bin_aneq eqAnd_some eqCells_nil eqCells_cons fieldTypes isStruct eqCell bin_bneq un_not un_neg nj_ite Nat.beq stepA stepR isNew opSV constSV RV.sv allSome E_mu E_own qkeyIn_none qkeyIn_some qkeyAt_none qkeyAt_some Bool.or_false Bool.false_or Bool.or_true Bool.true_or cst setB res resSV pstart startL killL kill1 eraL frzL svPV rvPV rvInt rvSlice frzOf close closeL pconv pbuiltin pmax2 partPV setCells fillPV zrow bound newSV PV.cells Bk.cells Bk.with SV.key pres presL_nil presL_tmp presL_cell presC2_some cellPV_ptr presC List.toList_toArray List.size_toArray List.getElem?_drop Nat.mul_one Int.toNat_natCast Nat.not_lt_zero Nat.lt_irrefl decide_true decide_false Nat.not_lt Option.some.injEq PV.lst.injEq PV.int.injEq PV.bool.injEq PV.tuple.injEq List.cons.injEq Option.map_some Option.map_none Option.bind_some Option.toList List.map_cons List.map_nil List.nil_append List.cons_append List.append_nil List.zip_cons_cons List.zip_nil_left List.zip_nil_right List.getElem?_cons_zero List.getElem?_cons_succ List.drop_zero List.drop_succ_cons List.take_succ_cons List.take_zero List.set_cons_zero List.set_cons_succ List.length_cons List.length_nil List.length_set List.replicate_one List.replicate_zero bne_self_eq_false beq_self_eq_true Nat.zero_add Nat.add_zero Nat.zero_mul Bool.false_eq_true Bool.true_eq_false Bool.not_true Bool.not_false and_true true_and false_and and_false or_false false_or or_true true_or not_true_eq_false not_false_eq_true ne_eq gt_iff_lt List.mem_cons List.not_mem_nil
attribute [local go_sem ↓] pseq_normal pseq_ret pseq_exit pblk_normal pblk_ret newDsts_cons gdst_zero gdst_succ retQ_normal retQ_ret qneed_nil qneed_cons retM_normal retM_ret endR_normal endR_ret endR_exit

theorem sumN_bare {l : List Nat} (hr : rightP l) (x : Nat) : LimN 40000 (sumN l (fd x) l.length) ∧ (sumN l (fd x) l.length).bare = valP l x := by
  obtain ⟨hl, hv⟩ := valP_spec hr x
  have h1 : LimN 40000 (sumN l (fd x) l.length) := (sumN_lim l (fd_lim x).N l.length).mono (by
    unfold sB
    have := Nat.mul_le_mul_left (1153 + 1155) hr.1
    omega)
  exact ⟨h1, h1.bare_of (by decide) hl.ok (by rw [sumN_val, hv])⟩
theorem fin_kind {b : Nat} : kind b ≤ 2 ↔ fe b < 2047 := by
  have := kind_num b
  constructor
  · intro h; exact Decidable.byContradiction fun h2 => by have := this.2 h2; omega
  · intro h; exact Decidable.byContradiction fun h2 => this.1 (by omega) h
theorem toS_five (d : Dy) (dir : Int) : (toS d false dir).2 ≤ 5 := by
  unfold toS
  split
  · decide
  · unfold magS
    dsimp only
    repeat' split
    all_goals dsimp only
    all_goals omega
set_option maxHeartbeats 4000000 in
theorem law_PolyTells (pvs : List PV) (h : Fits [qU64s, qU64, qInt] pvs) : PC E 3 pvs (.bool true) := by
  obtain ⟨_, _, _, rfl, ⟨l, rfl, ol⟩, ⟨x, rfl, hx⟩, ⟨dir, rfl, hd0, hd1⟩⟩ := fits3 h
  simp only [NL, u]
  refine PC.of_sem Tryz.func3 (by decide +kernel) rfl (Nat.le_of_ble_eq_true rfl) ?_
  refine PSem.cut follows (by kernel_rfl) 3 (fun _ : Unit => ⟨[(0, .val (.lst l.length (U l))), (1, .val (.int .u64 x)), (2, .val (.int .i64 dir))], []⟩)
    (fun _ => l.length ≤ 20) ?_ (fun _ hJ => ?_)
  · simp only [Tryz.f3, qfirst_succ, qfirst_zero, after_succ, after_zero, go_sem, Int.reduceToNat, Int.reduceEq, Int.reduceNe, Int.reduceLT, Int.reduceLE, Int.reduceNeg, Int.reduceAdd, ↓reduceIte, ↓reduceCtorEq, Nat.reduceEqDiff, Nat.reduceAdd, Nat.reduceSub, Nat.reduceMul, Nat.reduceLeDiff, Nat.reduceLT]
    refine qcall_i (c_alive35) ?_; simp only [Tryz.f3, qfirst_succ, qfirst_zero, after_succ, after_zero, go_sem, Int.reduceToNat, Int.reduceEq, Int.reduceNe, Int.reduceLT, Int.reduceLE, Int.reduceNeg, Int.reduceAdd, ↓reduceIte, ↓reduceCtorEq, Nat.reduceEqDiff, Nat.reduceAdd, Nat.reduceSub, Nat.reduceMul, Nat.reduceLeDiff, Nat.reduceLT]
    refine qif_d (fun h1 => ?_) (fun h1 => ?_)
    · simp only [Tryz.f3, qfirst_succ, qfirst_zero, after_succ, after_zero, go_sem, Int.reduceToNat, Int.reduceEq, Int.reduceNe, Int.reduceLT, Int.reduceLE, Int.reduceNeg, Int.reduceAdd, ↓reduceIte, ↓reduceCtorEq, Nat.reduceEqDiff, Nat.reduceAdd, Nat.reduceSub, Nat.reduceMul, Nat.reduceLeDiff, Nat.reduceLT]
    simp only [Tryz.f3, qfirst_succ, qfirst_zero, after_succ, after_zero, go_sem, Int.reduceToNat, Int.reduceEq, Int.reduceNe, Int.reduceLT, Int.reduceLE, Int.reduceNeg, Int.reduceAdd, ↓reduceIte, ↓reduceCtorEq, Nat.reduceEqDiff, Nat.reduceAdd, Nat.reduceSub, Nat.reduceMul, Nat.reduceLeDiff, Nat.reduceLT]
    refine ⟨(), by omega, ?_⟩
    simp [Wk, sget, killL, kill1, SV.key, setCells]
  have k1 := p_Exact ol (by omega) hx
  have k2 := p_At ol (by omega) hx dir
  have k3 := p_Slope ol (by omega)
  have k4 := c_35Right ol (by omega)
  have k9 := c_rKind x hx
  unfold slopePV at k3
  by_cases hr : rightP l
  case neg =>
    rw [exPol_no (fun h => hr h.2)] at k1
    unfold atPol at k2
    rw [if_neg (fun h => hr h.1.2)] at k2
    rw [if_neg hr] at k3
    rw [decide_eq_false hr] at k4
    have hz : NN Dy.zero.m = .lst 0 [] := rfl
    simp only [NL, u, Dy.pv, DP, hz] at k1 k2 k3 k4
    refine PSem.last follows (by kernel_rfl) ?_
    simp only [Tryz.f3, after_succ, after_zero, Int.cast_ofNat_Int, go_sem, Int.reduceToNat, Int.reduceEq, Int.reduceNe, Int.reduceLT, Int.reduceLE, Int.reduceNeg, Int.reduceAdd, ↓reduceIte, ↓reduceCtorEq, Nat.reduceEqDiff, Nat.reduceAdd, Nat.reduceSub, Nat.reduceMul, Nat.reduceLeDiff, Nat.reduceLT]
    refine qcall_i (k1) ?_; simp only [Tryz.f3, Int.cast_ofNat_Int, go_sem, Int.reduceToNat, Int.reduceEq, Int.reduceNe, Int.reduceLT, Int.reduceLE, Int.reduceNeg, Int.reduceAdd, ↓reduceIte, ↓reduceCtorEq, Nat.reduceEqDiff, Nat.reduceAdd, Nat.reduceSub, Nat.reduceMul, Nat.reduceLeDiff, Nat.reduceLT]
    refine qcall_i (k2) ?_; simp only [Tryz.f3, Int.cast_ofNat_Int, go_sem, Int.reduceToNat, Int.reduceEq, Int.reduceNe, Int.reduceLT, Int.reduceLE, Int.reduceNeg, Int.reduceAdd, ↓reduceIte, ↓reduceCtorEq, Nat.reduceEqDiff, Nat.reduceAdd, Nat.reduceSub, Nat.reduceMul, Nat.reduceLeDiff, Nat.reduceLT]
    refine qcall_i (k3) ?_; simp only [Tryz.f3, Int.cast_ofNat_Int, go_sem, Int.reduceToNat, Int.reduceEq, Int.reduceNe, Int.reduceLT, Int.reduceLE, Int.reduceNeg, Int.reduceAdd, ↓reduceIte, ↓reduceCtorEq, Nat.reduceEqDiff, Nat.reduceAdd, Nat.reduceSub, Nat.reduceMul, Nat.reduceLeDiff, Nat.reduceLT]
    refine qcall_i (k4) ?_; simp only [Tryz.f3, Int.cast_ofNat_Int, go_sem, Int.reduceToNat, Int.reduceEq, Int.reduceNe, Int.reduceLT, Int.reduceLE, Int.reduceNeg, Int.reduceAdd, ↓reduceIte, ↓reduceCtorEq, Nat.reduceEqDiff, Nat.reduceAdd, Nat.reduceSub, Nat.reduceMul, Nat.reduceLeDiff, Nat.reduceLT]
    try first | rfl | exact decide_eq_true rfl
  have hn := hr.1
  rw [if_pos hr] at k3
  rw [decide_eq_true hr] at k4
  obtain ⟨pd, e, hk1, he⟩ : ∃ (pd : Dy) (e : Int), exPol l x = .tuple [pd.pv, .int .i64 e] ∧ ((fe x < 2047 ∧ pd = valP l x ∧ e = 0) ∨ (¬ fe x < 2047 ∧ pd = .zero ∧ e = 1)) := by
    by_cases hf : fe x < 2047
    · exact ⟨_, _, exPol_ok hf hr, .inl ⟨hf, rfl, rfl⟩⟩
    · exact ⟨_, _, exPol_no (fun h => hf h.1), .inr ⟨hf, rfl, rfl⟩⟩
  rw [hk1] at k1
  obtain ⟨rb, rf, f, hk2, hf⟩ : ∃ (rb rf : Nat) (f : Int), atPol l x dir = .tuple [.agg [.int .u64 rb, .int .u8 rf, .int .i64 0], .int .i64 f] ∧ ((fe x < 2047 ∧ 0 ≤ dir ∧ dir ≤ 3 ∧ toS (valP l x) false dir = (rb, rf) ∧ f = 0) ∨ (¬ (fe x < 2047 ∧ 0 ≤ dir ∧ dir ≤ 3) ∧ rb = 0 ∧ rf = 0 ∧ f = 1)) := by
    unfold atPol
    by_cases hc : fe x < 2047 ∧ 0 ≤ dir ∧ dir ≤ 3
    · rw [if_pos ⟨⟨hc.1, hr⟩, hc.2⟩]
      exact ⟨_, _, _, rfl, .inl ⟨hc.1, hc.2.1, hc.2.2, rfl, rfl⟩⟩
    · rw [if_neg (fun h => hc ⟨h.1.1, h.2⟩)]
      exact ⟨0, 0, 1, rfl, .inr ⟨hc, rfl, rfl, rfl⟩⟩
  rw [hk2] at k2
  clear hk1 hk2
  refine PSem.cut follows (by kernel_rfl) 7 (fun _ : Unit => ⟨[(0, .val (.lst l.length (U l))), (1, .val (.int .u64 x)), (2, .val (.int .i64 dir)), (7, .ptr 7 0), (8, .val (.int .i64 e)), (9, .ptr 9 0), (10, .val (.int .i64 f))],
    [(7, (.box [.bool pd.s, NN pd.m, .int .i64 pd.e], false)), (9, (.box [.int .u64 rb, .int .u8 rf, .int .i64 0], false))]⟩)
    (fun _ => True) ?_ (fun _ _ => ?_)
  · have hg : ∀ i, i < l.length → (U l)[i]? = some (.int .u64 (l.getD i 0 : Nat)) := fun i hi => U_getD hi
    have hst : ∀ i, i + 1 < l.length → PC E 16 [.int .u64 (l.getD (i + 1) 0 : Nat)] (fd (l.getD (i + 1) 0)).nv ∧
        PC E 17 [.agg [.bool false, .lst 1 [.int .u64 ((i + 1 : Nat) : Int)], .int .i64 0]] (norm ((i + 1 : Nat) : Int) 0).nv ∧
        PC E 15 [(fd (l.getD (i + 1) 0)).nv, (norm ((i + 1 : Nat) : Int) 0).nv] (slopeD l i).nv ∧ PC E 18 [(slopeD l i).nv] (.tuple [(slopeD l i).pv, .int .i64 0]) ∧
        PC E 19 [(slopeD l i).pv, (slopeD l i).pv] (.bool true) := fun i hi => by
      have hm : l.getD (i + 1) 0 ∈ l := by rw [List.getD_eq_getElem?_getD, List.getElem?_eq_getElem hi]; exact List.getElem_mem _
      have hsl := slope_lim l (k := i) (by omega)
      have q1 := r_5Of (RD.one (s := false) (x := i + 1) (e := 0) (show i + 1 < 18446744073709551616 by omega))
      have q4 := l_To hsl.N (by decide)
      rw [hsl.bare (by decide)] at q4
      have q5 := c_5Same (slopeD l i) (slopeD l i) (by have := hsl.bits; omega)
      rw [decide_eq_true rfl] at q5
      exact ⟨c_Worth _ (ol _ hm), q1, l_28Mul (fd_lim _).N (slope_norm (k := i) (by omega)).N (by decide), q4, q5⟩
    have hget : ∀ i, i < l.length - 1 → ∃ r, (flatD (slopeD l) (l.length - 1)).drop (i * 3) = .bool (slopeD l i).s :: NN (slopeD l i).m :: .int .i64 (slopeD l i).e :: r := fun i hi => flatD_get _ hi
    have hfl := flatD_len (slopeD l) (l.length - 1)
    generalize slopeD l = S at *
    generalize flatD S (l.length - 1) = FSs at *
    obtain ⟨Fd, hFd⟩ : ∃ Fd : Nat → Dy, ∀ i, fd (l.getD (i + 1) 0) = Fd i := ⟨_, fun _ => rfl⟩
    obtain ⟨Nm, hNm⟩ : ∃ Nm : Nat → Dy, ∀ i : Nat, norm ((i + 1 : Nat) : Int) 0 = Nm i := ⟨_, fun _ => rfl⟩
    simp only [hFd, hNm] at hst
    have hmax : (max ((l.length : Int) - 1) 0 : Int) = ((l.length - 1 : Nat) : Int) := by omega
    have wl : IntKind.wrap .i64 ((l.length : Int) - 1) = (l.length : Int) - 1 := wrap64 (by omega) (by omega)
    clear hFd hNm ol he hf hr k9 h hx
    simp only [NL, u, Dy.pv, Dy.nv, DP] at k1 k2 k3 k4 hst
    generalize U l = U1 at *
    simp only [Tryz.f3, after_succ, after_zero, qfirst_succ, qfirst_zero, after_succ, after_zero, go_sem, Int.reduceToNat, Int.reduceEq, Int.reduceNe, Int.reduceLT, Int.reduceLE, Int.reduceNeg, Int.reduceAdd, ↓reduceIte, ↓reduceCtorEq, Nat.reduceEqDiff, Nat.reduceAdd, Nat.reduceSub, Nat.reduceMul, Nat.reduceLeDiff, Nat.reduceLT]
    refine qcall_i (k1) ?_; simp only [Tryz.f3, qfirst_succ, qfirst_zero, after_succ, after_zero, go_sem, Int.reduceToNat, Int.reduceEq, Int.reduceNe, Int.reduceLT, Int.reduceLE, Int.reduceNeg, Int.reduceAdd, ↓reduceIte, ↓reduceCtorEq, Nat.reduceEqDiff, Nat.reduceAdd, Nat.reduceSub, Nat.reduceMul, Nat.reduceLeDiff, Nat.reduceLT]
    refine qcall_i (k2) ?_; simp only [Tryz.f3, qfirst_succ, qfirst_zero, after_succ, after_zero, go_sem, Int.reduceToNat, Int.reduceEq, Int.reduceNe, Int.reduceLT, Int.reduceLE, Int.reduceNeg, Int.reduceAdd, ↓reduceIte, ↓reduceCtorEq, Nat.reduceEqDiff, Nat.reduceAdd, Nat.reduceSub, Nat.reduceMul, Nat.reduceLeDiff, Nat.reduceLT]
    refine qcall_i (k3) ?_; simp only [Tryz.f3, qfirst_succ, qfirst_zero, after_succ, after_zero, go_sem, Int.reduceToNat, Int.reduceEq, Int.reduceNe, Int.reduceLT, Int.reduceLE, Int.reduceNeg, Int.reduceAdd, ↓reduceIte, ↓reduceCtorEq, Nat.reduceEqDiff, Nat.reduceAdd, Nat.reduceSub, Nat.reduceMul, Nat.reduceLeDiff, Nat.reduceLT]
    refine qcall_i (k4) ?_; simp only [Tryz.f3, qfirst_succ, qfirst_zero, after_succ, after_zero, wl, hmax, go_sem, Int.reduceToNat, Int.reduceEq, Int.reduceNe, Int.reduceLT, Int.reduceLE, Int.reduceNeg, Int.reduceAdd, ↓reduceIte, ↓reduceCtorEq, Nat.reduceEqDiff, Nat.reduceAdd, Nat.reduceSub, Nat.reduceMul, Nat.reduceLeDiff, Nat.reduceLT]
    refine PLoop.intro (fun i : Nat => ⟨[(0, .val (.lst l.length U1)), (1, .val (.int .u64 x)), (2, .val (.int .i64 dir)), (7, .ptr 7 0), (8, .val (.int .i64 e)), (9, .ptr 9 0), (10, .val (.int .i64 f)), (11, .val (.lst (l.length - 1) FSs)), (14, .val (.int .i64 i))],
      [(7, (.box [.bool pd.s, NN pd.m, .int .i64 pd.e], false)), (9, (.box [.int .u64 rb, .int .u8 rf, .int .i64 0], false))]⟩) (fun i => i ≤ l.length - 1) (fun i => l.length - i) 0 (Nat.zero_le _) ?_ fun i hi => walk ?_
    · simp [Wk, sget, killL, kill1, SV.key, setCells]
    have wi : IntKind.wrap .i64 ((i : Int) + 1) = ((i + 1 : Nat) : Int) := by rw [wrap64 (by omega) (by omega)]; omega
    have wu : IntKind.wrap .u64 (IntKind.wrap .u64 (i : Int) + 1) = ((i + 1 : Nat) : Int) := by rw [wu64, wu64]; omega
    simp only [Tryz.f3, go_sem, Int.reduceToNat, Int.reduceEq, Int.reduceNe, Int.reduceLT, Int.reduceLE, Int.reduceNeg, Int.reduceAdd, ↓reduceIte, ↓reduceCtorEq, Nat.reduceEqDiff, Nat.reduceAdd, Nat.reduceSub, Nat.reduceMul, Nat.reduceLeDiff, Nat.reduceLT]
    refine qif_d (fun h => ?_) (fun h => ?_)
    · have hin : i + 1 < l.length := by omega
      have x1 := hg (i + 1) hin
      obtain ⟨r, x2⟩ := hget i (by omega)
      obtain ⟨q1, q2, q3, q4, q5⟩ := hst i hin
      simp only [Tryz.f3, wi, wu, go_sem, Int.reduceToNat, Int.reduceEq, Int.reduceNe, Int.reduceLT, Int.reduceLE, Int.reduceNeg, Int.reduceAdd, ↓reduceIte, ↓reduceCtorEq, Nat.reduceEqDiff, Nat.reduceAdd, Nat.reduceSub, Nat.reduceMul, Nat.reduceLeDiff, Nat.reduceLT]
      refine qand_i (by first | omega | (simp [V_length, U_length, tab_length, maxLen]; done) | (simp [V_length, U_length, tab_length, maxLen]; omega) | (refine ⟨?_, ?_⟩ <;> first | omega | (simp [V_length, U_length, tab_length, maxLen]; done) | (simp [V_length, U_length, tab_length, maxLen]; omega))) ?_; simp only [Tryz.f3, wi, wu, go_sem, Int.reduceToNat, Int.reduceEq, Int.reduceNe, Int.reduceLT, Int.reduceLE, Int.reduceNeg, Int.reduceAdd, ↓reduceIte, ↓reduceCtorEq, Nat.reduceEqDiff, Nat.reduceAdd, Nat.reduceSub, Nat.reduceMul, Nat.reduceLeDiff, Nat.reduceLT]
      refine qval_i (congrArg (Option.map _) x1) ?_
      simp only [Tryz.f3, wi, wu, go_sem, Int.reduceToNat, Int.reduceEq, Int.reduceNe, Int.reduceLT, Int.reduceLE, Int.reduceNeg, Int.reduceAdd, ↓reduceIte, ↓reduceCtorEq, Nat.reduceEqDiff, Nat.reduceAdd, Nat.reduceSub, Nat.reduceMul, Nat.reduceLeDiff, Nat.reduceLT]
      refine qcall_i (q1) ?_; simp only [Tryz.f3, wi, wu, List.range_zero, List.getD_cons_zero, List.getD_cons_succ, Nat.reduceMod, Int.cast_ofNat_Int, go_sem, Int.reduceToNat, Int.reduceEq, Int.reduceNe, Int.reduceLT, Int.reduceLE, Int.reduceNeg, Int.reduceAdd, ↓reduceIte, ↓reduceCtorEq, Nat.reduceEqDiff, Nat.reduceAdd, Nat.reduceSub, Nat.reduceMul, Nat.reduceLeDiff, Nat.reduceLT]
      refine qcall_i (q2) ?_; simp only [Tryz.f3, wi, wu, go_sem, Int.reduceToNat, Int.reduceEq, Int.reduceNe, Int.reduceLT, Int.reduceLE, Int.reduceNeg, Int.reduceAdd, ↓reduceIte, ↓reduceCtorEq, Nat.reduceEqDiff, Nat.reduceAdd, Nat.reduceSub, Nat.reduceMul, Nat.reduceLeDiff, Nat.reduceLT]
      refine qcall_i (q3) ?_; simp only [Tryz.f3, wi, wu, go_sem, Int.reduceToNat, Int.reduceEq, Int.reduceNe, Int.reduceLT, Int.reduceLE, Int.reduceNeg, Int.reduceAdd, ↓reduceIte, ↓reduceCtorEq, Nat.reduceEqDiff, Nat.reduceAdd, Nat.reduceSub, Nat.reduceMul, Nat.reduceLeDiff, Nat.reduceLT]
      refine qcall_i (q4) ?_; simp only [Tryz.f3, wi, wu, go_sem, Int.reduceToNat, Int.reduceEq, Int.reduceNe, Int.reduceLT, Int.reduceLE, Int.reduceNeg, Int.reduceAdd, ↓reduceIte, ↓reduceCtorEq, Nat.reduceEqDiff, Nat.reduceAdd, Nat.reduceSub, Nat.reduceMul, Nat.reduceLeDiff, Nat.reduceLT]
      refine qand_i (by first | omega | (simp [V_length, U_length, tab_length, maxLen]; done) | (simp [V_length, U_length, tab_length, maxLen]; omega) | (refine ⟨?_, ?_⟩ <;> first | omega | (simp [V_length, U_length, tab_length, maxLen]; done) | (simp [V_length, U_length, tab_length, maxLen]; omega))) ?_; simp only [Tryz.f3, wi, wu, go_sem, Int.reduceToNat, Int.reduceEq, Int.reduceNe, Int.reduceLT, Int.reduceLE, Int.reduceNeg, Int.reduceAdd, ↓reduceIte, ↓reduceCtorEq, Nat.reduceEqDiff, Nat.reduceAdd, Nat.reduceSub, Nat.reduceMul, Nat.reduceLeDiff, Nat.reduceLT]
      refine qand_i (by rw [x2]; simp) ?_
      simp only [Tryz.f3, wi, wu, x2, go_sem, Int.reduceToNat, Int.reduceEq, Int.reduceNe, Int.reduceLT, Int.reduceLE, Int.reduceNeg, Int.reduceAdd, ↓reduceIte, ↓reduceCtorEq, Nat.reduceEqDiff, Nat.reduceAdd, Nat.reduceSub, Nat.reduceMul, Nat.reduceLeDiff, Nat.reduceLT]
      refine qcall_i (q5) ?_; simp only [Tryz.f3, wi, wu, go_sem, Int.reduceToNat, Int.reduceEq, Int.reduceNe, Int.reduceLT, Int.reduceLE, Int.reduceNeg, Int.reduceAdd, ↓reduceIte, ↓reduceCtorEq, Nat.reduceEqDiff, Nat.reduceAdd, Nat.reduceSub, Nat.reduceMul, Nat.reduceLeDiff, Nat.reduceLT]
      refine ⟨i + 1, by omega, by omega, ?_⟩
      simp [Wk, sget, killL, kill1, SV.key, setCells]
    · have hil : i = l.length - 1 := by omega
      subst hil
      simp only [Tryz.f3, qfirst_succ, qfirst_zero, after_succ, after_zero, go_sem, Int.reduceToNat, Int.reduceEq, Int.reduceNe, Int.reduceLT, Int.reduceLE, Int.reduceNeg, Int.reduceAdd, ↓reduceIte, ↓reduceCtorEq, Nat.reduceEqDiff, Nat.reduceAdd, Nat.reduceSub, Nat.reduceMul, Nat.reduceLeDiff, Nat.reduceLT]
      refine ⟨(), ?_⟩
      simp [Wk, sget, killL, kill1, SV.key, setCells]
  refine PSem.last follows (by kernel_rfl) ?_
  have hkf := fin_kind (b := x)
  rcases he with ⟨hfx, rfl, rfl⟩ | ⟨hfx, rfl, rfl⟩
  rotate_left
  · obtain ⟨rfl, rfl, rfl⟩ : rb = 0 ∧ rf = 0 ∧ f = 1 := by
      rcases hf with ⟨h1, -⟩ | ⟨-, h2⟩
      · exact absurd h1 hfx
      · exact h2
    generalize kind x = kx at *
    simp only [u] at k9
    simp only [Tryz.f3, after_succ, after_zero, Int.cast_ofNat_Int, go_sem, Int.reduceToNat, Int.reduceEq, Int.reduceNe, Int.reduceLT, Int.reduceLE, Int.reduceNeg, Int.reduceAdd, ↓reduceIte, ↓reduceCtorEq, Nat.reduceEqDiff, Nat.reduceAdd, Nat.reduceSub, Nat.reduceMul, Nat.reduceLeDiff, Nat.reduceLT]
    refine qcall_i (k9) ?_; simp only [Tryz.f3, Int.cast_ofNat_Int, go_sem, Int.reduceToNat, Int.reduceEq, Int.reduceNe, Int.reduceLT, Int.reduceLE, Int.reduceNeg, Int.reduceAdd, ↓reduceIte, ↓reduceCtorEq, Nat.reduceEqDiff, Nat.reduceAdd, Nat.reduceSub, Nat.reduceMul, Nat.reduceLeDiff, Nat.reduceLT]
    refine qif_dt (by omega) ?_
    simp only [Tryz.f3, Int.cast_ofNat_Int, go_sem, Int.reduceToNat, Int.reduceEq, Int.reduceNe, Int.reduceLT, Int.reduceLE, Int.reduceNeg, Int.reduceAdd, ↓reduceIte, ↓reduceCtorEq, Nat.reduceEqDiff, Nat.reduceAdd, Nat.reduceSub, Nat.reduceMul, Nat.reduceLeDiff, Nat.reduceLT]
    try first | rfl | exact decide_eq_true rfl
  have hkx := hkf.2 hfx
  obtain ⟨hl, hv⟩ := valP_spec hr x
  obtain ⟨hN, hNb⟩ := sumN_bare hr x
  have w1 := c_Worth x hx
  have w2 := c_35Worth ol hn (fd_lim x).N (by decide)
  have w3 := l_To hN (by decide)
  rw [hNb] at w3
  have w4 := c_5Same (valP l x) (valP l x) (by have := hl.bits; omega)
  rw [decide_eq_true rfl] at w4
  have w5 := fun h0 h3 => c_7ToN (d := sumN l (fd x) l.length) (by have := hN.bits; omega) (by have := hN.2.2; omega) false (dir := dir) h0 h3
  rw [← toS_bare hN (by decide), hNb] at w5
  generalize sumN l (fd x) l.length = N at *
  generalize valP l x = v at *
  generalize fd x = fx at *
  generalize kind x = kx at *
  simp only [u, NL, Dy.pv, Dy.nv, DP] at k9 w1 w2 w3 w4 w5
  simp only [Tryz.f3, after_succ, after_zero, Int.cast_ofNat_Int, go_sem, Int.reduceToNat, Int.reduceEq, Int.reduceNe, Int.reduceLT, Int.reduceLE, Int.reduceNeg, Int.reduceAdd, ↓reduceIte, ↓reduceCtorEq, Nat.reduceEqDiff, Nat.reduceAdd, Nat.reduceSub, Nat.reduceMul, Nat.reduceLeDiff, Nat.reduceLT]
  refine qcall_i (k9) ?_; simp only [Tryz.f3, go_sem, Int.reduceToNat, Int.reduceEq, Int.reduceNe, Int.reduceLT, Int.reduceLE, Int.reduceNeg, Int.reduceAdd, ↓reduceIte, ↓reduceCtorEq, Nat.reduceEqDiff, Nat.reduceAdd, Nat.reduceSub, Nat.reduceMul, Nat.reduceLeDiff, Nat.reduceLT]
  refine qif_df (by omega) ?_
  simp only [Tryz.f3, go_sem, Int.reduceToNat, Int.reduceEq, Int.reduceNe, Int.reduceLT, Int.reduceLE, Int.reduceNeg, Int.reduceAdd, ↓reduceIte, ↓reduceCtorEq, Nat.reduceEqDiff, Nat.reduceAdd, Nat.reduceSub, Nat.reduceMul, Nat.reduceLeDiff, Nat.reduceLT]
  refine qcall_i (w1) ?_; simp only [Tryz.f3, go_sem, Int.reduceToNat, Int.reduceEq, Int.reduceNe, Int.reduceLT, Int.reduceLE, Int.reduceNeg, Int.reduceAdd, ↓reduceIte, ↓reduceCtorEq, Nat.reduceEqDiff, Nat.reduceAdd, Nat.reduceSub, Nat.reduceMul, Nat.reduceLeDiff, Nat.reduceLT]
  refine qcall_i (w2) ?_; simp only [Tryz.f3, go_sem, Int.reduceToNat, Int.reduceEq, Int.reduceNe, Int.reduceLT, Int.reduceLE, Int.reduceNeg, Int.reduceAdd, ↓reduceIte, ↓reduceCtorEq, Nat.reduceEqDiff, Nat.reduceAdd, Nat.reduceSub, Nat.reduceMul, Nat.reduceLeDiff, Nat.reduceLT]
  refine qcall_i (w3) ?_; simp only [Tryz.f3, go_sem, Int.reduceToNat, Int.reduceEq, Int.reduceNe, Int.reduceLT, Int.reduceLE, Int.reduceNeg, Int.reduceAdd, ↓reduceIte, ↓reduceCtorEq, Nat.reduceEqDiff, Nat.reduceAdd, Nat.reduceSub, Nat.reduceMul, Nat.reduceLeDiff, Nat.reduceLT]
  refine qcall_i (w4) ?_; simp only [Tryz.f3, go_sem, Int.reduceToNat, Int.reduceEq, Int.reduceNe, Int.reduceLT, Int.reduceLE, Int.reduceNeg, Int.reduceAdd, ↓reduceIte, ↓reduceCtorEq, Nat.reduceEqDiff, Nat.reduceAdd, Nat.reduceSub, Nat.reduceMul, Nat.reduceLeDiff, Nat.reduceLT]
  rcases hf with ⟨-, h2, h3, h4, rfl⟩ | ⟨h2, rfl, rfl, rfl⟩
  · have w5 := w5 h2 h3
    rw [h4] at w5
    refine qif_df (by omega) ?_
    simp only [Tryz.f3, go_sem, Int.reduceToNat, Int.reduceEq, Int.reduceNe, Int.reduceLT, Int.reduceLE, Int.reduceNeg, Int.reduceAdd, ↓reduceIte, ↓reduceCtorEq, Nat.reduceEqDiff, Nat.reduceAdd, Nat.reduceSub, Nat.reduceMul, Nat.reduceLeDiff, Nat.reduceLT]
    refine qif_df (by omega) ?_
    simp only [Tryz.f3, go_sem, Int.reduceToNat, Int.reduceEq, Int.reduceNe, Int.reduceLT, Int.reduceLE, Int.reduceNeg, Int.reduceAdd, ↓reduceIte, ↓reduceCtorEq, Nat.reduceEqDiff, Nat.reduceAdd, Nat.reduceSub, Nat.reduceMul, Nat.reduceLeDiff, Nat.reduceLT]
    refine qcall_i (w5) ?_; simp only [Tryz.f3, go_sem, Int.reduceToNat, Int.reduceEq, Int.reduceNe, Int.reduceLT, Int.reduceLE, Int.reduceNeg, Int.reduceAdd, ↓reduceIte, ↓reduceCtorEq, Nat.reduceEqDiff, Nat.reduceAdd, Nat.reduceSub, Nat.reduceMul, Nat.reduceLeDiff, Nat.reduceLT]
    have hrf : rf ≤ 5 := by have := toS_five v dir; rw [h4] at this; exact this
    have wf : IntKind.wrap .i64 (rf : Int) = rf := wrap64 (by omega) (by omega)
    refine qif_dt wf ?_
    simp only [Tryz.f3, go_sem, Int.reduceToNat, Int.reduceEq, Int.reduceNe, Int.reduceLT, Int.reduceLE, Int.reduceNeg, Int.reduceAdd, ↓reduceIte, ↓reduceCtorEq, Nat.reduceEqDiff, Nat.reduceAdd, Nat.reduceSub, Nat.reduceMul, Nat.reduceLeDiff, Nat.reduceLT]
    try first | rfl | exact decide_eq_true rfl
  · by_cases h0 : dir < 0
    · refine qif_dt h0 ?_
      simp only [Tryz.f3, Int.cast_ofNat_Int, go_sem, Int.reduceToNat, Int.reduceEq, Int.reduceNe, Int.reduceLT, Int.reduceLE, Int.reduceNeg, Int.reduceAdd, ↓reduceIte, ↓reduceCtorEq, Nat.reduceEqDiff, Nat.reduceAdd, Nat.reduceSub, Nat.reduceMul, Nat.reduceLeDiff, Nat.reduceLT]
      try first | rfl | exact decide_eq_true rfl
    · refine qif_df h0 ?_
      simp only [Tryz.f3, Int.cast_ofNat_Int, go_sem, Int.reduceToNat, Int.reduceEq, Int.reduceNe, Int.reduceLT, Int.reduceLE, Int.reduceNeg, Int.reduceAdd, ↓reduceIte, ↓reduceCtorEq, Nat.reduceEqDiff, Nat.reduceAdd, Nat.reduceSub, Nat.reduceMul, Nat.reduceLeDiff, Nat.reduceLT]
      refine qif_dt (by omega) ?_
      simp only [Tryz.f3, Int.cast_ofNat_Int, go_sem, Int.reduceToNat, Int.reduceEq, Int.reduceNe, Int.reduceLT, Int.reduceLE, Int.reduceNeg, Int.reduceAdd, ↓reduceIte, ↓reduceCtorEq, Nat.reduceEqDiff, Nat.reduceAdd, Nat.reduceSub, Nat.reduceMul, Nat.reduceLeDiff, Nat.reduceLT]
      try first | rfl | exact decide_eq_true rfl
end Go.Proofs.YtejmlngnpekagaaGreatDoor
