/- The document's sums of products: planimeterref29.Worth. -/
import Derived.Test.YtfogjddcagckaaaDoorTs1
import Derived.Test.YtfogjddcagckaaaDoorRd9
open Go PG Go.Proofs
set_option maxRecDepth 100000
set_option linter.unusedSimpArgs false
set_option linter.unusedVariables false
namespace Go.Proofs.YtfogjddcagckaaaDoor
attribute [local go_sem] Lay2 Lay3 Lay4 Lay5 Lay6 Lay7 Lay8 Lay9 Lay10 Lay11 Lay12 Lay13 Lay14 Lay15 Lay16 Lay17 Lay18 Lay19 Lay21 Lay22 Lay23 Lay24 Lay27 Lay28 Lay29 Lay35 Lay36 Lay38 Lay39 Lay40 Lay42 Lay43 Lay45 Lay46 Lay67 Lay81 Lay82 Lay83 Lay84 Lay85 Lay86 Lay87 Lay90 Lay93 Lay94 Lay105 Lay116 Lay132 Lay138 Lay145 Lay162 Lay163 Lay201 qexec_seq qexec_skip qexec_exit qexec_ret qexec_block qexec_loop qexec_range qexec_cond qexec_region qexec_drawn qops_nil qops_none qops_some put_some put_none pblk_exit pblk_other newDsts_nil sget_cons sget_nil qval_some qbool_some qgs_bool qgs_und qfree_some qgrd_true qgrd_false qif_true qif_false qval_ite qval_itn qand_true map_ite map_some' map_none' qdo_move qdo_assign qdo_binOp qdo_pick qdo_unOp qdo_convert qdo_extract qdo_field qdo_fieldAddr qdo_alloc qdo_box qdo_build qdo_buildSlice qdo_load qdo_store qdo_nilCheck qdo_makeFunc qdo_makeSlice qdo_slice qdo_indexAddr qdo_call qcont_val qcont_new qcont_st qcont_app0 qcont_app qcont_inl qcont_call njSV_val njSV_nil njSV_row njSV_ptr njSV_sub binV_val binV_nil binV_nn binV_ptr bin_np bin_nnp nilCmp bin_add bin_sub bin_mul bin_quo bin_rem bin_and bin_or bin_xor bin_andNot bin_eql bin_neq bin_lss bin_leq bin_gtr bin_geq bin_shl bin_shr bin_seql bin_sneq bin_sadd bin_beql bin_aeql bin_aneq eqAnd_some eqCells_nil eqCells_cons fieldTypes isStruct eqCell bin_bneq un_not un_neg nj_ite Nat.beq stepA stepR isNew opSV constSV RV.sv allSome E_mu E_own qkeyIn_none qkeyIn_some qkeyAt_none qkeyAt_some Bool.or_false Bool.false_or Bool.or_true Bool.true_or cst setB res resSV pstart startL killL kill1 eraL frzL svPV rvPV rvInt rvSlice frzOf close closeL pconv pbuiltin pmax2 partPV setCells fillPV zrow bound newSV PV.cells Bk.cells Bk.with SV.key pres presL_nil presL_tmp presL_cell presC2_some cellPV_ptr presC List.toList_toArray List.size_toArray List.getElem?_drop Nat.mul_one Int.toNat_natCast Nat.not_lt_zero Nat.lt_irrefl decide_true decide_false Nat.not_lt Option.some.injEq PV.lst.injEq PV.int.injEq PV.bool.injEq PV.tuple.injEq List.cons.injEq Option.map_some Option.map_none Option.bind_some Option.toList List.map_cons List.map_nil List.nil_append List.cons_append List.append_nil List.zip_cons_cons List.zip_nil_left List.zip_nil_right List.getElem?_cons_zero List.getElem?_cons_succ List.drop_zero List.drop_succ_cons List.take_succ_cons List.take_zero List.set_cons_zero List.set_cons_succ List.length_cons List.length_nil List.length_set List.replicate_one List.replicate_zero bne_self_eq_false beq_self_eq_true Nat.zero_add Nat.add_zero Nat.zero_mul Bool.false_eq_true Bool.true_eq_false Bool.not_true Bool.not_false and_true true_and false_and and_false or_false false_or or_true true_or not_true_eq_false not_false_eq_true ne_eq gt_iff_lt List.mem_cons List.not_mem_nil
attribute [local go_sem ↓] pseq_normal pseq_ret pseq_exit pblk_normal pblk_ret newDsts_cons gdst_zero gdst_succ retQ_normal retQ_ret qneed_nil qneed_cons retM_normal retM_ret endR_normal endR_ret endR_exit

theorem LimN.zero (K : Nat) : LimN K .zero := ⟨.inl rfl, by rw [at_zero (d := .zero) rfl]; exact Nat.two_pow_pos _, by show -(K : Int) ≤ 0; omega, by show (0 : Int) ≤ (K : Int); omega⟩
set_option maxHeartbeats 4000000 in
theorem c_29Worth {ls : List (Nat × Nat)} (hlen : ls.length ≤ 60) (hb : ∀ q ∈ ls, q.1 < W ∧ q.2 < W) {dir : Int} (hd : 0 ≤ dir ∧ dir ≤ 3) : PC E 56 [PLs ls, .int .i64 dir] (ansP28 (worthS (dotT ls) dir)) := by
  obtain ⟨X, Y, hXY⟩ : ∃ X Y : Nat → Nat, ∀ i, i < ls.length → ls[i]? = some (X i, Y i) :=
    ⟨fun i => (ls.getD i (0, 0)).1, fun i => (ls.getD i (0, 0)).2, fun i hi => by simp [List.getD_eq_getElem?_getD, hi]⟩
  have hg : ∀ i, i < ls.length → (flatP ls)[i * 2]? = some (.int .u64 (X i : Nat)) ∧ (flatP ls)[i * 2 + 1]? = some (.int .u64 (Y i : Nat)) := fun i hi => by
    have h1 := hXY i hi
    rw [List.getElem?_eq_getElem hi, Option.some.injEq] at h1
    have := flatP_get hi
    rwa [h1] at this
  have hbb : ∀ i, i < ls.length → X i < W ∧ Y i < W := fun i hi => by
    have h1 := hXY i hi
    have := hb _ (List.mem_of_getElem? h1)
    exact this
  obtain ⟨T, hT⟩ : ∃ T : Nat → Tt, ∀ i, dotT (ls.take i) = T i := ⟨_, fun _ => rfl⟩
  have hst : ∀ i, i < ls.length → T (i + 1) = mulT (T i) (X i) (Y i) := fun i hi => by
    have h1 := hXY i hi
    obtain ⟨hi', e⟩ := List.getElem?_eq_some_iff.1 h1
    rw [← hT, ← hT, List.take_succ_eq_append_getElem hi, dotT_snoc, e]
  have hTn : dotT ls = T ls.length := by rw [← hT, List.take_length]
  have hT0 : T 0 = .zero := (hT 0).symm
  rw [hTn]
  clear hTn hT hXY hb
  simp only [PLs]
  generalize flatP ls = U1 at *
  generalize ls.length = n at *
  obtain ⟨R, hR⟩ : ∃ R, R = worthS (T n) dir := ⟨_, rfl⟩
  rw [← hR]
  unfold ansP28
  refine PC.of_body follows Tryd.func56 (by decide +kernel) rfl (by kernel_rfl) (Nat.le_of_ble_eq_true rfl) (walk ?_)
  simp only [Tryd.f56, go_sem, Int.reduceToNat, Int.reduceEq, Int.reduceNe, Int.reduceLT, Int.reduceLE, Int.reduceNeg, Int.reduceAdd, ↓reduceIte, ↓reduceCtorEq, Nat.reduceEqDiff, Nat.reduceAdd, Nat.reduceSub, Nat.reduceMul, Nat.reduceLeDiff, Nat.reduceLT]
  refine PLoop.intro (fun p : Nat × Dy => ⟨[(0, .val (.lst n U1)), (1, .val (.int .i64 dir)), (4, .ptr 4 0), (5, .ptr 5 0), (6, .val (.bool (T p.1).wrong)), (7, .val (.bool (T p.1).nan)), (8, .val (.bool (T p.1).up)), (9, .val (.bool (T p.1).down)), (10, .val (.bool (T p.1).minus)), (11, .val (.bool (T p.1).plus)), (12, .val (.bool (T p.1).other)), (13, .val (.int .i64 p.1))],
    [(4, (.box [.int .u64 0, .int .i64 0], false)), (5, (.box [.bool p.2.s, .lst (dg B p.2.m).length (V (dg B p.2.m)), .int .i64 p.2.e], false))]⟩) (fun p => p.1 ≤ n ∧ LimN (K0 + p.1) p.2 ∧ p.2.bare = (T p.1).sum) (fun p => n - p.1) (0, .zero) ?_ ?_ fun p hp => walk ?_
  · refine ⟨Nat.zero_le _, ?_, ?_⟩
    · exact LimN.zero (K0 + 0)
    · show Dy.zero.bare = (T 0).sum
      rw [hT0]
      rfl
  · have hz : dg B Dy.zero.m = [] := rfl
    simp [Wk, sget, killL, kill1, SV.key, hT0, Tt.zero, hz]
    try simp [Dy.zero, V]
  obtain ⟨i, S⟩ := p
  obtain ⟨hi, hS, hSb⟩ := hp
  dsimp only at hi hS hSb ⊢
  have wi : IntKind.wrap .i64 ((i : Int) + 1) = ((i + 1 : Nat) : Int) := by rw [wrap64 (by omega) (by omega)]; omega
  simp only [Tryd.f56, go_sem, Int.reduceToNat, Int.reduceEq, Int.reduceNe, Int.reduceLT, Int.reduceLE, Int.reduceNeg, Int.reduceAdd, ↓reduceIte, ↓reduceCtorEq, Nat.reduceEqDiff, Nat.reduceAdd, Nat.reduceSub, Nat.reduceMul, Nat.reduceLeDiff, Nat.reduceLT]
  refine qif_d (fun h => ?_) (fun h => ?_)
  · have hin : i < n := by omega
    obtain ⟨hx, hy⟩ := hbb i hin
    obtain ⟨x1, x2⟩ := hg i hin
    have e := hst i hin
    have k1 := c_rKind _ hx
    have k2 := c_rKind _ hy
    have k3 := c_Worth _ hx
    have k4 := c_Worth _ hy
    have q1 := (fd_lim (X i)).N
    have q2 := (fd_lim (Y i)).N
    have k5 := l_28Mul q1 q2 (by decide)
    have q3 := (q1.mul q2)
    have m5 := @mulT5 (T i) (X i) (Y i)
    have m4 := @mulT4 (T i) (X i) (Y i)
    have m3 := @mulT3 (T i) (X i) (Y i)
    have m0 := @mulT0 (T i) (X i) (Y i)
    have m1 := @mulT1 (T i) (X i) (Y i)
    rw [← e] at m5 m4 m3 m0 m1
    have f1 : ∀ z : Nat, fs z = decide ((z : Int) ≥ 9223372036854775808) := fun z => by unfold fs; exact decide_eq_decide.2 (by omega)
    rw [f1, f1] at m3 m0
    have k6 := l_Add hS (q3.mono (J := K0 + i) (by rw [K0_eq]; omega)) (by rw [K0_eq]; omega)
    have q4 := hS.add (q3.mono (J := K0 + i) (by rw [K0_eq]; omega))
    have q5 := addD_bare hS (q3.mono (J := K0 + i) (by rw [K0_eq]; omega)) (by rw [K0_eq]; omega)
    have hmb : (mulS (fd (X i)) (fd (Y i))).bare = mulS (fd (X i)) (fd (Y i)) := ((fd_lim (X i)).mul (fd_lim (Y i))).bare (by decide)
    rw [hSb, hmb] at q5
    clear e
    generalize addD S (mulS (fd (X i)) (fd (Y i))) = S2 at *
    generalize mulS (fd (X i)) (fd (Y i)) = M at *
    generalize fd (X i) = fX at *
    generalize fd (Y i) = fY at *
    generalize kind (X i) = a at *
    generalize kind (Y i) = b at *
    simp only [u, Dy.nv, DP, VN, VL] at k1 k2 k3 k4 k5 k6
    generalize h2 : T (i + 1) = t2 at *
    generalize h1 : T i = t at *
    obtain ⟨tn, ts, wrong, nan, up, down, minus, plus, other⟩ := t
    dsimp only at m5 m4 m3 m0 m1 hSb q5 ⊢
    generalize X i = x at *
    generalize Y i = y at *
    clear hR hst hg hbb hT0 hx hy q1 q2 q3
    simp only [Tryd.f56, go_sem, Int.reduceToNat, Int.reduceEq, Int.reduceNe, Int.reduceLT, Int.reduceLE, Int.reduceNeg, Int.reduceAdd, ↓reduceIte, ↓reduceCtorEq, Nat.reduceEqDiff, Nat.reduceAdd, Nat.reduceSub, Nat.reduceMul, Nat.reduceLeDiff, Nat.reduceLT]
    refine qand_i (by first | omega | (simp [V_length, U_length, tab_length, maxLen]; done) | (simp [V_length, U_length, tab_length, maxLen]; omega) | (refine ⟨?_, ?_⟩ <;> first | omega | (simp [V_length, U_length, tab_length, maxLen]; done) | (simp [V_length, U_length, tab_length, maxLen]; omega))) ?_; simp only [Tryd.f56, go_sem, Int.reduceToNat, Int.reduceEq, Int.reduceNe, Int.reduceLT, Int.reduceLE, Int.reduceNeg, Int.reduceAdd, ↓reduceIte, ↓reduceCtorEq, Nat.reduceEqDiff, Nat.reduceAdd, Nat.reduceSub, Nat.reduceMul, Nat.reduceLeDiff, Nat.reduceLT]
    refine qval_i (congrArg (Option.map _) x1) ?_
    simp only [Tryd.f56, go_sem, Int.reduceToNat, Int.reduceEq, Int.reduceNe, Int.reduceLT, Int.reduceLE, Int.reduceNeg, Int.reduceAdd, ↓reduceIte, ↓reduceCtorEq, Nat.reduceEqDiff, Nat.reduceAdd, Nat.reduceSub, Nat.reduceMul, Nat.reduceLeDiff, Nat.reduceLT]
    refine qcall_i (k1) ?_; simp only [Tryd.f56, go_sem, Int.reduceToNat, Int.reduceEq, Int.reduceNe, Int.reduceLT, Int.reduceLE, Int.reduceNeg, Int.reduceAdd, ↓reduceIte, ↓reduceCtorEq, Nat.reduceEqDiff, Nat.reduceAdd, Nat.reduceSub, Nat.reduceMul, Nat.reduceLeDiff, Nat.reduceLT]
    refine qand_i (by first | omega | (simp [V_length, U_length, tab_length, maxLen]; done) | (simp [V_length, U_length, tab_length, maxLen]; omega) | (refine ⟨?_, ?_⟩ <;> first | omega | (simp [V_length, U_length, tab_length, maxLen]; done) | (simp [V_length, U_length, tab_length, maxLen]; omega))) ?_; simp only [Tryd.f56, go_sem, Int.reduceToNat, Int.reduceEq, Int.reduceNe, Int.reduceLT, Int.reduceLE, Int.reduceNeg, Int.reduceAdd, ↓reduceIte, ↓reduceCtorEq, Nat.reduceEqDiff, Nat.reduceAdd, Nat.reduceSub, Nat.reduceMul, Nat.reduceLeDiff, Nat.reduceLT]
    refine qval_i (congrArg (Option.map _) x2) ?_
    simp only [Tryd.f56, go_sem, Int.reduceToNat, Int.reduceEq, Int.reduceNe, Int.reduceLT, Int.reduceLE, Int.reduceNeg, Int.reduceAdd, ↓reduceIte, ↓reduceCtorEq, Nat.reduceEqDiff, Nat.reduceAdd, Nat.reduceSub, Nat.reduceMul, Nat.reduceLeDiff, Nat.reduceLT]
    refine qcall_i (k2) ?_; simp only [Tryd.f56, go_sem, Int.reduceToNat, Int.reduceEq, Int.reduceNe, Int.reduceLT, Int.reduceLE, Int.reduceNeg, Int.reduceAdd, ↓reduceIte, ↓reduceCtorEq, Nat.reduceEqDiff, Nat.reduceAdd, Nat.reduceSub, Nat.reduceMul, Nat.reduceLeDiff, Nat.reduceLT]
    refine qand_i (by first | omega | (simp [V_length, U_length, tab_length, maxLen]; done) | (simp [V_length, U_length, tab_length, maxLen]; omega) | (refine ⟨?_, ?_⟩ <;> first | omega | (simp [V_length, U_length, tab_length, maxLen]; done) | (simp [V_length, U_length, tab_length, maxLen]; omega))) ?_; simp only [Tryd.f56, go_sem, Int.reduceToNat, Int.reduceEq, Int.reduceNe, Int.reduceLT, Int.reduceLE, Int.reduceNeg, Int.reduceAdd, ↓reduceIte, ↓reduceCtorEq, Nat.reduceEqDiff, Nat.reduceAdd, Nat.reduceSub, Nat.reduceMul, Nat.reduceLeDiff, Nat.reduceLT]
    refine qval_i (congrArg (Option.map _) x1) ?_
    simp only [Tryd.f56, go_sem, Int.reduceToNat, Int.reduceEq, Int.reduceNe, Int.reduceLT, Int.reduceLE, Int.reduceNeg, Int.reduceAdd, ↓reduceIte, ↓reduceCtorEq, Nat.reduceEqDiff, Nat.reduceAdd, Nat.reduceSub, Nat.reduceMul, Nat.reduceLeDiff, Nat.reduceLT]
    refine qand_i (by first | omega | (simp [V_length, U_length, tab_length, maxLen]; done) | (simp [V_length, U_length, tab_length, maxLen]; omega) | (refine ⟨?_, ?_⟩ <;> first | omega | (simp [V_length, U_length, tab_length, maxLen]; done) | (simp [V_length, U_length, tab_length, maxLen]; omega))) ?_; simp only [Tryd.f56, go_sem, Int.reduceToNat, Int.reduceEq, Int.reduceNe, Int.reduceLT, Int.reduceLE, Int.reduceNeg, Int.reduceAdd, ↓reduceIte, ↓reduceCtorEq, Nat.reduceEqDiff, Nat.reduceAdd, Nat.reduceSub, Nat.reduceMul, Nat.reduceLeDiff, Nat.reduceLT]
    refine qval_i (congrArg (Option.map _) x2) ?_
    simp only [Tryd.f56, go_sem, Int.reduceToNat, Int.reduceEq, Int.reduceNe, Int.reduceLT, Int.reduceLE, Int.reduceNeg, Int.reduceAdd, ↓reduceIte, ↓reduceCtorEq, Nat.reduceEqDiff, Nat.reduceAdd, Nat.reduceSub, Nat.reduceMul, Nat.reduceLeDiff, Nat.reduceLT]
    generalize (decide ((x : Int) ≥ 9223372036854775808) != decide ((y : Int) ≥ 9223372036854775808)) = neg at *
    repeat' ((with_reducible refine qif_d (fun h => ?_) (fun h => ?_)) <;> (first | (exfalso; omega) | simp only [Tryd.f56, wi, go_sem, Int.reduceToNat, Int.reduceEq, Int.reduceNe, Int.reduceLT, Int.reduceLE, Int.reduceNeg, Int.reduceAdd, ↓reduceIte, ↓reduceCtorEq, Nat.reduceEqDiff, Nat.reduceAdd, Nat.reduceSub, Nat.reduceMul, Nat.reduceLeDiff, Nat.reduceLT]))
    all_goals first
      | (have e := m5 (by omega); clear m5 m4 m3 m0 m1; refine ⟨(i + 1, S), ⟨by dsimp only; omega, hS.mono (by omega), by dsimp only; rw [h2, e]; exact hSb⟩, by dsimp only; omega, ?_⟩; simp [Wk, sget, killL, kill1, SV.key, h2, e])
      | (have e := m4 (by omega) (by omega); clear m5 m4 m3 m0 m1; refine ⟨(i + 1, S), ⟨by dsimp only; omega, hS.mono (by omega), by dsimp only; rw [h2, e]; exact hSb⟩, by dsimp only; omega, ?_⟩; simp [Wk, sget, killL, kill1, SV.key, h2, e])
      | (have e := m3 (by omega) (by omega) (by omega); clear m5 m4 m3 m0 m1; cases up <;> cases down <;> simp only [Tryd.f56, wi, go_sem, Int.reduceToNat, Int.reduceEq, Int.reduceNe, Int.reduceLT, Int.reduceLE, Int.reduceNeg, Int.reduceAdd, ↓reduceIte, ↓reduceCtorEq, Nat.reduceEqDiff, Nat.reduceAdd, Nat.reduceSub, Nat.reduceMul, Nat.reduceLeDiff, Nat.reduceLT] <;> (refine ⟨(i + 1, S), ⟨by dsimp only; omega, hS.mono (by omega), by dsimp only; rw [h2, e]; exact hSb⟩, by dsimp only; omega, ?_⟩; simp [Wk, sget, killL, kill1, SV.key, h2, e]))
      | (have e := m0 (by omega) (by omega) (by omega) (by omega); clear m5 m4 m3 m0 m1; cases minus <;> cases plus <;> simp only [Tryd.f56, wi, go_sem, Int.reduceToNat, Int.reduceEq, Int.reduceNe, Int.reduceLT, Int.reduceLE, Int.reduceNeg, Int.reduceAdd, ↓reduceIte, ↓reduceCtorEq, Nat.reduceEqDiff, Nat.reduceAdd, Nat.reduceSub, Nat.reduceMul, Nat.reduceLeDiff, Nat.reduceLT] <;> (refine ⟨(i + 1, S), ⟨by dsimp only; omega, hS.mono (by omega), by dsimp only; rw [h2, e]; exact hSb⟩, by dsimp only; omega, ?_⟩; simp [Wk, sget, killL, kill1, SV.key, h2, e]))
      | skip
    all_goals
      have e := m1 (by omega) (by omega) (by omega) (by omega)
      clear m5 m4 m3 m0 m1
      refine qand_i (by omega) ?_
      simp only [Tryd.f56, go_sem, Int.reduceToNat, Int.reduceEq, Int.reduceNe, Int.reduceLT, Int.reduceLE, Int.reduceNeg, Int.reduceAdd, ↓reduceIte, ↓reduceCtorEq, Nat.reduceEqDiff, Nat.reduceAdd, Nat.reduceSub, Nat.reduceMul, Nat.reduceLeDiff, Nat.reduceLT]
      refine qval_i (congrArg (Option.map _) x1) ?_
      simp only [Tryd.f56, go_sem, Int.reduceToNat, Int.reduceEq, Int.reduceNe, Int.reduceLT, Int.reduceLE, Int.reduceNeg, Int.reduceAdd, ↓reduceIte, ↓reduceCtorEq, Nat.reduceEqDiff, Nat.reduceAdd, Nat.reduceSub, Nat.reduceMul, Nat.reduceLeDiff, Nat.reduceLT]
      refine qcall_i (k3) ?_; simp only [Tryd.f56, go_sem, Int.reduceToNat, Int.reduceEq, Int.reduceNe, Int.reduceLT, Int.reduceLE, Int.reduceNeg, Int.reduceAdd, ↓reduceIte, ↓reduceCtorEq, Nat.reduceEqDiff, Nat.reduceAdd, Nat.reduceSub, Nat.reduceMul, Nat.reduceLeDiff, Nat.reduceLT]
      refine qand_i (by first | omega | (simp [V_length, U_length, tab_length, maxLen]; done) | (simp [V_length, U_length, tab_length, maxLen]; omega) | (refine ⟨?_, ?_⟩ <;> first | omega | (simp [V_length, U_length, tab_length, maxLen]; done) | (simp [V_length, U_length, tab_length, maxLen]; omega))) ?_; simp only [Tryd.f56, go_sem, Int.reduceToNat, Int.reduceEq, Int.reduceNe, Int.reduceLT, Int.reduceLE, Int.reduceNeg, Int.reduceAdd, ↓reduceIte, ↓reduceCtorEq, Nat.reduceEqDiff, Nat.reduceAdd, Nat.reduceSub, Nat.reduceMul, Nat.reduceLeDiff, Nat.reduceLT]
      refine qval_i (congrArg (Option.map _) x2) ?_
      simp only [Tryd.f56, go_sem, Int.reduceToNat, Int.reduceEq, Int.reduceNe, Int.reduceLT, Int.reduceLE, Int.reduceNeg, Int.reduceAdd, ↓reduceIte, ↓reduceCtorEq, Nat.reduceEqDiff, Nat.reduceAdd, Nat.reduceSub, Nat.reduceMul, Nat.reduceLeDiff, Nat.reduceLT]
      refine qcall_i (k4) ?_; simp only [Tryd.f56, go_sem, Int.reduceToNat, Int.reduceEq, Int.reduceNe, Int.reduceLT, Int.reduceLE, Int.reduceNeg, Int.reduceAdd, ↓reduceIte, ↓reduceCtorEq, Nat.reduceEqDiff, Nat.reduceAdd, Nat.reduceSub, Nat.reduceMul, Nat.reduceLeDiff, Nat.reduceLT]
      refine qcall_i (k5) ?_; simp only [Tryd.f56, go_sem, Int.reduceToNat, Int.reduceEq, Int.reduceNe, Int.reduceLT, Int.reduceLE, Int.reduceNeg, Int.reduceAdd, ↓reduceIte, ↓reduceCtorEq, Nat.reduceEqDiff, Nat.reduceAdd, Nat.reduceSub, Nat.reduceMul, Nat.reduceLeDiff, Nat.reduceLT]
      refine qcall_i (k6) ?_; simp only [Tryd.f56, wi, go_sem, Int.reduceToNat, Int.reduceEq, Int.reduceNe, Int.reduceLT, Int.reduceLE, Int.reduceNeg, Int.reduceAdd, ↓reduceIte, ↓reduceCtorEq, Nat.reduceEqDiff, Nat.reduceAdd, Nat.reduceSub, Nat.reduceMul, Nat.reduceLeDiff, Nat.reduceLT]
      refine ⟨(i + 1, S2), ⟨by dsimp only; omega, q4, by dsimp only; rw [h2, e]; exact q5⟩, by dsimp only; omega, ?_⟩
      simp [Wk, sget, killL, kill1, SV.key, h2, e]
  · have hin : i = n := by omega
    subst hin
    have q0 := toS_bare hS (by rw [K0_eq]; omega) false dir
    have qm := bare_m0 hS (by rw [K0_eq]; omega)
    rw [hSb] at q0 qm
    have k2 := c_7ToN (d := S) (by have := hS.bits; rw [K0_eq] at this; omega) (by have := hS.2.2; rw [K0_eq] at this; omega) false hd.1 hd.2
    rw [← q0] at k2
    have hdl : ((dg B S.m).length : Int) > 0 ↔ (T i).sum.m ≠ 0 := by
      rw [ne_eq, qm, ← dgB_len0]
      omega
    clear hst hg hbb hT0 q0 hS hSb
    clear qm
    unfold worthS at hR
    generalize T i = t at *
    obtain ⟨tn, ts, wrong, nan, up, down, minus, plus, other⟩ := t
    simp only [u, Dy.nv, DP, VN, VL] at k2
    dsimp only at hR hdl k2 ⊢
    generalize toS ts false dir = To at *
    simp only [Tryd.f56, go_sem, Int.reduceToNat, Int.reduceEq, Int.reduceNe, Int.reduceLT, Int.reduceLE, Int.reduceNeg, Int.reduceAdd, ↓reduceIte, ↓reduceCtorEq, Nat.reduceEqDiff, Nat.reduceAdd, Nat.reduceSub, Nat.reduceMul, Nat.reduceLeDiff, Nat.reduceLT]
    repeat' first
      | ((with_reducible refine qif_i (fun h => ?_) (fun h => ?_)) <;> (try subst h) <;> simp only [Tryd.f56, go_sem, Int.reduceToNat, Int.reduceEq, Int.reduceNe, Int.reduceLT, Int.reduceLE, Int.reduceNeg, Int.reduceAdd, ↓reduceIte, ↓reduceCtorEq, Nat.reduceEqDiff, Nat.reduceAdd, Nat.reduceSub, Nat.reduceMul, Nat.reduceLeDiff, Nat.reduceLT])
      | ((with_reducible refine qcall_i k2 ?_); simp only [Tryd.f56, go_sem, Int.reduceToNat, Int.reduceEq, Int.reduceNe, Int.reduceLT, Int.reduceLE, Int.reduceNeg, Int.reduceAdd, ↓reduceIte, ↓reduceCtorEq, Nat.reduceEqDiff, Nat.reduceAdd, Nat.reduceSub, Nat.reduceMul, Nat.reduceLeDiff, Nat.reduceLT])
    all_goals
      clear k2
      try simp only [decide_eq_true_eq, decide_eq_false_iff_not, hdl, ne_eq, Decidable.not_not, Bool.not_eq_true', Bool.not_eq_false'] at *
      try simp [*] at hR
      subst hR
      first
        | rfl
        | (simp_all; done)
        | trace_state
end Go.Proofs.YtfogjddcagckaaaDoor
