/- The contract of the law TotalSums: at whatever reads as its arguments it returns true. -/
import Derived.Test.YtfogjddcagckaaaDoorTs2
import Derived.Test.YtfogjddcagckaaaDoorTot6
import Derived.Test.YtfogjddcagckaaaDoorG7
open Go PG Go.Proofs
set_option maxRecDepth 100000
set_option linter.unusedSimpArgs false
set_option linter.unusedVariables false
namespace Go.Proofs.YtfogjddcagckaaaDoor
attribute [local go_sem] Lay2 Lay3 Lay4 Lay5 Lay6 Lay7 Lay8 Lay9 Lay10 Lay11 Lay12 Lay13 Lay14 Lay15 Lay16 Lay17 Lay18 Lay19 Lay21 Lay22 Lay23 Lay24 Lay27 Lay28 Lay29 Lay35 Lay36 Lay38 Lay39 Lay40 Lay42 Lay43 Lay45 Lay46 Lay67 Lay81 Lay82 Lay83 Lay84 Lay85 Lay86 Lay87 Lay90 Lay93 Lay94 Lay105 Lay116 Lay132 Lay138 Lay145 Lay162 Lay163 Lay201 qexec_seq qexec_skip qexec_exit qexec_ret qexec_block qexec_loop qexec_range qexec_cond qexec_region qexec_drawn qops_nil qops_none qops_some put_some put_none pblk_exit pblk_other newDsts_nil sget_cons sget_nil qval_some qbool_some qgs_bool qgs_und qfree_some qgrd_true qgrd_false qif_true qif_false qval_ite qval_itn qand_true map_ite map_some' map_none' qdo_move qdo_assign qdo_binOp qdo_pick qdo_unOp qdo_convert qdo_extract qdo_field qdo_fieldAddr qdo_alloc qdo_box qdo_build qdo_buildSlice qdo_load qdo_store qdo_nilCheck qdo_makeFunc qdo_makeSlice qdo_slice qdo_indexAddr qdo_call qcont_val qcont_new qcont_st qcont_app0 qcont_app qcont_inl qcont_call njSV_val njSV_nil njSV_row njSV_ptr njSV_sub binV_val binV_nil binV_nn binV_ptr bin_np bin_nnp nilCmp bin_add bin_sub bin_mul bin_quo bin_rem bin_and bin_or bin_xor bin_andNot bin_eql bin_neq bin_lss bin_leq bin_gtr bin_geq bin_shl bin_shr bin_seql bin_sneq bin_sadd bin_beql bin_aeql bin_aneq eqAnd_some eqCells_nil eqCells_cons fieldTypes isStruct eqCell bin_bneq un_not un_neg nj_ite Nat.beq stepA stepR isNew opSV constSV RV.sv allSome E_mu E_own qkeyIn_none qkeyIn_some qkeyAt_none qkeyAt_some Bool.or_false Bool.false_or Bool.or_true Bool.true_or cst setB res resSV pstart startL killL kill1 eraL frzL svPV rvPV rvInt rvSlice frzOf close closeL pconv pbuiltin pmax2 partPV setCells fillPV zrow bound newSV PV.cells Bk.cells Bk.with SV.key pres presL_nil presL_tmp presL_cell presC2_some cellPV_ptr presC List.toList_toArray List.size_toArray List.getElem?_drop Nat.mul_one Int.toNat_natCast Nat.not_lt_zero Nat.lt_irrefl decide_true decide_false Nat.not_lt Option.some.injEq PV.lst.injEq PV.int.injEq PV.bool.injEq PV.tuple.injEq List.cons.injEq Option.map_some Option.map_none Option.bind_some Option.toList List.map_cons List.map_nil List.nil_append List.cons_append List.append_nil List.zip_cons_cons List.zip_nil_left List.zip_nil_right List.getElem?_cons_zero List.getElem?_cons_succ List.drop_zero List.drop_succ_cons List.take_succ_cons List.take_zero List.set_cons_zero List.set_cons_succ List.length_cons List.length_nil List.length_set List.replicate_one List.replicate_zero bne_self_eq_false beq_self_eq_true Nat.zero_add Nat.add_zero Nat.zero_mul Bool.false_eq_true Bool.true_eq_false Bool.not_true Bool.not_false and_true true_and false_and and_false or_false false_or or_true true_or not_true_eq_false not_false_eq_true ne_eq gt_iff_lt List.mem_cons List.not_mem_nil
attribute [local go_sem ↓] pseq_normal pseq_ret pseq_exit pblk_normal pblk_ret newDsts_cons gdst_zero gdst_succ retQ_normal retQ_ret qneed_nil qneed_cons retM_normal retM_ret endR_normal endR_ret endR_exit

theorem addT_one (t : Tt) (x : Nat) : addT t x = mulT t x 4607182418800017408 := by
  have k1 : kind 4607182418800017408 = 2 := by decide
  have k2 : fs 4607182418800017408 = false := by decide
  have k3 : fd0 4607182418800017408 = ⟨false, 1, 0⟩ := by decide +kernel
  have k4 : mulS (fd0 x) ⟨false, 1, 0⟩ = fd0 x := by
    have ho := (fd0_lim x).ok
    generalize fd0 x = d at *
    rcases ho with rfl | ho
    · decide
    · obtain ⟨s, m, e⟩ := d
      unfold mulS
      rw [if_neg (by dsimp only at ho ⊢; omega)]
      simp
  have k5 := kind_le5 x
  unfold addT mulT
  rw [k1, k2, k3, k4, Bool.bne_false]
  generalize fd0 x = d
  generalize fs x = s
  generalize kind x = k at *
  obtain rfl | rfl | rfl | rfl | rfl | rfl : k = 0 ∨ k = 1 ∨ k = 2 ∨ k = 3 ∨ k = 4 ∨ k = 5 := by omega
  all_goals rfl
theorem sum_dot (l : List Nat) : sumT l = dotT (l.map fun x => (x, 4607182418800017408)) := by
  unfold sumT dotT
  rw [List.foldl_map]
  congr 1
  funext t x
  exact addT_one t x
theorem toS_le (d : Dy) (more : Bool) (dir : Int) : (toS d more dir).2 ≤ 5 := by
  unfold toS
  split
  · exact Nat.zero_le _
  · show (magS d more dir).2 ≤ 5
    unfold magS
    (repeat' split) <;> simp
theorem worthS_le (t : Tt) (dir : Int) : (worthS t dir).2 ≤ 16 := by
  have := toS_le t.sum false dir
  unfold worthS
  (repeat' split) <;> first | omega | simp
theorem c_same29 {R : Nat × Nat} (h : R.2 ≤ 16) : PC E 55 [.agg [.int .u64 (R.1 : Int), .int .u8 (R.2 : Int), .int .i64 0], .int .i64 0, ansP28 R] (.bool true) := by
  have w1 : IntKind.wrap .i64 (R.2 : Int) = R.2 := wrap64 (by omega) (by omega)
  refine PC.of_body follows Tryd.func55 (by decide +kernel) rfl (by kernel_rfl) (Nat.le_of_ble_eq_true rfl) (walk ?_)
  unfold ansP28
  simp only [Tryd.f55, w1, go_sem, Int.reduceToNat, Int.reduceEq, Int.reduceNe, Int.reduceLT, Int.reduceLE, Int.reduceNeg, Int.reduceAdd, ↓reduceIte, ↓reduceCtorEq, Nat.reduceEqDiff, Nat.reduceAdd, Nat.reduceSub, Nat.reduceMul, Nat.reduceLeDiff, Nat.reduceLT]
theorem flatP_snoc (l : List (Nat × Nat)) (p : Nat × Nat) : flatP (l ++ [p]) = flatP l ++ [.int .u64 p.1, .int .u64 p.2] := by simp [flatP]

theorem law_TotalSums (pvs : List PV) (h : Fits [qPairs, qInt] pvs) : PC E 9 pvs (.bool true) := by
  obtain ⟨_, _, rfl, ⟨ls, rfl, hb⟩, ⟨dir, rfl, hdi⟩⟩ := fits2 h
  by_cases hlen : 60 < ls.length
  · refine PC.of_body follows Tryd.func9 (by decide +kernel) rfl (by kernel_rfl) (Nat.le_of_ble_eq_true rfl) (walk ?_)
    simp only [u, PLs]
    simp only [Tryd.f9, go_sem, Int.reduceToNat, Int.reduceEq, Int.reduceNe, Int.reduceLT, Int.reduceLE, Int.reduceNeg, Int.reduceAdd, ↓reduceIte, ↓reduceCtorEq, Nat.reduceEqDiff, Nat.reduceAdd, Nat.reduceSub, Nat.reduceMul, Nat.reduceLeDiff, Nat.reduceLT]
    refine qcall_i (c_alive29) ?_; simp only [Tryd.f9, go_sem, Int.reduceToNat, Int.reduceEq, Int.reduceNe, Int.reduceLT, Int.reduceLE, Int.reduceNeg, Int.reduceAdd, ↓reduceIte, ↓reduceCtorEq, Nat.reduceEqDiff, Nat.reduceAdd, Nat.reduceSub, Nat.reduceMul, Nat.reduceLeDiff, Nat.reduceLT]
    refine qif_dt (by omega) ?_
    simp only [Tryd.f9, go_sem, Int.reduceToNat, Int.reduceEq, Int.reduceNe, Int.reduceLT, Int.reduceLE, Int.reduceNeg, Int.reduceAdd, ↓reduceIte, ↓reduceCtorEq, Nat.reduceEqDiff, Nat.reduceAdd, Nat.reduceSub, Nat.reduceMul, Nat.reduceLeDiff, Nat.reduceLT]
  obtain ⟨X, Y, hXY⟩ : ∃ X Y : Nat → Nat, ∀ i, i < ls.length → ls[i]? = some (X i, Y i) :=
    ⟨fun i => (ls.getD i (0, 0)).1, fun i => (ls.getD i (0, 0)).2, fun i hi => by simp [List.getD_eq_getElem?_getD, hi]⟩
  have hg : ∀ i, i < ls.length → (flatP ls)[i * 2]? = some (.int .u64 (X i : Nat)) ∧ (flatP ls)[i * 2 + 1]? = some (.int .u64 (Y i : Nat)) := fun i hi => by
    have h1 := hXY i hi
    rw [List.getElem?_eq_getElem hi, Option.some.injEq] at h1
    have := flatP_get hi
    rwa [h1] at this
  have hsn : ∀ i, i < ls.length → ls.take (i + 1) = ls.take i ++ [(X i, Y i)] := fun i hi => by
    obtain ⟨hi', e⟩ := List.getElem?_eq_some_iff.1 (hXY i hi)
    rw [List.take_succ_eq_append_getElem hi, e]
  obtain ⟨XS, hXS⟩ : ∃ XS : Nat → List PV, ∀ i, U ((ls.take i).map Prod.fst) = XS i := ⟨_, fun _ => rfl⟩
  obtain ⟨YS, hYS⟩ : ∃ YS : Nat → List PV, ∀ i, U ((ls.take i).map Prod.snd) = YS i := ⟨_, fun _ => rfl⟩
  obtain ⟨OS, hOS⟩ : ∃ OS : Nat → List PV, ∀ i, flatP ((ls.take i).map fun p => (p.1, 4607182418800017408)) = OS i := ⟨_, fun _ => rfl⟩
  have sX : ∀ i, i < ls.length → XS (i + 1) = XS i ++ [.int .u64 (X i : Nat)] := fun i hi => by rw [← hXS, ← hXS, hsn i hi, List.map_append]; simp [U, u]
  have sY : ∀ i, i < ls.length → YS (i + 1) = YS i ++ [.int .u64 (Y i : Nat)] := fun i hi => by rw [← hYS, ← hYS, hsn i hi, List.map_append]; simp [U, u]
  have sO : ∀ i, i < ls.length → OS (i + 1) = OS i ++ [.int .u64 (X i : Nat), .int .u64 4607182418800017408] := fun i hi => by
    rw [← hOS, ← hOS, hsn i hi, List.map_append, List.map_cons, List.map_nil, flatP_snoc]
    rfl
  have zX : XS 0 = [] := (hXS 0).symm
  have zY : YS 0 = [] := (hYS 0).symm
  have zO : OS 0 = [] := (hOS 0).symm
  have oX : Ok W (ls.map Prod.fst) := fun d hd => by
    obtain ⟨p, hp, rfl⟩ := List.mem_map.1 hd
    exact (hb p hp).1
  have hones : ∀ q ∈ ls.map (fun p => (p.1, 4607182418800017408)), q.1 < W ∧ q.2 < W := fun q hq => by
    obtain ⟨p, hp, rfl⟩ := List.mem_map.1 hq
    exact ⟨(hb p hp).1, by show 4607182418800017408 < W; decide⟩
  have eN1 : NL (ls.map Prod.fst) = .lst ls.length (XS ls.length) := by rw [← hXS, List.take_length, NL, List.length_map]
  have eN2 : NL (ls.map Prod.snd) = .lst ls.length (YS ls.length) := by rw [← hYS, List.take_length, NL, List.length_map]
  have eN3 : PLs (ls.map fun p => (p.1, 4607182418800017408)) = .lst ls.length (OS ls.length) := by rw [← hOS, List.take_length, PLs, List.length_map]
  have hsd : sumT (ls.map Prod.fst) = dotT (ls.map fun p => (p.1, 4607182418800017408)) := by rw [sum_dot, List.map_map]; rfl
  have kS : PC E 53 [.lst ls.length (XS ls.length), .int .i64 dir] (if 0 ≤ dir ∧ dir ≤ 3 then resPV2 (worthS (sumT (ls.map Prod.fst)) dir) 0 else .tuple [.agg [.int .u64 0, .int .u8 0, .int .i64 0], .int .i64 1]) := by
    rw [← eN1]
    by_cases h : 0 ≤ dir ∧ dir ≤ 3
    · rw [if_pos h]; exact c_Sum oX (by rw [List.length_map]; omega) h
    · rw [if_neg h]; exact c_SumN h
  have kD : PC E 54 [.lst ls.length (XS ls.length), .lst ls.length (YS ls.length), .int .i64 dir] (if 0 ≤ dir ∧ dir ≤ 3 then resPV2 (worthS (dotT ls) dir) 0 else .tuple [.agg [.int .u64 0, .int .u8 0, .int .i64 0], .int .i64 1]) := by
    rw [← eN1, ← eN2]
    by_cases h : 0 ≤ dir ∧ dir ≤ 3
    · rw [if_pos h]; exact c_Dot hb (by omega) h
    · rw [if_neg h]; exact c_DotN (fun h' => h h'.1)
  have kW1 : 0 ≤ dir ∧ dir ≤ 3 → PC E 56 [.lst ls.length (OS ls.length), .int .i64 dir] (ansP28 (worthS (sumT (ls.map Prod.fst)) dir)) := fun h => by
    rw [← eN3, hsd]
    exact c_29Worth (by rw [List.length_map]; omega) hones h
  have kW2 : 0 ≤ dir ∧ dir ≤ 3 → PC E 56 [PLs ls, .int .i64 dir] (ansP28 (worthS (dotT ls) dir)) := fun h => c_29Worth (by omega) hb h
  have s1 := c_same29 (worthS_le (sumT (ls.map Prod.fst)) dir)
  have s2 := c_same29 (worthS_le (dotT ls) dir)
  generalize worthS (sumT (ls.map Prod.fst)) dir = R1 at *
  generalize worthS (dotT ls) dir = R2 at *
  simp only [PLs] at kW2 ⊢
  unfold ansP28 resPV2 at *
  clear hXS hYS hOS hXY hsn oX hones eN1 eN2 eN3 hsd hb
  generalize hU : flatP ls = U1 at *
  generalize ls.length = n at *
  refine PC.of_body follows Tryd.func9 (by decide +kernel) rfl (by kernel_rfl) (Nat.le_of_ble_eq_true rfl) (walk ?_)
  simp only [Tryd.f9, go_sem, Int.reduceToNat, Int.reduceEq, Int.reduceNe, Int.reduceLT, Int.reduceLE, Int.reduceNeg, Int.reduceAdd, ↓reduceIte, ↓reduceCtorEq, Nat.reduceEqDiff, Nat.reduceAdd, Nat.reduceSub, Nat.reduceMul, Nat.reduceLeDiff, Nat.reduceLT]
  refine qcall_i (c_alive29) ?_; simp only [Tryd.f9, go_sem, Int.reduceToNat, Int.reduceEq, Int.reduceNe, Int.reduceLT, Int.reduceLE, Int.reduceNeg, Int.reduceAdd, ↓reduceIte, ↓reduceCtorEq, Nat.reduceEqDiff, Nat.reduceAdd, Nat.reduceSub, Nat.reduceMul, Nat.reduceLeDiff, Nat.reduceLT]
  refine qif_df (by omega) ?_
  simp only [Tryd.f9, go_sem, Int.reduceToNat, Int.reduceEq, Int.reduceNe, Int.reduceLT, Int.reduceLE, Int.reduceNeg, Int.reduceAdd, ↓reduceIte, ↓reduceCtorEq, Nat.reduceEqDiff, Nat.reduceAdd, Nat.reduceSub, Nat.reduceMul, Nat.reduceLeDiff, Nat.reduceLT]
  refine PLoop.nilrow 5 31 (by decide) 67 1 rfl ?_
  refine PLoop.nilrow 6 39 (by decide) 67 1 rfl ?_
  refine PLoop.nilrow 7 48 (by decide) 83 2 rfl ?_
  refine PLoop.intro (fun i : Nat => ⟨[(0, .val (.lst n U1)), (1, .val (.int .i64 dir)), (5, .row 31), (6, .row 39), (7, .row 48), (8, .val (.int .i64 i))], [(31, (.row 67 1 i (XS i), false)), (39, (.row 67 1 i (YS i), false)), (48, (.row 83 2 i (OS i), false))]⟩) (fun i => i ≤ n) (fun i => n - i) 0 (Nat.zero_le _) ?_ fun i hi => walk ?_
  · simp [Wk, sget, killL, kill1, SV.key, zX, zY, zO]
  have wi : IntKind.wrap .i64 ((i : Int) + 1) = ((i + 1 : Nat) : Int) := by rw [wrap64 (by omega) (by omega)]; omega
  simp only [Tryd.f9, go_sem, Int.reduceToNat, Int.reduceEq, Int.reduceNe, Int.reduceLT, Int.reduceLE, Int.reduceNeg, Int.reduceAdd, ↓reduceIte, ↓reduceCtorEq, Nat.reduceEqDiff, Nat.reduceAdd, Nat.reduceSub, Nat.reduceMul, Nat.reduceLeDiff, Nat.reduceLT]
  refine qif_d (fun h => ?_) (fun h => ?_)
  · have hin : i < n := by omega
    obtain ⟨x1, x2⟩ := hg i hin
    have e1 := sX i hin
    have e2 := sY i hin
    have e3 := sO i hin
    simp only [Tryd.f9, go_sem, Int.reduceToNat, Int.reduceEq, Int.reduceNe, Int.reduceLT, Int.reduceLE, Int.reduceNeg, Int.reduceAdd, ↓reduceIte, ↓reduceCtorEq, Nat.reduceEqDiff, Nat.reduceAdd, Nat.reduceSub, Nat.reduceMul, Nat.reduceLeDiff, Nat.reduceLT]
    refine qand_i (by first | omega | (simp [V_length, U_length, tab_length, maxLen]; done) | (simp [V_length, U_length, tab_length, maxLen]; omega) | (refine ⟨?_, ?_⟩ <;> first | omega | (simp [V_length, U_length, tab_length, maxLen]; done) | (simp [V_length, U_length, tab_length, maxLen]; omega))) ?_; simp only [Tryd.f9, go_sem, Int.reduceToNat, Int.reduceEq, Int.reduceNe, Int.reduceLT, Int.reduceLE, Int.reduceNeg, Int.reduceAdd, ↓reduceIte, ↓reduceCtorEq, Nat.reduceEqDiff, Nat.reduceAdd, Nat.reduceSub, Nat.reduceMul, Nat.reduceLeDiff, Nat.reduceLT]
    refine qval_i (congrArg (Option.map _) x1) ?_
    simp only [Tryd.f9, go_sem, Int.reduceToNat, Int.reduceEq, Int.reduceNe, Int.reduceLT, Int.reduceLE, Int.reduceNeg, Int.reduceAdd, ↓reduceIte, ↓reduceCtorEq, Nat.reduceEqDiff, Nat.reduceAdd, Nat.reduceSub, Nat.reduceMul, Nat.reduceLeDiff, Nat.reduceLT]
    refine qand_i (by first | omega | (simp [V_length, U_length, tab_length, maxLen]; done) | (simp [V_length, U_length, tab_length, maxLen]; omega) | (refine ⟨?_, ?_⟩ <;> first | omega | (simp [V_length, U_length, tab_length, maxLen]; done) | (simp [V_length, U_length, tab_length, maxLen]; omega))) ?_; simp only [Tryd.f9, List.filter_cons, List.filter_nil, go_sem, Int.reduceToNat, Int.reduceEq, Int.reduceNe, Int.reduceLT, Int.reduceLE, Int.reduceNeg, Int.reduceAdd, ↓reduceIte, ↓reduceCtorEq, Nat.reduceEqDiff, Nat.reduceAdd, Nat.reduceSub, Nat.reduceMul, Nat.reduceLeDiff, Nat.reduceLT]
    refine qand_i (by first | omega | (simp [V_length, U_length, tab_length, maxLen]; done) | (simp [V_length, U_length, tab_length, maxLen]; omega) | (refine ⟨?_, ?_⟩ <;> first | omega | (simp [V_length, U_length, tab_length, maxLen]; done) | (simp [V_length, U_length, tab_length, maxLen]; omega))) ?_; simp only [Tryd.f9, List.filter_cons, List.filter_nil, go_sem, Int.reduceToNat, Int.reduceEq, Int.reduceNe, Int.reduceLT, Int.reduceLE, Int.reduceNeg, Int.reduceAdd, ↓reduceIte, ↓reduceCtorEq, Nat.reduceEqDiff, Nat.reduceAdd, Nat.reduceSub, Nat.reduceMul, Nat.reduceLeDiff, Nat.reduceLT]
    refine qval_i (congrArg (Option.map _) x2) ?_
    simp only [Tryd.f9, List.filter_cons, List.filter_nil, go_sem, Int.reduceToNat, Int.reduceEq, Int.reduceNe, Int.reduceLT, Int.reduceLE, Int.reduceNeg, Int.reduceAdd, ↓reduceIte, ↓reduceCtorEq, Nat.reduceEqDiff, Nat.reduceAdd, Nat.reduceSub, Nat.reduceMul, Nat.reduceLeDiff, Nat.reduceLT]
    refine qand_i (by first | omega | (simp [V_length, U_length, tab_length, maxLen]; done) | (simp [V_length, U_length, tab_length, maxLen]; omega) | (refine ⟨?_, ?_⟩ <;> first | omega | (simp [V_length, U_length, tab_length, maxLen]; done) | (simp [V_length, U_length, tab_length, maxLen]; omega))) ?_; simp only [Tryd.f9, List.filter_cons, List.filter_nil, go_sem, Int.reduceToNat, Int.reduceEq, Int.reduceNe, Int.reduceLT, Int.reduceLE, Int.reduceNeg, Int.reduceAdd, ↓reduceIte, ↓reduceCtorEq, Nat.reduceEqDiff, Nat.reduceAdd, Nat.reduceSub, Nat.reduceMul, Nat.reduceLeDiff, Nat.reduceLT]
    refine qand_i (by first | omega | (simp [V_length, U_length, tab_length, maxLen]; done) | (simp [V_length, U_length, tab_length, maxLen]; omega) | (refine ⟨?_, ?_⟩ <;> first | omega | (simp [V_length, U_length, tab_length, maxLen]; done) | (simp [V_length, U_length, tab_length, maxLen]; omega))) ?_; simp only [Tryd.f9, List.filter_cons, List.filter_nil, go_sem, Int.reduceToNat, Int.reduceEq, Int.reduceNe, Int.reduceLT, Int.reduceLE, Int.reduceNeg, Int.reduceAdd, ↓reduceIte, ↓reduceCtorEq, Nat.reduceEqDiff, Nat.reduceAdd, Nat.reduceSub, Nat.reduceMul, Nat.reduceLeDiff, Nat.reduceLT]
    refine qval_i (congrArg (Option.map _) x1) ?_
    simp only [Tryd.f9, List.filter_cons, List.filter_nil, List.range_zero, List.getD_cons_zero, List.getD_cons_succ, Nat.reduceMod, go_sem, Int.reduceToNat, Int.reduceEq, Int.reduceNe, Int.reduceLT, Int.reduceLE, Int.reduceNeg, Int.reduceAdd, ↓reduceIte, ↓reduceCtorEq, Nat.reduceEqDiff, Nat.reduceAdd, Nat.reduceSub, Nat.reduceMul, Nat.reduceLeDiff, Nat.reduceLT]
    refine qand_i (by first | omega | (simp [V_length, U_length, tab_length, maxLen]; done) | (simp [V_length, U_length, tab_length, maxLen]; omega) | (refine ⟨?_, ?_⟩ <;> first | omega | (simp [V_length, U_length, tab_length, maxLen]; done) | (simp [V_length, U_length, tab_length, maxLen]; omega))) ?_; simp only [Tryd.f9, List.filter_cons, List.filter_nil, List.range_zero, List.getD_cons_zero, List.getD_cons_succ, Nat.reduceMod, wi, go_sem, Int.reduceToNat, Int.reduceEq, Int.reduceNe, Int.reduceLT, Int.reduceLE, Int.reduceNeg, Int.reduceAdd, ↓reduceIte, ↓reduceCtorEq, Nat.reduceEqDiff, Nat.reduceAdd, Nat.reduceSub, Nat.reduceMul, Nat.reduceLeDiff, Nat.reduceLT]
    refine ⟨i + 1, by omega, by omega, ?_⟩
    rw [e1, e2, e3]
    simp [Wk, sget, killL, kill1, SV.key]
  · have hin : i = n := by omega
    subst hin
    by_cases hdir : 0 ≤ dir ∧ dir ≤ 3
    · rw [if_pos hdir] at kS kD
      have kW1 := kW1 hdir
      have kW2 := kW2 hdir
      simp only [Tryd.f9, go_sem, Int.reduceToNat, Int.reduceEq, Int.reduceNe, Int.reduceLT, Int.reduceLE, Int.reduceNeg, Int.reduceAdd, ↓reduceIte, ↓reduceCtorEq, Nat.reduceEqDiff, Nat.reduceAdd, Nat.reduceSub, Nat.reduceMul, Nat.reduceLeDiff, Nat.reduceLT]
      refine qcall_i (kS) ?_; simp only [Tryd.f9, go_sem, Int.reduceToNat, Int.reduceEq, Int.reduceNe, Int.reduceLT, Int.reduceLE, Int.reduceNeg, Int.reduceAdd, ↓reduceIte, ↓reduceCtorEq, Nat.reduceEqDiff, Nat.reduceAdd, Nat.reduceSub, Nat.reduceMul, Nat.reduceLeDiff, Nat.reduceLT]
      refine qcall_i (kD) ?_; simp only [Tryd.f9, go_sem, Int.reduceToNat, Int.reduceEq, Int.reduceNe, Int.reduceLT, Int.reduceLE, Int.reduceNeg, Int.reduceAdd, ↓reduceIte, ↓reduceCtorEq, Nat.reduceEqDiff, Nat.reduceAdd, Nat.reduceSub, Nat.reduceMul, Nat.reduceLeDiff, Nat.reduceLT]
      refine qif_df (by omega) ?_
      simp only [Tryd.f9, go_sem, Int.reduceToNat, Int.reduceEq, Int.reduceNe, Int.reduceLT, Int.reduceLE, Int.reduceNeg, Int.reduceAdd, ↓reduceIte, ↓reduceCtorEq, Nat.reduceEqDiff, Nat.reduceAdd, Nat.reduceSub, Nat.reduceMul, Nat.reduceLeDiff, Nat.reduceLT]
      refine qif_df (by omega) ?_
      simp only [Tryd.f9, go_sem, Int.reduceToNat, Int.reduceEq, Int.reduceNe, Int.reduceLT, Int.reduceLE, Int.reduceNeg, Int.reduceAdd, ↓reduceIte, ↓reduceCtorEq, Nat.reduceEqDiff, Nat.reduceAdd, Nat.reduceSub, Nat.reduceMul, Nat.reduceLeDiff, Nat.reduceLT]
      refine qcall_i (kW1) ?_; simp only [Tryd.f9, go_sem, Int.reduceToNat, Int.reduceEq, Int.reduceNe, Int.reduceLT, Int.reduceLE, Int.reduceNeg, Int.reduceAdd, ↓reduceIte, ↓reduceCtorEq, Nat.reduceEqDiff, Nat.reduceAdd, Nat.reduceSub, Nat.reduceMul, Nat.reduceLeDiff, Nat.reduceLT]
      refine qcall_i (s1) ?_; simp only [Tryd.f9, go_sem, Int.reduceToNat, Int.reduceEq, Int.reduceNe, Int.reduceLT, Int.reduceLE, Int.reduceNeg, Int.reduceAdd, ↓reduceIte, ↓reduceCtorEq, Nat.reduceEqDiff, Nat.reduceAdd, Nat.reduceSub, Nat.reduceMul, Nat.reduceLeDiff, Nat.reduceLT]
      refine qcall_i (kW2) ?_; simp only [Tryd.f9, go_sem, Int.reduceToNat, Int.reduceEq, Int.reduceNe, Int.reduceLT, Int.reduceLE, Int.reduceNeg, Int.reduceAdd, ↓reduceIte, ↓reduceCtorEq, Nat.reduceEqDiff, Nat.reduceAdd, Nat.reduceSub, Nat.reduceMul, Nat.reduceLeDiff, Nat.reduceLT]
      refine qcall_i (s2) ?_; simp only [Tryd.f9, go_sem, Int.reduceToNat, Int.reduceEq, Int.reduceNe, Int.reduceLT, Int.reduceLE, Int.reduceNeg, Int.reduceAdd, ↓reduceIte, ↓reduceCtorEq, Nat.reduceEqDiff, Nat.reduceAdd, Nat.reduceSub, Nat.reduceMul, Nat.reduceLeDiff, Nat.reduceLT]
      try rfl
    · rw [if_neg hdir] at kS kD
      by_cases h0 : dir < 0
      · simp only [Tryd.f9, go_sem, Int.reduceToNat, Int.reduceEq, Int.reduceNe, Int.reduceLT, Int.reduceLE, Int.reduceNeg, Int.reduceAdd, ↓reduceIte, ↓reduceCtorEq, Nat.reduceEqDiff, Nat.reduceAdd, Nat.reduceSub, Nat.reduceMul, Nat.reduceLeDiff, Nat.reduceLT]
        refine qcall_i (kS) ?_; simp only [Tryd.f9, go_sem, Int.reduceToNat, Int.reduceEq, Int.reduceNe, Int.reduceLT, Int.reduceLE, Int.reduceNeg, Int.reduceAdd, ↓reduceIte, ↓reduceCtorEq, Nat.reduceEqDiff, Nat.reduceAdd, Nat.reduceSub, Nat.reduceMul, Nat.reduceLeDiff, Nat.reduceLT]
        refine qcall_i (kD) ?_; simp only [Tryd.f9, go_sem, Int.reduceToNat, Int.reduceEq, Int.reduceNe, Int.reduceLT, Int.reduceLE, Int.reduceNeg, Int.reduceAdd, ↓reduceIte, ↓reduceCtorEq, Nat.reduceEqDiff, Nat.reduceAdd, Nat.reduceSub, Nat.reduceMul, Nat.reduceLeDiff, Nat.reduceLT]
        refine qif_dt h0 ?_
        simp only [Tryd.f9, Bool.and_self, Bool.and_true, go_sem, Int.reduceToNat, Int.reduceEq, Int.reduceNe, Int.reduceLT, Int.reduceLE, Int.reduceNeg, Int.reduceAdd, ↓reduceIte, ↓reduceCtorEq, Nat.reduceEqDiff, Nat.reduceAdd, Nat.reduceSub, Nat.reduceMul, Nat.reduceLeDiff, Nat.reduceLT]
        try rfl
      · simp only [Tryd.f9, go_sem, Int.reduceToNat, Int.reduceEq, Int.reduceNe, Int.reduceLT, Int.reduceLE, Int.reduceNeg, Int.reduceAdd, ↓reduceIte, ↓reduceCtorEq, Nat.reduceEqDiff, Nat.reduceAdd, Nat.reduceSub, Nat.reduceMul, Nat.reduceLeDiff, Nat.reduceLT]
        refine qcall_i (kS) ?_; simp only [Tryd.f9, go_sem, Int.reduceToNat, Int.reduceEq, Int.reduceNe, Int.reduceLT, Int.reduceLE, Int.reduceNeg, Int.reduceAdd, ↓reduceIte, ↓reduceCtorEq, Nat.reduceEqDiff, Nat.reduceAdd, Nat.reduceSub, Nat.reduceMul, Nat.reduceLeDiff, Nat.reduceLT]
        refine qcall_i (kD) ?_; simp only [Tryd.f9, go_sem, Int.reduceToNat, Int.reduceEq, Int.reduceNe, Int.reduceLT, Int.reduceLE, Int.reduceNeg, Int.reduceAdd, ↓reduceIte, ↓reduceCtorEq, Nat.reduceEqDiff, Nat.reduceAdd, Nat.reduceSub, Nat.reduceMul, Nat.reduceLeDiff, Nat.reduceLT]
        refine qif_df h0 ?_
        simp only [Tryd.f9, go_sem, Int.reduceToNat, Int.reduceEq, Int.reduceNe, Int.reduceLT, Int.reduceLE, Int.reduceNeg, Int.reduceAdd, ↓reduceIte, ↓reduceCtorEq, Nat.reduceEqDiff, Nat.reduceAdd, Nat.reduceSub, Nat.reduceMul, Nat.reduceLeDiff, Nat.reduceLT]
        refine qif_dt (by omega) ?_
        simp only [Tryd.f9, Bool.and_self, Bool.and_true, go_sem, Int.reduceToNat, Int.reduceEq, Int.reduceNe, Int.reduceLT, Int.reduceLE, Int.reduceNeg, Int.reduceAdd, ↓reduceIte, ↓reduceCtorEq, Nat.reduceEqDiff, Nat.reduceAdd, Nat.reduceSub, Nat.reduceMul, Nat.reduceLeDiff, Nat.reduceLT]
        try rfl
end Go.Proofs.YtfogjddcagckaaaDoor
