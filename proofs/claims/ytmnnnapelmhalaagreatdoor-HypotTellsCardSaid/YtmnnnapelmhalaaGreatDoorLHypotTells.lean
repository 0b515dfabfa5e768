/- The document's mean, and the contract of the law HypotTells: at whatever reads as its arguments it returns true. -/
import Derived.Test.YtmnnnapelmhalaaGreatDoorH6
import Derived.Test.YtmnnnapelmhalaaGreatDoorG7
open Go PG Go.Proofs
set_option maxRecDepth 100000
set_option linter.unusedSimpArgs false
set_option linter.unusedVariables false
namespace Go.Proofs.YtmnnnapelmhalaaGreatDoor
attribute [local go_sem] Lay2 Lay3 Lay4 Lay5 Lay6 Lay7 Lay8 Lay9 Lay10 Lay11 Lay12 Lay13 Lay14 Lay15 Lay16 Lay17 Lay18 Lay19 Lay21 Lay22 Lay24 Lay25 Lay26 Lay27 Lay28 Lay29 Lay32 Lay34 Lay35 Lay42 Lay43 Lay53 Lay54 Lay55 Lay59 Lay60 Lay61 Lay78 Lay90 Lay95 Lay96 Lay102 Lay114 Lay115 Lay133 Lay160 Lay164 Lay165 Lay166 Lay167 Lay168 Lay170 Lay171 Lay173 Lay174 Lay175 Lay178 qexec_seq qexec_skip qexec_exit qexec_ret qexec_block qexec_loop qexec_range qexec_cond qexec_region qexec_drawn qops_nil qops_none qops_some put_some put_none pblk_exit pblk_other newDsts_nil inlDsts_nil isInl sget_cons sget_nil qval_some qbool_some qgs_bool qgs_und qfree_some qgrd_true qgrd_false qif_true qif_false qval_ite qval_itn qand_true map_ite map_some' map_none' qdo_move qdo_assign qdo_binOp qdo_pick qdo_unOp qdo_convert qdo_extract qdo_field qdo_fieldAddr qdo_alloc qdo_box qdo_build qdo_buildSlice qdo_load qdo_store qdo_nilCheck qdo_makeFunc qdo_makeSlice qdo_slice qdo_indexAddr qdo_call qcont_val qcont_new qcont_st qcont_app0 qcont_app qcont_inl qcont_call njSV_val njSV_nil njSV_row njSV_ptr njSV_sub binV_val binV_nil binV_nn binV_ptr bin_np bin_nnp nilCmp bin_add bin_sub bin_mul bin_quo bin_rem bin_and bin_or bin_xor bin_andNot bin_eql bin_neq bin_lss bin_leq bin_gtr bin_geq bin_shl bin_shr bin_seql bin_sneq bin_sadd bin_beql bin_aeql bin_aneq eqAnd_some eqCells_nil eqCells_cons fieldTypes isStruct eqCell bin_bneq un_not un_neg nj_ite Nat.beq stepA stepR isNew opSV constSV RV.sv allSome E_mu E_own qkeyIn_none qkeyIn_some qkeyAt_none qkeyAt_some Bool.or_false Bool.false_or Bool.or_true Bool.true_or cst setB res resSV pstart startL killL kill1 eraL frzL svPV rvPV rvInt rvSlice frzOf close closeL pconv pbuiltin pmax2 partPV setCells fillPV zrow bound newSV PV.cells Bk.cells Bk.with SV.key pres presL_nil presL_tmp presL_cell presC2_some cellPV_ptr presC List.toList_toArray List.size_toArray List.getElem?_drop Nat.mul_one Int.toNat_natCast Nat.not_lt_zero Nat.lt_irrefl decide_true decide_false Nat.not_lt Option.some.injEq PV.lst.injEq PV.int.injEq PV.bool.injEq PV.tuple.injEq List.cons.injEq Option.map_some Option.map_none Option.bind_some Option.toList List.map_cons List.map_nil List.nil_append List.cons_append List.append_nil List.zip_cons_cons List.zip_nil_left List.zip_nil_right List.getElem?_cons_zero List.getElem?_cons_succ List.drop_zero List.drop_succ_cons List.take_succ_cons List.take_zero List.set_cons_zero List.set_cons_succ List.length_cons List.length_nil List.length_set List.replicate_one List.replicate_zero bne_self_eq_false beq_self_eq_true Nat.zero_add Nat.add_zero Nat.zero_mul Bool.false_eq_true Bool.true_eq_false Bool.not_true Bool.not_false and_true true_and false_and and_false or_false false_or or_true true_or not_true_eq_false not_false_eq_true ne_eq gt_iff_lt List.mem_cons List.not_mem_nil
attribute [local go_sem ↓] pseq_normal pseq_ret pseq_exit pblk_normal pblk_ret newDsts_cons inlDsts_cons gdst_zero gdst_succ retQ_normal retQ_ret qneed_nil qneed_cons retM_normal retM_ret endR_normal endR_ret endR_exit
attribute [local go_sem] Int.reduceToNat Int.reduceEq Int.reduceNe Int.reduceLT Int.reduceLE Int.reduceNeg Int.reduceAdd Nat.reduceEqDiff Nat.reduceAdd Nat.reduceSub Nat.reduceMul Nat.reduceLeDiff Nat.reduceLT
attribute [local go_sem ↓] reduceIte reduceCtorEq

set_option maxHeartbeats 4000000 in
theorem c_30Mean {l : List Nat} (ol : Ok W l) (hn0 : l.length ≠ 0) (hl : l.length ≤ 20) {dir : Int} (hd : 0 ≤ dir ∧ dir ≤ 3) : PC E 9 [NL l, .int .i64 dir] (ansB (meanS l dir)) := by
  have kW := c_29Worth (ls := pairsL l) (by unfold pairsL; rw [List.length_map]; omega) (by
    intro q hq
    unfold pairsL at hq
    obtain ⟨x, hx, rfl⟩ := List.mem_map.1 hq
    exact ⟨ol x hx, show 4607182418800017408 < W by decide⟩) hd
  rw [dotT_pairs] at kW
  obtain ⟨n1, n2, n3, n4⟩ := lenD_facts hn0 (by omega)
  have L := sumF_lim l (by omega)
  have kN := c_Num l.length (show l.length < 18446744073709551616 by omega)
  have vb : (⟨false, l.length, 0⟩ : Dy).val = (lenD l).val := by
    have e1 := val_at (d := mkD false l.length 0) (k := 0) (mkD_ge false l.length (by decide) (by decide))
    rw [mkD_at false l.length (by decide) (by decide) (by decide)] at e1
    unfold lenD
    rw [e1, val_few (n := ⟨false, l.length, 0⟩) rfl]
    simp
    rfl
  have hbl : bitLen l.length ≤ 10 := (bitLen_le _ 10).2 (by have : (2 : Nat) ^ 10 = 1024 := by decide
                                                            omega)
  have kQ : (sumF l).m ≠ 0 → PC E 30 [(sumM l).nv, (⟨false, l.length, 0⟩ : Dy).nv, .int .i64 dir] (ansB (toS (partD (sumF l) (lenD l)) (partR (sumF l) (lenD l)) dir)) := fun hm => by
    have he := (L.mono (J := 3000) (by omega)).e0
    have lb : LimN 3000 (⟨false, l.length, 0⟩ : Dy) := LimN.mk (n := 10) (J := 10) hbl ⟨(by decide : -((10 : Nat) : Int) ≤ 0), (by decide : (0 : Int) ≤ ((10 : Nat) : Int))⟩ (by decide)
    exact c_28QuotientV ((sumM_lim l (by omega)).mono (J := 3000) (by omega)) lb (by decide) (sumM_val l (by omega)) vb hm n1 (Nat.le_trans (sumF_bits l (by omega)) (by decide)) (by omega) (by omega) (by omega) hd
  have hz : (sumM l).m = 0 ↔ (sumF l).m = 0 := by rw [← val_eq_zero, ← val_eq_zero, sumM_val l (by omega)]
  have hg : ∀ i, i < l.length → (U l)[i]? = some (.int .u64 (l.getD i 0 : Nat)) := fun i hi => U_getD hi
  have hx : ∀ i, i < l.length → l.getD i 0 < W := fun i hi => by rw [List.getD_eq_getElem?_getD, List.getElem?_eq_getElem hi]; exact ol _ (List.getElem_mem _)
  have hkk : ∀ i, i < l.length → PC E 28 [u (l.getD i 0)] (.int .i64 (kind (l.getD i 0))) := fun i hi => c_rKind _ (hx i hi)
  have hkw : ∀ i, i < l.length → PC E 24 [u (l.getD i 0)] (fd (l.getD i 0)).nv := fun i hi => c_Worth _ (hx i hi)
  have hge : ∀ i (hi : i < l.length), l[i] = l.getD i 0 := fun i hi => by rw [List.getD_eq_getElem?_getD, List.getElem?_eq_getElem hi]; rfl
  have hka : ∀ i, i < l.length → PC E 25 [(sumM (l.take i)).nv, (fd (l.getD i 0)).nv] (addD (sumM (l.take i)) (fd (l.getD i 0))).nv := fun i hi => by
    have hl' : (l.take i).length ≤ 1000 := by rw [List.length_take]; omega
    exact l_Add ((sumM_lim (l.take i) hl').mono (J := 3000) (by rw [List.length_take]; omega)) ((fd_lim (l.getD i 0)).N.mono (J := 3000) (by omega)) (by decide)
  have hsS : ∀ i, i < l.length → sumM (l.take (i + 1)) = if 2 < kind (l.getD i 0) then sumM (l.take i) else addD (sumM (l.take i)) (fd (l.getD i 0)) := fun i hi => by
    rw [List.take_succ_eq_append_getElem hi, sumM_snoc, hge i hi]
  have hoS : ∀ i, i < l.length → oddL (l.take (i + 1)) = (oddL (l.take i) || decide (2 < kind (l.getD i 0))) := fun i hi => by
    rw [List.take_succ_eq_append_getElem hi, hge i hi]; unfold oddL; rw [List.any_append]; simp
  have hfS : ∀ i, i < l.length → flatP (pairsL (l.take (i + 1))) = flatP (pairsL (l.take i)) ++ [.int .u64 (l.getD i 0 : Nat), .int .u64 (4607182418800017408 : Nat)] := fun i hi => by
    rw [List.take_succ_eq_append_getElem hi, hge i hi]; unfold pairsL flatP; simp
  have hn : l.take l.length = l := List.take_length
  have hS0 : sumM (l.take 0) = .zero := rfl
  have hO0 : oddL (l.take 0) = false := rfl
  have hF0 : flatP (pairsL (l.take 0)) = [] := rfl
  unfold meanS
  unfold PLs at kW
  rw [show (pairsL l).length = l.length by unfold pairsL; rw [List.length_map]] at kW
  obtain ⟨S, hS⟩ : ∃ S : Nat → Dy, ∀ i, sumM (l.take i) = S i := ⟨_, fun _ => rfl⟩
  obtain ⟨O, hO⟩ : ∃ O : Nat → Bool, ∀ i, oddL (l.take i) = O i := ⟨_, fun _ => rfl⟩
  obtain ⟨F, hF⟩ : ∃ F : Nat → List PV, ∀ i, flatP (pairsL (l.take i)) = F i := ⟨_, fun _ => rfl⟩
  rw [show sumM l = S l.length by rw [← hS, hn]] at kQ hz
  rw [show oddL l = O l.length by rw [← hO, hn]]
  rw [show flatP (pairsL l) = F l.length by rw [← hF, hn]] at kW
  simp only [hS, hO, hF] at hS0 hO0 hF0 hka hsS hoS hfS
  generalize toS (partD (sumF l) (lenD l)) (partR (sumF l) (lenD l)) dir = T at *
  generalize worthS (sumT l) dir = w at *
  generalize (sumF l).m = qm at *
  obtain ⟨X, hX⟩ : ∃ X : Nat → Nat, ∀ i, l.getD i 0 = X i := ⟨_, fun _ => rfl⟩
  simp only [hX] at hg hkk hkw hka hsS hoS hfS
  clear hX hS hO hF hn hx ol L n1 n2 n3 n4 hge vb hbl
  unfold ansB ansP28 at *
  simp only [NL, u, Dy.nv, DP, VN, VL] at kW kN kQ hkk hkw hka ⊢
  generalize U l = U1 at *
  generalize l.length = n at *
  refine PC.of_body follows Tryz.func9 (by decide +kernel) rfl (by kernel_rfl) (Nat.le_of_ble_eq_true rfl) (walk ?_)
  simp only [Tryz.f9, go_sem]
  refine PLoop.nilrow 5 23 (by decide) 61 2 rfl ?_
  refine PLoop.intro (fun i : Nat => ⟨[(0, .val (.lst n U1)), (1, .val (.int .i64 dir)), (4, .ptr 4 0), (5, .row 23), (6, .ptr 6 0), (7, .val (.bool (O i))), (8, .val (.int .i64 i))],
    [(23, (.row 61 2 i (F i), false)), (4, (.box [.int .u64 0, .int .i64 0], false)), (6, (.box [.bool (S i).s, .lst (dg B (S i).m).length (V (dg B (S i).m)), .int .i64 (S i).e], false))]⟩) (fun i => i ≤ n) (fun i => n - i) 0 (Nat.zero_le _) ?_ fun i hi => walk ?_
  · rw [hS0, hO0, hF0]
    simp [Wk, sget, killL, kill1, SV.key]
    try exact ⟨rfl, ⟨rfl, rfl⟩, rfl⟩
    try rfl
  have wi : IntKind.wrap .i64 ((i : Int) + 1) = ((i + 1 : Nat) : Int) := by rw [wrap64 (by omega) (by omega)]; omega
  simp only [Tryz.f9, go_sem]
  refine qif_d (fun h => ?_) (fun h => ?_)
  · have hin : i < n := by omega
    have x1 := hg i hin
    have k1 := hkk i hin
    have k2 := hkw i hin
    have k3 := hka i hin
    have f1 := hsS i hin
    have f2 := hoS i hin
    have f3 := hfS i hin
    simp only [Tryz.f9, List.range_zero, List.getD_cons_zero, List.getD_cons_succ, Nat.reduceMod, go_sem]
    refine qand_i (by first | omega | (simp [V_length, U_length, tab_length, maxLen]; done) | (simp [V_length, U_length, tab_length, maxLen]; omega) | (refine ⟨?_, ?_⟩ <;> first | omega | (simp [V_length, U_length, tab_length, maxLen]; done) | (simp [V_length, U_length, tab_length, maxLen]; omega))) ?_; simp only [Tryz.f9, List.range_zero, List.getD_cons_zero, List.getD_cons_succ, Nat.reduceMod, go_sem]
    refine qval_i (congrArg (Option.map _) x1) ?_
    simp only [Tryz.f9, List.range_zero, List.getD_cons_zero, List.getD_cons_succ, Nat.reduceMod, go_sem]
    refine qand_i (by simp [maxLen]; omega) ?_
    simp only [Tryz.f9, List.range_zero, List.getD_cons_zero, List.getD_cons_succ, Nat.reduceMod, go_sem]
    refine qand_i (by first | omega | (simp [V_length, U_length, tab_length, maxLen]; done) | (simp [V_length, U_length, tab_length, maxLen]; omega) | (refine ⟨?_, ?_⟩ <;> first | omega | (simp [V_length, U_length, tab_length, maxLen]; done) | (simp [V_length, U_length, tab_length, maxLen]; omega))) ?_; simp only [Tryz.f9, List.range_zero, List.getD_cons_zero, List.getD_cons_succ, Nat.reduceMod, go_sem]
    refine qval_i (congrArg (Option.map _) x1) ?_
    simp only [Tryz.f9, List.range_zero, List.getD_cons_zero, List.getD_cons_succ, Nat.reduceMod, go_sem]
    refine qcall_i (k1) ?_; simp only [Tryz.f9, List.range_zero, List.getD_cons_zero, List.getD_cons_succ, Nat.reduceMod, go_sem]
    rw [show ((4607182418800017408 : Nat) : Int) = 4607182418800017408 from rfl] at f3
    refine qif_d (fun h1 => ?_) (fun h1 => ?_)
    · rw [if_pos (by omega)] at f1
      rw [decide_eq_true (by omega), Bool.or_true] at f2
      simp only [Tryz.f9, List.range_zero, List.getD_cons_zero, List.getD_cons_succ, Nat.reduceMod, wi, go_sem]
      refine ⟨i + 1, by omega, by omega, ?_⟩
      rw [f1, f2, f3]
      simp [Wk, sget, killL, kill1, SV.key, setCells]
    · rw [if_neg (by omega)] at f1
      rw [decide_eq_false (by omega), Bool.or_false] at f2
      simp only [Tryz.f9, List.range_zero, List.getD_cons_zero, List.getD_cons_succ, Nat.reduceMod, List.filter_cons, List.filter_nil, go_sem]
      refine qand_i (by first | omega | (simp [V_length, U_length, tab_length, maxLen]; done) | (simp [V_length, U_length, tab_length, maxLen]; omega) | (refine ⟨?_, ?_⟩ <;> first | omega | (simp [V_length, U_length, tab_length, maxLen]; done) | (simp [V_length, U_length, tab_length, maxLen]; omega))) ?_; simp only [Tryz.f9, List.range_zero, List.getD_cons_zero, List.getD_cons_succ, Nat.reduceMod, List.filter_cons, List.filter_nil, go_sem]
      refine qval_i (congrArg (Option.map _) x1) ?_
      simp only [Tryz.f9, List.range_zero, List.getD_cons_zero, List.getD_cons_succ, Nat.reduceMod, List.filter_cons, List.filter_nil, go_sem]
      refine qcall_i (k2) ?_; simp only [Tryz.f9, List.range_zero, List.getD_cons_zero, List.getD_cons_succ, Nat.reduceMod, List.filter_cons, List.filter_nil, go_sem]
      refine qcall_i (k3) ?_; simp only [Tryz.f9, List.range_zero, List.getD_cons_zero, List.getD_cons_succ, Nat.reduceMod, List.filter_cons, List.filter_nil, wi, go_sem]
      refine ⟨i + 1, by omega, by omega, ?_⟩
      rw [f1, f2, f3]
      simp [Wk, sget, killL, kill1, SV.key, setCells]
  · have hin : i = n := by omega
    subst hin
    have hl0 := dgB_len0 (x := (S i).m)
    simp only [Tryz.f9, go_sem]
    have wn : IntKind.wrap .u64 (i : Int) = i := by rw [IntKind.wrap_u64]; omega
    refine qif_i (fun h1 => ?_) (fun h1 => ?_)
    · rw [if_pos (.inl h1)]
      simp only [Tryz.f9, go_sem]
      refine qcall_i (kW) ?_; simp only [Tryz.f9, go_sem]
      try rfl
    · simp only [Tryz.f9, go_sem]
      refine qif_d (fun h2 => ?_) (fun h2 => ?_)
      · rw [if_pos (.inr (hz.1 (hl0.1 (by omega))))]
        simp only [Tryz.f9, go_sem]
        refine qcall_i (kW) ?_; simp only [Tryz.f9, go_sem]
        try rfl
      · have hm : qm ≠ 0 := fun h3 => h2 (by have := hl0.2 (hz.2 h3); omega)
        rw [if_neg (fun h3 => by
          rcases h3 with h3 | h3
          · rw [h1] at h3; cases h3
          · exact hm h3)]
        have kQ := kQ hm
        simp only [Tryz.f9, wn, go_sem]
        refine qcall_i (kN) ?_; simp only [Tryz.f9, wn, go_sem]
        refine qcall_i (kQ) ?_; simp only [Tryz.f9, go_sem]
        try rfl
theorem h_LengthX {l : List Nat} {dir : Int} (h : ¬ (0 ≤ dir ∧ dir ≤ 3) ∨ 1000 < l.length) : PC E 5 [NL l, .int .i64 dir] (resB (0, 0) 1) := by
  have k1 := h_right dir
  have z0 : ((0 : Nat) : Int) = 0 := rfl
  simp only [NL, resB, z0]
  refine PC.of_body follows Tryz.func5 (by decide +kernel) rfl (by kernel_rfl) (Nat.le_of_ble_eq_true rfl) (walk ?_)
  simp only [Tryz.f5, go_sem]
  by_cases hd : 0 ≤ dir ∧ dir ≤ 3
  · rw [decide_eq_true hd] at k1
    have hn1 : ((l.length : Int) > 1000) = True := eq_true (by omega)
    have hn2 : (1000 < (l.length : Int)) = True := eq_true (by omega)
    refine qcall_i (k1) ?_; simp only [Tryz.f5, hn1, hn2, go_sem]
    try rfl
  · rw [decide_eq_false hd] at k1
    refine qcall_i (k1) ?_; simp only [Tryz.f5, go_sem]
    try rfl
theorem h_MeanX {l : List Nat} {dir : Int} (h : ¬ (0 ≤ dir ∧ dir ≤ 3) ∨ l.length = 0 ∨ 1000 < l.length) : PC E 6 [NL l, .int .i64 dir] (resB (0, 0) 1) := by
  have k1 := h_right dir
  have z0 : ((0 : Nat) : Int) = 0 := rfl
  simp only [NL, resB, z0]
  refine PC.of_body follows Tryz.func6 (by decide +kernel) rfl (by kernel_rfl) (Nat.le_of_ble_eq_true rfl) (walk ?_)
  simp only [Tryz.f6, go_sem]
  by_cases hd : 0 ≤ dir ∧ dir ≤ 3
  · rw [decide_eq_true hd] at k1
    refine qcall_i (k1) ?_; simp only [Tryz.f6, go_sem]
    refine qif_d (fun h1 => ?_) (fun h1 => ?_)
    · simp only [Tryz.f6, go_sem]
      try rfl
    · simp only [Tryz.f6, go_sem]
      refine qif_dt (by omega) ?_
      simp only [Tryz.f6, go_sem]
      try rfl
  · rw [decide_eq_false hd] at k1
    refine qcall_i (k1) ?_; simp only [Tryz.f6, go_sem]
    try rfl
set_option maxHeartbeats 4000000 in
theorem law_HypotTells (pvs : List PV) (h : Fits [qU64s, qInt] pvs) : PC E 3 pvs (.bool true) := by
  obtain ⟨_, _, rfl, ⟨l, rfl, ol⟩, ⟨dir, rfl, -, -⟩⟩ := fits2 h
  have z0 : ((0 : Nat) : Int) = 0 := rfl
  by_cases hA : (20 < l.length ∧ l.length < 990) ∨ 1100 < l.length
  · simp only [NL]
    generalize U l = U1
    generalize l.length = n at *
    refine PC.of_body follows Tryz.func3 (by decide +kernel) rfl (by kernel_rfl) (Nat.le_of_ble_eq_true rfl) (walk ?_)
    simp only [Tryz.f3, go_sem]
    refine qcall_i (c_alive30) ?_; simp only [Tryz.f3, go_sem]
    repeat' first
      | ((with_reducible refine qif_d (fun h => ?_) (fun h => ?_)) <;> first | (exfalso; omega) | simp only [Tryz.f3, go_sem])
  by_cases hB : ¬ (0 ≤ dir ∧ dir ≤ 3) ∨ 1000 < l.length
  · have k1 := h_LengthX (l := l) hB
    have k2 := h_MeanX (l := l) (dir := dir) (by omega)
    simp only [NL, resB, z0] at k1 k2 ⊢
    generalize U l = U1 at *
    generalize l.length = n at *
    refine PC.of_body follows Tryz.func3 (by decide +kernel) rfl (by kernel_rfl) (Nat.le_of_ble_eq_true rfl) (walk ?_)
    simp only [Tryz.f3, go_sem]
    refine qcall_i (c_alive30) ?_; simp only [Tryz.f3, go_sem]
    repeat' first
      | (with_reducible refine qcall_i k1 ?_; simp only [Tryz.f3, go_sem])
      | (with_reducible refine qcall_i k2 ?_; simp only [Tryz.f3, Bool.and_self, go_sem])
      | ((with_reducible refine qif_d (fun h => ?_) (fun h => ?_)) <;> first | (exfalso; omega) | simp only [Tryz.f3, Bool.and_self, go_sem])
      | rfl
  have hd : 0 ≤ dir ∧ dir ≤ 3 := by omega
  have hl : l.length ≤ 1000 := by omega
  obtain ⟨r, hr⟩ := isq_ex (rootM (sumQ l))
  have k1 := h_Length ol hl hr hd
  by_cases h0 : l.length = 0
  · have e : l = [] := List.eq_nil_of_length_eq_zero h0
    subst e
    have e1 : lenS [] r dir = (0, 0) := rfl
    rw [e1] at k1
    have k2 := h_MeanX (l := []) (dir := dir) (by simp)
    simp only [NL, resB, z0, U, List.map_nil, List.length_nil] at k1 k2 ⊢
    refine PC.of_body follows Tryz.func3 (by decide +kernel) rfl (by kernel_rfl) (Nat.le_of_ble_eq_true rfl) (walk ?_)
    simp only [Tryz.f3, go_sem]
    refine qcall_i (c_alive30) ?_; simp only [Tryz.f3, z0, go_sem]
    repeat' first
      | (with_reducible refine qcall_i k1 ?_; simp only [Tryz.f3, z0, go_sem])
      | (with_reducible refine qcall_i k2 ?_; simp only [Tryz.f3, z0, Bool.and_self, go_sem])
      | ((with_reducible refine qif_d (fun h => ?_) (fun h => ?_)) <;> first | (exfalso; omega) | simp only [Tryz.f3, z0, Bool.and_self, go_sem])
      | rfl
  have k2 := h_Mean ol h0 hl hd
  by_cases h20 : 20 < l.length
  · generalize lenS l r dir = R1 at *
    generalize meanS l dir = R2 at *
    simp only [NL, resB] at k1 k2 ⊢
    generalize U l = U1 at *
    generalize l.length = n at *
    refine PC.of_body follows Tryz.func3 (by decide +kernel) rfl (by kernel_rfl) (Nat.le_of_ble_eq_true rfl) (walk ?_)
    simp only [Tryz.f3, go_sem]
    refine qcall_i (c_alive30) ?_; simp only [Tryz.f3, go_sem]
    repeat' first
      | (with_reducible refine qcall_i k1 ?_; simp only [Tryz.f3, go_sem])
      | (with_reducible refine qcall_i k2 ?_; simp only [Tryz.f3, Bool.and_self, go_sem])
      | ((with_reducible refine qif_d (fun h => ?_) (fun h => ?_)) <;> first | (exfalso; omega) | simp only [Tryz.f3, Bool.and_self, go_sem])
      | rfl
  have k3 := c_30Length ol hl hr hd
  have k4 := c_30Mean ol h0 (by omega) hd
  have s1 := c_30same (lenS_fl l r dir)
  have s2 := c_30same (meanS_fl l dir)
  generalize lenS l r dir = R1 at *
  generalize meanS l dir = R2 at *
  unfold ansB at *
  simp only [NL, resB] at k1 k2 k3 k4 s1 s2 ⊢
  generalize U l = U1 at *
  generalize l.length = n at *
  refine PC.of_body follows Tryz.func3 (by decide +kernel) rfl (by kernel_rfl) (Nat.le_of_ble_eq_true rfl) (walk ?_)
  simp only [Tryz.f3, go_sem]
  refine qcall_i (c_alive30) ?_; simp only [Tryz.f3, go_sem]
  repeat' first
    | (with_reducible refine qcall_i k1 ?_; simp only [Tryz.f3, go_sem])
    | (with_reducible refine qcall_i k2 ?_; simp only [Tryz.f3, go_sem])
    | (with_reducible refine qcall_i k3 ?_; simp only [Tryz.f3, go_sem])
    | (with_reducible refine qcall_i s1 ?_; simp only [Tryz.f3, go_sem])
    | (with_reducible refine qcall_i k4 ?_; simp only [Tryz.f3, go_sem])
    | (with_reducible refine qcall_i s2 ?_; simp only [Tryz.f3, go_sem])
    | ((with_reducible refine qif_d (fun h => ?_) (fun h => ?_)) <;> first | (exfalso; omega) | simp only [Tryz.f3, go_sem])
    | rfl
end Go.Proofs.YtmnnnapelmhalaaGreatDoor
