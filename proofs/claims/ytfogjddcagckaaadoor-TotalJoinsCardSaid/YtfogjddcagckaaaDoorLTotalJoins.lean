/- The contract of the law TotalJoins: at whatever reads as its arguments it returns true. -/
import Derived.Test.YtfogjddcagckaaaDoorTot8
import Derived.Test.YtfogjddcagckaaaDoorG7
open Go PG Go.Proofs
set_option maxRecDepth 100000
set_option linter.unusedSimpArgs false
set_option linter.unusedVariables false
namespace Go.Proofs.YtfogjddcagckaaaDoor
attribute [local go_sem] Lay2 Lay3 Lay4 Lay5 Lay6 Lay7 Lay8 Lay9 Lay10 Lay11 Lay12 Lay13 Lay14 Lay15 Lay16 Lay17 Lay18 Lay19 Lay21 Lay22 Lay23 Lay24 Lay27 Lay28 Lay29 Lay35 Lay36 Lay38 Lay39 Lay40 Lay42 Lay43 Lay45 Lay46 Lay67 Lay81 Lay82 Lay83 Lay84 Lay85 Lay86 Lay87 Lay90 Lay93 Lay94 Lay105 Lay116 Lay132 Lay138 Lay145 Lay162 Lay163 Lay201 qexec_seq qexec_skip qexec_exit qexec_ret qexec_block qexec_loop qexec_range qexec_cond qexec_region qexec_drawn qops_nil qops_none qops_some put_some put_none pblk_exit pblk_other newDsts_nil sget_cons sget_nil qval_some qbool_some qgs_bool qgs_und qfree_some qgrd_true qgrd_false qif_true qif_false qval_ite qval_itn qand_true map_ite map_some' map_none' qdo_move qdo_assign qdo_binOp qdo_pick qdo_unOp qdo_convert qdo_extract qdo_field qdo_fieldAddr qdo_alloc qdo_box qdo_build qdo_buildSlice qdo_load qdo_store qdo_nilCheck qdo_makeFunc qdo_makeSlice qdo_slice qdo_indexAddr qdo_call qcont_val qcont_new qcont_st qcont_app0 qcont_app qcont_inl qcont_call njSV_val njSV_nil njSV_row njSV_ptr njSV_sub binV_val binV_nil binV_nn binV_ptr bin_np bin_nnp nilCmp bin_add bin_sub bin_mul bin_quo bin_rem bin_and bin_or bin_xor bin_andNot bin_eql bin_neq bin_lss bin_leq bin_gtr bin_geq bin_shl bin_shr bin_seql bin_sneq bin_sadd bin_beql bin_aeql bin_aneq eqAnd_some eqCells_nil eqCells_cons fieldTypes isStruct eqCell bin_bneq un_not un_neg nj_ite Nat.beq stepA stepR isNew opSV constSV RV.sv allSome E_mu E_own qkeyIn_none qkeyIn_some qkeyAt_none qkeyAt_some Bool.or_false Bool.false_or Bool.or_true Bool.true_or cst setB res resSV pstart startL killL kill1 eraL frzL svPV rvPV rvInt rvSlice frzOf close closeL pconv pbuiltin pmax2 partPV setCells fillPV zrow bound newSV PV.cells Bk.cells Bk.with SV.key pres presL_nil presL_tmp presL_cell presC2_some cellPV_ptr presC List.toList_toArray List.size_toArray List.getElem?_drop Nat.mul_one Int.toNat_natCast Nat.not_lt_zero Nat.lt_irrefl decide_true decide_false Nat.not_lt Option.some.injEq PV.lst.injEq PV.int.injEq PV.bool.injEq PV.tuple.injEq List.cons.injEq Option.map_some Option.map_none Option.bind_some Option.toList List.map_cons List.map_nil List.nil_append List.cons_append List.append_nil List.zip_cons_cons List.zip_nil_left List.zip_nil_right List.getElem?_cons_zero List.getElem?_cons_succ List.drop_zero List.drop_succ_cons List.take_succ_cons List.take_zero List.set_cons_zero List.set_cons_succ List.length_cons List.length_nil List.length_set List.replicate_one List.replicate_zero bne_self_eq_false beq_self_eq_true Nat.zero_add Nat.add_zero Nat.zero_mul Bool.false_eq_true Bool.true_eq_false Bool.not_true Bool.not_false and_true true_and false_and and_false or_false false_or or_true true_or not_true_eq_false not_false_eq_true ne_eq gt_iff_lt List.mem_cons List.not_mem_nil
attribute [local go_sem ↓] pseq_normal pseq_ret pseq_exit pblk_normal pblk_ret newDsts_cons gdst_zero gdst_succ retQ_normal retQ_ret qneed_nil qneed_cons retM_normal retM_ret endR_normal endR_ret endR_exit

theorem law_TotalJoins (pvs : List PV) (h : Fits [qPairs, qU8, qU8, qU8] pvs) : PC E 11 pvs (.bool true) := by
  obtain ⟨_, _, _, _, rfl, ⟨ls, rfl, hb⟩, ⟨a0, rfl, ha0⟩, ⟨b0, rfl, hb0⟩, ⟨dr, rfl, hdr⟩⟩ := fits4 h
  by_cases hlen : 60 < ls.length
  · refine PC.of_body follows Tryd.func11 (by decide +kernel) rfl (by kernel_rfl) (Nat.le_of_ble_eq_true rfl) (walk ?_)
    simp only [u, PLs]
    simp only [Tryd.f11, go_sem, Int.reduceToNat, Int.reduceEq, Int.reduceNe, Int.reduceLT, Int.reduceLE, Int.reduceNeg, Int.reduceAdd, ↓reduceIte, ↓reduceCtorEq, Nat.reduceEqDiff, Nat.reduceAdd, Nat.reduceSub, Nat.reduceMul, Nat.reduceLeDiff, Nat.reduceLT]
    refine qcall_i (c_alive29) ?_; simp only [Tryd.f11, go_sem, Int.reduceToNat, Int.reduceEq, Int.reduceNe, Int.reduceLT, Int.reduceLE, Int.reduceNeg, Int.reduceAdd, ↓reduceIte, ↓reduceCtorEq, Nat.reduceEqDiff, Nat.reduceAdd, Nat.reduceSub, Nat.reduceMul, Nat.reduceLeDiff, Nat.reduceLT]
    refine qif_dt (by omega) ?_
    simp only [Tryd.f11, go_sem, Int.reduceToNat, Int.reduceEq, Int.reduceNe, Int.reduceLT, Int.reduceLE, Int.reduceNeg, Int.reduceAdd, ↓reduceIte, ↓reduceCtorEq, Nat.reduceEqDiff, Nat.reduceAdd, Nat.reduceSub, Nat.reduceMul, Nat.reduceLeDiff, Nat.reduceLT]
  have kn := T_New
  obtain ⟨k, hk⟩ : ∃ k, k = a0 % (ls.length + 1) := ⟨_, rfl⟩
  have hkl : k ≤ ls.length := by have := Nat.mod_lt a0 (show 0 < ls.length + 1 by omega); omega
  obtain ⟨D, hD⟩ : ∃ D, D = dr % 4 := ⟨_, rfl⟩
  have hD4 : D < 4 := by omega
  have g0 : ∀ i, i < ls.length → ∃ x y, ls[i]? = some (x, y) := fun i hi => ⟨_, _, List.getElem?_eq_getElem hi⟩
  obtain ⟨X, Y, hXY⟩ : ∃ X Y : Nat → Nat, ∀ i, i < ls.length → ls[i]? = some (X i, Y i) :=
    ⟨fun i => (ls.getD i (0, 0)).1, fun i => (ls.getD i (0, 0)).2, fun i hi => by simp [List.getD_eq_getElem?_getD, hi]⟩
  have hg : ∀ i, i < ls.length → (flatP ls)[i * 2]? = some (.int .u64 (X i : Nat)) ∧ (flatP ls)[i * 2 + 1]? = some (.int .u64 (Y i : Nat)) := fun i hi => by
    have h1 := hXY i hi
    rw [List.getElem?_eq_getElem hi, Option.some.injEq] at h1
    have := flatP_get hi
    rwa [h1] at this
  have hUl : (flatP ls).length = ls.length * 2 := by
    clear hg hXY g0 hlen kn hk hkl h hb
    induction ls with
    | nil => rfl
    | cons p ls ih => rw [show flatP (p :: ls) = [.int .u64 p.1, .int .u64 p.2] ++ flatP ls by simp [flatP], List.length_append, ih]; simp; omega
  obtain ⟨BD, hBD⟩ : ∃ BD : Nat → Bk, ∀ i, (dotT (ls.take i)).bk = BD i := ⟨_, fun _ => rfl⟩
  obtain ⟨BC, hBC⟩ : ∃ BC : Nat → Bk, ∀ i, (dotT ((turnL ls (b0 % ls.length)).take i)).bk = BC i := ⟨_, fun _ => rfl⟩
  obtain ⟨BA, hBA⟩ : ∃ BA : Nat → Bk, ∀ i, (dotT ((ls.take k).take i)).bk = BA i := ⟨_, fun _ => rfl⟩
  obtain ⟨BB, hBB⟩ : ∃ BB : Nat → Bk, ∀ i, (dotT ((ls.drop k).take i)).bk = BB i := ⟨_, fun _ => rfl⟩
  obtain ⟨BE, hBE⟩ : ∃ BE : Nat → Bk, ∀ i, (dotT ((ls ++ ls).take (ls.length + i))).bk = BE i := ⟨_, fun _ => rfl⟩
  have kD : ∀ i, i < ls.length → PCM E 62 [.ptr 0 0, .val (.int .u64 (X i : Nat)), .val (.int .u64 (Y i : Nat))] [BD i] (.val (.int .i64 0)) [BD (i + 1)] := fun i hi => by
    rw [← hBD, ← hBD]; exact times_at (by omega) hb (hXY i hi)
  have kC : ∀ i, i < ls.length → PCM E 62 [.ptr 0 0, .val (.int .u64 (X ((i + b0) % ls.length) : Nat)), .val (.int .u64 (Y ((i + b0) % ls.length) : Nat))] [BC i] (.val (.int .i64 0)) [BC (i + 1)] := fun i hi => by
    have hj : (i + b0) % ls.length < ls.length := Nat.mod_lt _ (by omega)
    rw [← hBC, ← hBC]
    refine times_at (by rw [turnL_len _ (Nat.le_of_lt (Nat.mod_lt _ (by omega)))]; omega) (fun q hq => hb q (turnL_mem hq)) ?_
    rw [turnL_get hi hj, ← List.getElem?_eq_getElem hj]
    exact hXY _ hj
  have kA : ∀ i, i < k → PCM E 62 [.ptr 0 0, .val (.int .u64 (X i : Nat)), .val (.int .u64 (Y i : Nat))] [BA i] (.val (.int .i64 0)) [BA (i + 1)] := fun i hi => by
    rw [← hBA, ← hBA]
    refine times_at (by rw [List.length_take]; omega) (fun q hq => hb q (List.mem_of_mem_take hq)) ?_
    rw [List.getElem?_take_of_lt hi]
    exact hXY i (by omega)
  have kB : ∀ i, k ≤ i → i < ls.length → PCM E 62 [.ptr 0 0, .val (.int .u64 (X i : Nat)), .val (.int .u64 (Y i : Nat))] [BB (i - k)] (.val (.int .i64 0)) [BB (i + 1 - k)] := fun i hi hl => by
    rw [← hBB, ← hBB, show i + 1 - k = i - k + 1 by omega]
    refine times_at (by rw [List.length_drop]; omega) (fun q hq => hb q (List.mem_of_mem_drop hq)) ?_
    rw [List.getElem?_drop, show k + (i - k) = i by omega]
    exact hXY i hl
  have kE : ∀ i, i < ls.length → PCM E 62 [.ptr 0 0, .val (.int .u64 (X i : Nat)), .val (.int .u64 (Y i : Nat))] [BE i] (.val (.int .i64 0)) [BE (i + 1)] := fun i hi => by
    rw [← hBE, ← hBE]
    refine times_at (by rw [List.length_append]; omega) (fun q hq => by rcases List.mem_append.1 hq with hq | hq <;> exact hb q hq) ?_
    rw [List.getElem?_append_right (by omega), show ls.length + i - ls.length = i by omega]
    exact hXY i hi
  have z1 : Tt.zero.bk = BD 0 := hBD 0
  have z2 : BC 0 = BD 0 := (hBC 0).symm.trans (hBD 0)
  have z3 : BA 0 = BD 0 := (hBA 0).symm.trans (hBD 0)
  have z4 : BB 0 = BD 0 := (hBB 0).symm.trans (hBD 0)
  have oL := dotT_ok (l := ls) (by omega)
  have oA := dotT_ok (l := ls.take k) (by rw [List.length_take]; omega)
  have oB := dotT_ok (l := ls.drop k) (by rw [List.length_drop]; omega)
  have o2 := dotT_ok (l := ls ++ ls) (by rw [List.length_append]; omega)
  have nA : (dotT (ls.take k)).n = k := by rw [oA.2, List.length_take]; omega
  have nB : (dotT (ls.drop k)).n = ls.length - k := by rw [oB.2, List.length_drop]
  have f1 : (dotT ls).bk = BD ls.length := by rw [← hBD, List.take_length]
  have f2 : BC ls.length = BD ls.length := by
    rw [← hBC, ← hBD, List.take_length]
    by_cases h0 : ls.length = 0
    · have : ls = [] := List.length_eq_zero_iff.1 h0
      subst this
      rfl
    · rw [List.take_of_length_le (l := turnL ls (b0 % ls.length)) (i := ls.length) (by rw [turnL_len _ (Nat.le_of_lt (Nat.mod_lt b0 (by omega)))]; exact Nat.le_refl _), dotT_turn (by omega)]
  have f3 : (dotT (ls.take k)).bk = BA k := by rw [← hBA, List.take_take, Nat.min_self]
  have f4 : (dotT (ls.drop k)).bk = BB (ls.length - k) := by
    rw [← hBB, ← List.length_drop, List.take_length]
  have f5 : BE 0 = BD ls.length := by
    rw [← hBE, ← f1]
    congr 2
    rw [Nat.add_zero, List.take_append_of_le_length (Nat.le_refl _), List.take_length]
  have f6 : (dotT (ls ++ ls)).bk = BE ls.length := by
    rw [← hBE, ← List.length_append, List.take_length]
  have kJ := T_Join oB.1 oA.1 (by rw [nA, nB]; omega)
  rw [dotT_parts (by omega), f1, f3, f4] at kJ
  have kJS := T_JoinS oL.1 (by rw [oL.2]; omega)
  rw [← dotT_append _ _ (by omega), f1, f6] at kJS
  have lA := T_Len (dotT (ls.take k))
  rw [f3, nA] at lA
  have lD := T_Len (dotT ls)
  rw [f1, oL.2] at lD
  have lE := T_Len (dotT (ls ++ ls))
  rw [f6, o2.2, List.length_append] at lE
  have kW := T_Worth oL.1 (dir := (D : Int)) (by omega)
  rw [f1] at kW
  have kV := T_Worth o2.1 (dir := (D : Int)) (by omega)
  rw [f6] at kV
  have n1 := T_JoinNil1 (dotT (ls.take k))
  have n2 := T_JoinNil2 (dotT (ls.take k))
  rw [f3] at n1 n2
  have n3 := T_WorthNil (D : Int)
  have n4 := T_AddNil 1
  have n5 := T_TimesNil 1 1
  have n6 := T_LenNil
  rw [z1] at kn
  generalize worthS (dotT ls) D = R at *
  generalize worthS (dotT (ls ++ ls)) D = R2 at *
  simp only [PLs, u] at n3 ⊢
  rw [show ((1 : Nat) : Int) = 1 from rfl] at n4 n5
  generalize hU : flatP ls = U1 at *
  have hlen' : ¬ ((ls.length : Int) > 60) := by omega
  unfold resPV2 at kW kV n3
  clear hBD hBC hBA hBB hBE z1 oL oA oB o2 nA nB f1 f3 f4 f6 hXY g0 hU hb
  have w1 : IntKind.wrap .i64 ((ls.length : Int) + 1) = ((ls.length + 1 : Nat) : Int) := by rw [wrap64 (by omega) (by omega)]; omega
  have w2 : IntKind.wrap .i64 (a0 : Int) = a0 := wrap64 (by omega) (by omega)
  have w3 : IntKind.wrap .i64 (b0 : Int) = b0 := wrap64 (by omega) (by omega)
  have w4 : (dr : Int).tmod 4 = (D : Int) := by rw [hD]; exact n_tmod dr 4
  have w5 : (a0 : Int).tmod ((ls.length + 1 : Nat) : Int) = (k : Int) := by rw [hk]; exact n_tmod a0 _
  have w6 : IntKind.wrap .i64 (D : Int) = D := wrap64 (by omega) (by omega)
  have w7 : IntKind.wrap .u8 (D : Int) = D := wrap8 (by omega)
  generalize ls.length = n at *
  clear hD hk
  refine PC.of_body follows Tryd.func11 (by decide +kernel) rfl (by kernel_rfl) (Nat.le_of_ble_eq_true rfl) (walk ?_)
  simp only [Tryd.f11, go_sem, Int.reduceToNat, Int.reduceEq, Int.reduceNe, Int.reduceLT, Int.reduceLE, Int.reduceNeg, Int.reduceAdd, ↓reduceIte, ↓reduceCtorEq, Nat.reduceEqDiff, Nat.reduceAdd, Nat.reduceSub, Nat.reduceMul, Nat.reduceLeDiff, Nat.reduceLT]
  refine qcall_i (c_alive29) ?_; simp only [Tryd.f11, go_sem, Int.reduceToNat, Int.reduceEq, Int.reduceNe, Int.reduceLT, Int.reduceLE, Int.reduceNeg, Int.reduceAdd, ↓reduceIte, ↓reduceCtorEq, Nat.reduceEqDiff, Nat.reduceAdd, Nat.reduceSub, Nat.reduceMul, Nat.reduceLeDiff, Nat.reduceLT]
  refine qif_df (by omega) ?_
  simp only [Tryd.f11, w2, w3, w4, w6, w7, go_sem, Int.reduceToNat, Int.reduceEq, Int.reduceNe, Int.reduceLT, Int.reduceLE, Int.reduceNeg, Int.reduceAdd, ↓reduceIte, ↓reduceCtorEq, Nat.reduceEqDiff, Nat.reduceAdd, Nat.reduceSub, Nat.reduceMul, Nat.reduceLeDiff, Nat.reduceLT]
  refine qinl_i [] kn rfl (by decide) rfl (fun i b k hb => by simp at hb) (by intro d h; simp) (by intro h; cases h) ?_
  simp only [Tryd.f11, w1, w2, w3, w5, ren, eraO, eraL, List.getD_cons_zero, List.getD_cons_succ, List.filter_cons, List.filter_nil, go_sem, Int.reduceToNat, Int.reduceEq, Int.reduceNe, Int.reduceLT, Int.reduceLE, Int.reduceNeg, Int.reduceAdd, ↓reduceIte, ↓reduceCtorEq, Nat.reduceEqDiff, Nat.reduceAdd, Nat.reduceSub, Nat.reduceMul, Nat.reduceLeDiff, Nat.reduceLT]
  refine qinl_i [] kn rfl (by decide) rfl (fun i b k hb => by simp at hb) (by intro d h; simp) (by intro h; cases h) ?_
  simp only [Tryd.f11, w1, w2, w3, w5, ren, eraO, eraL, List.getD_cons_zero, List.getD_cons_succ, List.filter_cons, List.filter_nil, go_sem, Int.reduceToNat, Int.reduceEq, Int.reduceNe, Int.reduceLT, Int.reduceLE, Int.reduceNeg, Int.reduceAdd, ↓reduceIte, ↓reduceCtorEq, Nat.reduceEqDiff, Nat.reduceAdd, Nat.reduceSub, Nat.reduceMul, Nat.reduceLeDiff, Nat.reduceLT]
  refine qinl_i [] kn rfl (by decide) rfl (fun i b k hb => by simp at hb) (by intro d h; simp) (by intro h; cases h) ?_
  simp only [Tryd.f11, w1, w2, w3, w5, ren, eraO, eraL, List.getD_cons_zero, List.getD_cons_succ, List.filter_cons, List.filter_nil, go_sem, Int.reduceToNat, Int.reduceEq, Int.reduceNe, Int.reduceLT, Int.reduceLE, Int.reduceNeg, Int.reduceAdd, ↓reduceIte, ↓reduceCtorEq, Nat.reduceEqDiff, Nat.reduceAdd, Nat.reduceSub, Nat.reduceMul, Nat.reduceLeDiff, Nat.reduceLT]
  refine qinl_i [] kn rfl (by decide) rfl (fun i b k hb => by simp at hb) (by intro d h; simp) (by intro h; cases h) ?_
  simp only [Tryd.f11, w1, w2, w3, w5, ren, eraO, eraL, List.getD_cons_zero, List.getD_cons_succ, List.filter_cons, List.filter_nil, go_sem, Int.reduceToNat, Int.reduceEq, Int.reduceNe, Int.reduceLT, Int.reduceLE, Int.reduceNeg, Int.reduceAdd, ↓reduceIte, ↓reduceCtorEq, Nat.reduceEqDiff, Nat.reduceAdd, Nat.reduceSub, Nat.reduceMul, Nat.reduceLeDiff, Nat.reduceLT]
  refine qand_i (by first | omega | (simp [V_length, U_length, tab_length, maxLen]; done) | (simp [V_length, U_length, tab_length, maxLen]; omega) | (refine ⟨?_, ?_⟩ <;> first | omega | (simp [V_length, U_length, tab_length, maxLen]; done) | (simp [V_length, U_length, tab_length, maxLen]; omega))) ?_; simp only [Tryd.f11, w1, w2, w5, go_sem, Int.reduceToNat, Int.reduceEq, Int.reduceNe, Int.reduceLT, Int.reduceLE, Int.reduceNeg, Int.reduceAdd, ↓reduceIte, ↓reduceCtorEq, Nat.reduceEqDiff, Nat.reduceAdd, Nat.reduceSub, Nat.reduceMul, Nat.reduceLeDiff, Nat.reduceLT]
  refine PLoop.intro (fun i : Nat => ⟨[(0, .val (.lst n U1)), (2, .val (.int .u8 b0)), (9, .val (.int .i64 D)), (10, .ptr 40 0), (11, .ptr 41 0), (12, .ptr 42 0), (13, .ptr 43 0), (14, .val (.int .i64 k)), (15, .val (.int .i64 i))], [(40, (BA (min i k), false)), (41, (BB (i - k), false)), (42, (BC i, false)), (43, (BD i, false))]⟩) (fun i => i ≤ n) (fun i => n - i) 0 (Nat.zero_le _) ?_ fun i hi => walk ?_
  · simp [Wk, sget, killL, kill1, SV.key, z2, z3, z4]
  have wi : IntKind.wrap .i64 ((i : Int) + 1) = ((i + 1 : Nat) : Int) := by rw [wrap64 (by omega) (by omega)]; omega
  have wb : IntKind.wrap .i64 ((i : Int) + (b0 : Int)) = ((i + b0 : Nat) : Int) := by rw [wrap64 (by omega) (by omega)]; omega
  have wm : ((i + b0 : Nat) : Int).tmod (n : Int) = ((((i + b0) % n : Nat)) : Int) := n_tmod _ _
  simp only [Tryd.f11, go_sem, Int.reduceToNat, Int.reduceEq, Int.reduceNe, Int.reduceLT, Int.reduceLE, Int.reduceNeg, Int.reduceAdd, ↓reduceIte, ↓reduceCtorEq, Nat.reduceEqDiff, Nat.reduceAdd, Nat.reduceSub, Nat.reduceMul, Nat.reduceLeDiff, Nat.reduceLT]
  refine qif_d (fun h => ?_) (fun h => ?_)
  · have hin : i < n := by omega
    have hj : (i + b0) % n < n := Nat.mod_lt _ (by omega)
    have k1 := kD i hin
    have k2 := kC i hin
    obtain ⟨x1, x2⟩ := hg i hin
    obtain ⟨y1, y2⟩ := hg _ hj
    generalize (i + b0) % n = j at *
    simp only [Tryd.f11, wi, wb, wm, w3, go_sem, Int.reduceToNat, Int.reduceEq, Int.reduceNe, Int.reduceLT, Int.reduceLE, Int.reduceNeg, Int.reduceAdd, ↓reduceIte, ↓reduceCtorEq, Nat.reduceEqDiff, Nat.reduceAdd, Nat.reduceSub, Nat.reduceMul, Nat.reduceLeDiff, Nat.reduceLT]
    refine qand_i (by first | omega | (simp [V_length, U_length, tab_length, maxLen]; done) | (simp [V_length, U_length, tab_length, maxLen]; omega) | (refine ⟨?_, ?_⟩ <;> first | omega | (simp [V_length, U_length, tab_length, maxLen]; done) | (simp [V_length, U_length, tab_length, maxLen]; omega))) ?_; simp only [Tryd.f11, wi, wb, wm, w3, go_sem, Int.reduceToNat, Int.reduceEq, Int.reduceNe, Int.reduceLT, Int.reduceLE, Int.reduceNeg, Int.reduceAdd, ↓reduceIte, ↓reduceCtorEq, Nat.reduceEqDiff, Nat.reduceAdd, Nat.reduceSub, Nat.reduceMul, Nat.reduceLeDiff, Nat.reduceLT]
    have hdj : (U1.drop (j * 2)).take 2 = [.int .u64 (X j), .int .u64 (Y j)] := by
      obtain ⟨l1, m1⟩ := List.getElem?_eq_some_iff.1 y1
      obtain ⟨l2, m2⟩ := List.getElem?_eq_some_iff.1 y2
      rw [List.drop_eq_getElem_cons l1, List.drop_eq_getElem_cons l2, m1, m2]
      rfl
    refine qand_i (by first | omega | (simp [V_length, U_length, tab_length, maxLen]; done) | (simp [V_length, U_length, tab_length, maxLen]; omega) | (refine ⟨?_, ?_⟩ <;> first | omega | (simp [V_length, U_length, tab_length, maxLen]; done) | (simp [V_length, U_length, tab_length, maxLen]; omega))) ?_; simp only [Tryd.f11, wi, wb, wm, w3, go_sem, Int.reduceToNat, Int.reduceEq, Int.reduceNe, Int.reduceLT, Int.reduceLE, Int.reduceNeg, Int.reduceAdd, ↓reduceIte, ↓reduceCtorEq, Nat.reduceEqDiff, Nat.reduceAdd, Nat.reduceSub, Nat.reduceMul, Nat.reduceLeDiff, Nat.reduceLT]
    refine qand_i (by rw [List.length_drop, hUl]; omega) ?_
    simp only [Tryd.f11, hdj, go_sem, Int.reduceToNat, Int.reduceEq, Int.reduceNe, Int.reduceLT, Int.reduceLE, Int.reduceNeg, Int.reduceAdd, ↓reduceIte, ↓reduceCtorEq, Nat.reduceEqDiff, Nat.reduceAdd, Nat.reduceSub, Nat.reduceMul, Nat.reduceLeDiff, Nat.reduceLT]
    refine qand_i (by first | omega | (simp [V_length, U_length, tab_length, maxLen]; done) | (simp [V_length, U_length, tab_length, maxLen]; omega) | (refine ⟨?_, ?_⟩ <;> first | omega | (simp [V_length, U_length, tab_length, maxLen]; done) | (simp [V_length, U_length, tab_length, maxLen]; omega))) ?_; simp only [Tryd.f11, go_sem, Int.reduceToNat, Int.reduceEq, Int.reduceNe, Int.reduceLT, Int.reduceLE, Int.reduceNeg, Int.reduceAdd, ↓reduceIte, ↓reduceCtorEq, Nat.reduceEqDiff, Nat.reduceAdd, Nat.reduceSub, Nat.reduceMul, Nat.reduceLeDiff, Nat.reduceLT]
    refine qval_i (congrArg (Option.map _) x1) ?_
    simp only [Tryd.f11, go_sem, Int.reduceToNat, Int.reduceEq, Int.reduceNe, Int.reduceLT, Int.reduceLE, Int.reduceNeg, Int.reduceAdd, ↓reduceIte, ↓reduceCtorEq, Nat.reduceEqDiff, Nat.reduceAdd, Nat.reduceSub, Nat.reduceMul, Nat.reduceLeDiff, Nat.reduceLT]
    refine qand_i (by first | omega | (simp [V_length, U_length, tab_length, maxLen]; done) | (simp [V_length, U_length, tab_length, maxLen]; omega) | (refine ⟨?_, ?_⟩ <;> first | omega | (simp [V_length, U_length, tab_length, maxLen]; done) | (simp [V_length, U_length, tab_length, maxLen]; omega))) ?_; simp only [Tryd.f11, go_sem, Int.reduceToNat, Int.reduceEq, Int.reduceNe, Int.reduceLT, Int.reduceLE, Int.reduceNeg, Int.reduceAdd, ↓reduceIte, ↓reduceCtorEq, Nat.reduceEqDiff, Nat.reduceAdd, Nat.reduceSub, Nat.reduceMul, Nat.reduceLeDiff, Nat.reduceLT]
    refine qval_i (congrArg (Option.map _) x2) ?_
    simp only [Tryd.f11, go_sem, Int.reduceToNat, Int.reduceEq, Int.reduceNe, Int.reduceLT, Int.reduceLE, Int.reduceNeg, Int.reduceAdd, ↓reduceIte, ↓reduceCtorEq, Nat.reduceEqDiff, Nat.reduceAdd, Nat.reduceSub, Nat.reduceMul, Nat.reduceLeDiff, Nat.reduceLT]
    refine qinl_i [43] (k1) rfl (by decide) rfl (one_blk rfl) (by intro d h; first | (cases h; decide) | cases h) (by intro h; first | rfl | cases h) ?_; simp only [Tryd.f11, ren, eraO, eraL, List.getD_cons_zero, List.getD_cons_succ, List.filter_cons, List.filter_nil, go_sem, Int.reduceToNat, Int.reduceEq, Int.reduceNe, Int.reduceLT, Int.reduceLE, Int.reduceNeg, Int.reduceAdd, ↓reduceIte, ↓reduceCtorEq, Nat.reduceEqDiff, Nat.reduceAdd, Nat.reduceSub, Nat.reduceMul, Nat.reduceLeDiff, Nat.reduceLT]
    refine qinl_i [42] (k2) rfl (by decide) rfl (one_blk rfl) (by intro d h; first | (cases h; decide) | cases h) (by intro h; first | rfl | cases h) ?_; simp only [Tryd.f11, ren, eraO, eraL, List.getD_cons_zero, List.getD_cons_succ, List.filter_cons, List.filter_nil, go_sem, Int.reduceToNat, Int.reduceEq, Int.reduceNe, Int.reduceLT, Int.reduceLE, Int.reduceNeg, Int.reduceAdd, ↓reduceIte, ↓reduceCtorEq, Nat.reduceEqDiff, Nat.reduceAdd, Nat.reduceSub, Nat.reduceMul, Nat.reduceLeDiff, Nat.reduceLT]
    refine qif_d (fun hik => ?_) (fun hik => ?_)
    · have k3 := kA i (by omega)
      rw [Nat.min_eq_left (by omega), show i - k = 0 by omega]
      simp only [Tryd.f11, go_sem, Int.reduceToNat, Int.reduceEq, Int.reduceNe, Int.reduceLT, Int.reduceLE, Int.reduceNeg, Int.reduceAdd, ↓reduceIte, ↓reduceCtorEq, Nat.reduceEqDiff, Nat.reduceAdd, Nat.reduceSub, Nat.reduceMul, Nat.reduceLeDiff, Nat.reduceLT]
      refine qand_i (by first | omega | (simp [V_length, U_length, tab_length, maxLen]; done) | (simp [V_length, U_length, tab_length, maxLen]; omega) | (refine ⟨?_, ?_⟩ <;> first | omega | (simp [V_length, U_length, tab_length, maxLen]; done) | (simp [V_length, U_length, tab_length, maxLen]; omega))) ?_; simp only [Tryd.f11, go_sem, Int.reduceToNat, Int.reduceEq, Int.reduceNe, Int.reduceLT, Int.reduceLE, Int.reduceNeg, Int.reduceAdd, ↓reduceIte, ↓reduceCtorEq, Nat.reduceEqDiff, Nat.reduceAdd, Nat.reduceSub, Nat.reduceMul, Nat.reduceLeDiff, Nat.reduceLT]
      refine qval_i (congrArg (Option.map _) x1) ?_
      simp only [Tryd.f11, go_sem, Int.reduceToNat, Int.reduceEq, Int.reduceNe, Int.reduceLT, Int.reduceLE, Int.reduceNeg, Int.reduceAdd, ↓reduceIte, ↓reduceCtorEq, Nat.reduceEqDiff, Nat.reduceAdd, Nat.reduceSub, Nat.reduceMul, Nat.reduceLeDiff, Nat.reduceLT]
      refine qand_i (by first | omega | (simp [V_length, U_length, tab_length, maxLen]; done) | (simp [V_length, U_length, tab_length, maxLen]; omega) | (refine ⟨?_, ?_⟩ <;> first | omega | (simp [V_length, U_length, tab_length, maxLen]; done) | (simp [V_length, U_length, tab_length, maxLen]; omega))) ?_; simp only [Tryd.f11, go_sem, Int.reduceToNat, Int.reduceEq, Int.reduceNe, Int.reduceLT, Int.reduceLE, Int.reduceNeg, Int.reduceAdd, ↓reduceIte, ↓reduceCtorEq, Nat.reduceEqDiff, Nat.reduceAdd, Nat.reduceSub, Nat.reduceMul, Nat.reduceLeDiff, Nat.reduceLT]
      refine qval_i (congrArg (Option.map _) x2) ?_
      simp only [Tryd.f11, go_sem, Int.reduceToNat, Int.reduceEq, Int.reduceNe, Int.reduceLT, Int.reduceLE, Int.reduceNeg, Int.reduceAdd, ↓reduceIte, ↓reduceCtorEq, Nat.reduceEqDiff, Nat.reduceAdd, Nat.reduceSub, Nat.reduceMul, Nat.reduceLeDiff, Nat.reduceLT]
      refine qinl_i [40] (k3) rfl (by decide) rfl (one_blk rfl) (by intro d h; first | (cases h; decide) | cases h) (by intro h; first | rfl | cases h) ?_; simp only [Tryd.f11, wi, ren, eraO, eraL, List.getD_cons_zero, List.getD_cons_succ, List.filter_cons, List.filter_nil, go_sem, Int.reduceToNat, Int.reduceEq, Int.reduceNe, Int.reduceLT, Int.reduceLE, Int.reduceNeg, Int.reduceAdd, ↓reduceIte, ↓reduceCtorEq, Nat.reduceEqDiff, Nat.reduceAdd, Nat.reduceSub, Nat.reduceMul, Nat.reduceLeDiff, Nat.reduceLT]
      refine ⟨i + 1, by omega, by omega, ?_⟩
      rw [Nat.min_eq_left (by omega), show i + 1 - k = 0 by omega]
      simp [Wk, sget, killL, kill1, SV.key]
    · have k3 := kB i (by omega) hin
      rw [Nat.min_eq_right (by omega)]
      simp only [Tryd.f11, go_sem, Int.reduceToNat, Int.reduceEq, Int.reduceNe, Int.reduceLT, Int.reduceLE, Int.reduceNeg, Int.reduceAdd, ↓reduceIte, ↓reduceCtorEq, Nat.reduceEqDiff, Nat.reduceAdd, Nat.reduceSub, Nat.reduceMul, Nat.reduceLeDiff, Nat.reduceLT]
      refine qand_i (by first | omega | (simp [V_length, U_length, tab_length, maxLen]; done) | (simp [V_length, U_length, tab_length, maxLen]; omega) | (refine ⟨?_, ?_⟩ <;> first | omega | (simp [V_length, U_length, tab_length, maxLen]; done) | (simp [V_length, U_length, tab_length, maxLen]; omega))) ?_; simp only [Tryd.f11, go_sem, Int.reduceToNat, Int.reduceEq, Int.reduceNe, Int.reduceLT, Int.reduceLE, Int.reduceNeg, Int.reduceAdd, ↓reduceIte, ↓reduceCtorEq, Nat.reduceEqDiff, Nat.reduceAdd, Nat.reduceSub, Nat.reduceMul, Nat.reduceLeDiff, Nat.reduceLT]
      refine qval_i (congrArg (Option.map _) x1) ?_
      simp only [Tryd.f11, go_sem, Int.reduceToNat, Int.reduceEq, Int.reduceNe, Int.reduceLT, Int.reduceLE, Int.reduceNeg, Int.reduceAdd, ↓reduceIte, ↓reduceCtorEq, Nat.reduceEqDiff, Nat.reduceAdd, Nat.reduceSub, Nat.reduceMul, Nat.reduceLeDiff, Nat.reduceLT]
      refine qand_i (by first | omega | (simp [V_length, U_length, tab_length, maxLen]; done) | (simp [V_length, U_length, tab_length, maxLen]; omega) | (refine ⟨?_, ?_⟩ <;> first | omega | (simp [V_length, U_length, tab_length, maxLen]; done) | (simp [V_length, U_length, tab_length, maxLen]; omega))) ?_; simp only [Tryd.f11, go_sem, Int.reduceToNat, Int.reduceEq, Int.reduceNe, Int.reduceLT, Int.reduceLE, Int.reduceNeg, Int.reduceAdd, ↓reduceIte, ↓reduceCtorEq, Nat.reduceEqDiff, Nat.reduceAdd, Nat.reduceSub, Nat.reduceMul, Nat.reduceLeDiff, Nat.reduceLT]
      refine qval_i (congrArg (Option.map _) x2) ?_
      simp only [Tryd.f11, go_sem, Int.reduceToNat, Int.reduceEq, Int.reduceNe, Int.reduceLT, Int.reduceLE, Int.reduceNeg, Int.reduceAdd, ↓reduceIte, ↓reduceCtorEq, Nat.reduceEqDiff, Nat.reduceAdd, Nat.reduceSub, Nat.reduceMul, Nat.reduceLeDiff, Nat.reduceLT]
      refine qinl_i [41] (k3) rfl (by decide) rfl (one_blk rfl) (by intro d h; first | (cases h; decide) | cases h) (by intro h; first | rfl | cases h) ?_; simp only [Tryd.f11, wi, ren, eraO, eraL, List.getD_cons_zero, List.getD_cons_succ, List.filter_cons, List.filter_nil, go_sem, Int.reduceToNat, Int.reduceEq, Int.reduceNe, Int.reduceLT, Int.reduceLE, Int.reduceNeg, Int.reduceAdd, ↓reduceIte, ↓reduceCtorEq, Nat.reduceEqDiff, Nat.reduceAdd, Nat.reduceSub, Nat.reduceMul, Nat.reduceLeDiff, Nat.reduceLT]
      refine ⟨i + 1, by omega, by omega, ?_⟩
      rw [Nat.min_eq_right (by omega)]
      simp [Wk, sget, killL, kill1, SV.key]
  have hin : i = n := by omega
  subst hin
  rw [Nat.min_eq_right hkl, f2]
  simp only [Tryd.f11, go_sem, Int.reduceToNat, Int.reduceEq, Int.reduceNe, Int.reduceLT, Int.reduceLE, Int.reduceNeg, Int.reduceAdd, ↓reduceIte, ↓reduceCtorEq, Nat.reduceEqDiff, Nat.reduceAdd, Nat.reduceSub, Nat.reduceMul, Nat.reduceLeDiff, Nat.reduceLT]
  refine qinl_i [41, 40] (kJ) rfl (by decide) rfl (two_blk ⟨rfl, rfl⟩) (by intro d h; first | (cases h; decide) | cases h) (by intro h; first | rfl | cases h) ?_; simp only [Tryd.f11, ren, eraO, eraL, List.getD_cons_zero, List.getD_cons_succ, List.filter_cons, List.filter_nil, go_sem, Int.reduceToNat, Int.reduceEq, Int.reduceNe, Int.reduceLT, Int.reduceLE, Int.reduceNeg, Int.reduceAdd, ↓reduceIte, ↓reduceCtorEq, Nat.reduceEqDiff, Nat.reduceAdd, Nat.reduceSub, Nat.reduceMul, Nat.reduceLeDiff, Nat.reduceLT]
  refine qinl_i [41] (lD) rfl (by decide) rfl (one_blk rfl) (by intro d h; first | (cases h; decide) | cases h) (by intro h; first | rfl | cases h) ?_; simp only [Tryd.f11, ren, eraO, eraL, List.getD_cons_zero, List.getD_cons_succ, List.filter_cons, List.filter_nil, go_sem, Int.reduceToNat, Int.reduceEq, Int.reduceNe, Int.reduceLT, Int.reduceLE, Int.reduceNeg, Int.reduceAdd, ↓reduceIte, ↓reduceCtorEq, Nat.reduceEqDiff, Nat.reduceAdd, Nat.reduceSub, Nat.reduceMul, Nat.reduceLeDiff, Nat.reduceLT]
  refine qinl_i [40] (lA) rfl (by decide) rfl (one_blk rfl) (by intro d h; first | (cases h; decide) | cases h) (by intro h; first | rfl | cases h) ?_; simp only [Tryd.f11, ren, eraO, eraL, List.getD_cons_zero, List.getD_cons_succ, List.filter_cons, List.filter_nil, go_sem, Int.reduceToNat, Int.reduceEq, Int.reduceNe, Int.reduceLT, Int.reduceLE, Int.reduceNeg, Int.reduceAdd, ↓reduceIte, ↓reduceCtorEq, Nat.reduceEqDiff, Nat.reduceAdd, Nat.reduceSub, Nat.reduceMul, Nat.reduceLeDiff, Nat.reduceLT]
  refine qinl_i [43] (kW) rfl (by decide) rfl (one_blk rfl) (by intro d h; first | (cases h; decide) | cases h) (by intro h; first | rfl | cases h) ?_; simp only [Tryd.f11, ren, eraO, eraL, List.getD_cons_zero, List.getD_cons_succ, List.filter_cons, List.filter_nil, go_sem, Int.reduceToNat, Int.reduceEq, Int.reduceNe, Int.reduceLT, Int.reduceLE, Int.reduceNeg, Int.reduceAdd, ↓reduceIte, ↓reduceCtorEq, Nat.reduceEqDiff, Nat.reduceAdd, Nat.reduceSub, Nat.reduceMul, Nat.reduceLeDiff, Nat.reduceLT]
  refine qinl_i [41] (kW) rfl (by decide) rfl (one_blk rfl) (by intro d h; first | (cases h; decide) | cases h) (by intro h; first | rfl | cases h) ?_; simp only [Tryd.f11, ren, eraO, eraL, List.getD_cons_zero, List.getD_cons_succ, List.filter_cons, List.filter_nil, go_sem, Int.reduceToNat, Int.reduceEq, Int.reduceNe, Int.reduceLT, Int.reduceLE, Int.reduceNeg, Int.reduceAdd, ↓reduceIte, ↓reduceCtorEq, Nat.reduceEqDiff, Nat.reduceAdd, Nat.reduceSub, Nat.reduceMul, Nat.reduceLeDiff, Nat.reduceLT]
  refine qinl_i [42] (kW) rfl (by decide) rfl (one_blk rfl) (by intro d h; first | (cases h; decide) | cases h) (by intro h; first | rfl | cases h) ?_; simp only [Tryd.f11, Bool.and_self, Bool.not_true, Bool.and_true, ren, eraO, eraL, List.getD_cons_zero, List.getD_cons_succ, List.filter_cons, List.filter_nil, go_sem, Int.reduceToNat, Int.reduceEq, Int.reduceNe, Int.reduceLT, Int.reduceLE, Int.reduceNeg, Int.reduceAdd, ↓reduceIte, ↓reduceCtorEq, Nat.reduceEqDiff, Nat.reduceAdd, Nat.reduceSub, Nat.reduceMul, Nat.reduceLeDiff, Nat.reduceLT]
  refine PLoop.intro (fun j : Nat => ⟨[(0, .val (.lst i U1)), (9, .val (.int .i64 D)), (10, .ptr 40 0), (11, .ptr 41 0), (13, .ptr 43 0), (23, .val (.int .i64 j))], [(40, (BA k, false)), (41, (BD i, false)), (43, (BE j, false))]⟩) (fun j => j ≤ i) (fun j => i - j) 0 (Nat.zero_le _) ?_ fun j hj => walk ?_
  · simp [Wk, sget, killL, kill1, SV.key, f5]
  have wj : IntKind.wrap .i64 ((j : Int) + 1) = ((j + 1 : Nat) : Int) := by rw [wrap64 (by omega) (by omega)]; omega
  have w2n : IntKind.wrap .i64 (2 * (i : Int)) = ((i + i : Nat) : Int) := by rw [wrap64 (by omega) (by omega)]; omega
  simp only [Tryd.f11, go_sem, Int.reduceToNat, Int.reduceEq, Int.reduceNe, Int.reduceLT, Int.reduceLE, Int.reduceNeg, Int.reduceAdd, ↓reduceIte, ↓reduceCtorEq, Nat.reduceEqDiff, Nat.reduceAdd, Nat.reduceSub, Nat.reduceMul, Nat.reduceLeDiff, Nat.reduceLT]
  refine qif_d (fun h => ?_) (fun h => ?_)
  · have hin : j < i := by omega
    have k1 := kE j hin
    obtain ⟨x1, x2⟩ := hg j hin
    simp only [Tryd.f11, go_sem, Int.reduceToNat, Int.reduceEq, Int.reduceNe, Int.reduceLT, Int.reduceLE, Int.reduceNeg, Int.reduceAdd, ↓reduceIte, ↓reduceCtorEq, Nat.reduceEqDiff, Nat.reduceAdd, Nat.reduceSub, Nat.reduceMul, Nat.reduceLeDiff, Nat.reduceLT]
    refine qand_i (by first | omega | (simp [V_length, U_length, tab_length, maxLen]; done) | (simp [V_length, U_length, tab_length, maxLen]; omega) | (refine ⟨?_, ?_⟩ <;> first | omega | (simp [V_length, U_length, tab_length, maxLen]; done) | (simp [V_length, U_length, tab_length, maxLen]; omega))) ?_; simp only [Tryd.f11, go_sem, Int.reduceToNat, Int.reduceEq, Int.reduceNe, Int.reduceLT, Int.reduceLE, Int.reduceNeg, Int.reduceAdd, ↓reduceIte, ↓reduceCtorEq, Nat.reduceEqDiff, Nat.reduceAdd, Nat.reduceSub, Nat.reduceMul, Nat.reduceLeDiff, Nat.reduceLT]
    refine qval_i (congrArg (Option.map _) x1) ?_
    simp only [Tryd.f11, go_sem, Int.reduceToNat, Int.reduceEq, Int.reduceNe, Int.reduceLT, Int.reduceLE, Int.reduceNeg, Int.reduceAdd, ↓reduceIte, ↓reduceCtorEq, Nat.reduceEqDiff, Nat.reduceAdd, Nat.reduceSub, Nat.reduceMul, Nat.reduceLeDiff, Nat.reduceLT]
    refine qand_i (by first | omega | (simp [V_length, U_length, tab_length, maxLen]; done) | (simp [V_length, U_length, tab_length, maxLen]; omega) | (refine ⟨?_, ?_⟩ <;> first | omega | (simp [V_length, U_length, tab_length, maxLen]; done) | (simp [V_length, U_length, tab_length, maxLen]; omega))) ?_; simp only [Tryd.f11, go_sem, Int.reduceToNat, Int.reduceEq, Int.reduceNe, Int.reduceLT, Int.reduceLE, Int.reduceNeg, Int.reduceAdd, ↓reduceIte, ↓reduceCtorEq, Nat.reduceEqDiff, Nat.reduceAdd, Nat.reduceSub, Nat.reduceMul, Nat.reduceLeDiff, Nat.reduceLT]
    refine qval_i (congrArg (Option.map _) x2) ?_
    simp only [Tryd.f11, go_sem, Int.reduceToNat, Int.reduceEq, Int.reduceNe, Int.reduceLT, Int.reduceLE, Int.reduceNeg, Int.reduceAdd, ↓reduceIte, ↓reduceCtorEq, Nat.reduceEqDiff, Nat.reduceAdd, Nat.reduceSub, Nat.reduceMul, Nat.reduceLeDiff, Nat.reduceLT]
    refine qinl_i [43] (k1) rfl (by decide) rfl (one_blk rfl) (by intro d h; first | (cases h; decide) | cases h) (by intro h; first | rfl | cases h) ?_; simp only [Tryd.f11, wj, ren, eraO, eraL, List.getD_cons_zero, List.getD_cons_succ, List.filter_cons, List.filter_nil, go_sem, Int.reduceToNat, Int.reduceEq, Int.reduceNe, Int.reduceLT, Int.reduceLE, Int.reduceNeg, Int.reduceAdd, ↓reduceIte, ↓reduceCtorEq, Nat.reduceEqDiff, Nat.reduceAdd, Nat.reduceSub, Nat.reduceMul, Nat.reduceLeDiff, Nat.reduceLT]
    refine ⟨j + 1, by omega, by omega, ?_⟩
    simp [Wk, sget, killL, kill1, SV.key]
  have hjn : j = i := by omega
  subst hjn
  simp only [Tryd.f11, go_sem, Int.reduceToNat, Int.reduceEq, Int.reduceNe, Int.reduceLT, Int.reduceLE, Int.reduceNeg, Int.reduceAdd, ↓reduceIte, ↓reduceCtorEq, Nat.reduceEqDiff, Nat.reduceAdd, Nat.reduceSub, Nat.reduceMul, Nat.reduceLeDiff, Nat.reduceLT]
  refine qinl_i [41] (kJS) rfl (by decide) rfl (one_blk rfl) (by intro d h; first | (cases h; decide) | cases h) (by intro h; first | rfl | cases h) ?_; simp only [Tryd.f11, ren, eraO, eraL, List.getD_cons_zero, List.getD_cons_succ, List.filter_cons, List.filter_nil, go_sem, Int.reduceToNat, Int.reduceEq, Int.reduceNe, Int.reduceLT, Int.reduceLE, Int.reduceNeg, Int.reduceAdd, ↓reduceIte, ↓reduceCtorEq, Nat.reduceEqDiff, Nat.reduceAdd, Nat.reduceSub, Nat.reduceMul, Nat.reduceLeDiff, Nat.reduceLT]
  refine qinl_i [43] (kV) rfl (by decide) rfl (one_blk rfl) (by intro d h; first | (cases h; decide) | cases h) (by intro h; first | rfl | cases h) ?_; simp only [Tryd.f11, ren, eraO, eraL, List.getD_cons_zero, List.getD_cons_succ, List.filter_cons, List.filter_nil, go_sem, Int.reduceToNat, Int.reduceEq, Int.reduceNe, Int.reduceLT, Int.reduceLE, Int.reduceNeg, Int.reduceAdd, ↓reduceIte, ↓reduceCtorEq, Nat.reduceEqDiff, Nat.reduceAdd, Nat.reduceSub, Nat.reduceMul, Nat.reduceLeDiff, Nat.reduceLT]
  refine qinl_i [41] (kV) rfl (by decide) rfl (one_blk rfl) (by intro d h; first | (cases h; decide) | cases h) (by intro h; first | rfl | cases h) ?_; simp only [Tryd.f11, ren, eraO, eraL, List.getD_cons_zero, List.getD_cons_succ, List.filter_cons, List.filter_nil, go_sem, Int.reduceToNat, Int.reduceEq, Int.reduceNe, Int.reduceLT, Int.reduceLE, Int.reduceNeg, Int.reduceAdd, ↓reduceIte, ↓reduceCtorEq, Nat.reduceEqDiff, Nat.reduceAdd, Nat.reduceSub, Nat.reduceMul, Nat.reduceLeDiff, Nat.reduceLT]
  refine qinl_i [] n3 rfl (by decide) rfl (fun i b k hb => by simp at hb) (by intro d h; simp) (by intro h; cases h) ?_
  simp only [Tryd.f11, ren, eraO, eraL, List.getD_cons_zero, List.getD_cons_succ, List.filter_cons, List.filter_nil, Bool.and_self, Bool.and_true, go_sem, Int.reduceToNat, Int.reduceEq, Int.reduceNe, Int.reduceLT, Int.reduceLE, Int.reduceNeg, Int.reduceAdd, ↓reduceIte, ↓reduceCtorEq, Nat.reduceEqDiff, Nat.reduceAdd, Nat.reduceSub, Nat.reduceMul, Nat.reduceLeDiff, Nat.reduceLT]
  refine qinl_i [41] (lE) rfl (by decide) rfl (one_blk rfl) (by intro d h; first | (cases h; decide) | cases h) (by intro h; first | rfl | cases h) ?_; simp only [Tryd.f11, w2n, ren, eraO, eraL, List.getD_cons_zero, List.getD_cons_succ, List.filter_cons, List.filter_nil, go_sem, Int.reduceToNat, Int.reduceEq, Int.reduceNe, Int.reduceLT, Int.reduceLE, Int.reduceNeg, Int.reduceAdd, ↓reduceIte, ↓reduceCtorEq, Nat.reduceEqDiff, Nat.reduceAdd, Nat.reduceSub, Nat.reduceMul, Nat.reduceLeDiff, Nat.reduceLT]
  refine qinl_i [] n4 rfl (by decide) rfl (fun i b k hb => by simp at hb) (by intro d h; simp) (by intro h; cases h) ?_
  simp only [Tryd.f11, ren, eraO, eraL, List.getD_cons_zero, List.getD_cons_succ, List.filter_cons, List.filter_nil, Bool.and_self, Bool.and_true, go_sem, Int.reduceToNat, Int.reduceEq, Int.reduceNe, Int.reduceLT, Int.reduceLE, Int.reduceNeg, Int.reduceAdd, ↓reduceIte, ↓reduceCtorEq, Nat.reduceEqDiff, Nat.reduceAdd, Nat.reduceSub, Nat.reduceMul, Nat.reduceLeDiff, Nat.reduceLT]
  refine qinl_i [] n5 rfl (by decide) rfl (fun i b k hb => by simp at hb) (by intro d h; simp) (by intro h; cases h) ?_
  simp only [Tryd.f11, ren, eraO, eraL, List.getD_cons_zero, List.getD_cons_succ, List.filter_cons, List.filter_nil, Bool.and_self, Bool.and_true, go_sem, Int.reduceToNat, Int.reduceEq, Int.reduceNe, Int.reduceLT, Int.reduceLE, Int.reduceNeg, Int.reduceAdd, ↓reduceIte, ↓reduceCtorEq, Nat.reduceEqDiff, Nat.reduceAdd, Nat.reduceSub, Nat.reduceMul, Nat.reduceLeDiff, Nat.reduceLT]
  refine qinl_i [40] (n1) rfl (by decide) rfl (one_blk rfl) (by intro d h; first | (cases h; decide) | cases h) (by intro h; first | rfl | cases h) ?_; simp only [Tryd.f11, ren, eraO, eraL, List.getD_cons_zero, List.getD_cons_succ, List.filter_cons, List.filter_nil, go_sem, Int.reduceToNat, Int.reduceEq, Int.reduceNe, Int.reduceLT, Int.reduceLE, Int.reduceNeg, Int.reduceAdd, ↓reduceIte, ↓reduceCtorEq, Nat.reduceEqDiff, Nat.reduceAdd, Nat.reduceSub, Nat.reduceMul, Nat.reduceLeDiff, Nat.reduceLT]
  refine qinl_i [40] (n2) rfl (by decide) rfl (one_blk rfl) (by intro d h; first | (cases h; decide) | cases h) (by intro h; first | rfl | cases h) ?_; simp only [Tryd.f11, ren, eraO, eraL, List.getD_cons_zero, List.getD_cons_succ, List.filter_cons, List.filter_nil, go_sem, Int.reduceToNat, Int.reduceEq, Int.reduceNe, Int.reduceLT, Int.reduceLE, Int.reduceNeg, Int.reduceAdd, ↓reduceIte, ↓reduceCtorEq, Nat.reduceEqDiff, Nat.reduceAdd, Nat.reduceSub, Nat.reduceMul, Nat.reduceLeDiff, Nat.reduceLT]
  refine qinl_i [] n6 rfl (by decide) rfl (fun i b k hb => by simp at hb) (by intro d h; simp) (by intro h; cases h) ?_
  simp only [Tryd.f11, ren, eraO, eraL, List.getD_cons_zero, List.getD_cons_succ, List.filter_cons, List.filter_nil, Bool.and_self, Bool.and_true, go_sem, Int.reduceToNat, Int.reduceEq, Int.reduceNe, Int.reduceLT, Int.reduceLE, Int.reduceNeg, Int.reduceAdd, ↓reduceIte, ↓reduceCtorEq, Nat.reduceEqDiff, Nat.reduceAdd, Nat.reduceSub, Nat.reduceMul, Nat.reduceLeDiff, Nat.reduceLT]
  try rfl
end Go.Proofs.YtfogjddcagckaaaDoor
