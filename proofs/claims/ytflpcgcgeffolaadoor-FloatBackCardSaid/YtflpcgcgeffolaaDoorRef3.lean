/- What planimeterref01's Sub, Of, Shl, Bits, Bit and Shr hand back. -/
import Derived.Test.YtflpcgcgeffolaaDoorRef2
open Go PG Go.Proofs
set_option maxRecDepth 100000
set_option linter.unusedSimpArgs false
set_option linter.unusedVariables false
namespace Go.Proofs.YtflpcgcgeffolaaDoor
attribute [local go_sem] Lay2 Lay3 Lay4 Lay5 Lay6 Lay7 Lay8 Lay9 Lay10 Lay11 Lay12 Lay13 Lay14 Lay21 Lay22 Lay24 Lay25 Lay26 Lay27 Lay36 Lay37 Lay38 Lay39 Lay40 Lay41 Lay43 Lay46 Lay47 Lay66 Lay103 Lay105 Lay159 Lay164 Lay165 Lay166 Lay168 Lay169 Lay172 Lay173 qexec_seq qexec_skip qexec_exit qexec_ret qexec_block qexec_loop qexec_range qexec_cond qexec_region qops_nil qops_none qops_some put_some put_none pblk_exit pblk_other newDsts_nil sget_cons qval_some qbool_some qgs_bool qgs_und qfree_some qgrd_true qgrd_false qif_true qif_false qval_ite qval_itn qand_true map_ite map_some' map_none' qdo_move qdo_assign qdo_binOp qdo_pick qdo_unOp qdo_convert qdo_extract qdo_field qdo_fieldAddr qdo_alloc qdo_box qdo_build qdo_buildSlice qdo_load qdo_store qdo_nilCheck qdo_makeFunc qdo_makeSlice qdo_slice qdo_indexAddr qdo_call qcont_val qcont_new qcont_st qcont_app0 qcont_app qcont_inl qcont_call njSV_val njSV_nil njSV_row njSV_ptr njSV_sub binV_val binV_nil binV_nn nilCmp bin_add bin_sub bin_mul bin_quo bin_rem bin_and bin_or bin_xor bin_andNot bin_eql bin_neq bin_lss bin_leq bin_gtr bin_geq bin_shl bin_shr bin_seql bin_sneq bin_sadd bin_beql bin_aeql bin_aneq eqAnd_some eqCells_nil eqCells_cons fieldTypes isStruct eqCell bin_bneq un_not un_neg nj_ite Nat.beq stepA stepR isNew opSV constSV RV.sv allSome E_mu Bool.or_false Bool.false_or Bool.or_true Bool.true_or cst setB res resSV pstart startL killL kill1 eraL frzL svPV rvPV rvInt rvSlice frzOf close closeL pconv pbuiltin pmax2 partPV setCells fillPV zrow bound newSV PV.cells Bk.cells Bk.with SV.key pres presL_nil presL_tmp presL_cell presC2_some cellPV_ptr presC List.toList_toArray List.size_toArray List.getElem?_drop Nat.mul_one Int.toNat_natCast Nat.not_lt_zero Nat.lt_irrefl decide_true decide_false Nat.not_lt Option.some.injEq PV.lst.injEq PV.int.injEq PV.bool.injEq PV.tuple.injEq List.cons.injEq Option.map_some Option.map_none Option.bind_some Option.toList List.map_cons List.map_nil List.nil_append List.cons_append List.append_nil List.zip_cons_cons List.zip_nil_left List.zip_nil_right List.getElem?_cons_zero List.getElem?_cons_succ List.drop_zero List.drop_succ_cons List.take_succ_cons List.take_zero List.set_cons_zero List.set_cons_succ List.length_cons List.length_nil List.length_set List.replicate_one List.replicate_zero bne_self_eq_false beq_self_eq_true Nat.zero_add Nat.add_zero Nat.zero_mul Bool.false_eq_true Bool.true_eq_false Bool.not_true Bool.not_false and_true true_and false_and and_false or_false false_or or_true true_or not_true_eq_false not_false_eq_true ne_eq gt_iff_lt List.mem_cons List.not_mem_nil
attribute [local go_sem ↓] pseq_normal pseq_ret pseq_exit pblk_normal pblk_ret newDsts_cons gdst_zero gdst_succ retQ_normal retQ_ret retM_normal retM_ret endR_normal endR_ret endR_exit

theorem mix_get (x z i : Nat) (h : i < (dg B x).length) : (V (tab B z i ++ (dg B x).drop i))[i]? = some (e32 (x / B ^ i % B)) := by
  rw [V_get, List.getElem?_append_right (by simp [tab_length]), tab_length, Nat.sub_self, List.getElem?_drop, Nat.add_zero, ← V_get, vn_at h]

theorem mix_set {l : List Nat} {z i v : Nat} (h : i < l.length) (hv : v = z / B ^ i % B) : (V (tab B z i ++ l.drop i)).set i (e32 v) = V (tab B z (i + 1) ++ l.drop (i + 1)) := by
  subst hv
  rw [V_set, List.set_append_right _ _ (by simp [tab_length]), tab_length, Nat.sub_self, List.drop_eq_getElem_cons h, List.set_cons_zero, tab_succ]
  simp

theorem c_rSub (x y : Nat) (hyx : y ≤ x) (hx : (dg B x).length ≤ 4194304) : PC E 138 [VN x, VN y] (VN (x - y)) := by
  refine PC.of_body follows Tryd.func138 (by decide +kernel) rfl (by kernel_rfl) (Nat.le_of_ble_eq_true rfl) (walk ?_)
  have hny : (dg B y).length ≤ (dg B x).length := by
    rw [dg_length_le B2]
    exact Nat.lt_of_le_of_lt hyx (lt_of_dg (by omega))
  have hxn : x < B ^ (dg B x).length := lt_of_dg (by omega)
  simp only [VN, VL]
  simp only [Tryd.f138, go_sem, Int.reduceToNat, Int.reduceEq, Int.reduceNe, Int.reduceLT, Int.reduceLE, Int.reduceNeg, Int.reduceAdd, ↓reduceIte, ↓reduceCtorEq, Nat.reduceEqDiff, Nat.reduceAdd, Nat.reduceSub, Nat.reduceMul, Nat.reduceLeDiff, Nat.reduceLT]
  refine qand_i (by first | omega | (simp [V_length, U_length, tab_length, maxLen]; done) | (simp [V_length, U_length, tab_length, maxLen]; omega) | (refine ⟨?_, ?_⟩ <;> first | omega | (simp [V_length, U_length, tab_length, maxLen]; done) | (simp [V_length, U_length, tab_length, maxLen]; omega))) ?_; simp only [Tryd.f138, go_sem, Int.reduceToNat, Int.reduceEq, Int.reduceNe, Int.reduceLT, Int.reduceLE, Int.reduceNeg, Int.reduceAdd, ↓reduceIte, ↓reduceCtorEq, Nat.reduceEqDiff, Nat.reduceAdd, Nat.reduceSub, Nat.reduceMul, Nat.reduceLeDiff, Nat.reduceLT]
  refine qand_i (by first | omega | (simp [V_length, U_length, tab_length, maxLen]; done) | (simp [V_length, U_length, tab_length, maxLen]; omega) | (refine ⟨?_, ?_⟩ <;> first | omega | (simp [V_length, U_length, tab_length, maxLen]; done) | (simp [V_length, U_length, tab_length, maxLen]; omega))) ?_; simp only [Tryd.f138, go_sem, Int.reduceToNat, Int.reduceEq, Int.reduceNe, Int.reduceLT, Int.reduceLE, Int.reduceNeg, Int.reduceAdd, ↓reduceIte, ↓reduceCtorEq, Nat.reduceEqDiff, Nat.reduceAdd, Nat.reduceSub, Nat.reduceMul, Nat.reduceLeDiff, Nat.reduceLT]
  generalize hn : (dg B x).length = n at *
  refine PLoop.intro (fun i : Nat => ⟨[(1, .val (VL (dg B y))), (5, .row 11), (6, .val (e32 (borrow x y (B ^ i)))), (7, .val (.int .i64 i))], [(11, (.row 105 1 n (V (tab B (x - y) i ++ (dg B x).drop i)), false))]⟩) (fun i => i ≤ n) (fun i => n - i) 0 (by omega) ?_ fun i hi => walk ?_
  · simp [Wk, sget, killL, kill1, SV.key, NL, VL, u, e32, tab, V, borrow_one]
  have hB : (B : Nat) = 65536 := rfl
  have hbl := borrow_le x y (B ^ i)
  have hdig := borrow_digit (A := x) (B := y) (W := B) (vn_pow i) hyx B0
  have hnext := borrow_next (A := x) (B := y) (W := B) (vn_pow i)
  rw [← Nat.pow_succ] at hnext
  have hdl : x / B ^ i % B < B := Nat.mod_lt _ B0
  have hel : y / B ^ i % B < B := Nat.mod_lt _ B0
  have hwi : IntKind.wrap .i64 ((i : Int) + 1) = ((i + 1 : Nat) : Int) := by rw [wrap64 (by omega) (by omega)]; omega
  have hdx : i < n → (V (tab B (x - y) i ++ (dg B x).drop i))[i]? = some (e32 (x / B ^ i % B)) := fun h => mix_get x (x - y) i (by omega)
  have hdy : i < (dg B y).length → (V (dg B y))[i]? = some (e32 (y / B ^ i % B)) := fun h => vn_at h
  have he0 : ¬ i < (dg B y).length → y / B ^ i % B = 0 := fun h => dig_zero h
  have hset : ∀ v, i < n → v = (x - y) / B ^ i % B → (V (tab B (x - y) i ++ (dg B x).drop i)).set i (.int .u32 (v : Nat)) = V (tab B (x - y) (i + 1) ++ (dg B x).drop (i + 1)) := fun v h hv => mix_set (by omega) hv
  have hset2 : ∀ v p, i < n → v = (x - y) / B ^ i % B → ((V (tab B (x - y) i ++ (dg B x).drop i)).set i p).set i (.int .u32 (v : Nat)) = V (tab B (x - y) (i + 1) ++ (dg B x).drop (i + 1)) := fun v p h hv => by
    rw [List.set_set]; exact hset v h hv
  have hlen : i < n → (V (tab B (x - y) i ++ (dg B x).drop i)).length = n := fun h => by simp [V_length, tab_length, hn]; omega
  generalize hc : borrow x y (B ^ i) = c at *
  generalize hd : x / B ^ i % B = d at *
  generalize he : y / B ^ i % B = e at *
  have e1 : IntKind.wrap .u32 ((c : Int) + (e : Int)) = ((e + c : Nat) : Int) := by rw [show (c : Int) + (e : Int) = ((e + c : Nat) : Int) by omega]; exact wrap32 (by omega)
  have fin1 : i < n → d < e + c → ∃ v : Nat, v = (x - y) / B ^ i % B ∧ IntKind.wrap .u32 (((d + 65536 : Nat) : Int) - ((e + c : Nat) : Int)) = (v : Int) := fun h hlt => by
    refine ⟨d + 65536 - (e + c), ?_, by rw [show ((d + 65536 : Nat) : Int) - ((e + c : Nat) : Int) = ((d + 65536 - (e + c) : Nat) : Int) by omega]; exact wrap32 (by omega)⟩
    rw [← hdig, show d + B + B - e - c = (d + 65536 - (e + c)) + B by omega, Nat.add_mod_right, Nat.mod_eq_of_lt (by omega)]
  have fin2 : i < n → ¬ d < e + c → ∃ v : Nat, v = (x - y) / B ^ i % B ∧ IntKind.wrap .u32 ((d : Int) - ((e + c : Nat) : Int)) = (v : Int) := fun h hlt => by
    refine ⟨d - (e + c), ?_, by rw [show (d : Int) - ((e + c : Nat) : Int) = ((d - (e + c) : Nat) : Int) by omega]; exact wrap32 (by omega)⟩
    rw [← hdig, show d + B + B - e - c = (d - (e + c)) + B + B by omega, Nat.add_mod_right, Nat.add_mod_right, Nat.mod_eq_of_lt (by omega)]
  have e3 : IntKind.wrap .u32 ((d : Int) + 65536) = ((d + 65536 : Nat) : Int) := by rw [show (d : Int) + 65536 = ((d + 65536 : Nat) : Int) by omega]; exact wrap32 (by omega)
  simp only [e32, VL]
  simp only [Tryd.f138, go_sem, Int.reduceToNat, Int.reduceEq, Int.reduceNe, Int.reduceLT, Int.reduceLE, Int.reduceNeg, Int.reduceAdd, ↓reduceIte, ↓reduceCtorEq, Nat.reduceEqDiff, Nat.reduceAdd, Nat.reduceSub, Nat.reduceMul, Nat.reduceLeDiff, Nat.reduceLT]
  refine qif_d (fun h => ?_) (fun h => ?_)
  · have hin : i < n := by omega
    have hxx := hdx hin
    have hlen := hlen hin
    have hgs : ∀ q, ((V (tab B (x - y) i ++ (dg B x).drop i)).set i q)[i]? = some q := fun q => by rw [List.getElem?_set_self (by rw [hlen]; exact hin)]
    simp only [Tryd.f138, go_sem, Int.reduceToNat, Int.reduceEq, Int.reduceNe, Int.reduceLT, Int.reduceLE, Int.reduceNeg, Int.reduceAdd, ↓reduceIte, ↓reduceCtorEq, Nat.reduceEqDiff, Nat.reduceAdd, Nat.reduceSub, Nat.reduceMul, Nat.reduceLeDiff, Nat.reduceLT]
    refine qif_d (fun h' => ?_) (fun h' => ?_)
    · have hyy := hdy (by omega)
      simp only [Tryd.f138, go_sem, Int.reduceToNat, Int.reduceEq, Int.reduceNe, Int.reduceLT, Int.reduceLE, Int.reduceNeg, Int.reduceAdd, ↓reduceIte, ↓reduceCtorEq, Nat.reduceEqDiff, Nat.reduceAdd, Nat.reduceSub, Nat.reduceMul, Nat.reduceLeDiff, Nat.reduceLT]
      refine qand_i (by first | omega | (simp [V_length, U_length, tab_length, maxLen]; done) | (simp [V_length, U_length, tab_length, maxLen]; omega) | (refine ⟨?_, ?_⟩ <;> first | omega | (simp [V_length, U_length, tab_length, maxLen]; done) | (simp [V_length, U_length, tab_length, maxLen]; omega))) ?_; simp only [Tryd.f138, go_sem, Int.reduceToNat, Int.reduceEq, Int.reduceNe, Int.reduceLT, Int.reduceLE, Int.reduceNeg, Int.reduceAdd, ↓reduceIte, ↓reduceCtorEq, Nat.reduceEqDiff, Nat.reduceAdd, Nat.reduceSub, Nat.reduceMul, Nat.reduceLeDiff, Nat.reduceLT]
      refine qval_i (congrArg (Option.map _) hyy) ?_
      simp only [Tryd.f138, e32, e1, go_sem, Int.reduceToNat, Int.reduceEq, Int.reduceNe, Int.reduceLT, Int.reduceLE, Int.reduceNeg, Int.reduceAdd, ↓reduceIte, ↓reduceCtorEq, Nat.reduceEqDiff, Nat.reduceAdd, Nat.reduceSub, Nat.reduceMul, Nat.reduceLeDiff, Nat.reduceLT]
      refine qand_i (by first | omega | (simp [V_length, U_length, tab_length, maxLen]; done) | (simp [V_length, U_length, tab_length, maxLen]; omega) | (refine ⟨?_, ?_⟩ <;> first | omega | (simp [V_length, U_length, tab_length, maxLen]; done) | (simp [V_length, U_length, tab_length, maxLen]; omega))) ?_; simp only [Tryd.f138, go_sem, Int.reduceToNat, Int.reduceEq, Int.reduceNe, Int.reduceLT, Int.reduceLE, Int.reduceNeg, Int.reduceAdd, ↓reduceIte, ↓reduceCtorEq, Nat.reduceEqDiff, Nat.reduceAdd, Nat.reduceSub, Nat.reduceMul, Nat.reduceLeDiff, Nat.reduceLT]
      refine qval_i (congrArg (Option.map _) hxx) ?_
      simp only [Tryd.f138, e32, e1, go_sem, Int.reduceToNat, Int.reduceEq, Int.reduceNe, Int.reduceLT, Int.reduceLE, Int.reduceNeg, Int.reduceAdd, ↓reduceIte, ↓reduceCtorEq, Nat.reduceEqDiff, Nat.reduceAdd, Nat.reduceSub, Nat.reduceMul, Nat.reduceLeDiff, Nat.reduceLT]
      refine qif_d (fun h2 => ?_) (fun h2 => ?_)
      · obtain ⟨v, hv, e4⟩ := fin1 hin (by omega)
        rw [if_pos (by omega)] at hnext
        simp only [Tryd.f138, go_sem, Int.reduceToNat, Int.reduceEq, Int.reduceNe, Int.reduceLT, Int.reduceLE, Int.reduceNeg, Int.reduceAdd, ↓reduceIte, ↓reduceCtorEq, Nat.reduceEqDiff, Nat.reduceAdd, Nat.reduceSub, Nat.reduceMul, Nat.reduceLeDiff, Nat.reduceLT]
        refine qand_i (by first | omega | (simp [V_length, U_length, tab_length, maxLen]; done) | (simp [V_length, U_length, tab_length, maxLen]; omega) | (refine ⟨?_, ?_⟩ <;> first | omega | (simp [V_length, U_length, tab_length, maxLen]; done) | (simp [V_length, U_length, tab_length, maxLen]; omega))) ?_; simp only [Tryd.f138, go_sem, Int.reduceToNat, Int.reduceEq, Int.reduceNe, Int.reduceLT, Int.reduceLE, Int.reduceNeg, Int.reduceAdd, ↓reduceIte, ↓reduceCtorEq, Nat.reduceEqDiff, Nat.reduceAdd, Nat.reduceSub, Nat.reduceMul, Nat.reduceLeDiff, Nat.reduceLT]
        refine qval_i (congrArg (Option.map _) hxx) ?_
        simp only [Tryd.f138, e32, e3, go_sem, Int.reduceToNat, Int.reduceEq, Int.reduceNe, Int.reduceLT, Int.reduceLE, Int.reduceNeg, Int.reduceAdd, ↓reduceIte, ↓reduceCtorEq, Nat.reduceEqDiff, Nat.reduceAdd, Nat.reduceSub, Nat.reduceMul, Nat.reduceLeDiff, Nat.reduceLT]
        refine qand_i (by first | omega | (simp [V_length, U_length, tab_length, maxLen]; done) | (simp [V_length, U_length, tab_length, maxLen]; omega) | (refine ⟨?_, ?_⟩ <;> first | omega | (simp [V_length, U_length, tab_length, maxLen]; done) | (simp [V_length, U_length, tab_length, maxLen]; omega))) ?_; simp only [Tryd.f138, go_sem, Int.reduceToNat, Int.reduceEq, Int.reduceNe, Int.reduceLT, Int.reduceLE, Int.reduceNeg, Int.reduceAdd, ↓reduceIte, ↓reduceCtorEq, Nat.reduceEqDiff, Nat.reduceAdd, Nat.reduceSub, Nat.reduceMul, Nat.reduceLeDiff, Nat.reduceLT]
        refine qand_i (by first | omega | (rw [hlen]; omega)) ?_
        simp only [Tryd.f138, hlen, go_sem, Int.reduceToNat, Int.reduceEq, Int.reduceNe, Int.reduceLT, Int.reduceLE, Int.reduceNeg, Int.reduceAdd, ↓reduceIte, ↓reduceCtorEq, Nat.reduceEqDiff, Nat.reduceAdd, Nat.reduceSub, Nat.reduceMul, Nat.reduceLeDiff, Nat.reduceLT]
        refine qand_i (by first | omega | (simp [V_length, U_length, tab_length, maxLen]; done) | (simp [V_length, U_length, tab_length, maxLen]; omega) | (refine ⟨?_, ?_⟩ <;> first | omega | (simp [V_length, U_length, tab_length, maxLen]; done) | (simp [V_length, U_length, tab_length, maxLen]; omega))) ?_; simp only [Tryd.f138, hlen, go_sem, Int.reduceToNat, Int.reduceEq, Int.reduceNe, Int.reduceLT, Int.reduceLE, Int.reduceNeg, Int.reduceAdd, ↓reduceIte, ↓reduceCtorEq, Nat.reduceEqDiff, Nat.reduceAdd, Nat.reduceSub, Nat.reduceMul, Nat.reduceLeDiff, Nat.reduceLT]
        refine qval_i (congrArg (Option.map _) (hgs _)) ?_
        simp only [Tryd.f138, e32, e4, go_sem, Int.reduceToNat, Int.reduceEq, Int.reduceNe, Int.reduceLT, Int.reduceLE, Int.reduceNeg, Int.reduceAdd, ↓reduceIte, ↓reduceCtorEq, Nat.reduceEqDiff, Nat.reduceAdd, Nat.reduceSub, Nat.reduceMul, Nat.reduceLeDiff, Nat.reduceLT]
        refine qand_i (by first | omega | (simp [V_length, U_length, tab_length, maxLen]; done) | (simp [V_length, U_length, tab_length, maxLen]; omega) | (refine ⟨?_, ?_⟩ <;> first | omega | (simp [V_length, U_length, tab_length, maxLen]; done) | (simp [V_length, U_length, tab_length, maxLen]; omega))) ?_; simp only [Tryd.f138, hlen, go_sem, Int.reduceToNat, Int.reduceEq, Int.reduceNe, Int.reduceLT, Int.reduceLE, Int.reduceNeg, Int.reduceAdd, ↓reduceIte, ↓reduceCtorEq, Nat.reduceEqDiff, Nat.reduceAdd, Nat.reduceSub, Nat.reduceMul, Nat.reduceLeDiff, Nat.reduceLT]
        refine qand_i (by first | omega | (rw [hlen]; omega)) ?_
        simp only [Tryd.f138, hwi, go_sem, Int.reduceToNat, Int.reduceEq, Int.reduceNe, Int.reduceLT, Int.reduceLE, Int.reduceNeg, Int.reduceAdd, ↓reduceIte, ↓reduceCtorEq, Nat.reduceEqDiff, Nat.reduceAdd, Nat.reduceSub, Nat.reduceMul, Nat.reduceLeDiff, Nat.reduceLT]
        refine ⟨i + 1, by omega, by omega, ?_⟩
        rw [hset2 v _ hin hv]
        simp [Wk, sget, killL, kill1, SV.key, NL, VL, u, e32, hnext]
      · obtain ⟨v, hv, e4⟩ := fin2 hin (by omega)
        rw [if_neg (by omega)] at hnext
        simp only [Tryd.f138, go_sem, Int.reduceToNat, Int.reduceEq, Int.reduceNe, Int.reduceLT, Int.reduceLE, Int.reduceNeg, Int.reduceAdd, ↓reduceIte, ↓reduceCtorEq, Nat.reduceEqDiff, Nat.reduceAdd, Nat.reduceSub, Nat.reduceMul, Nat.reduceLeDiff, Nat.reduceLT]
        refine qand_i (by first | omega | (simp [V_length, U_length, tab_length, maxLen]; done) | (simp [V_length, U_length, tab_length, maxLen]; omega) | (refine ⟨?_, ?_⟩ <;> first | omega | (simp [V_length, U_length, tab_length, maxLen]; done) | (simp [V_length, U_length, tab_length, maxLen]; omega))) ?_; simp only [Tryd.f138, go_sem, Int.reduceToNat, Int.reduceEq, Int.reduceNe, Int.reduceLT, Int.reduceLE, Int.reduceNeg, Int.reduceAdd, ↓reduceIte, ↓reduceCtorEq, Nat.reduceEqDiff, Nat.reduceAdd, Nat.reduceSub, Nat.reduceMul, Nat.reduceLeDiff, Nat.reduceLT]
        refine qval_i (congrArg (Option.map _) hxx) ?_
        simp only [Tryd.f138, e32, e4, go_sem, Int.reduceToNat, Int.reduceEq, Int.reduceNe, Int.reduceLT, Int.reduceLE, Int.reduceNeg, Int.reduceAdd, ↓reduceIte, ↓reduceCtorEq, Nat.reduceEqDiff, Nat.reduceAdd, Nat.reduceSub, Nat.reduceMul, Nat.reduceLeDiff, Nat.reduceLT]
        refine qand_i (by first | omega | (simp [V_length, U_length, tab_length, maxLen]; done) | (simp [V_length, U_length, tab_length, maxLen]; omega) | (refine ⟨?_, ?_⟩ <;> first | omega | (simp [V_length, U_length, tab_length, maxLen]; done) | (simp [V_length, U_length, tab_length, maxLen]; omega))) ?_; simp only [Tryd.f138, go_sem, Int.reduceToNat, Int.reduceEq, Int.reduceNe, Int.reduceLT, Int.reduceLE, Int.reduceNeg, Int.reduceAdd, ↓reduceIte, ↓reduceCtorEq, Nat.reduceEqDiff, Nat.reduceAdd, Nat.reduceSub, Nat.reduceMul, Nat.reduceLeDiff, Nat.reduceLT]
        refine qand_i (by first | omega | (rw [hlen]; omega)) ?_
        simp only [Tryd.f138, hwi, go_sem, Int.reduceToNat, Int.reduceEq, Int.reduceNe, Int.reduceLT, Int.reduceLE, Int.reduceNeg, Int.reduceAdd, ↓reduceIte, ↓reduceCtorEq, Nat.reduceEqDiff, Nat.reduceAdd, Nat.reduceSub, Nat.reduceMul, Nat.reduceLeDiff, Nat.reduceLT]
        refine ⟨i + 1, by omega, by omega, ?_⟩
        rw [hset v hin hv]
        simp [Wk, sget, killL, kill1, SV.key, NL, VL, u, e32, hnext]
    · have e0 := he0 (by omega)
      subst e0
      simp only [Nat.zero_add] at fin1 fin2 hnext
      simp only [Tryd.f138, go_sem, Int.reduceToNat, Int.reduceEq, Int.reduceNe, Int.reduceLT, Int.reduceLE, Int.reduceNeg, Int.reduceAdd, ↓reduceIte, ↓reduceCtorEq, Nat.reduceEqDiff, Nat.reduceAdd, Nat.reduceSub, Nat.reduceMul, Nat.reduceLeDiff, Nat.reduceLT]
      refine qand_i (by first | omega | (simp [V_length, U_length, tab_length, maxLen]; done) | (simp [V_length, U_length, tab_length, maxLen]; omega) | (refine ⟨?_, ?_⟩ <;> first | omega | (simp [V_length, U_length, tab_length, maxLen]; done) | (simp [V_length, U_length, tab_length, maxLen]; omega))) ?_; simp only [Tryd.f138, go_sem, Int.reduceToNat, Int.reduceEq, Int.reduceNe, Int.reduceLT, Int.reduceLE, Int.reduceNeg, Int.reduceAdd, ↓reduceIte, ↓reduceCtorEq, Nat.reduceEqDiff, Nat.reduceAdd, Nat.reduceSub, Nat.reduceMul, Nat.reduceLeDiff, Nat.reduceLT]
      refine qval_i (congrArg (Option.map _) hxx) ?_
      simp only [Tryd.f138, e32, go_sem, Int.reduceToNat, Int.reduceEq, Int.reduceNe, Int.reduceLT, Int.reduceLE, Int.reduceNeg, Int.reduceAdd, ↓reduceIte, ↓reduceCtorEq, Nat.reduceEqDiff, Nat.reduceAdd, Nat.reduceSub, Nat.reduceMul, Nat.reduceLeDiff, Nat.reduceLT]
      refine qif_d (fun h2 => ?_) (fun h2 => ?_)
      · obtain ⟨v, hv, e4⟩ := fin1 hin (by omega)
        rw [if_pos (by omega)] at hnext
        simp only [Tryd.f138, go_sem, Int.reduceToNat, Int.reduceEq, Int.reduceNe, Int.reduceLT, Int.reduceLE, Int.reduceNeg, Int.reduceAdd, ↓reduceIte, ↓reduceCtorEq, Nat.reduceEqDiff, Nat.reduceAdd, Nat.reduceSub, Nat.reduceMul, Nat.reduceLeDiff, Nat.reduceLT]
        refine qand_i (by first | omega | (simp [V_length, U_length, tab_length, maxLen]; done) | (simp [V_length, U_length, tab_length, maxLen]; omega) | (refine ⟨?_, ?_⟩ <;> first | omega | (simp [V_length, U_length, tab_length, maxLen]; done) | (simp [V_length, U_length, tab_length, maxLen]; omega))) ?_; simp only [Tryd.f138, go_sem, Int.reduceToNat, Int.reduceEq, Int.reduceNe, Int.reduceLT, Int.reduceLE, Int.reduceNeg, Int.reduceAdd, ↓reduceIte, ↓reduceCtorEq, Nat.reduceEqDiff, Nat.reduceAdd, Nat.reduceSub, Nat.reduceMul, Nat.reduceLeDiff, Nat.reduceLT]
        refine qval_i (congrArg (Option.map _) hxx) ?_
        simp only [Tryd.f138, e32, e3, go_sem, Int.reduceToNat, Int.reduceEq, Int.reduceNe, Int.reduceLT, Int.reduceLE, Int.reduceNeg, Int.reduceAdd, ↓reduceIte, ↓reduceCtorEq, Nat.reduceEqDiff, Nat.reduceAdd, Nat.reduceSub, Nat.reduceMul, Nat.reduceLeDiff, Nat.reduceLT]
        refine qand_i (by first | omega | (simp [V_length, U_length, tab_length, maxLen]; done) | (simp [V_length, U_length, tab_length, maxLen]; omega) | (refine ⟨?_, ?_⟩ <;> first | omega | (simp [V_length, U_length, tab_length, maxLen]; done) | (simp [V_length, U_length, tab_length, maxLen]; omega))) ?_; simp only [Tryd.f138, go_sem, Int.reduceToNat, Int.reduceEq, Int.reduceNe, Int.reduceLT, Int.reduceLE, Int.reduceNeg, Int.reduceAdd, ↓reduceIte, ↓reduceCtorEq, Nat.reduceEqDiff, Nat.reduceAdd, Nat.reduceSub, Nat.reduceMul, Nat.reduceLeDiff, Nat.reduceLT]
        refine qand_i (by first | omega | (rw [hlen]; omega)) ?_
        simp only [Tryd.f138, hlen, go_sem, Int.reduceToNat, Int.reduceEq, Int.reduceNe, Int.reduceLT, Int.reduceLE, Int.reduceNeg, Int.reduceAdd, ↓reduceIte, ↓reduceCtorEq, Nat.reduceEqDiff, Nat.reduceAdd, Nat.reduceSub, Nat.reduceMul, Nat.reduceLeDiff, Nat.reduceLT]
        refine qand_i (by first | omega | (simp [V_length, U_length, tab_length, maxLen]; done) | (simp [V_length, U_length, tab_length, maxLen]; omega) | (refine ⟨?_, ?_⟩ <;> first | omega | (simp [V_length, U_length, tab_length, maxLen]; done) | (simp [V_length, U_length, tab_length, maxLen]; omega))) ?_; simp only [Tryd.f138, hlen, go_sem, Int.reduceToNat, Int.reduceEq, Int.reduceNe, Int.reduceLT, Int.reduceLE, Int.reduceNeg, Int.reduceAdd, ↓reduceIte, ↓reduceCtorEq, Nat.reduceEqDiff, Nat.reduceAdd, Nat.reduceSub, Nat.reduceMul, Nat.reduceLeDiff, Nat.reduceLT]
        refine qval_i (congrArg (Option.map _) (hgs _)) ?_
        simp only [Tryd.f138, e32, e4, go_sem, Int.reduceToNat, Int.reduceEq, Int.reduceNe, Int.reduceLT, Int.reduceLE, Int.reduceNeg, Int.reduceAdd, ↓reduceIte, ↓reduceCtorEq, Nat.reduceEqDiff, Nat.reduceAdd, Nat.reduceSub, Nat.reduceMul, Nat.reduceLeDiff, Nat.reduceLT]
        refine qand_i (by first | omega | (simp [V_length, U_length, tab_length, maxLen]; done) | (simp [V_length, U_length, tab_length, maxLen]; omega) | (refine ⟨?_, ?_⟩ <;> first | omega | (simp [V_length, U_length, tab_length, maxLen]; done) | (simp [V_length, U_length, tab_length, maxLen]; omega))) ?_; simp only [Tryd.f138, hlen, go_sem, Int.reduceToNat, Int.reduceEq, Int.reduceNe, Int.reduceLT, Int.reduceLE, Int.reduceNeg, Int.reduceAdd, ↓reduceIte, ↓reduceCtorEq, Nat.reduceEqDiff, Nat.reduceAdd, Nat.reduceSub, Nat.reduceMul, Nat.reduceLeDiff, Nat.reduceLT]
        refine qand_i (by first | omega | (rw [hlen]; omega)) ?_
        simp only [Tryd.f138, hwi, go_sem, Int.reduceToNat, Int.reduceEq, Int.reduceNe, Int.reduceLT, Int.reduceLE, Int.reduceNeg, Int.reduceAdd, ↓reduceIte, ↓reduceCtorEq, Nat.reduceEqDiff, Nat.reduceAdd, Nat.reduceSub, Nat.reduceMul, Nat.reduceLeDiff, Nat.reduceLT]
        refine ⟨i + 1, by omega, by omega, ?_⟩
        rw [hset2 v _ hin hv]
        simp [Wk, sget, killL, kill1, SV.key, NL, VL, u, e32, hnext]
      · obtain ⟨v, hv, e4⟩ := fin2 hin (by omega)
        rw [if_neg (by omega)] at hnext
        simp only [Tryd.f138, go_sem, Int.reduceToNat, Int.reduceEq, Int.reduceNe, Int.reduceLT, Int.reduceLE, Int.reduceNeg, Int.reduceAdd, ↓reduceIte, ↓reduceCtorEq, Nat.reduceEqDiff, Nat.reduceAdd, Nat.reduceSub, Nat.reduceMul, Nat.reduceLeDiff, Nat.reduceLT]
        refine qand_i (by first | omega | (simp [V_length, U_length, tab_length, maxLen]; done) | (simp [V_length, U_length, tab_length, maxLen]; omega) | (refine ⟨?_, ?_⟩ <;> first | omega | (simp [V_length, U_length, tab_length, maxLen]; done) | (simp [V_length, U_length, tab_length, maxLen]; omega))) ?_; simp only [Tryd.f138, go_sem, Int.reduceToNat, Int.reduceEq, Int.reduceNe, Int.reduceLT, Int.reduceLE, Int.reduceNeg, Int.reduceAdd, ↓reduceIte, ↓reduceCtorEq, Nat.reduceEqDiff, Nat.reduceAdd, Nat.reduceSub, Nat.reduceMul, Nat.reduceLeDiff, Nat.reduceLT]
        refine qval_i (congrArg (Option.map _) hxx) ?_
        simp only [Tryd.f138, e32, e4, go_sem, Int.reduceToNat, Int.reduceEq, Int.reduceNe, Int.reduceLT, Int.reduceLE, Int.reduceNeg, Int.reduceAdd, ↓reduceIte, ↓reduceCtorEq, Nat.reduceEqDiff, Nat.reduceAdd, Nat.reduceSub, Nat.reduceMul, Nat.reduceLeDiff, Nat.reduceLT]
        refine qand_i (by first | omega | (simp [V_length, U_length, tab_length, maxLen]; done) | (simp [V_length, U_length, tab_length, maxLen]; omega) | (refine ⟨?_, ?_⟩ <;> first | omega | (simp [V_length, U_length, tab_length, maxLen]; done) | (simp [V_length, U_length, tab_length, maxLen]; omega))) ?_; simp only [Tryd.f138, go_sem, Int.reduceToNat, Int.reduceEq, Int.reduceNe, Int.reduceLT, Int.reduceLE, Int.reduceNeg, Int.reduceAdd, ↓reduceIte, ↓reduceCtorEq, Nat.reduceEqDiff, Nat.reduceAdd, Nat.reduceSub, Nat.reduceMul, Nat.reduceLeDiff, Nat.reduceLT]
        refine qand_i (by first | omega | (rw [hlen]; omega)) ?_
        simp only [Tryd.f138, hwi, go_sem, Int.reduceToNat, Int.reduceEq, Int.reduceNe, Int.reduceLT, Int.reduceLE, Int.reduceNeg, Int.reduceAdd, ↓reduceIte, ↓reduceCtorEq, Nat.reduceEqDiff, Nat.reduceAdd, Nat.reduceSub, Nat.reduceMul, Nat.reduceLeDiff, Nat.reduceLT]
        refine ⟨i + 1, by omega, by omega, ?_⟩
        rw [hset v hin hv]
        simp [Wk, sget, killL, kill1, SV.key, NL, VL, u, e32, hnext]
  · simp only [Tryd.f138, go_sem, Int.reduceToNat, Int.reduceEq, Int.reduceNe, Int.reduceLT, Int.reduceLE, Int.reduceNeg, Int.reduceAdd, ↓reduceIte, ↓reduceCtorEq, Nat.reduceEqDiff, Nat.reduceAdd, Nat.reduceSub, Nat.reduceMul, Nat.reduceLeDiff, Nat.reduceLT]
    have e0 : i = n := by omega
    subst e0
    have e1 : (dg B x).drop i = [] := List.drop_eq_nil_of_le (by omega)
    rw [e1, List.append_nil]
    have hlt : x - y < B ^ i := by omega
    refine qcall_i (r := VN (x - y)) (PC.at_vlist (n_Norm (tab B (x - y) i) (by rw [tab_length]; omega) (ok_tab B0 _ _)) (tab_length _ _ _) ((dv_tab _ _).trans (Nat.mod_eq_of_lt hlt))) ?_
    simp only [Tryd.f138, go_sem, Int.reduceToNat, Int.reduceEq, Int.reduceNe, Int.reduceLT, Int.reduceLE, Int.reduceNeg, Int.reduceAdd, ↓reduceIte, ↓reduceCtorEq, Nat.reduceEqDiff, Nat.reduceAdd, Nat.reduceSub, Nat.reduceMul, Nat.reduceLeDiff, Nat.reduceLT]

theorem c_rOf (x : Nat) (hx : (dg B x).length ≤ 4194304) : PC E 111 [VN x] (NL (tab W x (((dg B x).length + 3) / 4))) := by
  refine PC.of_body follows Tryd.func111 (by decide +kernel) rfl (by kernel_rfl) (Nat.le_of_ble_eq_true rfl) (walk ?_)
  simp only [VN, VL]
  generalize hn : (dg B x).length = n at *
  have e1 : IntKind.wrap .i64 ((n : Int) + 3) = ((n + 3 : Nat) : Int) := by rw [wrap64 (by omega) (by omega)]; omega
  have e2 : IntKind.wrap .i64 (((n + 3 : Nat) : Int).tdiv 4) = (((n + 3) / 4 : Nat) : Int) := by
    rw [show ((n + 3 : Nat) : Int).tdiv 4 = (((n + 3) / 4 : Nat) : Int) from n_tdiv _ 4, wrap64 (by omega) (by omega)]
  have e3 : IntKind.wrap .i64 ((n : Int) - 1) = (n : Int) - 1 := wrap64 (by omega) (by omega)
  generalize hm : (n + 3) / 4 = m at *
  simp only [Tryd.f111, e1, e2, go_sem, Int.reduceToNat, Int.reduceEq, Int.reduceNe, Int.reduceLT, Int.reduceLE, Int.reduceNeg, Int.reduceAdd, ↓reduceIte, ↓reduceCtorEq, Nat.reduceEqDiff, Nat.reduceAdd, Nat.reduceSub, Nat.reduceMul, Nat.reduceLeDiff, Nat.reduceLT]
  refine qand_i (by first | omega | (simp [V_length, U_length, tab_length, maxLen]; done) | (simp [V_length, U_length, tab_length, maxLen]; omega) | (refine ⟨?_, ?_⟩ <;> first | omega | (simp [V_length, U_length, tab_length, maxLen]; done) | (simp [V_length, U_length, tab_length, maxLen]; omega))) ?_; simp only [Tryd.f111, e3, go_sem, Int.reduceToNat, Int.reduceEq, Int.reduceNe, Int.reduceLT, Int.reduceLE, Int.reduceNeg, Int.reduceAdd, ↓reduceIte, ↓reduceCtorEq, Nat.reduceEqDiff, Nat.reduceAdd, Nat.reduceSub, Nat.reduceMul, Nat.reduceLeDiff, Nat.reduceLT]
  refine PLoop.intro (fun k : Nat => ⟨[(0, .val (.lst n (V (dg B x)))), (3, .row 9), (4, .val (.int .i64 ((k : Int) - 1)))], [(9, (.row 22 1 m (U ((List.range m).map (ofl B x k))), false))]⟩) (fun k => k ≤ n) id n (Nat.le_refl _) ?_ fun k hk => walk ?_
  · have : U ((List.range m).map (ofl B x n)) = List.replicate m (.int .u64 0) := by
      have hx' : x < B ^ n := lt_of_dg (by omega)
      apply List.ext_getElem (by simp [U_length])
      intro j h1 h2
      simp [U, u, ofl_top (b := B) (by decide) hx']
    rw [this]
    simp [Wk, sget, killL, kill1, SV.key, NL, VL, u, e32]
  simp only [Tryd.f111, go_sem, Int.reduceToNat, Int.reduceEq, Int.reduceNe, Int.reduceLT, Int.reduceLE, Int.reduceNeg, Int.reduceAdd, ↓reduceIte, ↓reduceCtorEq, Nat.reduceEqDiff, Nat.reduceAdd, Nat.reduceSub, Nat.reduceMul, Nat.reduceLeDiff, Nat.reduceLT]
  refine qif_d (fun h => ?_) (fun h => ?_)
  · obtain ⟨k, rfl⟩ : ∃ j, k = j + 1 := ⟨k - 1, by omega⟩
    have e4 : ((k + 1 : Nat) : Int) - 1 = k := by omega
    have e5 : IntKind.wrap .i64 ((k : Int).tdiv 4) = ((k / 4 : Nat) : Int) := by
      rw [show (k : Int).tdiv 4 = ((k / 4 : Nat) : Int) from n_tdiv _ 4, wrap64 (by omega) (by omega)]
    have e6 : IntKind.wrap .i64 ((k : Int) - 1) = (k : Int) - 1 := wrap64 (by omega) (by omega)
    have hjm : k / 4 < m := by omega
    have hget : (U ((List.range m).map (ofl B x (k + 1))))[k / 4]? = some (u (ofl B x (k + 1) (k / 4))) := by
      rw [U_get, List.getElem?_map, List.getElem?_range hjm]; rfl
    have hdx : (V (dg B x))[k]? = some (e32 (x / B ^ k % B)) := vn_at (by omega)
    have hof : ofl B x (k + 1) (k / 4) * B + x / B ^ k % B = ofl B x k (k / 4) := ofl_here.symm
    have hol : ofl B x k (k / 4) < W := by rw [W_B]; exact ofl_lt B0
    have hdl : x / B ^ k % B < B := Nat.mod_lt _ B0
    have hset : (U ((List.range m).map (ofl B x (k + 1)))).set (k / 4) (.int .u64 (ofl B x k (k / 4) : Nat)) = U ((List.range m).map (ofl B x k)) := by
      rw [show PV.int .u64 (ofl B x k (k / 4) : Nat) = u (ofl B x k (k / 4)) from rfl, U_set]
      congr 1
      apply List.ext_getElem (by simp)
      intro j h1 h2
      rw [List.getElem_set]
      split
      · rename_i e; subst e; simp
      · rename_i hne; simp [ofl_other hne]
    have hlen : (U ((List.range m).map (ofl B x (k + 1)))).length = m := by simp [U_length]
    generalize ofl B x (k + 1) (k / 4) = a at *
    generalize ofl B x k (k / 4) = b at *
    generalize x / B ^ k % B = d at *
    have hB : (B : Nat) = 65536 := rfl
    have hWn : (W : Nat) = 18446744073709551616 := rfl
    rw [hB] at hof
    have e7 : IntKind.wrap .u64 ((a : Int) * 65536) = ((a * 65536 : Nat) : Int) := by
      rw [show (a : Int) * 65536 = ((a * 65536 : Nat) : Int) by omega]; exact wrap_nat64 (by omega)
    have e8 : IntKind.wrap .u64 (d : Int) = (d : Int) := wrap_nat64 (by omega)
    have e9 : IntKind.wrap .u64 (((a * 65536 : Nat) : Int) + (d : Int)) = (b : Int) := by
      rw [show ((a * 65536 : Nat) : Int) + (d : Int) = (b : Int) by omega]; exact wrap_nat64 hol
    simp only [Tryd.f111, e4, e5, go_sem, Int.reduceToNat, Int.reduceEq, Int.reduceNe, Int.reduceLT, Int.reduceLE, Int.reduceNeg, Int.reduceAdd, ↓reduceIte, ↓reduceCtorEq, Nat.reduceEqDiff, Nat.reduceAdd, Nat.reduceSub, Nat.reduceMul, Nat.reduceLeDiff, Nat.reduceLT]
    refine qand_i (by first | omega | (simp [V_length, U_length, tab_length, maxLen]; done) | (simp [V_length, U_length, tab_length, maxLen]; omega) | (refine ⟨?_, ?_⟩ <;> first | omega | (simp [V_length, U_length, tab_length, maxLen]; done) | (simp [V_length, U_length, tab_length, maxLen]; omega))) ?_; simp only [Tryd.f111, hget, u, e7, go_sem, Int.reduceToNat, Int.reduceEq, Int.reduceNe, Int.reduceLT, Int.reduceLE, Int.reduceNeg, Int.reduceAdd, ↓reduceIte, ↓reduceCtorEq, Nat.reduceEqDiff, Nat.reduceAdd, Nat.reduceSub, Nat.reduceMul, Nat.reduceLeDiff, Nat.reduceLT]
    refine qand_i (by first | omega | (simp [V_length, U_length, tab_length, maxLen]; done) | (simp [V_length, U_length, tab_length, maxLen]; omega) | (refine ⟨?_, ?_⟩ <;> first | omega | (simp [V_length, U_length, tab_length, maxLen]; done) | (simp [V_length, U_length, tab_length, maxLen]; omega))) ?_; simp only [Tryd.f111, hget, u, e7, go_sem, Int.reduceToNat, Int.reduceEq, Int.reduceNe, Int.reduceLT, Int.reduceLE, Int.reduceNeg, Int.reduceAdd, ↓reduceIte, ↓reduceCtorEq, Nat.reduceEqDiff, Nat.reduceAdd, Nat.reduceSub, Nat.reduceMul, Nat.reduceLeDiff, Nat.reduceLT]
    refine qval_i (congrArg (Option.map _) hdx) ?_
    simp only [Tryd.f111, e5, e32, e7, e8, e9, go_sem, Int.reduceToNat, Int.reduceEq, Int.reduceNe, Int.reduceLT, Int.reduceLE, Int.reduceNeg, Int.reduceAdd, ↓reduceIte, ↓reduceCtorEq, Nat.reduceEqDiff, Nat.reduceAdd, Nat.reduceSub, Nat.reduceMul, Nat.reduceLeDiff, Nat.reduceLT]
    refine qand_i (by first | omega | (simp [V_length, U_length, tab_length, maxLen]; done) | (simp [V_length, U_length, tab_length, maxLen]; omega) | (refine ⟨?_, ?_⟩ <;> first | omega | (simp [V_length, U_length, tab_length, maxLen]; done) | (simp [V_length, U_length, tab_length, maxLen]; omega))) ?_; simp only [Tryd.f111, hlen, go_sem, Int.reduceToNat, Int.reduceEq, Int.reduceNe, Int.reduceLT, Int.reduceLE, Int.reduceNeg, Int.reduceAdd, ↓reduceIte, ↓reduceCtorEq, Nat.reduceEqDiff, Nat.reduceAdd, Nat.reduceSub, Nat.reduceMul, Nat.reduceLeDiff, Nat.reduceLT]
    refine qand_i (by first | omega | (simp [V_length, U_length, tab_length, maxLen]; done) | (simp [V_length, U_length, tab_length, maxLen]; omega) | (refine ⟨?_, ?_⟩ <;> first | omega | (simp [V_length, U_length, tab_length, maxLen]; done) | (simp [V_length, U_length, tab_length, maxLen]; omega))) ?_; simp only [Tryd.f111, e6, hset, go_sem, Int.reduceToNat, Int.reduceEq, Int.reduceNe, Int.reduceLT, Int.reduceLE, Int.reduceNeg, Int.reduceAdd, ↓reduceIte, ↓reduceCtorEq, Nat.reduceEqDiff, Nat.reduceAdd, Nat.reduceSub, Nat.reduceMul, Nat.reduceLeDiff, Nat.reduceLT]
    refine ⟨k, by omega, by simp only [id]; omega, ?_⟩
    simp [Wk, sget, killL, kill1, SV.key, NL, VL, u, e32]
  · simp only [Tryd.f111, go_sem, Int.reduceToNat, Int.reduceEq, Int.reduceNe, Int.reduceLT, Int.reduceLE, Int.reduceNeg, Int.reduceAdd, ↓reduceIte, ↓reduceCtorEq, Nat.reduceEqDiff, Nat.reduceAdd, Nat.reduceSub, Nat.reduceMul, Nat.reduceLeDiff, Nat.reduceLT]
    have e0 : k = 0 := by omega
    subst e0
    have : (List.range m).map (ofl B x 0) = tab W x m := by
      unfold tab
      refine List.map_congr_left fun j _ => ?_
      rw [ofl_zero, ← W_B]
    rw [this]
    simp [NL, tab_length]

theorem c_rBits (x : Nat) (hx : (dg B x).length ≤ 4194304) : PC E 116 [VN x] (.int .i64 (bitLen x)) := by
  refine PC.of_body follows Tryd.func116 (by decide +kernel) rfl (by kernel_rfl) (Nat.le_of_ble_eq_true rfl) (walk ?_)
  simp only [VN, VL]
  generalize hn : (dg B x).length = n at *
  simp only [Tryd.f116, go_sem, Int.reduceToNat, Int.reduceEq, Int.reduceNe, Int.reduceLT, Int.reduceLE, Int.reduceNeg, Int.reduceAdd, ↓reduceIte, ↓reduceCtorEq, Nat.reduceEqDiff, Nat.reduceAdd, Nat.reduceSub, Nat.reduceMul, Nat.reduceLeDiff, Nat.reduceLT]
  refine qif_d (fun h => ?_) (fun h => ?_)
  · simp only [Tryd.f116, go_sem, Int.reduceToNat, Int.reduceEq, Int.reduceNe, Int.reduceLT, Int.reduceLE, Int.reduceNeg, Int.reduceAdd, ↓reduceIte, ↓reduceCtorEq, Nat.reduceEqDiff, Nat.reduceAdd, Nat.reduceSub, Nat.reduceMul, Nat.reduceLeDiff, Nat.reduceLT]
    have h0 : x = 0 := by
      have := lt_of_dg (x := x) (i := 0) (by omega)
      rw [Nat.pow_zero] at this
      omega
    subst h0
    rfl
  · obtain ⟨m, rfl⟩ : ∃ m, n = m + 1 := ⟨n - 1, by omega⟩
    have e1 : IntKind.wrap .i64 (((m + 1 : Nat) : Int) - 1) = (m : Int) := by rw [wrap64 (by omega) (by omega)]; omega
    have e2 : IntKind.wrap .i64 (16 * (m : Int)) = ((16 * m : Nat) : Int) := by rw [wrap64 (by omega) (by omega)]; omega
    have hdx : (V (dg B x))[m]? = some (e32 (x / B ^ m % B)) := vn_at (by omega)
    have hbl := bitLen_topB (b := B) (k := 16) (by decide) (by decide) hn
    have hdl : x / B ^ m % B < B := Nat.mod_lt _ B0
    have hb16 : bitLen (x / B ^ m % B) ≤ 16 := (bitLen_le _ 16).2 hdl
    generalize x / B ^ m % B = d at *
    simp only [Tryd.f116, e1, e2, go_sem, Int.reduceToNat, Int.reduceEq, Int.reduceNe, Int.reduceLT, Int.reduceLE, Int.reduceNeg, Int.reduceAdd, ↓reduceIte, ↓reduceCtorEq, Nat.reduceEqDiff, Nat.reduceAdd, Nat.reduceSub, Nat.reduceMul, Nat.reduceLeDiff, Nat.reduceLT]
    refine qand_i (by first | omega | (simp [V_length, U_length, tab_length, maxLen]; done) | (simp [V_length, U_length, tab_length, maxLen]; omega) | (refine ⟨?_, ?_⟩ <;> first | omega | (simp [V_length, U_length, tab_length, maxLen]; done) | (simp [V_length, U_length, tab_length, maxLen]; omega))) ?_; simp only [Tryd.f116, e1, e2, go_sem, Int.reduceToNat, Int.reduceEq, Int.reduceNe, Int.reduceLT, Int.reduceLE, Int.reduceNeg, Int.reduceAdd, ↓reduceIte, ↓reduceCtorEq, Nat.reduceEqDiff, Nat.reduceAdd, Nat.reduceSub, Nat.reduceMul, Nat.reduceLeDiff, Nat.reduceLT]
    refine qval_i (congrArg (Option.map _) hdx) ?_
    simp only [Tryd.f116, e32, go_sem, Int.reduceToNat, Int.reduceEq, Int.reduceNe, Int.reduceLT, Int.reduceLE, Int.reduceNeg, Int.reduceAdd, ↓reduceIte, ↓reduceCtorEq, Nat.reduceEqDiff, Nat.reduceAdd, Nat.reduceSub, Nat.reduceMul, Nat.reduceLeDiff, Nat.reduceLT]
    refine PLoop.intro (fun c : Nat => ⟨[(3, .val (.int .i64 ((16 * m + c : Nat) : Int))), (4, .val (e32 (d / 2 ^ c)))], []⟩) (fun c => c ≤ bitLen d) (fun c => bitLen d - c) 0 (Nat.zero_le _) ?_ fun c hc => walk ?_
    · simp [Wk, sget, killL, kill1, SV.key, NL, VL, u, e32]
    have hlt : 0 < d / 2 ^ c ↔ c < bitLen d := by
      have h1 := bitLen_le d c
      have h2 := Nat.div_pos_iff (a := d) (b := 2 ^ c)
      have h3 := Nat.two_pow_pos c
      omega
    have e3 : IntKind.wrap .i64 (((16 * m + c : Nat) : Int) + 1) = ((16 * m + (c + 1) : Nat) : Int) := by rw [wrap64 (by omega) (by omega)]; omega
    have e4 : IntKind.wrap .u32 (((d / 2 ^ c : Nat) : Int).tdiv 2) = ((d / 2 ^ (c + 1) : Nat) : Int) := by
      rw [show ((d / 2 ^ c : Nat) : Int).tdiv 2 = ((d / 2 ^ c / 2 : Nat) : Int) from n_tdiv _ 2, Nat.div_div_eq_div_mul, ← Nat.pow_succ]
      exact wrap32 (Nat.lt_of_le_of_lt (Nat.div_le_self _ _) (Nat.lt_trans hdl (by decide)))
    simp only [e32]
    simp only [Tryd.f116, go_sem, Int.reduceToNat, Int.reduceEq, Int.reduceNe, Int.reduceLT, Int.reduceLE, Int.reduceNeg, Int.reduceAdd, ↓reduceIte, ↓reduceCtorEq, Nat.reduceEqDiff, Nat.reduceAdd, Nat.reduceSub, Nat.reduceMul, Nat.reduceLeDiff, Nat.reduceLT]
    refine qif_d (fun h' => ?_) (fun h' => ?_)
    · simp only [Tryd.f116, e3, e4, go_sem, Int.reduceToNat, Int.reduceEq, Int.reduceNe, Int.reduceLT, Int.reduceLE, Int.reduceNeg, Int.reduceAdd, ↓reduceIte, ↓reduceCtorEq, Nat.reduceEqDiff, Nat.reduceAdd, Nat.reduceSub, Nat.reduceMul, Nat.reduceLeDiff, Nat.reduceLT]
      refine ⟨c + 1, by omega, by omega, ?_⟩
      simp [Wk, sget, killL, kill1, SV.key, NL, VL, u, e32]
    · simp only [Tryd.f116, go_sem, Int.reduceToNat, Int.reduceEq, Int.reduceNe, Int.reduceLT, Int.reduceLE, Int.reduceNeg, Int.reduceAdd, ↓reduceIte, ↓reduceCtorEq, Nat.reduceEqDiff, Nat.reduceAdd, Nat.reduceSub, Nat.reduceMul, Nat.reduceLeDiff, Nat.reduceLT]
      have : c = bitLen d := by omega
      rw [this, hbl]

theorem c_rBit (x : Nat) (i : Int) (hi : -9223372036854775808 ≤ i ∧ i < 9223372036854775808) (hx : (dg B x).length ≤ 4194304) : PC E 81 [VN x, .int .i64 i] (e32 (if i < 0 then 0 else x / 2 ^ i.toNat % 2)) := by
  refine PC.of_body follows Tryd.func81 (by decide +kernel) rfl (by kernel_rfl) (Nat.le_of_ble_eq_true rfl) (walk ?_)
  simp only [VN, VL]
  generalize hn : (dg B x).length = n at *
  simp only [Tryd.f81, go_sem, Int.reduceToNat, Int.reduceEq, Int.reduceNe, Int.reduceLT, Int.reduceLE, Int.reduceNeg, Int.reduceAdd, ↓reduceIte, ↓reduceCtorEq, Nat.reduceEqDiff, Nat.reduceAdd, Nat.reduceSub, Nat.reduceMul, Nat.reduceLeDiff, Nat.reduceLT]
  refine qif_d (fun h => ?_) (fun h => ?_)
  · simp only [Tryd.f81, go_sem, Int.reduceToNat, Int.reduceEq, Int.reduceNe, Int.reduceLT, Int.reduceLE, Int.reduceNeg, Int.reduceAdd, ↓reduceIte, ↓reduceCtorEq, Nat.reduceEqDiff, Nat.reduceAdd, Nat.reduceSub, Nat.reduceMul, Nat.reduceLeDiff, Nat.reduceLT]
    rw [if_pos h]
    rfl
  · obtain ⟨k, rfl⟩ : ∃ k : Nat, i = k := ⟨i.toNat, by omega⟩
    have e1 : IntKind.wrap .i64 ((k : Int).tdiv 16) = ((k / 16 : Nat) : Int) := by
      rw [show (k : Int).tdiv 16 = ((k / 16 : Nat) : Int) from n_tdiv _ 16, wrap64 (by omega) (by omega)]
    have e2 : (k : Int).tmod 16 = ((k % 16 : Nat) : Int) := n_tmod _ 16
    rw [if_neg h, Int.toNat_natCast]
    simp only [Tryd.f81, e1, go_sem, Int.reduceToNat, Int.reduceEq, Int.reduceNe, Int.reduceLT, Int.reduceLE, Int.reduceNeg, Int.reduceAdd, ↓reduceIte, ↓reduceCtorEq, Nat.reduceEqDiff, Nat.reduceAdd, Nat.reduceSub, Nat.reduceMul, Nat.reduceLeDiff, Nat.reduceLT]
    refine qif_d (fun h' => ?_) (fun h' => ?_)
    · simp only [Tryd.f81, go_sem, Int.reduceToNat, Int.reduceEq, Int.reduceNe, Int.reduceLT, Int.reduceLE, Int.reduceNeg, Int.reduceAdd, ↓reduceIte, ↓reduceCtorEq, Nat.reduceEqDiff, Nat.reduceAdd, Nat.reduceSub, Nat.reduceMul, Nat.reduceLeDiff, Nat.reduceLT]
      have hlt : x < B ^ (k / 16) := lt_of_dg (by omega)
      have : x < 2 ^ k := by
        refine Nat.lt_of_lt_of_le hlt ?_
        rw [show B = 2 ^ 16 from rfl, ← Nat.pow_mul]
        exact Nat.pow_le_pow_right (by decide) (by omega)
      rw [Nat.div_eq_of_lt this]
      rfl
    · have hdx : (V (dg B x))[k / 16]? = some (e32 (x / B ^ (k / 16) % B)) := vn_at (by omega)
      have hbd := bit_digit (k := 16) (x := x) (i := k) (by decide)
      have hdl : x / B ^ (k / 16) % B < B := Nat.mod_lt _ B0
      rw [show (2 : Nat) ^ 16 = B from rfl] at hbd
      generalize x / B ^ (k / 16) % B = d at *
      simp only [Tryd.f81, e1, go_sem, Int.reduceToNat, Int.reduceEq, Int.reduceNe, Int.reduceLT, Int.reduceLE, Int.reduceNeg, Int.reduceAdd, ↓reduceIte, ↓reduceCtorEq, Nat.reduceEqDiff, Nat.reduceAdd, Nat.reduceSub, Nat.reduceMul, Nat.reduceLeDiff, Nat.reduceLT]
      refine qand_i (by first | omega | (simp [V_length, U_length, tab_length, maxLen]; done) | (simp [V_length, U_length, tab_length, maxLen]; omega) | (refine ⟨?_, ?_⟩ <;> first | omega | (simp [V_length, U_length, tab_length, maxLen]; done) | (simp [V_length, U_length, tab_length, maxLen]; omega))) ?_; simp only [Tryd.f81, e1, go_sem, Int.reduceToNat, Int.reduceEq, Int.reduceNe, Int.reduceLT, Int.reduceLE, Int.reduceNeg, Int.reduceAdd, ↓reduceIte, ↓reduceCtorEq, Nat.reduceEqDiff, Nat.reduceAdd, Nat.reduceSub, Nat.reduceMul, Nat.reduceLeDiff, Nat.reduceLT]
      refine qval_i (congrArg (Option.map _) hdx) ?_
      simp only [Tryd.f81, e32, go_sem, Int.reduceToNat, Int.reduceEq, Int.reduceNe, Int.reduceLT, Int.reduceLE, Int.reduceNeg, Int.reduceAdd, ↓reduceIte, ↓reduceCtorEq, Nat.reduceEqDiff, Nat.reduceAdd, Nat.reduceSub, Nat.reduceMul, Nat.reduceLeDiff, Nat.reduceLT]
      refine PLoop.intro (fun c : Nat => ⟨[(1, .val (.int .i64 k)), (5, .val (e32 (d / 2 ^ c))), (6, .val (.int .i64 c))], []⟩) (fun c => c ≤ k % 16) (fun c => k % 16 - c) 0 (Nat.zero_le _) ?_ fun c hc => walk ?_
      · simp [Wk, sget, killL, kill1, SV.key, NL, VL, u, e32]
      have e4 : IntKind.wrap .u32 (((d / 2 ^ c : Nat) : Int).tdiv 2) = ((d / 2 ^ (c + 1) : Nat) : Int) := by
        rw [show ((d / 2 ^ c : Nat) : Int).tdiv 2 = ((d / 2 ^ c / 2 : Nat) : Int) from n_tdiv _ 2, Nat.div_div_eq_div_mul, ← Nat.pow_succ]
        exact wrap32 (Nat.lt_of_le_of_lt (Nat.div_le_self _ _) (Nat.lt_trans hdl (by decide)))
      have e5 : IntKind.wrap .i64 ((c : Int) + 1) = ((c + 1 : Nat) : Int) := by rw [wrap64 (by omega) (by omega)]; omega
      have e6 : ((d / 2 ^ c : Nat) : Int).tmod 2 = ((d / 2 ^ c % 2 : Nat) : Int) := n_tmod _ 2
      simp only [e32]
      simp only [Tryd.f81, e2, go_sem, Int.reduceToNat, Int.reduceEq, Int.reduceNe, Int.reduceLT, Int.reduceLE, Int.reduceNeg, Int.reduceAdd, ↓reduceIte, ↓reduceCtorEq, Nat.reduceEqDiff, Nat.reduceAdd, Nat.reduceSub, Nat.reduceMul, Nat.reduceLeDiff, Nat.reduceLT]
      refine qif_d (fun h2 => ?_) (fun h2 => ?_)
      · simp only [Tryd.f81, e4, e5, go_sem, Int.reduceToNat, Int.reduceEq, Int.reduceNe, Int.reduceLT, Int.reduceLE, Int.reduceNeg, Int.reduceAdd, ↓reduceIte, ↓reduceCtorEq, Nat.reduceEqDiff, Nat.reduceAdd, Nat.reduceSub, Nat.reduceMul, Nat.reduceLeDiff, Nat.reduceLT]
        refine ⟨c + 1, by omega, by omega, ?_⟩
        simp [Wk, sget, killL, kill1, SV.key, NL, VL, u, e32]
      · simp only [Tryd.f81, e6, go_sem, Int.reduceToNat, Int.reduceEq, Int.reduceNe, Int.reduceLT, Int.reduceLE, Int.reduceNeg, Int.reduceAdd, ↓reduceIte, ↓reduceCtorEq, Nat.reduceEqDiff, Nat.reduceAdd, Nat.reduceSub, Nat.reduceMul, Nat.reduceLeDiff, Nat.reduceLT]
        have : c = k % 16 := by omega
        rw [this, hbd]
        rfl

theorem B_pow (n : Nat) : B ^ n = 2 ^ (16 * n) := by rw [Nat.pow_mul]
theorem bitLen_digits (x : Nat) : bitLen x ≤ 16 * (dg B x).length := by
  rw [bitLen_le, ← B_pow]
  exact lt_of_dg (by omega)

theorem c_rShr (x : Nat) (n : Int) (hn : -9223372036854775808 ≤ n ∧ n < 9223372036854775808) (hx : (dg B x).length ≤ 4194304) : PC E 82 [VN x, .int .i64 n] (.tuple [VN (x / 2 ^ n.toNat), .bool (decide (x % 2 ^ n.toNat ≠ 0))]) := by
  refine PC.of_body follows Tryd.func82 (by decide +kernel) rfl (by kernel_rfl) (Nat.le_of_ble_eq_true rfl) (walk ?_)
  simp only [Tryd.f82, go_sem, Int.reduceToNat, Int.reduceEq, Int.reduceNe, Int.reduceLT, Int.reduceLE, Int.reduceNeg, Int.reduceAdd, ↓reduceIte, ↓reduceCtorEq, Nat.reduceEqDiff, Nat.reduceAdd, Nat.reduceSub, Nat.reduceMul, Nat.reduceLeDiff, Nat.reduceLT]
  refine qif_d (fun h => ?_) (fun h => ?_)
  · obtain ⟨k, hkz⟩ : ∃ k : Nat, 0 = k := ⟨0, rfl⟩
    have hkn : n.toNat = k := by omega
    have hk64 : (k : Int) < 9223372036854775808 := by omega
    rw [hkn]
    simp only [Tryd.f82, go_sem, Int.reduceToNat, Int.reduceEq, Int.reduceNe, Int.reduceLT, Int.reduceLE, Int.reduceNeg, Int.reduceAdd, ↓reduceIte, ↓reduceCtorEq, Nat.reduceEqDiff, Nat.reduceAdd, Nat.reduceSub, Nat.reduceMul, Nat.reduceLeDiff, Nat.reduceLT]
    refine qcall_i (c_rBits x (by omega)) ?_
    have hbl : bitLen x ≤ 67108864 := by have := bitLen_digits x; omega
    have hb := bitLen_le x
    have hbt := (bitLen_le x (bitLen x)).1 (Nat.le_refl _)
    have hlen : ∀ z, z ≤ x → (dg B z).length ≤ 4194304 := fun z hz => by
      have h1 : (dg B z).length ≤ (dg B x).length := by
        rw [dg_length_le B2]; exact Nat.lt_of_le_of_lt hz (lt_of_dg (by omega))
      omega
    generalize hL : bitLen x = L at *
    have e1 : IntKind.wrap .i64 ((L : Int) - 1) = (L : Int) - 1 := wrap64 (by omega) (by omega)
    simp only [Tryd.f82, e1, go_sem, Int.reduceToNat, Int.reduceEq, Int.reduceNe, Int.reduceLT, Int.reduceLE, Int.reduceNeg, Int.reduceAdd, ↓reduceIte, ↓reduceCtorEq, Nat.reduceEqDiff, Nat.reduceAdd, Nat.reduceSub, Nat.reduceMul, Nat.reduceLeDiff, Nat.reduceLT]
    refine PLoop.nilval 7 rfl ?_
    refine PLoop.intro (fun i : Nat => ⟨[(0, .val (VN x)), (1, .val (.int .i64 k)), (5, .val (.bool false)), (6, .val (.int .i64 L)), (7, .val (VN (x / 2 ^ i))), (8, .val (.int .i64 ((i : Int) - 1)))], []⟩) (fun i => i ≤ L ∧ (k ≤ i ∨ i = L)) id L ⟨Nat.le_refl _, .inr rfl⟩ ?_ fun i hi => walk ?_
    · rw [Nat.div_eq_of_lt hbt]
      simp [Wk, sget, killL, kill1, SV.key, NL, VL, u, e32, VN, dg_zero, V, ← hkz]
    obtain ⟨hi, hki⟩ := hi
    simp only [Tryd.f82, go_sem, Int.reduceToNat, Int.reduceEq, Int.reduceNe, Int.reduceLT, Int.reduceLE, Int.reduceNeg, Int.reduceAdd, ↓reduceIte, ↓reduceCtorEq, Nat.reduceEqDiff, Nat.reduceAdd, Nat.reduceSub, Nat.reduceMul, Nat.reduceLeDiff, Nat.reduceLT]
    refine qif_d (fun h1 => ?_) (fun h1 => ?_)
    · obtain ⟨i, rfl⟩ : ∃ j, i = j + 1 := ⟨i - 1, by omega⟩
      have e2 : ((i + 1 : Nat) : Int) - 1 = i := by omega
      have e3 : IntKind.wrap .i64 ((i : Int) - 1) = (i : Int) - 1 := wrap64 (by omega) (by omega)
      have hstep : 2 * (x / 2 ^ (i + 1)) + x / 2 ^ i % 2 = x / 2 ^ i := by
        rw [Nat.pow_succ, ← Nat.div_div_eq_div_mul]; omega
      have hd := c_Double (x / 2 ^ (i + 1)) (x / 2 ^ i % 2) (by omega) (hlen _ (Nat.div_le_self _ _))
      rw [hstep] at hd
      simp only [Tryd.f82, e2, go_sem, Int.reduceToNat, Int.reduceEq, Int.reduceNe, Int.reduceLT, Int.reduceLE, Int.reduceNeg, Int.reduceAdd, ↓reduceIte, ↓reduceCtorEq, Nat.reduceEqDiff, Nat.reduceAdd, Nat.reduceSub, Nat.reduceMul, Nat.reduceLeDiff, Nat.reduceLT]
      refine qcall_i (c_rBit x i (by omega) (by omega)) ?_
      rw [if_neg (by omega), Int.toNat_natCast]
      simp only [Tryd.f82, go_sem, Int.reduceToNat, Int.reduceEq, Int.reduceNe, Int.reduceLT, Int.reduceLE, Int.reduceNeg, Int.reduceAdd, ↓reduceIte, ↓reduceCtorEq, Nat.reduceEqDiff, Nat.reduceAdd, Nat.reduceSub, Nat.reduceMul, Nat.reduceLeDiff, Nat.reduceLT]
      refine qcall_i hd ?_
      simp only [Tryd.f82, e3, go_sem, Int.reduceToNat, Int.reduceEq, Int.reduceNe, Int.reduceLT, Int.reduceLE, Int.reduceNeg, Int.reduceAdd, ↓reduceIte, ↓reduceCtorEq, Nat.reduceEqDiff, Nat.reduceAdd, Nat.reduceSub, Nat.reduceMul, Nat.reduceLeDiff, Nat.reduceLT]
      refine ⟨i, ⟨by omega, by omega⟩, by simp only [id]; omega, ?_⟩
      simp [Wk, sget, killL, kill1, SV.key, NL, VL, u, e32]
    · have hout : x / 2 ^ i = x / 2 ^ k := by
        rcases hki with h2 | h2
        · rw [show i = k by omega]
        · subst h2
          have hLk : i ≤ k := by omega
          rw [Nat.div_eq_of_lt hbt, Nat.div_eq_of_lt ((hb k).1 (by omega))]
      rw [hout]
      simp only [Tryd.f82, go_sem, Int.reduceToNat, Int.reduceEq, Int.reduceNe, Int.reduceLT, Int.reduceLE, Int.reduceNeg, Int.reduceAdd, ↓reduceIte, ↓reduceCtorEq, Nat.reduceEqDiff, Nat.reduceAdd, Nat.reduceSub, Nat.reduceMul, Nat.reduceLeDiff, Nat.reduceLT]
      refine PLoop.intro (fun i : Nat => ⟨[(0, .val (VN x)), (1, .val (.int .i64 k)), (6, .val (.int .i64 L)), (7, .val (VN (x / 2 ^ k))), (9, .val (.bool (decide (x % 2 ^ i ≠ 0)))), (10, .val (.int .i64 i))], []⟩) (fun i => i ≤ k ∧ i ≤ L) (fun i => k - i) 0 ⟨Nat.zero_le _, Nat.zero_le _⟩ ?_ fun j hj => walk ?_
      · simp [Wk, sget, killL, kill1, SV.key, NL, VL, u, e32, Nat.mod_one]
      obtain ⟨hj, hjL⟩ := hj
      have hfin : (j = k ∨ j = L) → decide (x % 2 ^ j ≠ 0) = decide (x % 2 ^ k ≠ 0) := fun h2 => by
        rcases h2 with rfl | rfl
        · rfl
        · rw [Nat.mod_eq_of_lt hbt, Nat.mod_eq_of_lt ((hb k).1 (by omega))]
      have hbit : decide (x % 2 ^ (j + 1) ≠ 0) = (decide (x % 2 ^ j ≠ 0) || decide ((x / 2 ^ j % 2 : Nat) = 1)) := by
        rw [Nat.pow_succ, Nat.mod_mul]
        have h3 := Nat.two_pow_pos j
        rw [Bool.eq_iff_iff]
        simp only [decide_eq_true_eq, Bool.or_eq_true]
        have h4 : 2 ^ j * (x / 2 ^ j % 2) = 0 ↔ x / 2 ^ j % 2 = 0 := by
          rw [Nat.mul_eq_zero]; omega
        omega
      have e4 : IntKind.wrap .i64 ((j : Int) + 1) = ((j + 1 : Nat) : Int) := by rw [wrap64 (by omega) (by omega)]; omega
      simp only [Tryd.f82, go_sem, Int.reduceToNat, Int.reduceEq, Int.reduceNe, Int.reduceLT, Int.reduceLE, Int.reduceNeg, Int.reduceAdd, ↓reduceIte, ↓reduceCtorEq, Nat.reduceEqDiff, Nat.reduceAdd, Nat.reduceSub, Nat.reduceMul, Nat.reduceLeDiff, Nat.reduceLT]
      refine qif_d (fun h2 => ?_) (fun h2 => ?_)
      · simp only [Tryd.f82, go_sem, Int.reduceToNat, Int.reduceEq, Int.reduceNe, Int.reduceLT, Int.reduceLE, Int.reduceNeg, Int.reduceAdd, ↓reduceIte, ↓reduceCtorEq, Nat.reduceEqDiff, Nat.reduceAdd, Nat.reduceSub, Nat.reduceMul, Nat.reduceLeDiff, Nat.reduceLT]
        refine qif_d (fun h3 => ?_) (fun h3 => ?_)
        · simp only [Tryd.f82, go_sem, Int.reduceToNat, Int.reduceEq, Int.reduceNe, Int.reduceLT, Int.reduceLE, Int.reduceNeg, Int.reduceAdd, ↓reduceIte, ↓reduceCtorEq, Nat.reduceEqDiff, Nat.reduceAdd, Nat.reduceSub, Nat.reduceMul, Nat.reduceLeDiff, Nat.reduceLT]
          refine qif_i (fun h4 => ?_) (fun h4 => ?_)
          · simp only [Tryd.f82, e4, h4, go_sem, Int.reduceToNat, Int.reduceEq, Int.reduceNe, Int.reduceLT, Int.reduceLE, Int.reduceNeg, Int.reduceAdd, ↓reduceIte, ↓reduceCtorEq, Nat.reduceEqDiff, Nat.reduceAdd, Nat.reduceSub, Nat.reduceMul, Nat.reduceLeDiff, Nat.reduceLT]
            refine ⟨j + 1, ⟨by omega, by omega⟩, by omega, ?_⟩
            rw [h4, Bool.true_or] at hbit
            simp [Wk, sget, killL, kill1, SV.key, NL, VL, u, e32, hbit]
          · simp only [Tryd.f82, h4, go_sem, Int.reduceToNat, Int.reduceEq, Int.reduceNe, Int.reduceLT, Int.reduceLE, Int.reduceNeg, Int.reduceAdd, ↓reduceIte, ↓reduceCtorEq, Nat.reduceEqDiff, Nat.reduceAdd, Nat.reduceSub, Nat.reduceMul, Nat.reduceLeDiff, Nat.reduceLT]
            refine qcall_i (c_rBit x j (by omega) (by omega)) ?_
            rw [if_neg (by omega), Int.toNat_natCast]
            rw [h4, Bool.false_or] at hbit
            simp only [Tryd.f82, e32, e4, go_sem, Int.reduceToNat, Int.reduceEq, Int.reduceNe, Int.reduceLT, Int.reduceLE, Int.reduceNeg, Int.reduceAdd, ↓reduceIte, ↓reduceCtorEq, Nat.reduceEqDiff, Nat.reduceAdd, Nat.reduceSub, Nat.reduceMul, Nat.reduceLeDiff, Nat.reduceLT]
            refine ⟨j + 1, ⟨by omega, by omega⟩, by omega, ?_⟩
            have h5 : decide (((x / 2 ^ j % 2 : Nat) : Int) = 1) = decide (x % 2 ^ (j + 1) ≠ 0) := by
              rw [hbit, decide_eq_decide]; omega
            rw [h5]
            simp [Wk, sget, killL, kill1, SV.key, NL, VL, u, e32]
        · simp only [Tryd.f82, go_sem, Int.reduceToNat, Int.reduceEq, Int.reduceNe, Int.reduceLT, Int.reduceLE, Int.reduceNeg, Int.reduceAdd, ↓reduceIte, ↓reduceCtorEq, Nat.reduceEqDiff, Nat.reduceAdd, Nat.reduceSub, Nat.reduceMul, Nat.reduceLeDiff, Nat.reduceLT]
          rw [hfin (by omega)]
      · simp only [Tryd.f82, go_sem, Int.reduceToNat, Int.reduceEq, Int.reduceNe, Int.reduceLT, Int.reduceLE, Int.reduceNeg, Int.reduceAdd, ↓reduceIte, ↓reduceCtorEq, Nat.reduceEqDiff, Nat.reduceAdd, Nat.reduceSub, Nat.reduceMul, Nat.reduceLeDiff, Nat.reduceLT]
        rw [hfin (by omega)]
  · obtain ⟨k, rfl⟩ : ∃ k : Nat, n = k := ⟨n.toNat, by omega⟩
    have hkn : (k : Int).toNat = k := by omega
    have hkz : True := trivial
    have hk64 : (k : Int) < 9223372036854775808 := by omega
    rw [hkn]
    simp only [Tryd.f82, go_sem, Int.reduceToNat, Int.reduceEq, Int.reduceNe, Int.reduceLT, Int.reduceLE, Int.reduceNeg, Int.reduceAdd, ↓reduceIte, ↓reduceCtorEq, Nat.reduceEqDiff, Nat.reduceAdd, Nat.reduceSub, Nat.reduceMul, Nat.reduceLeDiff, Nat.reduceLT]
    refine qcall_i (c_rBits x (by omega)) ?_
    have hbl : bitLen x ≤ 67108864 := by have := bitLen_digits x; omega
    have hb := bitLen_le x
    have hbt := (bitLen_le x (bitLen x)).1 (Nat.le_refl _)
    have hlen : ∀ z, z ≤ x → (dg B z).length ≤ 4194304 := fun z hz => by
      have h1 : (dg B z).length ≤ (dg B x).length := by
        rw [dg_length_le B2]; exact Nat.lt_of_le_of_lt hz (lt_of_dg (by omega))
      omega
    generalize hL : bitLen x = L at *
    have e1 : IntKind.wrap .i64 ((L : Int) - 1) = (L : Int) - 1 := wrap64 (by omega) (by omega)
    simp only [Tryd.f82, e1, go_sem, Int.reduceToNat, Int.reduceEq, Int.reduceNe, Int.reduceLT, Int.reduceLE, Int.reduceNeg, Int.reduceAdd, ↓reduceIte, ↓reduceCtorEq, Nat.reduceEqDiff, Nat.reduceAdd, Nat.reduceSub, Nat.reduceMul, Nat.reduceLeDiff, Nat.reduceLT]
    refine PLoop.nilval 7 rfl ?_
    refine PLoop.intro (fun i : Nat => ⟨[(0, .val (VN x)), (1, .val (.int .i64 k)), (5, .val (.bool false)), (6, .val (.int .i64 L)), (7, .val (VN (x / 2 ^ i))), (8, .val (.int .i64 ((i : Int) - 1)))], []⟩) (fun i => i ≤ L ∧ (k ≤ i ∨ i = L)) id L ⟨Nat.le_refl _, .inr rfl⟩ ?_ fun i hi => walk ?_
    · rw [Nat.div_eq_of_lt hbt]
      simp [Wk, sget, killL, kill1, SV.key, NL, VL, u, e32, VN, dg_zero, V, hkz]
    obtain ⟨hi, hki⟩ := hi
    simp only [Tryd.f82, go_sem, Int.reduceToNat, Int.reduceEq, Int.reduceNe, Int.reduceLT, Int.reduceLE, Int.reduceNeg, Int.reduceAdd, ↓reduceIte, ↓reduceCtorEq, Nat.reduceEqDiff, Nat.reduceAdd, Nat.reduceSub, Nat.reduceMul, Nat.reduceLeDiff, Nat.reduceLT]
    refine qif_d (fun h1 => ?_) (fun h1 => ?_)
    · obtain ⟨i, rfl⟩ : ∃ j, i = j + 1 := ⟨i - 1, by omega⟩
      have e2 : ((i + 1 : Nat) : Int) - 1 = i := by omega
      have e3 : IntKind.wrap .i64 ((i : Int) - 1) = (i : Int) - 1 := wrap64 (by omega) (by omega)
      have hstep : 2 * (x / 2 ^ (i + 1)) + x / 2 ^ i % 2 = x / 2 ^ i := by
        rw [Nat.pow_succ, ← Nat.div_div_eq_div_mul]; omega
      have hd := c_Double (x / 2 ^ (i + 1)) (x / 2 ^ i % 2) (by omega) (hlen _ (Nat.div_le_self _ _))
      rw [hstep] at hd
      simp only [Tryd.f82, e2, go_sem, Int.reduceToNat, Int.reduceEq, Int.reduceNe, Int.reduceLT, Int.reduceLE, Int.reduceNeg, Int.reduceAdd, ↓reduceIte, ↓reduceCtorEq, Nat.reduceEqDiff, Nat.reduceAdd, Nat.reduceSub, Nat.reduceMul, Nat.reduceLeDiff, Nat.reduceLT]
      refine qcall_i (c_rBit x i (by omega) (by omega)) ?_
      rw [if_neg (by omega), Int.toNat_natCast]
      simp only [Tryd.f82, go_sem, Int.reduceToNat, Int.reduceEq, Int.reduceNe, Int.reduceLT, Int.reduceLE, Int.reduceNeg, Int.reduceAdd, ↓reduceIte, ↓reduceCtorEq, Nat.reduceEqDiff, Nat.reduceAdd, Nat.reduceSub, Nat.reduceMul, Nat.reduceLeDiff, Nat.reduceLT]
      refine qcall_i hd ?_
      simp only [Tryd.f82, e3, go_sem, Int.reduceToNat, Int.reduceEq, Int.reduceNe, Int.reduceLT, Int.reduceLE, Int.reduceNeg, Int.reduceAdd, ↓reduceIte, ↓reduceCtorEq, Nat.reduceEqDiff, Nat.reduceAdd, Nat.reduceSub, Nat.reduceMul, Nat.reduceLeDiff, Nat.reduceLT]
      refine ⟨i, ⟨by omega, by omega⟩, by simp only [id]; omega, ?_⟩
      simp [Wk, sget, killL, kill1, SV.key, NL, VL, u, e32]
    · have hout : x / 2 ^ i = x / 2 ^ k := by
        rcases hki with h2 | h2
        · rw [show i = k by omega]
        · subst h2
          have hLk : i ≤ k := by omega
          rw [Nat.div_eq_of_lt hbt, Nat.div_eq_of_lt ((hb k).1 (by omega))]
      rw [hout]
      simp only [Tryd.f82, go_sem, Int.reduceToNat, Int.reduceEq, Int.reduceNe, Int.reduceLT, Int.reduceLE, Int.reduceNeg, Int.reduceAdd, ↓reduceIte, ↓reduceCtorEq, Nat.reduceEqDiff, Nat.reduceAdd, Nat.reduceSub, Nat.reduceMul, Nat.reduceLeDiff, Nat.reduceLT]
      refine PLoop.intro (fun i : Nat => ⟨[(0, .val (VN x)), (1, .val (.int .i64 k)), (6, .val (.int .i64 L)), (7, .val (VN (x / 2 ^ k))), (9, .val (.bool (decide (x % 2 ^ i ≠ 0)))), (10, .val (.int .i64 i))], []⟩) (fun i => i ≤ k ∧ i ≤ L) (fun i => k - i) 0 ⟨Nat.zero_le _, Nat.zero_le _⟩ ?_ fun j hj => walk ?_
      · simp [Wk, sget, killL, kill1, SV.key, NL, VL, u, e32, Nat.mod_one]
      obtain ⟨hj, hjL⟩ := hj
      have hfin : (j = k ∨ j = L) → decide (x % 2 ^ j ≠ 0) = decide (x % 2 ^ k ≠ 0) := fun h2 => by
        rcases h2 with rfl | rfl
        · rfl
        · rw [Nat.mod_eq_of_lt hbt, Nat.mod_eq_of_lt ((hb k).1 (by omega))]
      have hbit : decide (x % 2 ^ (j + 1) ≠ 0) = (decide (x % 2 ^ j ≠ 0) || decide ((x / 2 ^ j % 2 : Nat) = 1)) := by
        rw [Nat.pow_succ, Nat.mod_mul]
        have h3 := Nat.two_pow_pos j
        rw [Bool.eq_iff_iff]
        simp only [decide_eq_true_eq, Bool.or_eq_true]
        have h4 : 2 ^ j * (x / 2 ^ j % 2) = 0 ↔ x / 2 ^ j % 2 = 0 := by
          rw [Nat.mul_eq_zero]; omega
        omega
      have e4 : IntKind.wrap .i64 ((j : Int) + 1) = ((j + 1 : Nat) : Int) := by rw [wrap64 (by omega) (by omega)]; omega
      simp only [Tryd.f82, go_sem, Int.reduceToNat, Int.reduceEq, Int.reduceNe, Int.reduceLT, Int.reduceLE, Int.reduceNeg, Int.reduceAdd, ↓reduceIte, ↓reduceCtorEq, Nat.reduceEqDiff, Nat.reduceAdd, Nat.reduceSub, Nat.reduceMul, Nat.reduceLeDiff, Nat.reduceLT]
      refine qif_d (fun h2 => ?_) (fun h2 => ?_)
      · simp only [Tryd.f82, go_sem, Int.reduceToNat, Int.reduceEq, Int.reduceNe, Int.reduceLT, Int.reduceLE, Int.reduceNeg, Int.reduceAdd, ↓reduceIte, ↓reduceCtorEq, Nat.reduceEqDiff, Nat.reduceAdd, Nat.reduceSub, Nat.reduceMul, Nat.reduceLeDiff, Nat.reduceLT]
        refine qif_d (fun h3 => ?_) (fun h3 => ?_)
        · simp only [Tryd.f82, go_sem, Int.reduceToNat, Int.reduceEq, Int.reduceNe, Int.reduceLT, Int.reduceLE, Int.reduceNeg, Int.reduceAdd, ↓reduceIte, ↓reduceCtorEq, Nat.reduceEqDiff, Nat.reduceAdd, Nat.reduceSub, Nat.reduceMul, Nat.reduceLeDiff, Nat.reduceLT]
          refine qif_i (fun h4 => ?_) (fun h4 => ?_)
          · simp only [Tryd.f82, e4, h4, go_sem, Int.reduceToNat, Int.reduceEq, Int.reduceNe, Int.reduceLT, Int.reduceLE, Int.reduceNeg, Int.reduceAdd, ↓reduceIte, ↓reduceCtorEq, Nat.reduceEqDiff, Nat.reduceAdd, Nat.reduceSub, Nat.reduceMul, Nat.reduceLeDiff, Nat.reduceLT]
            refine ⟨j + 1, ⟨by omega, by omega⟩, by omega, ?_⟩
            rw [h4, Bool.true_or] at hbit
            simp [Wk, sget, killL, kill1, SV.key, NL, VL, u, e32, hbit]
          · simp only [Tryd.f82, h4, go_sem, Int.reduceToNat, Int.reduceEq, Int.reduceNe, Int.reduceLT, Int.reduceLE, Int.reduceNeg, Int.reduceAdd, ↓reduceIte, ↓reduceCtorEq, Nat.reduceEqDiff, Nat.reduceAdd, Nat.reduceSub, Nat.reduceMul, Nat.reduceLeDiff, Nat.reduceLT]
            refine qcall_i (c_rBit x j (by omega) (by omega)) ?_
            rw [if_neg (by omega), Int.toNat_natCast]
            rw [h4, Bool.false_or] at hbit
            simp only [Tryd.f82, e32, e4, go_sem, Int.reduceToNat, Int.reduceEq, Int.reduceNe, Int.reduceLT, Int.reduceLE, Int.reduceNeg, Int.reduceAdd, ↓reduceIte, ↓reduceCtorEq, Nat.reduceEqDiff, Nat.reduceAdd, Nat.reduceSub, Nat.reduceMul, Nat.reduceLeDiff, Nat.reduceLT]
            refine ⟨j + 1, ⟨by omega, by omega⟩, by omega, ?_⟩
            have h5 : decide (((x / 2 ^ j % 2 : Nat) : Int) = 1) = decide (x % 2 ^ (j + 1) ≠ 0) := by
              rw [hbit, decide_eq_decide]; omega
            rw [h5]
            simp [Wk, sget, killL, kill1, SV.key, NL, VL, u, e32]
        · simp only [Tryd.f82, go_sem, Int.reduceToNat, Int.reduceEq, Int.reduceNe, Int.reduceLT, Int.reduceLE, Int.reduceNeg, Int.reduceAdd, ↓reduceIte, ↓reduceCtorEq, Nat.reduceEqDiff, Nat.reduceAdd, Nat.reduceSub, Nat.reduceMul, Nat.reduceLeDiff, Nat.reduceLT]
          rw [hfin (by omega)]
      · simp only [Tryd.f82, go_sem, Int.reduceToNat, Int.reduceEq, Int.reduceNe, Int.reduceLT, Int.reduceLE, Int.reduceNeg, Int.reduceAdd, ↓reduceIte, ↓reduceCtorEq, Nat.reduceEqDiff, Nat.reduceAdd, Nat.reduceSub, Nat.reduceMul, Nat.reduceLeDiff, Nat.reduceLT]
        rw [hfin (by omega)]
end Go.Proofs.YtflpcgcgeffolaaDoor
