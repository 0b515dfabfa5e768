/- What planimeterref01's Double, Add, Sub, Cmp and Same hand back. -/
import Derived.Test.YtflpcgcgeffolaaDoorRef1
import Derived.Test.YtflpcgcgeffolaaDoorDig2
open Go PG Go.Proofs
set_option maxRecDepth 100000
set_option linter.unusedSimpArgs false
set_option linter.unusedVariables false
namespace Go.Proofs.YtflpcgcgeffolaaDoor
attribute [local go_sem] Lay2 Lay3 Lay4 Lay5 Lay6 Lay7 Lay8 Lay9 Lay10 Lay11 Lay12 Lay13 Lay14 Lay21 Lay22 Lay24 Lay25 Lay26 Lay27 Lay36 Lay37 Lay38 Lay39 Lay40 Lay41 Lay43 Lay46 Lay47 Lay66 Lay103 Lay105 Lay159 Lay164 Lay165 Lay166 Lay168 Lay169 Lay172 Lay173 qexec_seq qexec_skip qexec_exit qexec_ret qexec_block qexec_loop qexec_range qexec_cond qexec_region qops_nil qops_none qops_some put_some put_none pblk_exit pblk_other newDsts_nil sget_cons qval_some qbool_some qgs_bool qgs_und qfree_some qgrd_true qgrd_false qif_true qif_false qval_ite qval_itn qand_true map_ite map_some' map_none' qdo_move qdo_assign qdo_binOp qdo_pick qdo_unOp qdo_convert qdo_extract qdo_field qdo_fieldAddr qdo_alloc qdo_box qdo_build qdo_buildSlice qdo_load qdo_store qdo_nilCheck qdo_makeFunc qdo_makeSlice qdo_slice qdo_indexAddr qdo_call qcont_val qcont_new qcont_st qcont_app0 qcont_app qcont_inl qcont_call njSV_val njSV_nil njSV_row njSV_ptr njSV_sub binV_val binV_nil binV_nn nilCmp bin_add bin_sub bin_mul bin_quo bin_rem bin_and bin_or bin_xor bin_andNot bin_eql bin_neq bin_lss bin_leq bin_gtr bin_geq bin_shl bin_shr bin_seql bin_sneq bin_sadd bin_beql bin_aeql bin_aneq eqAnd_some eqCells_nil eqCells_cons fieldTypes isStruct eqCell bin_bneq un_not un_neg nj_ite Nat.beq stepA stepR isNew opSV constSV RV.sv allSome E_mu Bool.or_false Bool.false_or Bool.or_true Bool.true_or cst setB res resSV pstart startL killL kill1 eraL frzL svPV rvPV rvInt rvSlice frzOf close closeL pconv pbuiltin pmax2 partPV setCells fillPV zrow bound newSV PV.cells Bk.cells Bk.with SV.key pres presL_nil presL_tmp presL_cell presC2_some cellPV_ptr presC List.toList_toArray List.size_toArray List.getElem?_drop Nat.mul_one Int.toNat_natCast Nat.not_lt_zero Nat.lt_irrefl decide_true decide_false Nat.not_lt Option.some.injEq PV.lst.injEq PV.int.injEq PV.bool.injEq PV.tuple.injEq List.cons.injEq Option.map_some Option.map_none Option.bind_some Option.toList List.map_cons List.map_nil List.nil_append List.cons_append List.append_nil List.zip_cons_cons List.zip_nil_left List.zip_nil_right List.getElem?_cons_zero List.getElem?_cons_succ List.drop_zero List.drop_succ_cons List.take_succ_cons List.take_zero List.set_cons_zero List.set_cons_succ List.length_cons List.length_nil List.length_set List.replicate_one List.replicate_zero bne_self_eq_false beq_self_eq_true Nat.zero_add Nat.add_zero Nat.zero_mul Bool.false_eq_true Bool.true_eq_false Bool.not_true Bool.not_false and_true true_and false_and and_false or_false false_or or_true true_or not_true_eq_false not_false_eq_true ne_eq gt_iff_lt List.mem_cons List.not_mem_nil
attribute [local go_sem ↓] pseq_normal pseq_ret pseq_exit pblk_normal pblk_ret newDsts_cons gdst_zero gdst_succ retQ_normal retQ_ret retM_normal retM_ret endR_normal endR_ret endR_exit

theorem vn_get (x i : Nat) : (dg B x).getD i 0 = x / B ^ i % B := by
  rw [dv_get B0 _ (ok_dg B2 x) i, dv_dg B2]
theorem vn_at {x i : Nat} (h : i < (dg B x).length) : (V (dg B x))[i]? = some (e32 (x / B ^ i % B)) := by
  rw [V_getD h, vn_get]
theorem vn_pow (i : Nat) : 0 < B ^ i := Nat.pow_pos B0

theorem c_Double (x m : Nat) (hm : m ≤ 1) (hx : (dg B x).length ≤ 4194304) : PC E 120 [VN x, e32 m] (VN (2 * x + m)) := by
  refine PC.of_body follows Tryd.func120 (by decide +kernel) rfl (by kernel_rfl) (Nat.le_of_ble_eq_true rfl) (walk ?_)
  simp only [VN, VL, e32]
  simp only [Tryd.f120, go_sem, Int.reduceToNat, Int.reduceEq, Int.reduceNe, Int.reduceLT, Int.reduceLE, Int.reduceNeg, Int.reduceAdd, ↓reduceIte, ↓reduceCtorEq, Nat.reduceEqDiff, Nat.reduceAdd, Nat.reduceSub, Nat.reduceMul, Nat.reduceLeDiff, Nat.reduceLT]
  generalize hn : (dg B x).length = n at *
  generalize hn' : (dg B (2 * x + m)).length = n' at *
  have hi1 : ∀ i, i < n ↔ B ^ i ≤ x := fun i => by rw [← hn]; exact dg_lt B2
  have hi2 : ∀ i, i < n' ↔ B ^ i ≤ 2 * x + m := fun i => by rw [← hn']; exact dg_lt B2
  have hn1 : n' ≤ n + 1 := by
    rw [← hn', dg_length_le B2, Nat.pow_succ]
    have : ¬ B ^ n ≤ x := fun h => by have := (hi1 n).2 h; omega
    have h2 : B ^ n * B = 65536 * B ^ n := Nat.mul_comm _ _
    have := vn_pow n
    omega
  refine PLoop.nilrow 5 36 (by decide) 105 1 rfl ?_
  refine PLoop.intro (fun i : Nat => ⟨[(0, .val (.lst n (V (dg B x)))), (5, .row 36), (6, .val (e32 (dcarry x m (B ^ i)))), (7, .val (.int .i64 i))], [(36, (.row 105 1 i (V (tab B (2 * x + m) i)), false))]⟩) (fun i => i ≤ n') (fun i => n' - i) 0 (by omega) ?_ fun i hi => walk ?_
  · simp [Wk, sget, killL, kill1, SV.key, NL, VL, u, e32, tab, V, dcarry_one]
  have hB : (B : Nat) = 65536 := rfl
  have hc1 := dcarry_le (x := x) (vn_pow i) hm
  have hdig := dcarry_digit (x := x) (m := m) (b := B) (vn_pow i)
  have hnext := dcarry_next (x := x) (m := m) (vn_pow i) B0
  rw [← Nat.pow_succ] at hnext
  have hdl : x / B ^ i % B < B := Nat.mod_lt _ B0
  have hcg : 0 < dcarry x m (B ^ i) → i < n' := fun h => by
    rw [hi2]
    have := dcarry_div (x := x) (m := m) (vn_pow i)
    exact (Nat.div_pos_iff.1 (by omega)).2
  have hin : i < n → i < n' := fun h => by rw [hi2]; have := (hi1 i).1 h; omega
  have hwi : IntKind.wrap .i64 ((i : Int) + 1) = ((i + 1 : Nat) : Int) := by rw [wrap64 (by omega) (by omega)]; omega
  generalize hc : dcarry x m (B ^ i) = c at *
  generalize hd : x / B ^ i % B = d at *
  simp only [e32]
  simp only [Tryd.f120, go_sem, Int.reduceToNat, Int.reduceEq, Int.reduceNe, Int.reduceLT, Int.reduceLE, Int.reduceNeg, Int.reduceAdd, ↓reduceIte, ↓reduceCtorEq, Nat.reduceEqDiff, Nat.reduceAdd, Nat.reduceSub, Nat.reduceMul, Nat.reduceLeDiff, Nat.reduceLT]
  have push : ∀ (s : Nat), s % B = (2 * x + m) / B ^ i % B → s / B = dcarry x m (B ^ (i + 1)) → i < n' → s < 4294967296 →
      (((s : Nat) : Int).tmod 65536 = (((2 * x + m) / B ^ i % B : Nat) : Int) ∧ IntKind.wrap .u32 (((s : Nat) : Int).tdiv 65536) = ((dcarry x m (B ^ (i + 1)) : Nat) : Int)) := by
    intro s h1 h2 h3 h4
    refine ⟨by rw [← h1]; exact n_tmod _ 65536, ?_⟩
    rw [show ((s : Nat) : Int).tdiv 65536 = ((s / B : Nat) : Int) from n_tdiv _ 65536, h2]
    exact wrap32 (by have := dcarry_le (x := x) (vn_pow (i + 1)) hm; omega)
  refine qif_d (fun h => ?_) (fun h => ?_)
  · have hin' : i < n := by omega
    have hxx := vn_at (x := x) (i := i) (by omega)
    rw [hd] at hxx
    have e1 : IntKind.wrap .u32 (2 * (d : Int)) = ((2 * d : Nat) : Int) := by rw [show 2 * (d : Int) = ((2 * d : Nat) : Int) by omega]; exact wrap32 (by omega)
    have e2 : IntKind.wrap .u32 ((c : Int) + ((2 * d : Nat) : Int)) = ((2 * d + c : Nat) : Int) := by rw [show (c : Int) + ((2 * d : Nat) : Int) = ((2 * d + c : Nat) : Int) by omega]; exact wrap32 (by omega)
    obtain ⟨p1, p2⟩ := push (2 * d + c) hdig hnext (hin hin') (by omega)
    simp only [Tryd.f120, go_sem, Int.reduceToNat, Int.reduceEq, Int.reduceNe, Int.reduceLT, Int.reduceLE, Int.reduceNeg, Int.reduceAdd, ↓reduceIte, ↓reduceCtorEq, Nat.reduceEqDiff, Nat.reduceAdd, Nat.reduceSub, Nat.reduceMul, Nat.reduceLeDiff, Nat.reduceLT]
    refine qif_dt h ?_
    simp only [Tryd.f120, go_sem, Int.reduceToNat, Int.reduceEq, Int.reduceNe, Int.reduceLT, Int.reduceLE, Int.reduceNeg, Int.reduceAdd, ↓reduceIte, ↓reduceCtorEq, Nat.reduceEqDiff, Nat.reduceAdd, Nat.reduceSub, Nat.reduceMul, Nat.reduceLeDiff, Nat.reduceLT]
    refine qand_i (by first | omega | (simp [V_length, U_length, tab_length, maxLen]; done) | (simp [V_length, U_length, tab_length, maxLen]; omega) | (refine ⟨?_, ?_⟩ <;> first | omega | (simp [V_length, U_length, tab_length, maxLen]; done) | (simp [V_length, U_length, tab_length, maxLen]; omega))) ?_; simp only [Tryd.f120, go_sem, Int.reduceToNat, Int.reduceEq, Int.reduceNe, Int.reduceLT, Int.reduceLE, Int.reduceNeg, Int.reduceAdd, ↓reduceIte, ↓reduceCtorEq, Nat.reduceEqDiff, Nat.reduceAdd, Nat.reduceSub, Nat.reduceMul, Nat.reduceLeDiff, Nat.reduceLT]
    refine qval_i (congrArg (Option.map _) hxx) ?_
    simp only [Tryd.f120, e32, e1, e2, p1, p2, go_sem, Int.reduceToNat, Int.reduceEq, Int.reduceNe, Int.reduceLT, Int.reduceLE, Int.reduceNeg, Int.reduceAdd, ↓reduceIte, ↓reduceCtorEq, Nat.reduceEqDiff, Nat.reduceAdd, Nat.reduceSub, Nat.reduceMul, Nat.reduceLeDiff, Nat.reduceLT]
    refine qand_i (by first | omega | (simp [V_length, U_length, tab_length, maxLen]; done) | (simp [V_length, U_length, tab_length, maxLen]; omega) | (refine ⟨?_, ?_⟩ <;> first | omega | (simp [V_length, U_length, tab_length, maxLen]; done) | (simp [V_length, U_length, tab_length, maxLen]; omega))) ?_; simp only [Tryd.f120, hwi, p2, go_sem, Int.reduceToNat, Int.reduceEq, Int.reduceNe, Int.reduceLT, Int.reduceLE, Int.reduceNeg, Int.reduceAdd, ↓reduceIte, ↓reduceCtorEq, Nat.reduceEqDiff, Nat.reduceAdd, Nat.reduceSub, Nat.reduceMul, Nat.reduceLeDiff, Nat.reduceLT]
    refine ⟨i + 1, by have := hin hin'; omega, by have := hin hin'; omega, ?_⟩
    simp [Wk, sget, killL, kill1, SV.key, NL, VL, u, e32, tab_succ, ← V_append, V_one]
  · have hd0 : d = 0 := by
      rw [← hd, Nat.div_eq_of_lt, Nat.zero_mod]
      refine Nat.lt_of_not_le fun hle => ?_
      have := (hi1 i).2 hle
      omega
    subst hd0
    simp only [Tryd.f120, go_sem, Int.reduceToNat, Int.reduceEq, Int.reduceNe, Int.reduceLT, Int.reduceLE, Int.reduceNeg, Int.reduceAdd, ↓reduceIte, ↓reduceCtorEq, Nat.reduceEqDiff, Nat.reduceAdd, Nat.reduceSub, Nat.reduceMul, Nat.reduceLeDiff, Nat.reduceLT]
    refine qif_d (fun h' => ?_) (fun h' => ?_)
    · have hin' : i < n' := hcg (by omega)
      obtain ⟨p1, p2⟩ := push c (by simpa using hdig) (by simpa using hnext) hin' (by omega)
      simp only [Tryd.f120, go_sem, Int.reduceToNat, Int.reduceEq, Int.reduceNe, Int.reduceLT, Int.reduceLE, Int.reduceNeg, Int.reduceAdd, ↓reduceIte, ↓reduceCtorEq, Nat.reduceEqDiff, Nat.reduceAdd, Nat.reduceSub, Nat.reduceMul, Nat.reduceLeDiff, Nat.reduceLT]
      refine qif_df h ?_
      simp only [Tryd.f120, p1, go_sem, Int.reduceToNat, Int.reduceEq, Int.reduceNe, Int.reduceLT, Int.reduceLE, Int.reduceNeg, Int.reduceAdd, ↓reduceIte, ↓reduceCtorEq, Nat.reduceEqDiff, Nat.reduceAdd, Nat.reduceSub, Nat.reduceMul, Nat.reduceLeDiff, Nat.reduceLT]
      refine qand_i (by first | omega | (simp [V_length, U_length, tab_length, maxLen]; done) | (simp [V_length, U_length, tab_length, maxLen]; omega) | (refine ⟨?_, ?_⟩ <;> first | omega | (simp [V_length, U_length, tab_length, maxLen]; done) | (simp [V_length, U_length, tab_length, maxLen]; omega))) ?_; simp only [Tryd.f120, hwi, p2, go_sem, Int.reduceToNat, Int.reduceEq, Int.reduceNe, Int.reduceLT, Int.reduceLE, Int.reduceNeg, Int.reduceAdd, ↓reduceIte, ↓reduceCtorEq, Nat.reduceEqDiff, Nat.reduceAdd, Nat.reduceSub, Nat.reduceMul, Nat.reduceLeDiff, Nat.reduceLT]
      refine ⟨i + 1, by omega, by omega, ?_⟩
      simp [Wk, sget, killL, kill1, SV.key, NL, VL, u, e32, tab_succ, ← V_append, V_one]
    · simp only [Tryd.f120, go_sem, Int.reduceToNat, Int.reduceEq, Int.reduceNe, Int.reduceLT, Int.reduceLE, Int.reduceNeg, Int.reduceAdd, ↓reduceIte, ↓reduceCtorEq, Nat.reduceEqDiff, Nat.reduceAdd, Nat.reduceSub, Nat.reduceMul, Nat.reduceLeDiff, Nat.reduceLT]
      have hlt : 2 * x + m < B ^ i := by
        have h1 : c = 0 := by omega
        have h2 : ¬ B ^ i ≤ x := fun hle => by have := (hi1 i).2 hle; omega
        have h3 := dcarry_div (x := x) (m := m) (vn_pow i)
        rw [hc, h1, Nat.div_eq_of_lt (show x < B ^ i by omega)] at h3
        have h4 := Nat.mod_lt (2 * x + m) (vn_pow i)
        have h5 := Nat.mod_add_div (2 * x + m) (B ^ i)
        rw [h3] at h5
        omega
      have := dg_eq_tab B2 (x := 2 * x + m) (n := i) (by omega) hlt
      have hlen : i = n' := by
        refine Nat.le_antisymm hi (Nat.le_of_not_lt fun hgt => ?_)
        have := (hi2 i).1 hgt
        omega
      rw [this, hlen, ← hn']
      rfl
theorem lt_of_dg {x i : Nat} (h : ¬ i < (dg B x).length) : x < B ^ i := Nat.lt_of_not_le fun hle => h ((dg_lt B2).2 hle)
theorem dig_zero {x i : Nat} (h : ¬ i < (dg B x).length) : x / B ^ i % B = 0 := by rw [Nat.div_eq_of_lt (lt_of_dg h), Nat.zero_mod]

theorem carry_div {A C M : Nat} (hM : 0 < M) : (A + C) / M = A / M + C / M + carry A C M := by
  have e : A + C = (A % M + C % M) + M * (A / M + C / M) := by
    have := Nat.mod_add_div A M
    have := Nat.mod_add_div C M
    rw [Nat.mul_add]
    omega
  rw [e, Nat.add_mul_div_left _ _ hM]
  unfold carry
  omega

theorem c_rAdd (x y : Nat) (hx : (dg B x).length ≤ 4194304) (hy : (dg B y).length ≤ 4194304) : PC E 136 [VN x, VN y] (VN (x + y)) := by
  refine PC.of_body follows Tryd.func136 (by decide +kernel) rfl (by kernel_rfl) (Nat.le_of_ble_eq_true rfl) (walk ?_)
  simp only [VN, VL]
  simp only [Tryd.f136, go_sem, Int.reduceToNat, Int.reduceEq, Int.reduceNe, Int.reduceLT, Int.reduceLE, Int.reduceNeg, Int.reduceAdd, ↓reduceIte, ↓reduceCtorEq, Nat.reduceEqDiff, Nat.reduceAdd, Nat.reduceSub, Nat.reduceMul, Nat.reduceLeDiff, Nat.reduceLT]
  generalize hn1 : (dg B x).length = n1 at *
  generalize hn2 : (dg B y).length = n2 at *
  generalize hn' : (dg B (x + y)).length = n' at *
  have hi2 : ∀ i, i < n' ↔ B ^ i ≤ x + y := fun i => by rw [← hn']; exact dg_lt B2
  have hin1 : ∀ i, i < n1 → i < n' := fun i h => by rw [hi2]; have := (dg_lt B2 (x := x) (i := i)).1 (by omega); omega
  have hin2 : ∀ i, i < n2 → i < n' := fun i h => by rw [hi2]; have := (dg_lt B2 (x := y) (i := i)).1 (by omega); omega
  have hn3 : n' ≤ max n1 n2 + 1 := by
    rw [← hn', dg_length_le B2, Nat.pow_succ]
    have h1 := lt_of_dg (x := x) (i := max n1 n2) (by omega)
    have h2 := lt_of_dg (x := y) (i := max n1 n2) (by omega)
    have h3 : B ^ max n1 n2 * B = 65536 * B ^ max n1 n2 := Nat.mul_comm _ _
    omega
  refine PLoop.nilrow 5 50 (by decide) 105 1 rfl ?_
  refine PLoop.intro (fun i : Nat => ⟨[(0, .val (.lst n1 (V (dg B x)))), (1, .val (.lst n2 (V (dg B y)))), (5, .row 50), (6, .val (e32 (carry x y (B ^ i)))), (7, .val (.int .i64 i))], [(50, (.row 105 1 i (V (tab B (x + y) i)), false))]⟩) (fun i => i ≤ n') (fun i => n' - i) 0 (by omega) ?_ fun i hi => walk ?_
  · simp [Wk, sget, killL, kill1, SV.key, NL, VL, u, e32, tab, V, carry_one]
  have hB : (B : Nat) = 65536 := rfl
  have hc1 := carry_le (A := x) (B := y) (vn_pow i)
  have hdig := carry_digit (A := x) (B := y) (W := B) (vn_pow i)
  have hnext := carry_next (A := x) (B := y) (W := B) (vn_pow i)
  rw [← Nat.pow_succ] at hnext
  have hdl : x / B ^ i % B < B := Nat.mod_lt _ B0
  have hel : y / B ^ i % B < B := Nat.mod_lt _ B0
  have hcg : 0 < carry x y (B ^ i) → i < n' := fun h => by
    rw [hi2]
    have := carry_div (A := x) (C := y) (vn_pow i)
    exact (Nat.div_pos_iff.1 (by rw [this]; exact Nat.lt_of_lt_of_le h (Nat.le_add_left _ _))).2
  have hexit : ¬ i < n1 → ¬ i < n2 → ¬ 0 < carry x y (B ^ i) → .lst i (V (tab B (x + y) i)) = VL (dg B (x + y)) := fun h1 h2 h3 => by
    have hlt : x + y < B ^ i := by
      have h4 := carry_div (A := x) (C := y) (vn_pow i)
      rw [Nat.div_eq_of_lt (lt_of_dg (x := x) (i := i) (by omega)), Nat.div_eq_of_lt (lt_of_dg (x := y) (i := i) (by omega))] at h4
      have h5 := Nat.mod_lt (x + y) (vn_pow i)
      have h6 := Nat.mod_add_div (x + y) (B ^ i)
      rw [h4, show carry x y (B ^ i) = 0 by omega] at h6
      omega
    rw [dg_eq_tab B2 (by omega) hlt]
    have hlen : i = n' := by
      refine Nat.le_antisymm hi (Nat.le_of_not_lt fun hgt => ?_)
      have := (hi2 i).1 hgt
      omega
    rw [hlen, ← hn']
    rfl
  have hwi : IntKind.wrap .i64 ((i : Int) + 1) = ((i + 1 : Nat) : Int) := by rw [wrap64 (by omega) (by omega)]; omega
  have hdx : i < n1 → (V (dg B x))[i]? = some (e32 (x / B ^ i % B)) := fun h => vn_at (by omega)
  have hdy : i < n2 → (V (dg B y))[i]? = some (e32 (y / B ^ i % B)) := fun h => vn_at (by omega)
  have hd0 : ¬ i < n1 → x / B ^ i % B = 0 := fun h => dig_zero (by omega)
  have he0 : ¬ i < n2 → y / B ^ i % B = 0 := fun h => dig_zero (by omega)
  generalize hc : carry x y (B ^ i) = c at *
  generalize hd : x / B ^ i % B = d at *
  generalize he : y / B ^ i % B = e at *
  have push : i < n' → ((((c + d + e : Nat) : Nat) : Int).tmod 65536 = (((x + y) / B ^ i % B : Nat) : Int) ∧ IntKind.wrap .u32 (((c + d + e : Nat) : Int).tdiv 65536) = ((carry x y (B ^ (i + 1)) : Nat) : Int)) := by
    intro h3
    refine ⟨by rw [← hdig, show d + e + c = c + d + e by omega]; exact n_tmod _ 65536, ?_⟩
    rw [show ((c + d + e : Nat) : Int).tdiv 65536 = ((c + d + e) / B : Nat) from n_tdiv _ 65536, show c + d + e = d + e + c by omega, hnext]
    exact wrap32 (by have := carry_le (A := x) (B := y) (vn_pow i.succ); omega)
  have e1 : IntKind.wrap .u32 ((c : Int) + (d : Int)) = ((c + d : Nat) : Int) := by rw [show (c : Int) + (d : Int) = ((c + d : Nat) : Int) by omega]; exact wrap32 (by omega)
  have e2 : IntKind.wrap .u32 (((c + d : Nat) : Int) + (e : Int)) = ((c + d + e : Nat) : Int) := by rw [show ((c + d : Nat) : Int) + (e : Int) = ((c + d + e : Nat) : Int) by omega]; exact wrap32 (by omega)
  simp only [e32]
  simp only [Tryd.f136, go_sem, Int.reduceToNat, Int.reduceEq, Int.reduceNe, Int.reduceLT, Int.reduceLE, Int.reduceNeg, Int.reduceAdd, ↓reduceIte, ↓reduceCtorEq, Nat.reduceEqDiff, Nat.reduceAdd, Nat.reduceSub, Nat.reduceMul, Nat.reduceLeDiff, Nat.reduceLT]
  refine qif_d (fun h => ?_) (fun h => ?_)
  · obtain ⟨p1, p2⟩ := push (hin1 i (by omega))
    have hin := hin1 i (by omega)
    have hxx := hdx (by omega)
    simp only [Tryd.f136, go_sem, Int.reduceToNat, Int.reduceEq, Int.reduceNe, Int.reduceLT, Int.reduceLE, Int.reduceNeg, Int.reduceAdd, ↓reduceIte, ↓reduceCtorEq, Nat.reduceEqDiff, Nat.reduceAdd, Nat.reduceSub, Nat.reduceMul, Nat.reduceLeDiff, Nat.reduceLT]
    refine qif_dt h ?_
    simp only [Tryd.f136, go_sem, Int.reduceToNat, Int.reduceEq, Int.reduceNe, Int.reduceLT, Int.reduceLE, Int.reduceNeg, Int.reduceAdd, ↓reduceIte, ↓reduceCtorEq, Nat.reduceEqDiff, Nat.reduceAdd, Nat.reduceSub, Nat.reduceMul, Nat.reduceLeDiff, Nat.reduceLT]
    refine qand_i (by first | omega | (simp [V_length, U_length, tab_length, maxLen]; done) | (simp [V_length, U_length, tab_length, maxLen]; omega) | (refine ⟨?_, ?_⟩ <;> first | omega | (simp [V_length, U_length, tab_length, maxLen]; done) | (simp [V_length, U_length, tab_length, maxLen]; omega))) ?_; simp only [Tryd.f136, go_sem, Int.reduceToNat, Int.reduceEq, Int.reduceNe, Int.reduceLT, Int.reduceLE, Int.reduceNeg, Int.reduceAdd, ↓reduceIte, ↓reduceCtorEq, Nat.reduceEqDiff, Nat.reduceAdd, Nat.reduceSub, Nat.reduceMul, Nat.reduceLeDiff, Nat.reduceLT]
    refine qval_i (congrArg (Option.map _) hxx) ?_
    simp only [Tryd.f136, e32, e1, go_sem, Int.reduceToNat, Int.reduceEq, Int.reduceNe, Int.reduceLT, Int.reduceLE, Int.reduceNeg, Int.reduceAdd, ↓reduceIte, ↓reduceCtorEq, Nat.reduceEqDiff, Nat.reduceAdd, Nat.reduceSub, Nat.reduceMul, Nat.reduceLeDiff, Nat.reduceLT]
    refine qif_d (fun h' => ?_) (fun h' => ?_)
    · have hyy := hdy (by omega)
      simp only [Tryd.f136, go_sem, Int.reduceToNat, Int.reduceEq, Int.reduceNe, Int.reduceLT, Int.reduceLE, Int.reduceNeg, Int.reduceAdd, ↓reduceIte, ↓reduceCtorEq, Nat.reduceEqDiff, Nat.reduceAdd, Nat.reduceSub, Nat.reduceMul, Nat.reduceLeDiff, Nat.reduceLT]
      refine qand_i (by first | omega | (simp [V_length, U_length, tab_length, maxLen]; done) | (simp [V_length, U_length, tab_length, maxLen]; omega) | (refine ⟨?_, ?_⟩ <;> first | omega | (simp [V_length, U_length, tab_length, maxLen]; done) | (simp [V_length, U_length, tab_length, maxLen]; omega))) ?_; simp only [Tryd.f136, go_sem, Int.reduceToNat, Int.reduceEq, Int.reduceNe, Int.reduceLT, Int.reduceLE, Int.reduceNeg, Int.reduceAdd, ↓reduceIte, ↓reduceCtorEq, Nat.reduceEqDiff, Nat.reduceAdd, Nat.reduceSub, Nat.reduceMul, Nat.reduceLeDiff, Nat.reduceLT]
      refine qval_i (congrArg (Option.map _) hyy) ?_
      simp only [Tryd.f136, e32, e2, p1, go_sem, Int.reduceToNat, Int.reduceEq, Int.reduceNe, Int.reduceLT, Int.reduceLE, Int.reduceNeg, Int.reduceAdd, ↓reduceIte, ↓reduceCtorEq, Nat.reduceEqDiff, Nat.reduceAdd, Nat.reduceSub, Nat.reduceMul, Nat.reduceLeDiff, Nat.reduceLT]
      refine qand_i (by first | omega | (simp [V_length, U_length, tab_length, maxLen]; done) | (simp [V_length, U_length, tab_length, maxLen]; omega) | (refine ⟨?_, ?_⟩ <;> first | omega | (simp [V_length, U_length, tab_length, maxLen]; done) | (simp [V_length, U_length, tab_length, maxLen]; omega))) ?_; simp only [Tryd.f136, hwi, p2, go_sem, Int.reduceToNat, Int.reduceEq, Int.reduceNe, Int.reduceLT, Int.reduceLE, Int.reduceNeg, Int.reduceAdd, ↓reduceIte, ↓reduceCtorEq, Nat.reduceEqDiff, Nat.reduceAdd, Nat.reduceSub, Nat.reduceMul, Nat.reduceLeDiff, Nat.reduceLT]
      refine ⟨i + 1, by omega, by omega, ?_⟩
      simp [Wk, sget, killL, kill1, SV.key, NL, VL, u, e32, tab_succ, ← V_append, V_one]
    · have e0 := he0 (by omega)
      subst e0
      rw [Nat.add_zero] at p1 p2
      simp only [Tryd.f136, p1, go_sem, Int.reduceToNat, Int.reduceEq, Int.reduceNe, Int.reduceLT, Int.reduceLE, Int.reduceNeg, Int.reduceAdd, ↓reduceIte, ↓reduceCtorEq, Nat.reduceEqDiff, Nat.reduceAdd, Nat.reduceSub, Nat.reduceMul, Nat.reduceLeDiff, Nat.reduceLT]
      refine qand_i (by first | omega | (simp [V_length, U_length, tab_length, maxLen]; done) | (simp [V_length, U_length, tab_length, maxLen]; omega) | (refine ⟨?_, ?_⟩ <;> first | omega | (simp [V_length, U_length, tab_length, maxLen]; done) | (simp [V_length, U_length, tab_length, maxLen]; omega))) ?_; simp only [Tryd.f136, hwi, p2, go_sem, Int.reduceToNat, Int.reduceEq, Int.reduceNe, Int.reduceLT, Int.reduceLE, Int.reduceNeg, Int.reduceAdd, ↓reduceIte, ↓reduceCtorEq, Nat.reduceEqDiff, Nat.reduceAdd, Nat.reduceSub, Nat.reduceMul, Nat.reduceLeDiff, Nat.reduceLT]
      refine ⟨i + 1, by omega, by omega, ?_⟩
      simp [Wk, sget, killL, kill1, SV.key, NL, VL, u, e32, tab_succ, ← V_append, V_one]
  · have d0 := hd0 (by omega)
    subst d0
    simp only [Tryd.f136, go_sem, Int.reduceToNat, Int.reduceEq, Int.reduceNe, Int.reduceLT, Int.reduceLE, Int.reduceNeg, Int.reduceAdd, ↓reduceIte, ↓reduceCtorEq, Nat.reduceEqDiff, Nat.reduceAdd, Nat.reduceSub, Nat.reduceMul, Nat.reduceLeDiff, Nat.reduceLT]
    refine qif_d (fun h' => ?_) (fun h' => ?_)
    · obtain ⟨p1, p2⟩ := push (hin2 i (by omega))
      have hin := hin2 i (by omega)
      have hyy := hdy (by omega)
      simp only [Tryd.f136, go_sem, Int.reduceToNat, Int.reduceEq, Int.reduceNe, Int.reduceLT, Int.reduceLE, Int.reduceNeg, Int.reduceAdd, ↓reduceIte, ↓reduceCtorEq, Nat.reduceEqDiff, Nat.reduceAdd, Nat.reduceSub, Nat.reduceMul, Nat.reduceLeDiff, Nat.reduceLT]
      refine qif_df h ?_
      simp only [Tryd.f136, go_sem, Int.reduceToNat, Int.reduceEq, Int.reduceNe, Int.reduceLT, Int.reduceLE, Int.reduceNeg, Int.reduceAdd, ↓reduceIte, ↓reduceCtorEq, Nat.reduceEqDiff, Nat.reduceAdd, Nat.reduceSub, Nat.reduceMul, Nat.reduceLeDiff, Nat.reduceLT]
      refine qif_dt h' ?_
      simp only [Tryd.f136, go_sem, Int.reduceToNat, Int.reduceEq, Int.reduceNe, Int.reduceLT, Int.reduceLE, Int.reduceNeg, Int.reduceAdd, ↓reduceIte, ↓reduceCtorEq, Nat.reduceEqDiff, Nat.reduceAdd, Nat.reduceSub, Nat.reduceMul, Nat.reduceLeDiff, Nat.reduceLT]
      refine qand_i (by first | omega | (simp [V_length, U_length, tab_length, maxLen]; done) | (simp [V_length, U_length, tab_length, maxLen]; omega) | (refine ⟨?_, ?_⟩ <;> first | omega | (simp [V_length, U_length, tab_length, maxLen]; done) | (simp [V_length, U_length, tab_length, maxLen]; omega))) ?_; simp only [Tryd.f136, go_sem, Int.reduceToNat, Int.reduceEq, Int.reduceNe, Int.reduceLT, Int.reduceLE, Int.reduceNeg, Int.reduceAdd, ↓reduceIte, ↓reduceCtorEq, Nat.reduceEqDiff, Nat.reduceAdd, Nat.reduceSub, Nat.reduceMul, Nat.reduceLeDiff, Nat.reduceLT]
      refine qval_i (congrArg (Option.map _) hyy) ?_
      rw [Nat.add_zero] at e2 p1 p2
      simp only [Tryd.f136, e32, e2, p1, go_sem, Int.reduceToNat, Int.reduceEq, Int.reduceNe, Int.reduceLT, Int.reduceLE, Int.reduceNeg, Int.reduceAdd, ↓reduceIte, ↓reduceCtorEq, Nat.reduceEqDiff, Nat.reduceAdd, Nat.reduceSub, Nat.reduceMul, Nat.reduceLeDiff, Nat.reduceLT]
      refine qand_i (by first | omega | (simp [V_length, U_length, tab_length, maxLen]; done) | (simp [V_length, U_length, tab_length, maxLen]; omega) | (refine ⟨?_, ?_⟩ <;> first | omega | (simp [V_length, U_length, tab_length, maxLen]; done) | (simp [V_length, U_length, tab_length, maxLen]; omega))) ?_; simp only [Tryd.f136, hwi, p2, go_sem, Int.reduceToNat, Int.reduceEq, Int.reduceNe, Int.reduceLT, Int.reduceLE, Int.reduceNeg, Int.reduceAdd, ↓reduceIte, ↓reduceCtorEq, Nat.reduceEqDiff, Nat.reduceAdd, Nat.reduceSub, Nat.reduceMul, Nat.reduceLeDiff, Nat.reduceLT]
      refine ⟨i + 1, by omega, by omega, ?_⟩
      simp [Wk, sget, killL, kill1, SV.key, NL, VL, u, e32, tab_succ, ← V_append, V_one]
    · have e0 := he0 (by omega)
      subst e0
      simp only [Tryd.f136, go_sem, Int.reduceToNat, Int.reduceEq, Int.reduceNe, Int.reduceLT, Int.reduceLE, Int.reduceNeg, Int.reduceAdd, ↓reduceIte, ↓reduceCtorEq, Nat.reduceEqDiff, Nat.reduceAdd, Nat.reduceSub, Nat.reduceMul, Nat.reduceLeDiff, Nat.reduceLT]
      refine qif_d (fun h3 => ?_) (fun h3 => ?_)
      · have hin := hcg (by omega)
        obtain ⟨p1, p2⟩ := push hin
        simp only [Nat.add_zero] at p1 p2
        simp only [Tryd.f136, go_sem, Int.reduceToNat, Int.reduceEq, Int.reduceNe, Int.reduceLT, Int.reduceLE, Int.reduceNeg, Int.reduceAdd, ↓reduceIte, ↓reduceCtorEq, Nat.reduceEqDiff, Nat.reduceAdd, Nat.reduceSub, Nat.reduceMul, Nat.reduceLeDiff, Nat.reduceLT]
        refine qif_df h ?_
        simp only [Tryd.f136, go_sem, Int.reduceToNat, Int.reduceEq, Int.reduceNe, Int.reduceLT, Int.reduceLE, Int.reduceNeg, Int.reduceAdd, ↓reduceIte, ↓reduceCtorEq, Nat.reduceEqDiff, Nat.reduceAdd, Nat.reduceSub, Nat.reduceMul, Nat.reduceLeDiff, Nat.reduceLT]
        refine qif_df h' ?_
        simp only [Tryd.f136, p1, go_sem, Int.reduceToNat, Int.reduceEq, Int.reduceNe, Int.reduceLT, Int.reduceLE, Int.reduceNeg, Int.reduceAdd, ↓reduceIte, ↓reduceCtorEq, Nat.reduceEqDiff, Nat.reduceAdd, Nat.reduceSub, Nat.reduceMul, Nat.reduceLeDiff, Nat.reduceLT]
        refine qand_i (by first | omega | (simp [V_length, U_length, tab_length, maxLen]; done) | (simp [V_length, U_length, tab_length, maxLen]; omega) | (refine ⟨?_, ?_⟩ <;> first | omega | (simp [V_length, U_length, tab_length, maxLen]; done) | (simp [V_length, U_length, tab_length, maxLen]; omega))) ?_; simp only [Tryd.f136, hwi, p2, go_sem, Int.reduceToNat, Int.reduceEq, Int.reduceNe, Int.reduceLT, Int.reduceLE, Int.reduceNeg, Int.reduceAdd, ↓reduceIte, ↓reduceCtorEq, Nat.reduceEqDiff, Nat.reduceAdd, Nat.reduceSub, Nat.reduceMul, Nat.reduceLeDiff, Nat.reduceLT]
        refine ⟨i + 1, by omega, by omega, ?_⟩
        simp [Wk, sget, killL, kill1, SV.key, NL, VL, u, e32, tab_succ, ← V_append, V_one]
      · simp only [Tryd.f136, go_sem, Int.reduceToNat, Int.reduceEq, Int.reduceNe, Int.reduceLT, Int.reduceLE, Int.reduceNeg, Int.reduceAdd, ↓reduceIte, ↓reduceCtorEq, Nat.reduceEqDiff, Nat.reduceAdd, Nat.reduceSub, Nat.reduceMul, Nat.reduceLeDiff, Nat.reduceLT]
        exact hexit (by omega) (by omega) (by omega)

theorem c_rCmp (x y : Nat) (hx : (dg B x).length ≤ 4194304) (hy : (dg B y).length ≤ 4194304) : PC E 137 [VN x, VN y] (.int .i64 (sgn x y)) := by
  refine PC.of_body follows Tryd.func137 (by decide +kernel) rfl (by kernel_rfl) (Nat.le_of_ble_eq_true rfl) (walk ?_)
  have ox := ok_dg B2 x
  have oy := ok_dg B2 y
  have vx := dv_dg B2 x
  have vy := dv_dg B2 y
  have l1 : (dg B x).length < (dg B y).length → x < y := fun h => by
    have h1 := lt_of_dg (x := x) (i := (dg B x).length) (by omega)
    have h2 := (dg_lt B2 (x := y)).1 h
    omega
  have l2 : (dg B y).length < (dg B x).length → y < x := fun h => by
    have h1 := lt_of_dg (x := y) (i := (dg B y).length) (by omega)
    have h2 := (dg_lt B2 (x := x)).1 h
    omega
  simp only [VN, VL]
  simp only [Tryd.f137, go_sem, Int.reduceToNat, Int.reduceEq, Int.reduceNe, Int.reduceLT, Int.reduceLE, Int.reduceNeg, Int.reduceAdd, ↓reduceIte, ↓reduceCtorEq, Nat.reduceEqDiff, Nat.reduceAdd, Nat.reduceSub, Nat.reduceMul, Nat.reduceLeDiff, Nat.reduceLT]
  generalize dg B x = l at *
  generalize dg B y = r at *
  refine qif_d (fun h => ?_) (fun h => ?_)
  · simp only [Tryd.f137, go_sem, Int.reduceToNat, Int.reduceEq, Int.reduceNe, Int.reduceLT, Int.reduceLE, Int.reduceNeg, Int.reduceAdd, ↓reduceIte, ↓reduceCtorEq, Nat.reduceEqDiff, Nat.reduceAdd, Nat.reduceSub, Nat.reduceMul, Nat.reduceLeDiff, Nat.reduceLT]
    refine qif_d (fun h' => ?_) (fun h' => ?_)
    · simp only [Tryd.f137, go_sem, Int.reduceToNat, Int.reduceEq, Int.reduceNe, Int.reduceLT, Int.reduceLE, Int.reduceNeg, Int.reduceAdd, ↓reduceIte, ↓reduceCtorEq, Nat.reduceEqDiff, Nat.reduceAdd, Nat.reduceSub, Nat.reduceMul, Nat.reduceLeDiff, Nat.reduceLT]
      have := l1 (by omega)
      rw [sgn, if_pos (by omega)]
    · simp only [Tryd.f137, go_sem, Int.reduceToNat, Int.reduceEq, Int.reduceNe, Int.reduceLT, Int.reduceLE, Int.reduceNeg, Int.reduceAdd, ↓reduceIte, ↓reduceCtorEq, Nat.reduceEqDiff, Nat.reduceAdd, Nat.reduceSub, Nat.reduceMul, Nat.reduceLeDiff, Nat.reduceLT]
      have := l2 (by omega)
      rw [sgn, if_neg (by omega), if_pos (by omega)]
  · have hll : l.length = r.length := by omega
    have hw1 : ∀ k : Nat, k ≤ l.length → IntKind.wrap .i64 ((k : Int) - 1) = (k : Int) - 1 := fun k hk => wrap64 (by omega) (by omega)
    have hw1' := hw1 l.length (Nat.le_refl _)
    simp only [Tryd.f137, hw1', go_sem, Int.reduceToNat, Int.reduceEq, Int.reduceNe, Int.reduceLT, Int.reduceLE, Int.reduceNeg, Int.reduceAdd, ↓reduceIte, ↓reduceCtorEq, Nat.reduceEqDiff, Nat.reduceAdd, Nat.reduceSub, Nat.reduceMul, Nat.reduceLeDiff, Nat.reduceLT]
    refine PLoop.intro (fun k : Nat => ⟨[(0, .val (.lst l.length (V l))), (1, .val (.lst r.length (V r))), (5, .val (.int .i64 ((k : Int) - 1)))], []⟩) (fun k => k ≤ l.length ∧ ∀ j, k ≤ j → j < l.length → l.getD j 0 = r.getD j 0) id l.length ⟨Nat.le_refl _, fun j h1 h2 => by omega⟩ ?_ fun k hk => walk ?_
    · simp [Wk, sget, killL, kill1, SV.key, NL, VL, u, e32]
    obtain ⟨hk, hj⟩ := hk
    simp only [Tryd.f137, go_sem, Int.reduceToNat, Int.reduceEq, Int.reduceNe, Int.reduceLT, Int.reduceLE, Int.reduceNeg, Int.reduceAdd, ↓reduceIte, ↓reduceCtorEq, Nat.reduceEqDiff, Nat.reduceAdd, Nat.reduceSub, Nat.reduceMul, Nat.reduceLeDiff, Nat.reduceLT]
    refine qif_d (fun h1 => ?_) (fun h1 => ?_)
    · obtain ⟨k, rfl⟩ : ∃ j, k = j + 1 := ⟨k - 1, by omega⟩
      have hk' : ((k + 1 : Nat) : Int) - 1 = k := by omega
      have hxl := V_getD (l := l) (i := k) (by omega)
      have hxr := V_getD (l := r) (i := k) (by omega)
      have hwk := hw1 k (by omega)
      simp only [Tryd.f137, hk', go_sem, Int.reduceToNat, Int.reduceEq, Int.reduceNe, Int.reduceLT, Int.reduceLE, Int.reduceNeg, Int.reduceAdd, ↓reduceIte, ↓reduceCtorEq, Nat.reduceEqDiff, Nat.reduceAdd, Nat.reduceSub, Nat.reduceMul, Nat.reduceLeDiff, Nat.reduceLT]
      refine qand_i (by first | omega | (simp [V_length, U_length, tab_length, maxLen]; done) | (simp [V_length, U_length, tab_length, maxLen]; omega) | (refine ⟨?_, ?_⟩ <;> first | omega | (simp [V_length, U_length, tab_length, maxLen]; done) | (simp [V_length, U_length, tab_length, maxLen]; omega))) ?_; simp only [Tryd.f137, go_sem, Int.reduceToNat, Int.reduceEq, Int.reduceNe, Int.reduceLT, Int.reduceLE, Int.reduceNeg, Int.reduceAdd, ↓reduceIte, ↓reduceCtorEq, Nat.reduceEqDiff, Nat.reduceAdd, Nat.reduceSub, Nat.reduceMul, Nat.reduceLeDiff, Nat.reduceLT]
      refine qval_i (congrArg (Option.map _) hxl) ?_
      simp only [Tryd.f137, go_sem, Int.reduceToNat, Int.reduceEq, Int.reduceNe, Int.reduceLT, Int.reduceLE, Int.reduceNeg, Int.reduceAdd, ↓reduceIte, ↓reduceCtorEq, Nat.reduceEqDiff, Nat.reduceAdd, Nat.reduceSub, Nat.reduceMul, Nat.reduceLeDiff, Nat.reduceLT]
      refine qand_i (by first | omega | (simp [V_length, U_length, tab_length, maxLen]; done) | (simp [V_length, U_length, tab_length, maxLen]; omega) | (refine ⟨?_, ?_⟩ <;> first | omega | (simp [V_length, U_length, tab_length, maxLen]; done) | (simp [V_length, U_length, tab_length, maxLen]; omega))) ?_; simp only [Tryd.f137, go_sem, Int.reduceToNat, Int.reduceEq, Int.reduceNe, Int.reduceLT, Int.reduceLE, Int.reduceNeg, Int.reduceAdd, ↓reduceIte, ↓reduceCtorEq, Nat.reduceEqDiff, Nat.reduceAdd, Nat.reduceSub, Nat.reduceMul, Nat.reduceLeDiff, Nat.reduceLT]
      refine qval_i (congrArg (Option.map _) hxr) ?_
      simp only [Tryd.f137, e32, go_sem, Int.reduceToNat, Int.reduceEq, Int.reduceNe, Int.reduceLT, Int.reduceLE, Int.reduceNeg, Int.reduceAdd, ↓reduceIte, ↓reduceCtorEq, Nat.reduceEqDiff, Nat.reduceAdd, Nat.reduceSub, Nat.reduceMul, Nat.reduceLeDiff, Nat.reduceLT]
      refine qif_d (fun h2 => ?_) (fun h2 => ?_)
      · simp only [Tryd.f137, go_sem, Int.reduceToNat, Int.reduceEq, Int.reduceNe, Int.reduceLT, Int.reduceLE, Int.reduceNeg, Int.reduceAdd, ↓reduceIte, ↓reduceCtorEq, Nat.reduceEqDiff, Nat.reduceAdd, Nat.reduceSub, Nat.reduceMul, Nat.reduceLeDiff, Nat.reduceLT]
        have := dv_lt_of (b := B) l r k ox hll (by omega) (by omega) fun j h3 h4 => hj j (by omega) h4
        rw [vx, vy] at this
        rw [sgn, if_pos (by omega)]
      · simp only [Tryd.f137, go_sem, Int.reduceToNat, Int.reduceEq, Int.reduceNe, Int.reduceLT, Int.reduceLE, Int.reduceNeg, Int.reduceAdd, ↓reduceIte, ↓reduceCtorEq, Nat.reduceEqDiff, Nat.reduceAdd, Nat.reduceSub, Nat.reduceMul, Nat.reduceLeDiff, Nat.reduceLT]
        refine qand_i (by first | omega | (simp [V_length, U_length, tab_length, maxLen]; done) | (simp [V_length, U_length, tab_length, maxLen]; omega) | (refine ⟨?_, ?_⟩ <;> first | omega | (simp [V_length, U_length, tab_length, maxLen]; done) | (simp [V_length, U_length, tab_length, maxLen]; omega))) ?_; simp only [Tryd.f137, go_sem, Int.reduceToNat, Int.reduceEq, Int.reduceNe, Int.reduceLT, Int.reduceLE, Int.reduceNeg, Int.reduceAdd, ↓reduceIte, ↓reduceCtorEq, Nat.reduceEqDiff, Nat.reduceAdd, Nat.reduceSub, Nat.reduceMul, Nat.reduceLeDiff, Nat.reduceLT]
        refine qval_i (congrArg (Option.map _) hxl) ?_
        simp only [Tryd.f137, go_sem, Int.reduceToNat, Int.reduceEq, Int.reduceNe, Int.reduceLT, Int.reduceLE, Int.reduceNeg, Int.reduceAdd, ↓reduceIte, ↓reduceCtorEq, Nat.reduceEqDiff, Nat.reduceAdd, Nat.reduceSub, Nat.reduceMul, Nat.reduceLeDiff, Nat.reduceLT]
        refine qand_i (by first | omega | (simp [V_length, U_length, tab_length, maxLen]; done) | (simp [V_length, U_length, tab_length, maxLen]; omega) | (refine ⟨?_, ?_⟩ <;> first | omega | (simp [V_length, U_length, tab_length, maxLen]; done) | (simp [V_length, U_length, tab_length, maxLen]; omega))) ?_; simp only [Tryd.f137, go_sem, Int.reduceToNat, Int.reduceEq, Int.reduceNe, Int.reduceLT, Int.reduceLE, Int.reduceNeg, Int.reduceAdd, ↓reduceIte, ↓reduceCtorEq, Nat.reduceEqDiff, Nat.reduceAdd, Nat.reduceSub, Nat.reduceMul, Nat.reduceLeDiff, Nat.reduceLT]
        refine qval_i (congrArg (Option.map _) hxr) ?_
        simp only [Tryd.f137, e32, go_sem, Int.reduceToNat, Int.reduceEq, Int.reduceNe, Int.reduceLT, Int.reduceLE, Int.reduceNeg, Int.reduceAdd, ↓reduceIte, ↓reduceCtorEq, Nat.reduceEqDiff, Nat.reduceAdd, Nat.reduceSub, Nat.reduceMul, Nat.reduceLeDiff, Nat.reduceLT]
        refine qif_d (fun h3 => ?_) (fun h3 => ?_)
        · simp only [Tryd.f137, go_sem, Int.reduceToNat, Int.reduceEq, Int.reduceNe, Int.reduceLT, Int.reduceLE, Int.reduceNeg, Int.reduceAdd, ↓reduceIte, ↓reduceCtorEq, Nat.reduceEqDiff, Nat.reduceAdd, Nat.reduceSub, Nat.reduceMul, Nat.reduceLeDiff, Nat.reduceLT]
          have := dv_lt_of (b := B) r l k oy hll.symm (by omega) (by omega) fun j h3 h4 => (hj j (by omega) (by omega)).symm
          rw [vx, vy] at this
          rw [sgn, if_neg (by omega), if_pos (by omega)]
        · simp only [Tryd.f137, hwk, go_sem, Int.reduceToNat, Int.reduceEq, Int.reduceNe, Int.reduceLT, Int.reduceLE, Int.reduceNeg, Int.reduceAdd, ↓reduceIte, ↓reduceCtorEq, Nat.reduceEqDiff, Nat.reduceAdd, Nat.reduceSub, Nat.reduceMul, Nat.reduceLeDiff, Nat.reduceLT]
          refine ⟨k, ⟨by omega, fun j h4 h5 => ?_⟩, by simp only [id]; omega, ?_⟩
          · rcases Nat.eq_or_lt_of_le h4 with rfl | h6
            · omega
            · exact hj j (by omega) h5
          · simp [Wk, sget, killL, kill1, SV.key, NL, VL, u, e32]
    · simp only [Tryd.f137, go_sem, Int.reduceToNat, Int.reduceEq, Int.reduceNe, Int.reduceLT, Int.reduceLE, Int.reduceNeg, Int.reduceAdd, ↓reduceIte, ↓reduceCtorEq, Nat.reduceEqDiff, Nat.reduceAdd, Nat.reduceSub, Nat.reduceMul, Nat.reduceLeDiff, Nat.reduceLT]
      have e : x = y := by
        rw [← vx, ← vy]
        exact dv_eq_of l r hll fun i hi => hj i (by omega) hi
      subst e
      simp [sgn]

theorem c_Same (a b : List Nat) (ha : a.length ≤ 4194304) : PC E 113 [NL a, NL b] (.bool (decide (a = b))) := by
  refine PC.of_body follows Tryd.func113 (by decide +kernel) rfl (by kernel_rfl) (Nat.le_of_ble_eq_true rfl) (walk ?_)
  simp only [NL]
  simp only [Tryd.f113, go_sem, Int.reduceToNat, Int.reduceEq, Int.reduceNe, Int.reduceLT, Int.reduceLE, Int.reduceNeg, Int.reduceAdd, ↓reduceIte, ↓reduceCtorEq, Nat.reduceEqDiff, Nat.reduceAdd, Nat.reduceSub, Nat.reduceMul, Nat.reduceLeDiff, Nat.reduceLT]
  refine qif_d (fun h => ?_) (fun h => ?_)
  · simp only [Tryd.f113, go_sem, Int.reduceToNat, Int.reduceEq, Int.reduceNe, Int.reduceLT, Int.reduceLE, Int.reduceNeg, Int.reduceAdd, ↓reduceIte, ↓reduceCtorEq, Nat.reduceEqDiff, Nat.reduceAdd, Nat.reduceSub, Nat.reduceMul, Nat.reduceLeDiff, Nat.reduceLT]
    symm
    rw [decide_eq_false_iff_not]
    rintro rfl
    exact h rfl
  · have hll : a.length = b.length := by omega
    simp only [Tryd.f113, go_sem, Int.reduceToNat, Int.reduceEq, Int.reduceNe, Int.reduceLT, Int.reduceLE, Int.reduceNeg, Int.reduceAdd, ↓reduceIte, ↓reduceCtorEq, Nat.reduceEqDiff, Nat.reduceAdd, Nat.reduceSub, Nat.reduceMul, Nat.reduceLeDiff, Nat.reduceLT]
    refine PLoop.intro (fun i : Nat => ⟨[(0, .val (.lst a.length (U a))), (1, .val (.lst b.length (U b))), (5, .val (.int .i64 i))], []⟩) (fun i => i ≤ a.length ∧ ∀ j, j < i → a.getD j 0 = b.getD j 0) (fun i => a.length - i) 0 ⟨Nat.zero_le _, fun j h1 => by omega⟩ ?_ fun i hi => walk ?_
    · simp [Wk, sget, killL, kill1, SV.key, NL, VL, u, e32]
    obtain ⟨hi, hj⟩ := hi
    simp only [Tryd.f113, go_sem, Int.reduceToNat, Int.reduceEq, Int.reduceNe, Int.reduceLT, Int.reduceLE, Int.reduceNeg, Int.reduceAdd, ↓reduceIte, ↓reduceCtorEq, Nat.reduceEqDiff, Nat.reduceAdd, Nat.reduceSub, Nat.reduceMul, Nat.reduceLeDiff, Nat.reduceLT]
    refine qif_d (fun h1 => ?_) (fun h1 => ?_)
    · have hwi : IntKind.wrap .i64 ((i : Int) + 1) = ((i + 1 : Nat) : Int) := by rw [wrap64 (by omega) (by omega)]; omega
      have hxl := U_getD (l := a) (i := i) (by omega)
      have hxr := U_getD (l := b) (i := i) (by omega)
      simp only [Tryd.f113, go_sem, Int.reduceToNat, Int.reduceEq, Int.reduceNe, Int.reduceLT, Int.reduceLE, Int.reduceNeg, Int.reduceAdd, ↓reduceIte, ↓reduceCtorEq, Nat.reduceEqDiff, Nat.reduceAdd, Nat.reduceSub, Nat.reduceMul, Nat.reduceLeDiff, Nat.reduceLT]
      refine qand_i (by first | omega | (simp [V_length, U_length, tab_length, maxLen]; done) | (simp [V_length, U_length, tab_length, maxLen]; omega) | (refine ⟨?_, ?_⟩ <;> first | omega | (simp [V_length, U_length, tab_length, maxLen]; done) | (simp [V_length, U_length, tab_length, maxLen]; omega))) ?_; simp only [Tryd.f113, go_sem, Int.reduceToNat, Int.reduceEq, Int.reduceNe, Int.reduceLT, Int.reduceLE, Int.reduceNeg, Int.reduceAdd, ↓reduceIte, ↓reduceCtorEq, Nat.reduceEqDiff, Nat.reduceAdd, Nat.reduceSub, Nat.reduceMul, Nat.reduceLeDiff, Nat.reduceLT]
      refine qval_i (congrArg (Option.map _) hxl) ?_
      simp only [Tryd.f113, go_sem, Int.reduceToNat, Int.reduceEq, Int.reduceNe, Int.reduceLT, Int.reduceLE, Int.reduceNeg, Int.reduceAdd, ↓reduceIte, ↓reduceCtorEq, Nat.reduceEqDiff, Nat.reduceAdd, Nat.reduceSub, Nat.reduceMul, Nat.reduceLeDiff, Nat.reduceLT]
      refine qand_i (by first | omega | (simp [V_length, U_length, tab_length, maxLen]; done) | (simp [V_length, U_length, tab_length, maxLen]; omega) | (refine ⟨?_, ?_⟩ <;> first | omega | (simp [V_length, U_length, tab_length, maxLen]; done) | (simp [V_length, U_length, tab_length, maxLen]; omega))) ?_; simp only [Tryd.f113, go_sem, Int.reduceToNat, Int.reduceEq, Int.reduceNe, Int.reduceLT, Int.reduceLE, Int.reduceNeg, Int.reduceAdd, ↓reduceIte, ↓reduceCtorEq, Nat.reduceEqDiff, Nat.reduceAdd, Nat.reduceSub, Nat.reduceMul, Nat.reduceLeDiff, Nat.reduceLT]
      refine qval_i (congrArg (Option.map _) hxr) ?_
      simp only [Tryd.f113, u, go_sem, Int.reduceToNat, Int.reduceEq, Int.reduceNe, Int.reduceLT, Int.reduceLE, Int.reduceNeg, Int.reduceAdd, ↓reduceIte, ↓reduceCtorEq, Nat.reduceEqDiff, Nat.reduceAdd, Nat.reduceSub, Nat.reduceMul, Nat.reduceLeDiff, Nat.reduceLT]
      refine qif_d (fun h2 => ?_) (fun h2 => ?_)
      · simp only [Tryd.f113, go_sem, Int.reduceToNat, Int.reduceEq, Int.reduceNe, Int.reduceLT, Int.reduceLE, Int.reduceNeg, Int.reduceAdd, ↓reduceIte, ↓reduceCtorEq, Nat.reduceEqDiff, Nat.reduceAdd, Nat.reduceSub, Nat.reduceMul, Nat.reduceLeDiff, Nat.reduceLT]
        symm
        rw [decide_eq_false_iff_not]
        rintro rfl
        exact h2 rfl
      · simp only [Tryd.f113, hwi, go_sem, Int.reduceToNat, Int.reduceEq, Int.reduceNe, Int.reduceLT, Int.reduceLE, Int.reduceNeg, Int.reduceAdd, ↓reduceIte, ↓reduceCtorEq, Nat.reduceEqDiff, Nat.reduceAdd, Nat.reduceSub, Nat.reduceMul, Nat.reduceLeDiff, Nat.reduceLT]
        refine ⟨i + 1, ⟨by omega, fun j h3 => ?_⟩, by omega, ?_⟩
        · rcases Nat.eq_or_lt_of_le (Nat.le_of_lt_succ h3) with rfl | h4
          · omega
          · exact hj j h4
        · simp [Wk, sget, killL, kill1, SV.key, NL, VL, u, e32]
    · simp only [Tryd.f113, go_sem, Int.reduceToNat, Int.reduceEq, Int.reduceNe, Int.reduceLT, Int.reduceLE, Int.reduceNeg, Int.reduceAdd, ↓reduceIte, ↓reduceCtorEq, Nat.reduceEqDiff, Nat.reduceAdd, Nat.reduceSub, Nat.reduceMul, Nat.reduceLeDiff, Nat.reduceLT]
      symm
      rw [decide_eq_true_iff]
      apply List.ext_getElem hll
      intro j h3 h4
      have := hj j (by omega)
      rw [List.getD_eq_getElem?_getD, List.getD_eq_getElem?_getD, List.getElem?_eq_getElem h3, List.getElem?_eq_getElem h4] at this
      exact this
end Go.Proofs.YtflpcgcgeffolaaDoor
