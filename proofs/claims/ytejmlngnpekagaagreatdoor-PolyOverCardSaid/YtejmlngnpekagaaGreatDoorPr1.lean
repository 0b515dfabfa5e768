/- The document's polynomials: which lists are some, powers, values. -/
import Derived.Test.YtejmlngnpekagaaGreatDoorPol1
import Derived.Test.YtejmlngnpekagaaGreatDoorNm
import Derived.Test.YtejmlngnpekagaaGreatDoorL28
open Go PG Go.Proofs
set_option maxRecDepth 100000
set_option linter.unusedSimpArgs false
set_option linter.unusedVariables false
namespace Go.Proofs.YtejmlngnpekagaaGreatDoor
attribute [local go_sem] Lay2 Lay3 Lay4 Lay5 Lay6 Lay7 Lay8 Lay9 Lay10 Lay11 Lay12 Lay13 Lay14 Lay15 Lay16 Lay17 Lay18 Lay19 Lay21 Lay22 Lay23 Lay25 Lay26 Lay27 Lay30 Lay31 Lay32 Lay33 Lay36 Lay37 Lay41 Lay42 Lay43 Lay47 Lay56 Lay57 Lay59 Lay60 Lay65 Lay66 Lay74 Lay75 Lay105 Lay114 Lay145 Lay146 Lay149 Lay150 Lay151 Lay173 Lay185 Lay189 Lay204 Lay205 Lay208 Lay214 Lay215 Lay216 Lay217 Lay218 Lay220 Lay221 Lay223 Lay224 Lay225 Lay228 qexec_seq qexec_skip qexec_exit qexec_ret qexec_block qexec_loop qexec_range qexec_cond qexec_region qexec_drawn qops_nil qops_none qops_some put_some put_none pblk_exit pblk_other newDsts_nil sget_cons sget_nil qval_some qbool_some qgs_bool qgs_und qfree_some qgrd_true qgrd_false qif_true qif_false qval_ite qval_itn qand_true map_ite map_some' map_none' qdo_move qdo_assign qdo_binOp qdo_pick qdo_unOp qdo_convert qdo_extract qdo_field qdo_fieldAddr qdo_alloc qdo_box qdo_build qdo_buildSlice qdo_load qdo_store qdo_nilCheck qdo_makeFunc qdo_makeSlice qdo_slice qdo_indexAddr qdo_call qcont_val qcont_new qcont_st qcont_app0 qcont_app qcont_inl qcont_call njSV_val njSV_nil njSV_row njSV_ptr njSV_sub binV_val binV_nil binV_nn binV_ptr bin_np bin_nnp nilCmp bin_add bin_sub bin_mul bin_quo bin_rem bin_and bin_or bin_xor bin_andNot bin_eql bin_neq bin_lss bin_leq bin_gtr bin_geq bin_shl bin_shr bin_seql bin_sneq bin_sadd bin_beql bin_aeql bin_aneq eqAnd_some eqCells_nil eqCells_cons fieldTypes isStruct eqCell bin_bneq un_not un_neg nj_ite Nat.beq stepA stepR isNew opSV constSV RV.sv allSome E_mu E_own qkeyIn_none qkeyIn_some qkeyAt_none qkeyAt_some Bool.or_false Bool.false_or Bool.or_true Bool.true_or cst setB res resSV pstart startL killL kill1 eraL frzL svPV rvPV rvInt rvSlice frzOf close closeL pconv pbuiltin pmax2 partPV setCells fillPV zrow bound newSV PV.cells Bk.cells Bk.with SV.key pres presL_nil presL_tmp presL_cell presC2_some cellPV_ptr presC List.toList_toArray List.size_toArray List.getElem?_drop Nat.mul_one Int.toNat_natCast Nat.not_lt_zero Nat.lt_irrefl decide_true decide_false Nat.not_lt Option.some.injEq PV.lst.injEq PV.int.injEq PV.bool.injEq PV.tuple.injEq List.cons.injEq Option.map_some Option.map_none Option.bind_some Option.toList List.map_cons List.map_nil List.nil_append List.cons_append List.append_nil List.zip_cons_cons List.zip_nil_left List.zip_nil_right List.getElem?_cons_zero List.getElem?_cons_succ List.drop_zero List.drop_succ_cons List.take_succ_cons List.take_zero List.set_cons_zero List.set_cons_succ List.length_cons List.length_nil List.length_set List.replicate_one List.replicate_zero bne_self_eq_false beq_self_eq_true Nat.zero_add Nat.add_zero Nat.zero_mul Bool.false_eq_true Bool.true_eq_false Bool.not_true Bool.not_false and_true true_and false_and and_false or_false false_or or_true true_or not_true_eq_false not_false_eq_true ne_eq gt_iff_lt List.mem_cons List.not_mem_nil
attribute [local go_sem ↓] pseq_normal pseq_ret pseq_exit pblk_normal pblk_ret newDsts_cons gdst_zero gdst_succ retQ_normal retQ_ret qneed_nil qneed_cons retM_normal retM_ret endR_normal endR_ret endR_exit

theorem c_35Right {l : List Nat} (ol : Ok W l) (hl : l.length ≤ 1000000) : PC E 14 [NL l] (.bool (decide (rightP l))) := by
  have hg : ∀ i, i < l.length → (U l)[i]? = some (.int .u64 (l.getD i 0 : Nat)) := fun i hi => U_getD hi
  have hk : ∀ i, i < l.length → PC E 20 [.int .u64 (l.getD i 0 : Nat)] (.int .i64 (kind (l.getD i 0))) := fun i hi =>
    c_rKind _ (by rw [List.getD_eq_getElem?_getD, List.getElem?_eq_getElem hi]; exact ol _ (List.getElem_mem _))
  have hm : ∀ i, i < l.length → l.getD i 0 ∈ l := fun i hi => by rw [List.getD_eq_getElem?_getD, List.getElem?_eq_getElem hi]; exact List.getElem_mem _
  have hall : (∀ j, j < l.length → fe (l.getD j 0) < 2047) → ∀ b ∈ l, fe b < 2047 := fun h b hb => by
    obtain ⟨j, hj, rfl⟩ := List.getElem_of_mem hb
    have := h j hj
    rwa [List.getD_eq_getElem?_getD, List.getElem?_eq_getElem hj] at this
  have hR : rightP l ↔ l.length ≤ 16 ∧ ∀ b ∈ l, fe b < 2047 := Iff.rfl
  refine PC.of_body follows Tryz.func14 (by decide +kernel) rfl (by kernel_rfl) (Nat.le_of_ble_eq_true rfl) (walk ?_)
  simp only [NL]
  clear ol
  generalize U l = U1 at *
  simp only [Tryz.f14, go_sem, Int.reduceToNat, Int.reduceEq, Int.reduceNe, Int.reduceLT, Int.reduceLE, Int.reduceNeg, Int.reduceAdd, ↓reduceIte, ↓reduceCtorEq, Nat.reduceEqDiff, Nat.reduceAdd, Nat.reduceSub, Nat.reduceMul, Nat.reduceLeDiff, Nat.reduceLT]
  refine PLoop.intro (fun i : Nat => ⟨[(0, .val (.lst l.length U1)), (3, .val (.int .i64 i))], []⟩) (fun i => i ≤ l.length ∧ ∀ j, j < i → fe (l.getD j 0) < 2047) (fun i => l.length - i) 0 ⟨Nat.zero_le _, fun j hj => by omega⟩ ?_ fun i hi => walk ?_
  · simp [Wk, sget, killL, kill1, SV.key]
  obtain ⟨hi, hpi⟩ := hi
  have wi : IntKind.wrap .i64 ((i : Int) + 1) = ((i + 1 : Nat) : Int) := by rw [wrap64 (by omega) (by omega)]; omega
  simp only [Tryz.f14, go_sem, Int.reduceToNat, Int.reduceEq, Int.reduceNe, Int.reduceLT, Int.reduceLE, Int.reduceNeg, Int.reduceAdd, ↓reduceIte, ↓reduceCtorEq, Nat.reduceEqDiff, Nat.reduceAdd, Nat.reduceSub, Nat.reduceMul, Nat.reduceLeDiff, Nat.reduceLT]
  refine qif_d (fun h => ?_) (fun h => ?_)
  · have hin : i < l.length := by omega
    have x1 := hg i hin
    have k1 := hk i hin
    have hkn := kind_num (l.getD i 0)
    simp only [Tryz.f14, go_sem, Int.reduceToNat, Int.reduceEq, Int.reduceNe, Int.reduceLT, Int.reduceLE, Int.reduceNeg, Int.reduceAdd, ↓reduceIte, ↓reduceCtorEq, Nat.reduceEqDiff, Nat.reduceAdd, Nat.reduceSub, Nat.reduceMul, Nat.reduceLeDiff, Nat.reduceLT]
    refine qand_i (by first | omega | (simp [V_length, U_length, tab_length, maxLen]; done) | (simp [V_length, U_length, tab_length, maxLen]; omega) | (refine ⟨?_, ?_⟩ <;> first | omega | (simp [V_length, U_length, tab_length, maxLen]; done) | (simp [V_length, U_length, tab_length, maxLen]; omega))) ?_; simp only [Tryz.f14, go_sem, Int.reduceToNat, Int.reduceEq, Int.reduceNe, Int.reduceLT, Int.reduceLE, Int.reduceNeg, Int.reduceAdd, ↓reduceIte, ↓reduceCtorEq, Nat.reduceEqDiff, Nat.reduceAdd, Nat.reduceSub, Nat.reduceMul, Nat.reduceLeDiff, Nat.reduceLT]
    refine qval_i (congrArg (Option.map _) x1) ?_
    simp only [Tryz.f14, go_sem, Int.reduceToNat, Int.reduceEq, Int.reduceNe, Int.reduceLT, Int.reduceLE, Int.reduceNeg, Int.reduceAdd, ↓reduceIte, ↓reduceCtorEq, Nat.reduceEqDiff, Nat.reduceAdd, Nat.reduceSub, Nat.reduceMul, Nat.reduceLeDiff, Nat.reduceLT]
    refine qcall_i (k1) ?_; simp only [Tryz.f14, go_sem, Int.reduceToNat, Int.reduceEq, Int.reduceNe, Int.reduceLT, Int.reduceLE, Int.reduceNeg, Int.reduceAdd, ↓reduceIte, ↓reduceCtorEq, Nat.reduceEqDiff, Nat.reduceAdd, Nat.reduceSub, Nat.reduceMul, Nat.reduceLeDiff, Nat.reduceLT]
    refine qif_d (fun h2 => ?_) (fun h2 => ?_)
    · have : ¬ rightP l := fun hr => hkn.1 (by omega) (hr.2 _ (hm i hin))
      simp only [Tryz.f14, go_sem, Int.reduceToNat, Int.reduceEq, Int.reduceNe, Int.reduceLT, Int.reduceLE, Int.reduceNeg, Int.reduceAdd, ↓reduceIte, ↓reduceCtorEq, Nat.reduceEqDiff, Nat.reduceAdd, Nat.reduceSub, Nat.reduceMul, Nat.reduceLeDiff, Nat.reduceLT]
      exact (decide_eq_false this).symm
    · simp only [Tryz.f14, wi, go_sem, Int.reduceToNat, Int.reduceEq, Int.reduceNe, Int.reduceLT, Int.reduceLE, Int.reduceNeg, Int.reduceAdd, ↓reduceIte, ↓reduceCtorEq, Nat.reduceEqDiff, Nat.reduceAdd, Nat.reduceSub, Nat.reduceMul, Nat.reduceLeDiff, Nat.reduceLT]
      refine ⟨i + 1, ⟨by omega, fun j hj => ?_⟩, by omega, ?_⟩
      · rcases Nat.lt_or_ge j i with hji | hji
        · exact hpi j hji
        · rw [show j = i by omega]
          exact Decidable.byContradiction fun h3 => by have := hkn.2 h3; omega
      · simp [Wk, sget, killL, kill1, SV.key]
  · have hin : i = l.length := by omega
    subst hin
    simp only [Tryz.f14, go_sem, Int.reduceToNat, Int.reduceEq, Int.reduceNe, Int.reduceLT, Int.reduceLE, Int.reduceNeg, Int.reduceAdd, ↓reduceIte, ↓reduceCtorEq, Nat.reduceEqDiff, Nat.reduceAdd, Nat.reduceSub, Nat.reduceMul, Nat.reduceLeDiff, Nat.reduceLT]
    refine decide_eq_decide.2 ⟨fun h => ⟨by omega, hall hpi⟩, fun h => ?_⟩
    have := h.1
    omega
theorem bitLen_pow_le (x k : Nat) : bitLen (x ^ k) ≤ bitLen x * k + 1 := by
  rw [bitLen_le]
  have h := Nat.pow_le_pow_left (Nat.le_of_lt ((bitLen_le x (bitLen x)).1 (Nat.le_refl _))) k
  rw [← Nat.pow_mul] at h
  have := Nat.two_pow_pos (bitLen x * k)
  rw [Nat.pow_succ]
  omega
/-- Powers by halves of the exponent. -/
theorem c_Quick {x : Nat} : ∀ k : Nat, bitLen x * k ≤ 900000 → k < 9223372036854775808 → PC E 139 [VN x, .int .i64 k] (VN (x ^ k)) := by
  intro k
  induction k using Nat.strongRecOn with
  | _ k ih =>
  intro hb hk
  have k0 := c_Num 1 (by decide)
  rw [show u ((1 : Nat)) = .int .u64 1 from rfl] at k0
  by_cases h0 : k = 0
  · subst h0
    rw [Nat.pow_zero]
    simp only [VN, VL] at k0 ⊢
    refine PC.of_body follows Tryz.func139 (by decide +kernel) rfl (by kernel_rfl) (Nat.le_of_ble_eq_true rfl) (walk ?_)
    simp only [Tryz.f139, Int.cast_ofNat_Int, go_sem, Int.reduceToNat, Int.reduceEq, Int.reduceNe, Int.reduceLT, Int.reduceLE, Int.reduceNeg, Int.reduceAdd, ↓reduceIte, ↓reduceCtorEq, Nat.reduceEqDiff, Nat.reduceAdd, Nat.reduceSub, Nat.reduceMul, Nat.reduceLeDiff, Nat.reduceLT]
    refine qcall_i (k0) ?_; simp only [Tryz.f139, go_sem, Int.reduceToNat, Int.reduceEq, Int.reduceNe, Int.reduceLT, Int.reduceLE, Int.reduceNeg, Int.reduceAdd, ↓reduceIte, ↓reduceCtorEq, Nat.reduceEqDiff, Nat.reduceAdd, Nat.reduceSub, Nat.reduceMul, Nat.reduceLeDiff, Nat.reduceLT]
    try rfl
  have w2 : IntKind.wrap .i64 ((k : Int).tdiv 2) = ((k / 2 : Nat) : Int) := by rw [Int.tdiv_eq_ediv_of_nonneg (by omega), wrap64 (by omega) (by omega)]; omega
  have w3 : (k : Int).tmod 2 = ((k % 2 : Nat) : Int) := n_tmod k 2
  have hb2 : bitLen x * (k / 2) ≤ 900000 := Nat.le_trans (Nat.mul_le_mul_left _ (Nat.div_le_self _ _)) hb
  have k1 := ih (k / 2) (by omega) hb2 (by omega)
  have hp1 : bitLen (x ^ (k / 2)) ≤ 1000000 := by have := bitLen_pow_le x (k / 2); omega
  have k2 := l_2Mul hp1 hp1
  have hd := Nat.div_add_mod k 2
  have hsq : x ^ (k / 2) * x ^ (k / 2) = x ^ (2 * (k / 2)) := by rw [← Nat.pow_add]; congr 1; omega
  rw [hsq] at k2
  have hp2 : bitLen (x ^ (2 * (k / 2))) ≤ 1000000 := by
    have h1 := bitLen_pow_le x (2 * (k / 2))
    have h2 : bitLen x * (2 * (k / 2)) ≤ bitLen x * k := Nat.mul_le_mul_left _ (by omega)
    omega
  have hx : bitLen x ≤ 1000000 := by
    have := Nat.le_mul_of_pos_right (bitLen x) (show 0 < k by omega)
    omega
  have k3 := l_2Mul hp2 hx
  rw [← Nat.pow_succ] at k3
  have hne : ¬ (k : Int) = 0 := by omega
  simp only [VN, VL] at k1 k2 k3 ⊢
  refine PC.of_body follows Tryz.func139 (by decide +kernel) rfl (by kernel_rfl) (Nat.le_of_ble_eq_true rfl) (walk ?_)
  simp only [Tryz.f139, w2, w3, go_sem, Int.reduceToNat, Int.reduceEq, Int.reduceNe, Int.reduceLT, Int.reduceLE, Int.reduceNeg, Int.reduceAdd, ↓reduceIte, ↓reduceCtorEq, Nat.reduceEqDiff, Nat.reduceAdd, Nat.reduceSub, Nat.reduceMul, Nat.reduceLeDiff, Nat.reduceLT]
  refine qif_df hne ?_
  simp only [Tryz.f139, w2, w3, go_sem, Int.reduceToNat, Int.reduceEq, Int.reduceNe, Int.reduceLT, Int.reduceLE, Int.reduceNeg, Int.reduceAdd, ↓reduceIte, ↓reduceCtorEq, Nat.reduceEqDiff, Nat.reduceAdd, Nat.reduceSub, Nat.reduceMul, Nat.reduceLeDiff, Nat.reduceLT]
  refine qcall_i (k1) ?_; simp only [Tryz.f139, w2, w3, go_sem, Int.reduceToNat, Int.reduceEq, Int.reduceNe, Int.reduceLT, Int.reduceLE, Int.reduceNeg, Int.reduceAdd, ↓reduceIte, ↓reduceCtorEq, Nat.reduceEqDiff, Nat.reduceAdd, Nat.reduceSub, Nat.reduceMul, Nat.reduceLeDiff, Nat.reduceLT]
  refine qcall_i (k2) ?_; simp only [Tryz.f139, w2, w3, go_sem, Int.reduceToNat, Int.reduceEq, Int.reduceNe, Int.reduceLT, Int.reduceLE, Int.reduceNeg, Int.reduceAdd, ↓reduceIte, ↓reduceCtorEq, Nat.reduceEqDiff, Nat.reduceAdd, Nat.reduceSub, Nat.reduceMul, Nat.reduceLeDiff, Nat.reduceLT]
  rcases Nat.mod_two_eq_zero_or_one k with h | h
  · refine qif_df (by omega) ?_
    simp only [Tryz.f139, go_sem, Int.reduceToNat, Int.reduceEq, Int.reduceNe, Int.reduceLT, Int.reduceLE, Int.reduceNeg, Int.reduceAdd, ↓reduceIte, ↓reduceCtorEq, Nat.reduceEqDiff, Nat.reduceAdd, Nat.reduceSub, Nat.reduceMul, Nat.reduceLeDiff, Nat.reduceLT]
    rw [show 2 * (k / 2) = k by omega]
    exact ⟨rfl, rfl⟩
  · refine qif_dt (by omega) ?_
    simp only [Tryz.f139, go_sem, Int.reduceToNat, Int.reduceEq, Int.reduceNe, Int.reduceLT, Int.reduceLE, Int.reduceNeg, Int.reduceAdd, ↓reduceIte, ↓reduceCtorEq, Nat.reduceEqDiff, Nat.reduceAdd, Nat.reduceSub, Nat.reduceMul, Nat.reduceLeDiff, Nat.reduceLT]
    refine qcall_i (k3) ?_; simp only [Tryz.f139, go_sem, Int.reduceToNat, Int.reduceEq, Int.reduceNe, Int.reduceLT, Int.reduceLE, Int.reduceNeg, Int.reduceAdd, ↓reduceIte, ↓reduceCtorEq, Nat.reduceEqDiff, Nat.reduceAdd, Nat.reduceSub, Nat.reduceMul, Nat.reduceLeDiff, Nat.reduceLT]
    rw [show (2 * (k / 2)).succ = k by omega]
    exact ⟨rfl, rfl⟩
theorem powN_m (x : Dy) (k : Nat) (h : k ≠ 0) (hx : x.m ≠ 0) : powN x k = ⟨x.s && decide (k % 2 = 1), x.m ^ k, x.e * k⟩ := by rw [powN_eq, if_neg h, if_neg hx]
theorem c_35Power {x : Dy} {K : Nat} (hx : LimN K x) {k : Nat} (hK : K * k ≤ 400000) (hk : k ≤ 1000) : PC E 74 [x.nv, .int .i64 k] (powN x k).nv := by
  by_cases h0 : k = 0
  · subst h0
    have e : (powN x 0).nv = .agg [.bool false, .lst 1 [.int .u32 1], .int .i64 0] := by rw [← VN_one]; rfl
    rw [e]
    simp only [Dy.nv, DP, VN, VL]
    refine PC.of_body follows Tryz.func74 (by decide +kernel) rfl (by kernel_rfl) (Nat.le_of_ble_eq_true rfl) (walk ?_)
    simp only [Tryz.f74, Int.cast_ofNat_Int, List.range_zero, List.getD_cons_zero, List.getD_cons_succ, Nat.reduceMod, go_sem, Int.reduceToNat, Int.reduceEq, Int.reduceNe, Int.reduceLT, Int.reduceLE, Int.reduceNeg, Int.reduceAdd, ↓reduceIte, ↓reduceCtorEq, Nat.reduceEqDiff, Nat.reduceAdd, Nat.reduceSub, Nat.reduceMul, Nat.reduceLeDiff, Nat.reduceLT]
    try rfl
  have hne : ¬ (k : Int) = 0 := by omega
  by_cases hx0 : x.m = 0
  · rw [powN_eq, if_neg h0, if_pos hx0]
    simp only [Dy.nv, DP, VN, VL]
    refine PC.of_body follows Tryz.func74 (by decide +kernel) rfl (by kernel_rfl) (Nat.le_of_ble_eq_true rfl) (walk ?_)
    simp only [Tryz.f74, go_sem, Int.reduceToNat, Int.reduceEq, Int.reduceNe, Int.reduceLT, Int.reduceLE, Int.reduceNeg, Int.reduceAdd, ↓reduceIte, ↓reduceCtorEq, Nat.reduceEqDiff, Nat.reduceAdd, Nat.reduceSub, Nat.reduceMul, Nat.reduceLeDiff, Nat.reduceLT]
    refine qif_df hne ?_
    simp only [Tryz.f74, go_sem, Int.reduceToNat, Int.reduceEq, Int.reduceNe, Int.reduceLT, Int.reduceLE, Int.reduceNeg, Int.reduceAdd, ↓reduceIte, ↓reduceCtorEq, Nat.reduceEqDiff, Nat.reduceAdd, Nat.reduceSub, Nat.reduceMul, Nat.reduceLeDiff, Nat.reduceLT]
    refine qif_dt (by have := dgB_len0.2 hx0; omega) ?_
    simp only [Tryz.f74, go_sem, Int.reduceToNat, Int.reduceEq, Int.reduceNe, Int.reduceLT, Int.reduceLE, Int.reduceNeg, Int.reduceAdd, ↓reduceIte, ↓reduceCtorEq, Nat.reduceEqDiff, Nat.reduceAdd, Nat.reduceSub, Nat.reduceMul, Nat.reduceLeDiff, Nat.reduceLT]
    try rfl
  rw [powN_m x k h0 hx0]
  have hb := hx.bits
  have k1 := c_Quick (x := x.m) k (by have := Nat.mul_le_mul_right k hb; have : 2 * K * k = 2 * (K * k) := Nat.mul_assoc _ _ _; omega) (by omega)
  have hl := (powN_lim hx k).2.2
  rw [powN_m x k h0 hx0] at hl
  dsimp only at hl
  have w1 : IntKind.wrap .i64 (x.e * (k : Int)) = x.e * k := wrap64 (by omega) (by omega)
  have w3 : (k : Int).tmod 2 = ((k % 2 : Nat) : Int) := n_tmod k 2
  have w4 : decide (((k % 2 : Nat) : Int) = 1) = decide (k % 2 = 1) := decide_eq_decide.2 (by omega)
  have hlen : ¬ ((dg B x.m).length : Int) = 0 := fun h => hx0 (dgB_len0.1 (by omega))
  obtain ⟨s, m, e⟩ := x
  simp only [Dy.nv, DP, VN, VL] at k1 hlen ⊢
  refine PC.of_body follows Tryz.func74 (by decide +kernel) rfl (by kernel_rfl) (Nat.le_of_ble_eq_true rfl) (walk ?_)
  cases s
  · simp only [Tryz.f74, go_sem, Int.reduceToNat, Int.reduceEq, Int.reduceNe, Int.reduceLT, Int.reduceLE, Int.reduceNeg, Int.reduceAdd, ↓reduceIte, ↓reduceCtorEq, Nat.reduceEqDiff, Nat.reduceAdd, Nat.reduceSub, Nat.reduceMul, Nat.reduceLeDiff, Nat.reduceLT]
    refine qif_df hne ?_
    simp only [Tryz.f74, go_sem, Int.reduceToNat, Int.reduceEq, Int.reduceNe, Int.reduceLT, Int.reduceLE, Int.reduceNeg, Int.reduceAdd, ↓reduceIte, ↓reduceCtorEq, Nat.reduceEqDiff, Nat.reduceAdd, Nat.reduceSub, Nat.reduceMul, Nat.reduceLeDiff, Nat.reduceLT]
    refine qif_df hlen ?_
    simp only [Tryz.f74, w1, w3, w4, go_sem, Int.reduceToNat, Int.reduceEq, Int.reduceNe, Int.reduceLT, Int.reduceLE, Int.reduceNeg, Int.reduceAdd, ↓reduceIte, ↓reduceCtorEq, Nat.reduceEqDiff, Nat.reduceAdd, Nat.reduceSub, Nat.reduceMul, Nat.reduceLeDiff, Nat.reduceLT]
    refine qcall_i (k1) ?_; simp only [Tryz.f74, w1, w3, w4, go_sem, Int.reduceToNat, Int.reduceEq, Int.reduceNe, Int.reduceLT, Int.reduceLE, Int.reduceNeg, Int.reduceAdd, ↓reduceIte, ↓reduceCtorEq, Nat.reduceEqDiff, Nat.reduceAdd, Nat.reduceSub, Nat.reduceMul, Nat.reduceLeDiff, Nat.reduceLT]
    try rfl
  · simp only [Tryz.f74, go_sem, Int.reduceToNat, Int.reduceEq, Int.reduceNe, Int.reduceLT, Int.reduceLE, Int.reduceNeg, Int.reduceAdd, ↓reduceIte, ↓reduceCtorEq, Nat.reduceEqDiff, Nat.reduceAdd, Nat.reduceSub, Nat.reduceMul, Nat.reduceLeDiff, Nat.reduceLT]
    refine qif_df hne ?_
    simp only [Tryz.f74, go_sem, Int.reduceToNat, Int.reduceEq, Int.reduceNe, Int.reduceLT, Int.reduceLE, Int.reduceNeg, Int.reduceAdd, ↓reduceIte, ↓reduceCtorEq, Nat.reduceEqDiff, Nat.reduceAdd, Nat.reduceSub, Nat.reduceMul, Nat.reduceLeDiff, Nat.reduceLT]
    refine qif_df hlen ?_
    simp only [Tryz.f74, w1, w3, w4, go_sem, Int.reduceToNat, Int.reduceEq, Int.reduceNe, Int.reduceLT, Int.reduceLE, Int.reduceNeg, Int.reduceAdd, ↓reduceIte, ↓reduceCtorEq, Nat.reduceEqDiff, Nat.reduceAdd, Nat.reduceSub, Nat.reduceMul, Nat.reduceLeDiff, Nat.reduceLT]
    refine qcall_i (k1) ?_; simp only [Tryz.f74, w1, w3, w4, go_sem, Int.reduceToNat, Int.reduceEq, Int.reduceNe, Int.reduceLT, Int.reduceLE, Int.reduceNeg, Int.reduceAdd, ↓reduceIte, ↓reduceCtorEq, Nat.reduceEqDiff, Nat.reduceAdd, Nat.reduceSub, Nat.reduceMul, Nat.reduceLeDiff, Nat.reduceLT]
    try rfl
theorem c_35Worth {l : List Nat} (ol : Ok W l) (hn : l.length ≤ 16) {x : Dy} {K : Nat} (hx : LimN K x) (hK : K ≤ 2000) : PC E 21 [NL l, x.nv] (sumN l x l.length).nv := by
  have hg : ∀ i, i < l.length → (U l)[i]? = some (.int .u64 (l.getD i 0 : Nat)) := fun i hi => U_getD hi
  have hst : ∀ i, i < l.length → PC E 16 [.int .u64 (l.getD i 0 : Nat)] (fd (l.getD i 0)).nv ∧ PC E 74 [x.nv, .int .i64 i] (powN x i).nv ∧
      PC E 15 [(fd (l.getD i 0)).nv, (powN x i).nv] (mulS (fd (l.getD i 0)) (powN x i)).nv ∧ PC E 73 [(sumN l x i).nv, (mulS (fd (l.getD i 0)) (powN x i)).nv] (sumN l x (i + 1)).nv := fun i hi => by
    have hKi : K * i ≤ 2000 * 16 := Nat.mul_le_mul hK (by omega)
    have hs := sB_succ K i
    have hsi : sB K i ≤ 60000 := by
      unfold sB
      have := Nat.mul_le_mul (show K + 1155 ≤ 3155 by omega) (show i ≤ 16 by omega)
      omega
    have ht := sB_term K i
    exact ⟨c_Worth _ (by rw [List.getD_eq_getElem?_getD, List.getElem?_eq_getElem hi]; exact ol _ (List.getElem_mem _)), c_35Power hx (by omega) (by omega),
      l_28Mul (fd_lim _).N (powN_lim hx i) (by omega), l_Add ((sumN_lim l hx i).mono (J := sB K (i + 1) - 1) (by omega)) ((term_lim l hx i).mono ht) (by omega)⟩
  have hz : (sumN l x 0).nv = .agg [.bool false, .lst 0 [], .int .i64 0] := rfl
  generalize sumN l x = S at *
  obtain ⟨Fd, hFd⟩ : ∃ Fd : Nat → Dy, ∀ i, fd (l.getD i 0) = Fd i := ⟨_, fun _ => rfl⟩
  obtain ⟨T, hT⟩ : ∃ T : Nat → Dy, ∀ i, mulS (Fd i) (powN x i) = T i := ⟨_, fun _ => rfl⟩
  simp only [hFd, hT] at hst
  clear ol hFd hT hx
  generalize powN x = Pw at *
  refine PC.of_body follows Tryz.func21 (by decide +kernel) rfl (by kernel_rfl) (Nat.le_of_ble_eq_true rfl) (walk ?_)
  have hz1 : (S 0).s = false ∧ VN (S 0).m = .lst 0 [] ∧ (S 0).e = 0 := by
    unfold Dy.nv DP at hz
    simp only [PV.agg.injEq, List.cons.injEq, PV.bool.injEq, PV.int.injEq, and_true, true_and] at hz
    exact hz
  obtain ⟨z1, z2, z3⟩ := hz1
  clear hz
  simp only [NL, Dy.nv, DP] at hst ⊢
  generalize U l = U1 at *
  simp only [Tryz.f21, go_sem, Int.reduceToNat, Int.reduceEq, Int.reduceNe, Int.reduceLT, Int.reduceLE, Int.reduceNeg, Int.reduceAdd, ↓reduceIte, ↓reduceCtorEq, Nat.reduceEqDiff, Nat.reduceAdd, Nat.reduceSub, Nat.reduceMul, Nat.reduceLeDiff, Nat.reduceLT]
  refine PLoop.intro (fun i : Nat => ⟨[(0, .val (.lst l.length U1)), (3, .ptr 3 0), (4, .ptr 4 0), (5, .ptr 5 0), (6, .val (.int .i64 i))],
    [(3, (.box [.bool x.s, VN x.m, .int .i64 x.e], false)), (4, (.box [.bool false, .lst 0 [], .int .i64 0], false)), (5, (.box [.bool (S i).s, VN (S i).m, .int .i64 (S i).e], false))]⟩) (fun i => i ≤ l.length) (fun i => l.length - i) 0 (Nat.zero_le _) ?_ fun i hi => walk ?_
  · simp [Wk, sget, killL, kill1, SV.key, z1, z2, z3]
  have wi : IntKind.wrap .i64 ((i : Int) + 1) = ((i + 1 : Nat) : Int) := by rw [wrap64 (by omega) (by omega)]; omega
  simp only [Tryz.f21, go_sem, Int.reduceToNat, Int.reduceEq, Int.reduceNe, Int.reduceLT, Int.reduceLE, Int.reduceNeg, Int.reduceAdd, ↓reduceIte, ↓reduceCtorEq, Nat.reduceEqDiff, Nat.reduceAdd, Nat.reduceSub, Nat.reduceMul, Nat.reduceLeDiff, Nat.reduceLT]
  refine qif_d (fun h => ?_) (fun h => ?_)
  · have hin : i < l.length := by omega
    have x1 := hg i hin
    obtain ⟨k1, k2, k3, k4⟩ := hst i hin
    simp only [Tryz.f21, go_sem, Int.reduceToNat, Int.reduceEq, Int.reduceNe, Int.reduceLT, Int.reduceLE, Int.reduceNeg, Int.reduceAdd, ↓reduceIte, ↓reduceCtorEq, Nat.reduceEqDiff, Nat.reduceAdd, Nat.reduceSub, Nat.reduceMul, Nat.reduceLeDiff, Nat.reduceLT]
    refine qand_i (by first | omega | (simp [V_length, U_length, tab_length, maxLen]; done) | (simp [V_length, U_length, tab_length, maxLen]; omega) | (refine ⟨?_, ?_⟩ <;> first | omega | (simp [V_length, U_length, tab_length, maxLen]; done) | (simp [V_length, U_length, tab_length, maxLen]; omega))) ?_; simp only [Tryz.f21, go_sem, Int.reduceToNat, Int.reduceEq, Int.reduceNe, Int.reduceLT, Int.reduceLE, Int.reduceNeg, Int.reduceAdd, ↓reduceIte, ↓reduceCtorEq, Nat.reduceEqDiff, Nat.reduceAdd, Nat.reduceSub, Nat.reduceMul, Nat.reduceLeDiff, Nat.reduceLT]
    refine qval_i (congrArg (Option.map _) x1) ?_
    simp only [Tryz.f21, go_sem, Int.reduceToNat, Int.reduceEq, Int.reduceNe, Int.reduceLT, Int.reduceLE, Int.reduceNeg, Int.reduceAdd, ↓reduceIte, ↓reduceCtorEq, Nat.reduceEqDiff, Nat.reduceAdd, Nat.reduceSub, Nat.reduceMul, Nat.reduceLeDiff, Nat.reduceLT]
    refine qcall_i (k1) ?_; simp only [Tryz.f21, go_sem, Int.reduceToNat, Int.reduceEq, Int.reduceNe, Int.reduceLT, Int.reduceLE, Int.reduceNeg, Int.reduceAdd, ↓reduceIte, ↓reduceCtorEq, Nat.reduceEqDiff, Nat.reduceAdd, Nat.reduceSub, Nat.reduceMul, Nat.reduceLeDiff, Nat.reduceLT]
    refine qcall_i (k2) ?_; simp only [Tryz.f21, go_sem, Int.reduceToNat, Int.reduceEq, Int.reduceNe, Int.reduceLT, Int.reduceLE, Int.reduceNeg, Int.reduceAdd, ↓reduceIte, ↓reduceCtorEq, Nat.reduceEqDiff, Nat.reduceAdd, Nat.reduceSub, Nat.reduceMul, Nat.reduceLeDiff, Nat.reduceLT]
    refine qcall_i (k3) ?_; simp only [Tryz.f21, go_sem, Int.reduceToNat, Int.reduceEq, Int.reduceNe, Int.reduceLT, Int.reduceLE, Int.reduceNeg, Int.reduceAdd, ↓reduceIte, ↓reduceCtorEq, Nat.reduceEqDiff, Nat.reduceAdd, Nat.reduceSub, Nat.reduceMul, Nat.reduceLeDiff, Nat.reduceLT]
    refine qcall_i (k4) ?_; simp only [Tryz.f21, wi, go_sem, Int.reduceToNat, Int.reduceEq, Int.reduceNe, Int.reduceLT, Int.reduceLE, Int.reduceNeg, Int.reduceAdd, ↓reduceIte, ↓reduceCtorEq, Nat.reduceEqDiff, Nat.reduceAdd, Nat.reduceSub, Nat.reduceMul, Nat.reduceLeDiff, Nat.reduceLT]
    refine ⟨i + 1, by omega, by omega, ?_⟩
    simp [Wk, sget, killL, kill1, SV.key, setCells]
  · have hin : i = l.length := by omega
    subst hin
    simp only [Tryz.f21, go_sem, Int.reduceToNat, Int.reduceEq, Int.reduceNe, Int.reduceLT, Int.reduceLE, Int.reduceNeg, Int.reduceAdd, ↓reduceIte, ↓reduceCtorEq, Nat.reduceEqDiff, Nat.reduceAdd, Nat.reduceSub, Nat.reduceMul, Nat.reduceLeDiff, Nat.reduceLT]
    try rfl
end Go.Proofs.YtejmlngnpekagaaGreatDoor
