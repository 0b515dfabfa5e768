/- Several parts in one text. -/
import Derived.Test.YtejmlngnpekagaaGreatDoorMul5
import Derived.Test.YtejmlngnpekagaaGreatDoorH0
import Derived.Test.YtejmlngnpekagaaGreatDoorBq1
import Derived.Test.YtejmlngnpekagaaGreatDoorBq2
/- root: a factor of one, first and second powers, a Newton step for square roots. -/
section
open Go PG Go.Proofs
set_option maxRecDepth 100000
set_option linter.unusedSimpArgs false
set_option linter.unusedVariables false
namespace Go.Proofs.YtejmlngnpekagaaGreatDoor
attribute [local go_sem] Lay2 Lay3 Lay4 Lay5 Lay6 Lay7 Lay8 Lay9 Lay10 Lay11 Lay12 Lay13 Lay14 Lay15 Lay16 Lay17 Lay18 Lay19 Lay21 Lay22 Lay23 Lay25 Lay26 Lay27 Lay30 Lay31 Lay32 Lay33 Lay36 Lay37 Lay41 Lay42 Lay43 Lay47 Lay56 Lay57 Lay59 Lay60 Lay65 Lay66 Lay74 Lay75 Lay105 Lay114 Lay145 Lay146 Lay149 Lay150 Lay151 Lay173 Lay185 Lay189 Lay204 Lay205 Lay208 Lay214 Lay215 Lay216 Lay217 Lay218 Lay220 Lay221 Lay223 Lay224 Lay225 Lay228 qexec_seq qexec_skip qexec_exit qexec_ret qexec_block qexec_loop qexec_range qexec_cond qexec_region qexec_drawn qops_nil qops_none qops_some put_some put_none pblk_exit pblk_other newDsts_nil inlDsts_nil isInl sget_cons sget_nil qval_some qbool_some qgs_bool qgs_und qfree_some qgrd_true qgrd_false qif_true qif_false qval_ite qval_itn qand_true map_ite map_some' map_none' qdo_move qdo_assign qdo_binOp qdo_pick qdo_unOp qdo_convert qdo_extract qdo_field qdo_fieldAddr qdo_alloc qdo_box qdo_build qdo_buildSlice qdo_load qdo_store qdo_nilCheck qdo_makeFunc qdo_makeSlice qdo_slice qdo_indexAddr qdo_call qcont_val qcont_new qcont_st qcont_app0 qcont_app qcont_inl qcont_call njSV_val njSV_nil njSV_row njSV_ptr njSV_sub binV_val binV_nil binV_nn binV_ptr bin_np bin_nnp nilCmp bin_add bin_sub bin_mul bin_quo bin_rem bin_and bin_or bin_xor bin_andNot bin_eql bin_neq bin_lss bin_leq bin_gtr bin_geq bin_shl bin_shr bin_seql bin_sneq bin_sadd bin_beql bin_aeql bin_aneq eqAnd_some eqCells_nil eqCells_cons fieldTypes isStruct eqCell bin_bneq un_not un_neg nj_ite Nat.beq stepA stepR isNew opSV constSV RV.sv allSome E_mu E_own qkeyIn_none qkeyIn_some qkeyAt_none qkeyAt_some Bool.or_false Bool.false_or Bool.or_true Bool.true_or cst setB res resSV pstart startL killL kill1 eraL frzL svPV rvPV rvInt rvSlice frzOf close closeL pconv pbuiltin pmax2 partPV setCells fillPV zrow bound newSV PV.cells Bk.cells Bk.with SV.key pres presL_nil presL_tmp presL_cell presC2_some cellPV_ptr presC List.toList_toArray List.size_toArray List.getElem?_drop Nat.mul_one Int.toNat_natCast Nat.not_lt_zero Nat.lt_irrefl decide_true decide_false Nat.not_lt Option.some.injEq PV.lst.injEq PV.int.injEq PV.bool.injEq PV.tuple.injEq List.cons.injEq Option.map_some Option.map_none Option.bind_some Option.toList List.map_cons List.map_nil List.nil_append List.cons_append List.append_nil List.zip_cons_cons List.zip_nil_left List.zip_nil_right List.getElem?_cons_zero List.getElem?_cons_succ List.drop_zero List.drop_succ_cons List.take_succ_cons List.take_zero List.set_cons_zero List.set_cons_succ List.length_cons List.length_nil List.length_set List.replicate_one List.replicate_zero bne_self_eq_false beq_self_eq_true Nat.zero_add Nat.add_zero Nat.zero_mul Bool.false_eq_true Bool.true_eq_false Bool.not_true Bool.not_false and_true true_and false_and and_false or_false false_or or_true true_or not_true_eq_false not_false_eq_true ne_eq gt_iff_lt List.mem_cons List.not_mem_nil
attribute [local go_sem ↓] pseq_normal pseq_ret pseq_exit pblk_normal pblk_ret newDsts_cons inlDsts_cons gdst_zero gdst_succ retQ_normal retQ_ret qneed_nil qneed_cons retM_normal retM_ret endR_normal endR_ret endR_exit
attribute [local go_sem] Int.reduceToNat Int.reduceEq Int.reduceNe Int.reduceLT Int.reduceLE Int.reduceNeg Int.reduceAdd Nat.reduceEqDiff Nat.reduceAdd Nat.reduceSub Nat.reduceMul Nat.reduceLeDiff Nat.reduceLT
attribute [local go_sem ↓] reduceIte reduceCtorEq

theorem k_Times1 {x : Nat} (hb : bitLen x ≤ 60000) : PC E 191 [NN x, .int .u64 1] (.tuple [NN x, .int .i64 0]) := by
  have k1 := c_Of 1 (by decide)
  have k2 := k_prodMul (num_bits (x := x) (by omega)) (num_bits (x := 1) (by decide)) (by omega) (by decide)
  unfold pmV at k2
  have e1 : bitLen 1 = 1 := by decide
  rw [e1] at k2
  simp only [u] at k1
  rw [show ((1 : Nat) : Int) = 1 from rfl] at k1
  by_cases h0 : x = 0
  · rw [if_pos (.inl h0)] at k2
    subst h0
    rw [show NN 0 = .lst 0 [] from rfl] at k2 ⊢
    simp only [NN, NL] at k1 k2
    refine PC.of_body follows Tryz.func191 (by decide +kernel) rfl (by kernel_rfl) (Nat.le_of_ble_eq_true rfl) (walk ?_)
    simp only [Tryz.f191, go_sem]
    refine qcall_i (k1) ?_; simp only [Tryz.f191, go_sem]
    refine qcall_i (k2) ?_; simp only [Tryz.f191, go_sem]
    try rfl
  · rw [if_neg (by omega), if_pos (by omega), Nat.mul_one] at k2
    simp only [NN, NL] at k1 k2 ⊢
    refine PC.of_body follows Tryz.func191 (by decide +kernel) rfl (by kernel_rfl) (Nat.le_of_ble_eq_true rfl) (walk ?_)
    simp only [Tryz.f191, go_sem]
    refine qcall_i (k1) ?_; simp only [Tryz.f191, go_sem]
    refine qcall_i (k2) ?_; simp only [Tryz.f191, go_sem]
    try rfl
theorem bitLen_one {x : Nat} (h : 2 ≤ x) : 2 ≤ bitLen x := Nat.not_lt.1 fun h2 => by
  have := (bitLen_le x 1).1 (by omega)
  omega
theorem c_BLen (k : Nat) (hk : k < W) : PC E 187 [.int .u64 k] (.int .i64 (bitLen k)) := by
  have k1 := c_Len64 k hk
  simp only [u] at k1
  refine PC.of_body follows Tryz.func187 (by decide +kernel) rfl (by kernel_rfl) (Nat.le_of_ble_eq_true rfl) (walk ?_)
  simp only [Tryz.f187, go_sem]
  refine qcall_i (k1) ?_; simp only [Tryz.f187, go_sem]
  try rfl
theorem pow_more {b : Int} (h : 2 ≤ b) (hb : b ≤ 20000) {k : Int} (hk : k ≤ 2) : ¬ k > Int.tdiv 65535 (b - 1) := by
  rw [Int.tdiv_eq_ediv_of_nonneg (by decide)]
  have : 2 ≤ 65535 / (b - 1) := (Int.le_ediv_iff_mul_le (by omega)).2 (by omega)
  omega
theorem bit_one {K t : Int} (h : (K = 1 ∧ t = 0) ∨ (K = 2 ∧ t = 1)) : bits .and .i64 (K.fdiv (2 ^ min t.toNat 64)) 1 = 1 := by
  rcases h with ⟨rfl, rfl⟩ | ⟨rfl, rfl⟩ <;> decide
theorem bit_zero {K t : Int} (h : K = 2 ∧ t = 0) : ¬ bits .and .i64 (K.fdiv (2 ^ min t.toNat 64)) 1 = 1 := by
  obtain ⟨rfl, rfl⟩ := h; decide
theorem bitLen_pow2 (x : Nat) : bitLen (x ^ 2) ≤ 2 * bitLen x := by
  rw [Nat.pow_two]
  have := bitLen_mul_le x x
  omega
set_option maxHeartbeats 4000000 in
theorem k_Pow {x : Nat} (hb : bitLen x ≤ 20000) {k : Nat} (hk : k = 1 ∨ k = 2) : PC E 159 [NN x, .int .i64 k] (.tuple [NN (x ^ k), .int .i64 0]) := by
  have k1 := k_Bare (num_bits (x := x) (by omega))
  have k2 := k_Small (num_bits (x := x) (by omega))
  have k3 := k_Bits (num_bits (x := x) (by omega))
  have k4 := c_Of 1 (by decide)
  have k5 := c_BLen k (by rcases hk with rfl | rfl <;> decide)
  have hp : ∀ j, j ≤ 2 → bitLen (x ^ j) ≤ 40000 := fun j hj => by
    have h2 := bitLen_pow2 x
    obtain rfl | rfl | rfl : j = 0 ∨ j = 1 ∨ j = 2 := by omega
    · rw [Nat.pow_zero]; decide
    · rw [Nat.pow_one]; omega
    · omega
  have pm : ∀ a b : Nat, bitLen a ≤ 40000 → bitLen b ≤ 40000 → PC E 145 [NN a, NN b] (NN (a * b)) := fun a b ha hb => by
    have h1 := w_of_bits (x := a) (n := 15625) (by omega)
    have h2 := w_of_bits (x := b) (n := 15625) (by omega)
    have := c_product (dg W a) (dg W b) (ok_dg W2 a) (ok_dg W2 b) (by omega) (by omega)
    rwa [show vl (dg W a) = a from dv_dg W2 a, show vl (dg W b) = b from dv_dg W2 b] at this
  have pb := fun j (hj : j ≤ 2) => k_Bits (num_bits (x := x ^ j) (by have := hp j hj; omega))
  have ek : bitLen k = k := by rcases hk with rfl | rfl <;> decide
  rw [ek] at k5
  have z1 : ((1 : Nat) : Int) = 1 := rfl
  by_cases hs : x < 2
  · have hW : x < W := Nat.lt_trans hs (by decide)
    rw [if_pos hW, decide_eq_true hW] at k2
    have ex : x ^ k = x := by
      obtain rfl | rfl : x = 0 ∨ x = 1 := by omega
      · rcases hk with rfl | rfl <;> decide
      · rcases hk with rfl | rfl <;> decide
    rw [ex]
    have hk0 : ¬ ((k : Int) < 0) := by omega
    have hk1 : ¬ ((k : Int) = 0) := by omega
    simp only [u, NN, NL] at k1 k2 ⊢
    refine PC.of_body follows Tryz.func159 (by decide +kernel) rfl (by kernel_rfl) (Nat.le_of_ble_eq_true rfl) (walk ?_)
    simp only [Tryz.f159, go_sem]
    refine qcall_i (k1) ?_; simp only [Tryz.f159, go_sem]
    refine qcall_i (k2) ?_; simp only [Tryz.f159, eq_false hk0, eq_false hk1, go_sem]
    refine qif_dt (by omega) ?_
    simp only [Tryz.f159, go_sem]
    try rfl
  have hx2 := bitLen_one (x := x) (by omega)
  have f0 : x ^ 0 * x ^ 0 * x = x ^ 1 := by simp
  have f1 : x ^ 1 * x ^ 1 = x ^ 2 := by rw [Nat.pow_one, Nat.pow_two]
  have q1 := pm (x ^ 0) (x ^ 0) (hp 0 (by decide)) (hp 0 (by decide))
  have q2 := pm (x ^ 0 * x ^ 0) x (by rw [Nat.pow_zero]; decide) (by omega)
  have q3 := pm (x ^ 1) (x ^ 1) (hp 1 (by decide)) (hp 1 (by decide))
  rw [f0] at q2
  rw [f1] at q3
  have r1 := pb 1 (by decide)
  have r2 := pb 2 (by decide)
  have hp1 := hp 1 (by decide)
  have hp2 := hp 2 (by decide)
  clear pb hp pm f0 f1
  have e0 : NN 1 = NN (x ^ 0) := by rw [Nat.pow_zero]
  rw [e0] at k4
  generalize x ^ 0 * x ^ 0 = y0 at *
  obtain ⟨f, hf⟩ : ∃ f : Nat → Nat, ∀ j, x ^ j = f j := ⟨_, fun _ => rfl⟩
  simp only [hf] at *
  clear hf e0
  have hsm : (decide (x < W) && decide (((if x < W then x else 0 : Nat) : Int) < 2)) = false := by
    by_cases h : x < W
    · rw [if_pos h, decide_eq_false (by omega : ¬ ((x : Int) < 2)), Bool.and_false]
    · rw [decide_eq_false h, Bool.false_and]
  have pmr := pow_more (b := bitLen x) (by omega) (by omega) (k := k) (by omega)
  obtain ⟨K, hK⟩ : ∃ K : Int, K = (k : Int) := ⟨_, rfl⟩
  have hK12 : K = 1 ∨ K = 2 := by omega
  have wK : IntKind.wrap .u64 K = K := by rcases hK12 with rfl | rfl <;> decide
  have hk0 : (K < 0) = False := eq_false (by omega)
  have hk1 : (K = 0) = False := eq_false (by omega)
  rw [← hK] at k5 pmr ⊢
  simp only [u, NN, NL] at k1 k2 k3 k4 k5 q1 q2 q3 r1 r2 ⊢
  rw [show ((1 : Nat) : Int) = 1 from rfl] at k4
  have wb1 : IntKind.wrap .i64 ((bitLen x : Int) - 1) = (bitLen x : Int) - 1 := wrap64 (by omega) (by omega)
  have wt : IntKind.wrap .i64 (Int.tdiv 65535 ((bitLen x : Int) - 1)) = Int.tdiv 65535 ((bitLen x : Int) - 1) := by
    rw [Int.tdiv_eq_ediv_of_nonneg (by decide)]
    have h1 : 0 ≤ 65535 / ((bitLen x : Int) - 1) := Int.ediv_nonneg (by decide) (by omega)
    have h2 : 65535 / ((bitLen x : Int) - 1) ≤ 65535 := Int.ediv_le_self _ (by decide)
    exact wrap64 (by omega) (by omega)
  refine PC.of_body follows Tryz.func159 (by decide +kernel) rfl (by kernel_rfl) (Nat.le_of_ble_eq_true rfl) (walk ?_)
  by_cases hW : x < W
  case' pos =>
    rw [if_pos hW, decide_eq_true hW] at k2
    simp only [Tryz.f159, go_sem]
    refine qcall_i (k1) ?_; simp only [Tryz.f159, go_sem]
    refine qcall_i (k2) ?_; simp only [Tryz.f159, hk0, hk1, go_sem]
    refine qif_df (by omega) ?_
    simp only [Tryz.f159, go_sem]
  case' neg =>
    rw [if_neg hW, decide_eq_false hW] at k2
    simp only [Tryz.f159, go_sem]
    refine qcall_i (k1) ?_; simp only [Tryz.f159, go_sem]
    refine qcall_i (k2) ?_; simp only [Tryz.f159, hk0, hk1, go_sem]
  all_goals
    refine qcall_i (k3) ?_; simp only [Tryz.f159, wb1, wt, go_sem]
    refine qand_i (by first | omega | (simp [V_length, U_length, tab_length, maxLen]; done) | (simp [V_length, U_length, tab_length, maxLen]; omega) | (refine ⟨?_, ?_⟩ <;> first | omega | (simp [V_length, U_length, tab_length, maxLen]; done) | (simp [V_length, U_length, tab_length, maxLen]; omega))) ?_; simp only [Tryz.f159, wb1, wt, go_sem]
    refine qif_df pmr ?_
    simp only [Tryz.f159, go_sem]
    refine qcall_i (k4) ?_; simp only [Tryz.f159, wK, go_sem]
    refine qcall_i (k5) ?_; simp only [Tryz.f159, wK, go_sem]
    refine PLoop.intro (fun j : Nat => ⟨[(0, .val (.lst (dg W x).length (U (dg W x)))), (1, .val (.int .i64 K)), (8, .val (.lst (dg W (f j)).length (U (dg W (f j))))), (9, .val (.int .i64 (K - 1 - j)))], []⟩) (fun j => j ≤ k) (fun j => k - j) 0 (Nat.zero_le _) ?_ fun j hj => walk ?_
    · have e : IntKind.wrap .i64 (K - 1) = K - 1 - ((0 : Nat) : Int) := by rcases hK12 with rfl | rfl <;> decide
      simp [Wk, sget, killL, kill1, SV.key, e]
    obtain ⟨t, ht⟩ : ∃ t : Int, t = K - 1 - j := ⟨_, rfl⟩
    rw [← ht]
    by_cases hjk : j = k
    · have htn : (t ≥ 0) = False := eq_false (by omega)
      simp only [Tryz.f159, htn, go_sem]
      rw [hjk]
      exact ⟨rfl, rfl⟩
    · have htn : (t ≥ 0) = True := eq_true (by omega)
      by_cases hj0 : j = 0
      · subst hj0
        have wn : IntKind.wrap .i64 (t - 1) = K - 1 - ((1 : Nat) : Int) := by rw [wrap64 (by omega) (by omega)]; omega
        simp only [Tryz.f159, htn, go_sem]
        refine qcall_i (q1) ?_; simp only [Tryz.f159, go_sem]
        refine qand_i (by first | omega | (simp [V_length, U_length, tab_length, maxLen]; done) | (simp [V_length, U_length, tab_length, maxLen]; omega) | (refine ⟨?_, ?_⟩ <;> first | omega | (simp [V_length, U_length, tab_length, maxLen]; done) | (simp [V_length, U_length, tab_length, maxLen]; omega))) ?_; simp only [Tryz.f159, go_sem]
        refine qif_dt (bit_one (by omega)) ?_
        simp only [Tryz.f159, go_sem]
        refine qcall_i (q2) ?_; simp only [Tryz.f159, go_sem]
        refine qcall_i (r1) ?_; simp only [Tryz.f159, go_sem]
        refine qif_df (by omega) ?_
        simp only [Tryz.f159, wn, go_sem]
        refine ⟨1, by omega, by omega, ?_⟩
        simp [Wk, sget, killL, kill1, SV.key]
      · have hj1 : j = 1 := by omega
        subst hj1
        have wn : IntKind.wrap .i64 (t - 1) = K - 1 - ((2 : Nat) : Int) := by rw [wrap64 (by omega) (by omega)]; omega
        simp only [Tryz.f159, htn, go_sem]
        refine qcall_i (q3) ?_; simp only [Tryz.f159, go_sem]
        refine qand_i (by first | omega | (simp [V_length, U_length, tab_length, maxLen]; done) | (simp [V_length, U_length, tab_length, maxLen]; omega) | (refine ⟨?_, ?_⟩ <;> first | omega | (simp [V_length, U_length, tab_length, maxLen]; done) | (simp [V_length, U_length, tab_length, maxLen]; omega))) ?_; simp only [Tryz.f159, go_sem]
        refine qif_df (bit_zero (by omega)) ?_
        simp only [Tryz.f159, go_sem]
        refine qcall_i (r2) ?_; simp only [Tryz.f159, go_sem]
        refine qif_df (by omega) ?_
        simp only [Tryz.f159, wn, go_sem]
        refine ⟨2, by omega, by omega, ?_⟩
        simp [Wk, sget, killL, kill1, SV.key]
end Go.Proofs.YtejmlngnpekagaaGreatDoor
end

/- root: square roots by Newton's steps. -/
section
open Go PG Go.Proofs
set_option maxRecDepth 100000
set_option linter.unusedSimpArgs false
set_option linter.unusedVariables false
namespace Go.Proofs.YtejmlngnpekagaaGreatDoor
attribute [local go_sem] Lay2 Lay3 Lay4 Lay5 Lay6 Lay7 Lay8 Lay9 Lay10 Lay11 Lay12 Lay13 Lay14 Lay15 Lay16 Lay17 Lay18 Lay19 Lay21 Lay22 Lay23 Lay25 Lay26 Lay27 Lay30 Lay31 Lay32 Lay33 Lay36 Lay37 Lay41 Lay42 Lay43 Lay47 Lay56 Lay57 Lay59 Lay60 Lay65 Lay66 Lay74 Lay75 Lay105 Lay114 Lay145 Lay146 Lay149 Lay150 Lay151 Lay173 Lay185 Lay189 Lay204 Lay205 Lay208 Lay214 Lay215 Lay216 Lay217 Lay218 Lay220 Lay221 Lay223 Lay224 Lay225 Lay228 qexec_seq qexec_skip qexec_exit qexec_ret qexec_block qexec_loop qexec_range qexec_cond qexec_region qexec_drawn qops_nil qops_none qops_some put_some put_none pblk_exit pblk_other newDsts_nil inlDsts_nil isInl sget_cons sget_nil qval_some qbool_some qgs_bool qgs_und qfree_some qgrd_true qgrd_false qif_true qif_false qval_ite qval_itn qand_true map_ite map_some' map_none' qdo_move qdo_assign qdo_binOp qdo_pick qdo_unOp qdo_convert qdo_extract qdo_field qdo_fieldAddr qdo_alloc qdo_box qdo_build qdo_buildSlice qdo_load qdo_store qdo_nilCheck qdo_makeFunc qdo_makeSlice qdo_slice qdo_indexAddr qdo_call qcont_val qcont_new qcont_st qcont_app0 qcont_app qcont_inl qcont_call njSV_val njSV_nil njSV_row njSV_ptr njSV_sub binV_val binV_nil binV_nn binV_ptr bin_np bin_nnp nilCmp bin_add bin_sub bin_mul bin_quo bin_rem bin_and bin_or bin_xor bin_andNot bin_eql bin_neq bin_lss bin_leq bin_gtr bin_geq bin_shl bin_shr bin_seql bin_sneq bin_sadd bin_beql bin_aeql bin_aneq eqAnd_some eqCells_nil eqCells_cons fieldTypes isStruct eqCell bin_bneq un_not un_neg nj_ite Nat.beq stepA stepR isNew opSV constSV RV.sv allSome E_mu E_own qkeyIn_none qkeyIn_some qkeyAt_none qkeyAt_some Bool.or_false Bool.false_or Bool.or_true Bool.true_or cst setB res resSV pstart startL killL kill1 eraL frzL svPV rvPV rvInt rvSlice frzOf close closeL pconv pbuiltin pmax2 partPV setCells fillPV zrow bound newSV PV.cells Bk.cells Bk.with SV.key pres presL_nil presL_tmp presL_cell presC2_some cellPV_ptr presC List.toList_toArray List.size_toArray List.getElem?_drop Nat.mul_one Int.toNat_natCast Nat.not_lt_zero Nat.lt_irrefl decide_true decide_false Nat.not_lt Option.some.injEq PV.lst.injEq PV.int.injEq PV.bool.injEq PV.tuple.injEq List.cons.injEq Option.map_some Option.map_none Option.bind_some Option.toList List.map_cons List.map_nil List.nil_append List.cons_append List.append_nil List.zip_cons_cons List.zip_nil_left List.zip_nil_right List.getElem?_cons_zero List.getElem?_cons_succ List.drop_zero List.drop_succ_cons List.take_succ_cons List.take_zero List.set_cons_zero List.set_cons_succ List.length_cons List.length_nil List.length_set List.replicate_one List.replicate_zero bne_self_eq_false beq_self_eq_true Nat.zero_add Nat.add_zero Nat.zero_mul Bool.false_eq_true Bool.true_eq_false Bool.not_true Bool.not_false and_true true_and false_and and_false or_false false_or or_true true_or not_true_eq_false not_false_eq_true ne_eq gt_iff_lt List.mem_cons List.not_mem_nil
attribute [local go_sem ↓] pseq_normal pseq_ret pseq_exit pblk_normal pblk_ret newDsts_cons inlDsts_cons gdst_zero gdst_succ retQ_normal retQ_ret qneed_nil qneed_cons retM_normal retM_ret endR_normal endR_ret endR_exit
attribute [local go_sem] Int.reduceToNat Int.reduceEq Int.reduceNe Int.reduceLT Int.reduceLE Int.reduceNeg Int.reduceAdd Nat.reduceEqDiff Nat.reduceAdd Nat.reduceSub Nat.reduceMul Nat.reduceLeDiff Nat.reduceLT
attribute [local go_sem ↓] reduceIte reduceCtorEq

/-- The whole part of a square root. -/
def Isq (a r : Nat) : Prop := r * r ≤ a ∧ a < (r + 1) * (r + 1)
theorem isq_ex (a : Nat) : ∃ r, Isq a r := by
  induction a with
  | zero => exact ⟨0, by decide, by decide⟩
  | succ a ih =>
    obtain ⟨r, h1, h2⟩ := ih
    by_cases h : a + 1 < (r + 1) * (r + 1)
    · exact ⟨r, by omega, h⟩
    · refine ⟨r + 1, by omega, ?_⟩
      have : (r + 1 + 1) * (r + 1 + 1) = (r + 1) * (r + 1) + 2 * r + 3 := by grind
      omega
def newton (a x : Nat) : Nat := (x + a / x) / 2
theorem newton_ge {a r x : Nat} (h : Isq a r) (hx : 0 < x) : r ≤ newton a x := by
  unfold newton
  rw [Nat.le_div_iff_mul_le (by decide)]
  -- 2 r ≤ x + a / x
  refine Nat.not_lt.1 fun hlt => ?_
  have h1 : a / x < r * 2 - x := Nat.lt_sub_of_add_lt (by rw [Nat.add_comm]; exact hlt)
  have hxr : x < r * 2 := Nat.lt_of_sub_pos (Nat.lt_of_le_of_lt (Nat.zero_le _) h1)
  have h2 := (Nat.div_lt_iff_lt_mul hx).1 h1
  clear h1
  have h3 : (r * 2 - x) * x ≤ r * r := by
    obtain ⟨d, hd⟩ : ∃ d, r * 2 = x + d := ⟨r * 2 - x, by omega⟩
    rw [show r * 2 - x = d by omega]
    -- d * x ≤ ((d + x) / 2)^2
    have h4 : (d * x) * 4 ≤ (r * 2) * (r * 2) := by
      rw [hd]
      obtain ⟨t, ht⟩ | ⟨t, ht⟩ : (∃ t, d = x + t) ∨ (∃ t, x = d + t) := by
        by_cases hc : x ≤ d
        · exact .inl ⟨d - x, by omega⟩
        · exact .inr ⟨x - d, by omega⟩
      · subst ht; grind
      · subst ht; grind
    have h5 : (r * 2) * (r * 2) = 4 * (r * r) := by grind
    omega
  have := h.1
  omega
theorem newton_lt {a r x : Nat} (h : Isq a r) (hx : r < x) : newton a x < x := by
  unfold newton
  rw [Nat.div_lt_iff_lt_mul (by decide)]
  have h1 : a < x * x := Nat.lt_of_lt_of_le h.2 (Nat.mul_le_mul hx hx)
  have h2 : a / x < x := (Nat.div_lt_iff_lt_mul (by omega)).2 h1
  generalize a / x = q at *
  omega
theorem newton_bits {a x n : Nat} (h1 : bitLen a ≤ n) (h2 : bitLen x ≤ n) : bitLen (newton a x) ≤ n := by
  rw [bitLen_le] at *
  have := Nat.div_le_self a x
  unfold newton
  generalize a / x = q at *
  omega
theorem k_step {a x : Nat} (ha : bitLen a ≤ 20000) (hx : bitLen x ≤ 20000) (h0 : x ≠ 0) : PC E 186 [NN a, NN x, .int .i64 2] (NN (newton a x)) := by
  have k1 := k_Pow hx (k := 1) (.inl rfl)
  rw [Nat.pow_one, show ((1 : Nat) : Int) = 1 from rfl] at k1
  have k2 := k_Div (num_bits (x := a) (by omega)) (num_bits (x := x) (by omega)) (by omega) (by omega) h0
  have k3 := k_Times1 (x := x) (by omega)
  have bd : bitLen (a / x) ≤ 20000 := Nat.le_trans (bitLen_mono (Nat.div_le_self a x)) ha
  have k4 := k_Add (num_bits (x := x) (by omega)) (num_bits (x := a / x) (by omega))
  have bs := bitLen_add hx bd
  have k5 := d_Small (l := dg W (x + a / x)) (ok_dg W2 _) (by have := w_of_bits (x := x + a / x) (n := 1000) (by omega); omega) (n := 2) (by decide) (by decide)
  rw [show vl (dg W (x + a / x)) = x + a / x from dv_dg W2 _] at k5
  rw [show (x + a / x) / 2 = newton a x from rfl] at k5
  generalize newton a x = nw at *
  generalize (x + a / x) % 2 = rm at *
  generalize x + a / x = sm at *
  generalize a % x = am at *
  generalize a / x = ad at *
  simp only [u, NN, NL] at k1 k2 k3 k4 k5 ⊢
  rw [show ((2 : Nat) : Int) = 2 from rfl] at k5
  refine PC.of_body follows Tryz.func186 (by decide +kernel) rfl (by kernel_rfl) (Nat.le_of_ble_eq_true rfl) (walk ?_)
  simp only [Tryz.f186, go_sem]
  refine qcall_i (k1) ?_; simp only [Tryz.f186, go_sem]
  refine qcall_i (k2) ?_; simp only [Tryz.f186, go_sem]
  refine qcall_i (k3) ?_; simp only [Tryz.f186, go_sem]
  refine qcall_i (k4) ?_; simp only [Tryz.f186, go_sem]
  refine qcall_i (k5) ?_; simp only [Tryz.f186, go_sem]
  try exact ⟨rfl, rfl⟩
  try rfl
end Go.Proofs.YtejmlngnpekagaaGreatDoor
end

/- root: whole parts of square roots. -/
section
open Go PG Go.Proofs
set_option maxRecDepth 100000
set_option linter.unusedSimpArgs false
set_option linter.unusedVariables false
namespace Go.Proofs.YtejmlngnpekagaaGreatDoor
attribute [local go_sem] Lay2 Lay3 Lay4 Lay5 Lay6 Lay7 Lay8 Lay9 Lay10 Lay11 Lay12 Lay13 Lay14 Lay15 Lay16 Lay17 Lay18 Lay19 Lay21 Lay22 Lay23 Lay25 Lay26 Lay27 Lay30 Lay31 Lay32 Lay33 Lay36 Lay37 Lay41 Lay42 Lay43 Lay47 Lay56 Lay57 Lay59 Lay60 Lay65 Lay66 Lay74 Lay75 Lay105 Lay114 Lay145 Lay146 Lay149 Lay150 Lay151 Lay173 Lay185 Lay189 Lay204 Lay205 Lay208 Lay214 Lay215 Lay216 Lay217 Lay218 Lay220 Lay221 Lay223 Lay224 Lay225 Lay228 qexec_seq qexec_skip qexec_exit qexec_ret qexec_block qexec_loop qexec_range qexec_cond qexec_region qexec_drawn qops_nil qops_none qops_some put_some put_none pblk_exit pblk_other newDsts_nil inlDsts_nil isInl sget_cons sget_nil qval_some qbool_some qgs_bool qgs_und qfree_some qgrd_true qgrd_false qif_true qif_false qval_ite qval_itn qand_true map_ite map_some' map_none' qdo_move qdo_assign qdo_binOp qdo_pick qdo_unOp qdo_convert qdo_extract qdo_field qdo_fieldAddr qdo_alloc qdo_box qdo_build qdo_buildSlice qdo_load qdo_store qdo_nilCheck qdo_makeFunc qdo_makeSlice qdo_slice qdo_indexAddr qdo_call qcont_val qcont_new qcont_st qcont_app0 qcont_app qcont_inl qcont_call njSV_val njSV_nil njSV_row njSV_ptr njSV_sub binV_val binV_nil binV_nn binV_ptr bin_np bin_nnp nilCmp bin_add bin_sub bin_mul bin_quo bin_rem bin_and bin_or bin_xor bin_andNot bin_eql bin_neq bin_lss bin_leq bin_gtr bin_geq bin_shl bin_shr bin_seql bin_sneq bin_sadd bin_beql bin_aeql bin_aneq eqAnd_some eqCells_nil eqCells_cons fieldTypes isStruct eqCell bin_bneq un_not un_neg nj_ite Nat.beq stepA stepR isNew opSV constSV RV.sv allSome E_mu E_own qkeyIn_none qkeyIn_some qkeyAt_none qkeyAt_some Bool.or_false Bool.false_or Bool.or_true Bool.true_or cst setB res resSV pstart startL killL kill1 eraL frzL svPV rvPV rvInt rvSlice frzOf close closeL pconv pbuiltin pmax2 partPV setCells fillPV zrow bound newSV PV.cells Bk.cells Bk.with SV.key pres presL_nil presL_tmp presL_cell presC2_some cellPV_ptr presC List.toList_toArray List.size_toArray List.getElem?_drop Nat.mul_one Int.toNat_natCast Nat.not_lt_zero Nat.lt_irrefl decide_true decide_false Nat.not_lt Option.some.injEq PV.lst.injEq PV.int.injEq PV.bool.injEq PV.tuple.injEq List.cons.injEq Option.map_some Option.map_none Option.bind_some Option.toList List.map_cons List.map_nil List.nil_append List.cons_append List.append_nil List.zip_cons_cons List.zip_nil_left List.zip_nil_right List.getElem?_cons_zero List.getElem?_cons_succ List.drop_zero List.drop_succ_cons List.take_succ_cons List.take_zero List.set_cons_zero List.set_cons_succ List.length_cons List.length_nil List.length_set List.replicate_one List.replicate_zero bne_self_eq_false beq_self_eq_true Nat.zero_add Nat.add_zero Nat.zero_mul Bool.false_eq_true Bool.true_eq_false Bool.not_true Bool.not_false and_true true_and false_and and_false or_false false_or or_true true_or not_true_eq_false not_false_eq_true ne_eq gt_iff_lt List.mem_cons List.not_mem_nil
attribute [local go_sem ↓] pseq_normal pseq_ret pseq_exit pblk_normal pblk_ret newDsts_cons inlDsts_cons gdst_zero gdst_succ retQ_normal retQ_ret qneed_nil qneed_cons retM_normal retM_ret endR_normal endR_ret endR_exit
attribute [local go_sem] Int.reduceToNat Int.reduceEq Int.reduceNe Int.reduceLT Int.reduceLE Int.reduceNeg Int.reduceAdd Nat.reduceEqDiff Nat.reduceAdd Nat.reduceSub Nat.reduceMul Nat.reduceLeDiff Nat.reduceLT
attribute [local go_sem ↓] reduceIte reduceCtorEq

theorem bitLen_two (n : Nat) : bitLen (2 ^ n) ≤ n + 1 := (bitLen_le _ _).2 (Nat.pow_lt_pow_right (by decide) (Nat.lt_succ_self n))
theorem isq_pos {a r : Nat} (h : Isq a r) (ha : a ≠ 0) : 1 ≤ r := Nat.not_lt.1 fun h0 => by
  have : r = 0 := by omega
  subst this
  have := h.2
  omega
theorem isq_lt {a r n : Nat} (h : Isq a r) (hn : a < 2 ^ n * 2 ^ n) : r < 2 ^ n := Nat.not_le.1 fun h0 => by
  have := Nat.mul_le_mul h0 h0
  have := h.1
  omega
set_option maxHeartbeats 4000000 in
theorem k_floor {a r : Nat} (h : Isq a r) (ha : a ≠ 0) (hb : bitLen a ≤ 8200) : PC E 158 [NN a, .int .i64 2] (NN r) := by
  have k1 := k_Bits (num_bits (x := a) (by omega))
  have k2 := c_Of 1 (by decide)
  have hb0 := bitLen_pos ha
  obtain ⟨n, hn⟩ : ∃ n, n = (bitLen a + 1) / 2 := ⟨_, rfl⟩
  have k3 := k_Shln (num_bits (x := 1) (by decide)) n (by have : bitLen 1 = 1 := by decide
                                                          omega)
  rw [Nat.one_mul] at k3
  have hr1 := isq_pos h ha
  have hrn : r < 2 ^ n := isq_lt h (by
    rw [← Nat.pow_add]
    exact (bitLen_le a (n + n)).1 (by omega))
  have hbn : bitLen (2 ^ n) ≤ 8200 := Nat.le_trans (bitLen_two n) (by omega)
  have hst : ∀ X : Nat, r ≤ X → bitLen X ≤ 8200 → PC E 186 [NN a, NN X, .int .i64 2] (NN (newton a X)) := fun X hX hbX => k_step (by omega) (by omega) (by omega)
  have hcm : ∀ X : Nat, bitLen X ≤ 8200 → PC E 90 [NN (newton a X), NN X] (.int .i64 (sgn (newton a X) X)) := fun X hbX => k_Cmp (num_bits (by have := newton_bits hb hbX; omega)) (num_bits (by omega))
  have hge : ∀ X : Nat, r ≤ X → r ≤ newton a X := fun X hX => newton_ge h (by omega)
  have hlt : ∀ X : Nat, r < X → newton a X < X := fun X hX => newton_lt h hX
  have hbt : ∀ X : Nat, bitLen X ≤ 8200 → bitLen (newton a X) ≤ 8200 := fun X hX => newton_bits hb hX
  have h3 : bitLen a ≤ 2 → r = 1 := fun hs => by
    have h4 := (bitLen_le a 2).1 hs
    have h5 := h.1
    have : r < 2 := Nat.not_le.1 fun h6 => by
      have := Nat.mul_le_mul h6 h6
      omega
    omega
  generalize newton a = nw at *
  have wb1 : IntKind.wrap .i64 ((bitLen a : Int) + 2) = (bitLen a : Int) + 2 := wrap64 (by omega) (by omega)
  have wb2 : IntKind.wrap .i64 ((bitLen a : Int) + 2 - 1) = (bitLen a : Int) + 2 - 1 := wrap64 (by omega) (by omega)
  have wt : Int.tdiv ((bitLen a : Int) + 2 - 1) 2 = n := by
    rw [Int.tdiv_eq_ediv_of_nonneg (by omega)]; omega
  have wt2 : IntKind.wrap .i64 (n : Int) = n := wrap64 (by omega) (by omega)
  simp only [u, NN, NL] at k1 k2 k3 hst hcm ⊢
  rw [show ((1 : Nat) : Int) = 1 from rfl] at k2
  refine PC.of_body follows Tryz.func158 (by decide +kernel) rfl (by kernel_rfl) (Nat.le_of_ble_eq_true rfl) (walk ?_)
  simp only [Tryz.f158, go_sem]
  refine qcall_i (k1) ?_; simp only [Tryz.f158, go_sem]
  refine qif_d (fun hs => ?_) (fun hs => ?_)
  · simp only [Tryz.f158, go_sem]
    refine qcall_i (k2) ?_; simp only [Tryz.f158, go_sem]
    rw [h3 (by omega)]
    exact ⟨rfl, rfl⟩
  simp only [Tryz.f158, go_sem]
  refine qcall_i (k2) ?_; simp only [Tryz.f158, wb1, wb2, wt, wt2, go_sem]
  refine qcall_i (k3) ?_; simp only [Tryz.f158, go_sem]
  have hrn' : r ≤ 2 ^ n := Nat.le_of_lt hrn
  clear k1 k2 k3 hrn
  generalize 2 ^ n = x0 at *
  refine PLoop.intro (fun X : Nat => ⟨[(0, .val (.lst (dg W a).length (U (dg W a)))), (1, .val (.int .i64 2)), (6, .val (.lst (dg W X).length (U (dg W X))))], []⟩) (fun X => r ≤ X ∧ bitLen X ≤ 8200) (fun X => X) x0 ⟨hrn', hbn⟩ ?_ fun X hX => walk ?_
  · simp [Wk, sget, killL, kill1, SV.key]
  have q1 := hst X hX.1 hX.2
  have q2 := hcm X hX.2
  have g1 := hge X hX.1
  have g2 := hlt X
  have g3 := hbt X hX.2
  generalize nw X = Y at *
  simp only [Tryz.f158, go_sem]
  refine qcall_i (q1) ?_; simp only [Tryz.f158, go_sem]
  refine qcall_i (q2) ?_; simp only [Tryz.f158, go_sem]
  have hsg : (sgn (Y : Int) X ≥ 0) ↔ X ≤ Y := by
    unfold sgn
    repeat' split
    all_goals omega
  refine qif_d (fun hc => ?_) (fun hc => ?_)
  · have hc := hsg.1 hc
    have e : X = r := by
      by_cases h : r < X
      · have := g2 h; omega
      · have := hX.1; omega
    simp only [Tryz.f158, go_sem]
    rw [e]
    exact ⟨rfl, rfl⟩
  · have hc : ¬ X ≤ Y := fun h => hc (hsg.2 h)
    simp only [Tryz.f158, go_sem]
    refine ⟨Y, ⟨g1, g3⟩, by omega, ?_⟩
    simp [Wk, sget, killL, kill1, SV.key]
/-- Its contract: the whole part, and whether nothing is left. -/
theorem k_Root {a r : Nat} (h : Isq a r) (ha : a ≠ 0) (hb : bitLen a ≤ 8192) : PC E 106 [NN a, .int .i64 2] (.tuple [NN r, .bool (decide (r * r = a)), .int .i64 0]) := by
  have k1 := k_Bare (num_bits (x := a) (by omega))
  have k2 := k_Bits (num_bits (x := a) (by omega))
  have k3 := k_floor h ha (by omega)
  have hr : bitLen r ≤ 8192 := Nat.le_trans (bitLen_mono (Nat.le_trans (by
    have h3 := isq_pos h ha
    have h4 := Nat.mul_le_mul_right r h3
    omega) h.1)) hb
  have k4 := k_Pow (x := r) (by omega) (k := 2) (.inr rfl)
  have k5 := k_Cmp (num_bits (x := r ^ 2) (by have := bitLen_pow2 r; omega)) (num_bits (x := a) (by omega))
  have hl : (dg W a).length ≠ 0 := fun h0 => ha (by rw [← dv_dg W2 a, List.eq_nil_of_length_eq_zero h0]; rfl)
  have hsg : decide (sgn ((r ^ 2 : Nat) : Int) (a : Int) = 0) = decide (r * r = a) := by
    rw [Nat.pow_two]
    refine decide_eq_decide.2 ?_
    unfold sgn
    repeat' split
    all_goals omega
  rw [← hsg]
  generalize r ^ 2 = rr at *
  generalize sgn (rr : Int) (a : Int) = sg at *
  simp only [u, NN, NL] at k1 k2 k3 k4 k5 ⊢
  rw [show ((2 : Nat) : Int) = 2 from rfl] at k4
  refine PC.of_body follows Tryz.func106 (by decide +kernel) rfl (by kernel_rfl) (Nat.le_of_ble_eq_true rfl) (walk ?_)
  simp only [Tryz.f106, go_sem]
  refine qcall_i (k1) ?_; simp only [Tryz.f106, go_sem]
  refine qcall_i (k2) ?_; simp only [Tryz.f106, go_sem]
  refine qif_df (by omega) ?_
  simp only [Tryz.f106, go_sem]
  refine qif_df (by omega) ?_
  simp only [Tryz.f106, go_sem]
  refine qcall_i (k3) ?_; simp only [Tryz.f106, go_sem]
  refine qcall_i (k4) ?_; simp only [Tryz.f106, go_sem]
  refine qcall_i (k5) ?_; simp only [Tryz.f106, go_sem]
  try exact ⟨rfl, rfl⟩
  try rfl
end Go.Proofs.YtejmlngnpekagaaGreatDoor
end

/- basic: roots. -/
section
open Go PG Go.Proofs
set_option maxRecDepth 100000
set_option linter.unusedSimpArgs false
set_option linter.unusedVariables false
namespace Go.Proofs.YtejmlngnpekagaaGreatDoor
attribute [local go_sem] Lay2 Lay3 Lay4 Lay5 Lay6 Lay7 Lay8 Lay9 Lay10 Lay11 Lay12 Lay13 Lay14 Lay15 Lay16 Lay17 Lay18 Lay19 Lay21 Lay22 Lay23 Lay25 Lay26 Lay27 Lay30 Lay31 Lay32 Lay33 Lay36 Lay37 Lay41 Lay42 Lay43 Lay47 Lay56 Lay57 Lay59 Lay60 Lay65 Lay66 Lay74 Lay75 Lay105 Lay114 Lay145 Lay146 Lay149 Lay150 Lay151 Lay173 Lay185 Lay189 Lay204 Lay205 Lay208 Lay214 Lay215 Lay216 Lay217 Lay218 Lay220 Lay221 Lay223 Lay224 Lay225 Lay228 qexec_seq qexec_skip qexec_exit qexec_ret qexec_block qexec_loop qexec_range qexec_cond qexec_region qexec_drawn qops_nil qops_none qops_some put_some put_none pblk_exit pblk_other newDsts_nil inlDsts_nil isInl sget_cons sget_nil qval_some qbool_some qgs_bool qgs_und qfree_some qgrd_true qgrd_false qif_true qif_false qval_ite qval_itn qand_true map_ite map_some' map_none' qdo_move qdo_assign qdo_binOp qdo_pick qdo_unOp qdo_convert qdo_extract qdo_field qdo_fieldAddr qdo_alloc qdo_box qdo_build qdo_buildSlice qdo_load qdo_store qdo_nilCheck qdo_makeFunc qdo_makeSlice qdo_slice qdo_indexAddr qdo_call qcont_val qcont_new qcont_st qcont_app0 qcont_app qcont_inl qcont_call njSV_val njSV_nil njSV_row njSV_ptr njSV_sub binV_val binV_nil binV_nn binV_ptr bin_np bin_nnp nilCmp bin_add bin_sub bin_mul bin_quo bin_rem bin_and bin_or bin_xor bin_andNot bin_eql bin_neq bin_lss bin_leq bin_gtr bin_geq bin_shl bin_shr bin_seql bin_sneq bin_sadd bin_beql bin_aeql bin_aneq eqAnd_some eqCells_nil eqCells_cons fieldTypes isStruct eqCell bin_bneq un_not un_neg nj_ite Nat.beq stepA stepR isNew opSV constSV RV.sv allSome E_mu E_own qkeyIn_none qkeyIn_some qkeyAt_none qkeyAt_some Bool.or_false Bool.false_or Bool.or_true Bool.true_or cst setB res resSV pstart startL killL kill1 eraL frzL svPV rvPV rvInt rvSlice frzOf close closeL pconv pbuiltin pmax2 partPV setCells fillPV zrow bound newSV PV.cells Bk.cells Bk.with SV.key pres presL_nil presL_tmp presL_cell presC2_some cellPV_ptr presC List.toList_toArray List.size_toArray List.getElem?_drop Nat.mul_one Int.toNat_natCast Nat.not_lt_zero Nat.lt_irrefl decide_true decide_false Nat.not_lt Option.some.injEq PV.lst.injEq PV.int.injEq PV.bool.injEq PV.tuple.injEq List.cons.injEq Option.map_some Option.map_none Option.bind_some Option.toList List.map_cons List.map_nil List.nil_append List.cons_append List.append_nil List.zip_cons_cons List.zip_nil_left List.zip_nil_right List.getElem?_cons_zero List.getElem?_cons_succ List.drop_zero List.drop_succ_cons List.take_succ_cons List.take_zero List.set_cons_zero List.set_cons_succ List.length_cons List.length_nil List.length_set List.replicate_one List.replicate_zero bne_self_eq_false beq_self_eq_true Nat.zero_add Nat.add_zero Nat.zero_mul Bool.false_eq_true Bool.true_eq_false Bool.not_true Bool.not_false and_true true_and false_and and_false or_false false_or or_true true_or not_true_eq_false not_false_eq_true ne_eq gt_iff_lt List.mem_cons List.not_mem_nil
attribute [local go_sem ↓] pseq_normal pseq_ret pseq_exit pblk_normal pblk_ret newDsts_cons inlDsts_cons gdst_zero gdst_succ retQ_normal retQ_ret qneed_nil qneed_cons retM_normal retM_ret endR_normal endR_ret endR_exit
attribute [local go_sem] Int.reduceToNat Int.reduceEq Int.reduceNe Int.reduceLT Int.reduceLE Int.reduceNeg Int.reduceAdd Nat.reduceEqDiff Nat.reduceAdd Nat.reduceSub Nat.reduceMul Nat.reduceLeDiff Nat.reduceLT
attribute [local go_sem ↓] reduceIte reduceCtorEq

/-- How far the number is shifted. -/
def rootN (d : Dy) : Nat := if (d.e - ((140 - bitLen d.m : Nat) : Int)) % 2 = 0 then 140 - bitLen d.m else 140 - bitLen d.m + 1
def rootM (d : Dy) : Nat := d.m * 2 ^ rootN d
def rootD (d : Dy) (r : Nat) : Dy := mkD false r ((d.e - rootN d) / 2)
theorem rootN_even (d : Dy) : (d.e - rootN d) % 2 = 0 := by
  unfold rootN; split <;> omega
theorem rootN_le (d : Dy) : rootN d ≤ 141 := by unfold rootN; split <;> omega
theorem rootM_bits {d : Dy} (h : bitLen d.m ≤ 4400) : bitLen (rootM d) ≤ 4541 := by
  have h1 := bitLen_shl_le d.m (rootN d)
  have h2 := rootN_le d
  unfold rootM
  omega
theorem rootM_pos {d : Dy} (h : d.m ≠ 0) : rootM d ≠ 0 := Nat.mul_ne_zero h (Nat.pos_iff_ne_zero.1 (Nat.two_pow_pos _))
/-- The number that is rooted has 140 bits or more: the root 70 or more. -/
theorem rootM_big {d : Dy} (h : d.m ≠ 0) : 2 ^ 139 ≤ rootM d := by
  unfold rootM
  have h1 : 2 ^ (bitLen d.m - 1) ≤ d.m := Nat.not_lt.1 fun h' => by
    have := (bitLen_le d.m (bitLen d.m - 1)).2 h'
    have := bitLen_pos h
    omega
  have h2 : 2 ^ 139 ≤ 2 ^ (bitLen d.m - 1) * 2 ^ rootN d := by
    rw [← Nat.pow_add]
    refine Nat.pow_le_pow_right (by decide) ?_
    have := bitLen_pos h
    unfold rootN
    split <;> omega
  exact Nat.le_trans h2 (Nat.mul_le_mul_right _ h1)
theorem tmod2 (x : Int) : x.tmod 2 = 0 ↔ x % 2 = 0 := ⟨fun h => Int.emod_eq_zero_of_dvd (Int.dvd_of_tmod_eq_zero h), fun h => Int.tmod_eq_zero_of_dvd (Int.dvd_of_emod_eq_zero h)⟩
theorem tdiv2 {x : Int} (h : x % 2 = 0) : x.tdiv 2 = x / 2 := Int.tdiv_eq_ediv_of_dvd (Int.dvd_of_emod_eq_zero h)
theorem rootD_fits {d : Dy} {r : Nat} (hf : d.fits) (hr : bitLen r ≤ 8192) : (rootD d r).fits := by
  have := rootN_le d
  have h1 := hf.1
  have h2 := hf.2
  exact mkD_fits (by omega) (by omega) (by omega)
def rootB (d : Dy) (r : Nat) (dir : Int) : PV := if mayP d ∧ d.s = false ∧ (0 ≤ dir ∧ dir ≤ 3) then .tuple [.int .u64 ((toS (rootD d r) (decide (r * r ≠ rootM d)) dir).1 : Nat), .int .u8 ((toS (rootD d r) (decide (r * r ≠ rootM d)) dir).2 : Nat), .int .i64 0] else .tuple [.int .u64 0, .int .u8 0, .int .i64 1]
set_option maxHeartbeats 4000000 in
theorem b_Root {p : PV} {d : Dy} (h : RD p d) {r : Nat} (hr : Isq (rootM d) r) (dir : Int) : PC E 45 [p, .int .i64 dir] (rootB d r dir) := by
  have k1 := b_may h
  have k3 := b_right dir
  obtain ⟨s1, P1, x1, e1, rfl, -⟩ := h
  unfold rootB
  by_cases ha : mayP d
  case neg =>
    rw [if_neg (fun h => ha h.1)]
    rw [decide_eq_false ha] at k1
    generalize (if d.fits then d else Dy.zero) = a' at *
    simp only [Dy.pv, DP] at k1 ⊢
    refine PC.of_body follows Tryz.func45 (by decide +kernel) rfl (by kernel_rfl) (Nat.le_of_ble_eq_true rfl) (walk ?_)
    simp only [Tryz.f45, go_sem]
    refine qcall_i (k1) ?_; simp only [Tryz.f45, go_sem]
    try rfl
  rw [decide_eq_true ha, if_pos ha.1] at k1
  by_cases hs : d.s = false
  case neg =>
    have hs : d.s = true := by simpa using hs
    rw [if_neg (fun h => by rw [hs] at h; exact absurd h.2.1 (by decide))]
    simp only [Dy.pv, DP] at k1 ⊢
    rw [hs] at k1
    refine PC.of_body follows Tryz.func45 (by decide +kernel) rfl (by kernel_rfl) (Nat.le_of_ble_eq_true rfl) (walk ?_)
    simp only [Tryz.f45, go_sem]
    refine qcall_i (k1) ?_; simp only [Tryz.f45, go_sem]
    try rfl
  by_cases hd : 0 ≤ dir ∧ dir ≤ 3
  case neg =>
    rw [if_neg (fun h => hd h.2.2)]
    rw [decide_eq_false hd] at k3
    simp only [Dy.pv, DP] at k1 ⊢
    rw [hs] at k1
    refine PC.of_body follows Tryz.func45 (by decide +kernel) rfl (by kernel_rfl) (Nat.le_of_ble_eq_true rfl) (walk ?_)
    simp only [Tryz.f45, go_sem]
    refine qcall_i (k1) ?_; simp only [Tryz.f45, go_sem]
    refine qcall_i (k3) ?_; simp only [Tryz.f45, go_sem]
    try rfl
  rw [decide_eq_true hd] at k3
  rw [if_pos ⟨ha, hs, hd⟩]
  have hN := rootN_even d
  have hNl := rootN_le d
  have hbm := rootM_bits ha.2.2
  have hm0 := rootM_pos ha.2.1
  have hr1 := isq_pos hr hm0
  have hrb : bitLen r ≤ 8192 := Nat.le_trans (bitLen_mono (Nat.le_trans (by
    have h4 := Nat.mul_le_mul_right r hr1
    omega) hr.1)) (Nat.le_trans hbm (by decide))
  have kb := k_Bits (num_bits (x := d.m) (by have := ha.2.2; omega))
  have ks := k_Shln (num_bits (x := d.m) (by have := ha.2.2; omega)) (rootN d) (by have := ha.2.2; omega)
  rw [show d.m * 2 ^ rootN d = rootM d from rfl] at ks
  have kr := k_Root hr hm0 (by omega)
  have km := r_Make (num_bits (x := r) (by omega)) (by omega) false ((d.e - rootN d) / 2)
  rw [show mkD false r ((d.e - rootN d) / 2) = rootD d r from rfl] at km
  have hf : (rootD d r).fits := rootD_fits ha.1 hrb
  unfold okD at km
  rw [if_pos hf] at km
  have hb9 : bitLen (rootD d r).m ≤ 8192 := Nat.le_trans (mkD_bits _ _ _) hrb
  have hx0 : (rootD d r).m ≠ 0 := fun h => by have := mkD_m0.1 h; omega
  have kt := r_To (d := rootD d r) (RD.fit (mkD_ok _ _ _) (Nat.le_trans hb9 (by decide)) hf) (Nat.le_trans hb9 (by decide)) (decide (r * r ≠ rootM d)) dir
  rw [if_pos (show toE (rootD d r) (decide (r * r ≠ rootM d)) dir from ⟨hf, hd.1, hd.2, fun h => hx0 h.2⟩)] at kt
  have hnot : (!decide (r * r = rootM d)) = decide (r * r ≠ rootM d) := by simp
  have hN2 : (d.e - ((140 - bitLen d.m : Nat) : Int)) % 2 = 0 ∧ rootN d = 140 - bitLen d.m ∨ (d.e - ((140 - bitLen d.m : Nat) : Int)) % 2 ≠ 0 ∧ rootN d = 140 - bitLen d.m + 1 := by
    unfold rootN
    by_cases h : (d.e - ((140 - bitLen d.m : Nat) : Int)) % 2 = 0
    · exact .inl ⟨h, if_pos h⟩
    · exact .inr ⟨h, if_neg h⟩
  have hbl := ha.2.2
  have hfe := ha.1
  generalize toS (rootD d r) (decide (r * r ≠ rootM d)) dir = To at *
  generalize decide (r * r ≠ rootM d) = mo at *
  generalize decide (r * r = rootM d) = ex at *
  generalize rootD d r = rd at *
  generalize rootM d = M at *
  obtain ⟨n0, hn0⟩ : ∃ n0, n0 = 140 - bitLen d.m := ⟨_, rfl⟩
  rw [← hn0] at hN2
  have w1 : IntKind.wrap .i64 (140 - (bitLen d.m : Int)) = 140 - (bitLen d.m : Int) := wrap64 (by omega) (by omega)
  have w2 : max (140 - (bitLen d.m : Int)) 0 = (n0 : Int) := by omega
  have w3 : IntKind.wrap .i64 (d.e - (n0 : Int)) = d.e - (n0 : Int) := wrap64 (by have := hfe.1; omega) (by have := hfe.2; omega)
  have w4 : IntKind.wrap .i64 (d.e - (rootN d : Int)) = d.e - (rootN d : Int) := wrap64 (by have := hfe.1; omega) (by have := hfe.2; omega)
  have w5 : (d.e - (rootN d : Int)).tdiv 2 = (d.e - (rootN d : Int)) / 2 := tdiv2 hN
  have w6 : IntKind.wrap .i64 ((d.e - (rootN d : Int)) / 2) = (d.e - (rootN d : Int)) / 2 := wrap64 (by have := hfe.1; omega) (by have := hfe.2; omega)
  have t2 := tmod2 (d.e - (n0 : Int))
  have w7 : IntKind.wrap .i64 ((d.e - (n0 : Int)).tmod 2) = (d.e - (n0 : Int)).tmod 2 := wrap64 (by have := Int.lt_tmod_of_pos (d.e - (n0 : Int)) (b := 2) (by decide); omega) (by have := Int.tmod_lt_of_pos (d.e - (n0 : Int)) (b := 2) (by decide); omega)
  clear hr hx0 hm0 hr1 hrb hbm hb9 hf hn0
  simp only [u, Dy.pv, DP, NN, NL] at k1 kb ks kr km kt ⊢
  rw [hs] at k1
  refine PC.of_body follows Tryz.func45 (by decide +kernel) rfl (by kernel_rfl) (Nat.le_of_ble_eq_true rfl) (walk ?_)
  simp only [Tryz.f45, go_sem]
  refine qcall_i (k1) ?_; simp only [Tryz.f45, go_sem]
  refine qcall_i (k3) ?_; simp only [Tryz.f45, go_sem]
  refine qcall_i (kb) ?_; simp only [Tryz.f45, w1, w2, w3, w7, go_sem]
  rcases hN2 with ⟨hp, hq⟩ | ⟨hp, hq⟩
  · refine qif_df (fun h => h (t2.2 hp)) ?_
    rw [← hq] at *
    simp only [Tryz.f45, go_sem]
    refine qcall_i (ks) ?_; simp only [Tryz.f45, go_sem]
    refine qcall_i (kr) ?_; simp only [Tryz.f45, w4, w5, w6, go_sem]
    refine qcall_i (km) ?_; simp only [Tryz.f45, hnot, go_sem]
    refine qcall_i (kt) ?_; simp only [Tryz.f45, go_sem]
    try exact ⟨rfl, rfl⟩
    try rfl
  · refine qif_dt (fun h => hp (t2.1 h)) ?_
    have w8 : IntKind.wrap .i64 ((n0 : Int) + 1) = (rootN d : Int) := by rw [wrap64 (by omega) (by omega)]; omega
    simp only [Tryz.f45, w8, go_sem]
    refine qcall_i (ks) ?_; simp only [Tryz.f45, go_sem]
    refine qcall_i (kr) ?_; simp only [Tryz.f45, w4, w5, w6, go_sem]
    refine qcall_i (km) ?_; simp only [Tryz.f45, hnot, go_sem]
    refine qcall_i (kt) ?_; simp only [Tryz.f45, go_sem]
    try exact ⟨rfl, rfl⟩
    try rfl
end Go.Proofs.YtejmlngnpekagaaGreatDoor
end

/- basic: square roots of bits. -/
section
open Go PG Go.Proofs
set_option maxRecDepth 100000
set_option linter.unusedSimpArgs false
set_option linter.unusedVariables false
namespace Go.Proofs.YtejmlngnpekagaaGreatDoor
attribute [local go_sem] Lay2 Lay3 Lay4 Lay5 Lay6 Lay7 Lay8 Lay9 Lay10 Lay11 Lay12 Lay13 Lay14 Lay15 Lay16 Lay17 Lay18 Lay19 Lay21 Lay22 Lay23 Lay25 Lay26 Lay27 Lay30 Lay31 Lay32 Lay33 Lay36 Lay37 Lay41 Lay42 Lay43 Lay47 Lay56 Lay57 Lay59 Lay60 Lay65 Lay66 Lay74 Lay75 Lay105 Lay114 Lay145 Lay146 Lay149 Lay150 Lay151 Lay173 Lay185 Lay189 Lay204 Lay205 Lay208 Lay214 Lay215 Lay216 Lay217 Lay218 Lay220 Lay221 Lay223 Lay224 Lay225 Lay228 qexec_seq qexec_skip qexec_exit qexec_ret qexec_block qexec_loop qexec_range qexec_cond qexec_region qexec_drawn qops_nil qops_none qops_some put_some put_none pblk_exit pblk_other newDsts_nil inlDsts_nil isInl sget_cons sget_nil qval_some qbool_some qgs_bool qgs_und qfree_some qgrd_true qgrd_false qif_true qif_false qval_ite qval_itn qand_true map_ite map_some' map_none' qdo_move qdo_assign qdo_binOp qdo_pick qdo_unOp qdo_convert qdo_extract qdo_field qdo_fieldAddr qdo_alloc qdo_box qdo_build qdo_buildSlice qdo_load qdo_store qdo_nilCheck qdo_makeFunc qdo_makeSlice qdo_slice qdo_indexAddr qdo_call qcont_val qcont_new qcont_st qcont_app0 qcont_app qcont_inl qcont_call njSV_val njSV_nil njSV_row njSV_ptr njSV_sub binV_val binV_nil binV_nn binV_ptr bin_np bin_nnp nilCmp bin_add bin_sub bin_mul bin_quo bin_rem bin_and bin_or bin_xor bin_andNot bin_eql bin_neq bin_lss bin_leq bin_gtr bin_geq bin_shl bin_shr bin_seql bin_sneq bin_sadd bin_beql bin_aeql bin_aneq eqAnd_some eqCells_nil eqCells_cons fieldTypes isStruct eqCell bin_bneq un_not un_neg nj_ite Nat.beq stepA stepR isNew opSV constSV RV.sv allSome E_mu E_own qkeyIn_none qkeyIn_some qkeyAt_none qkeyAt_some Bool.or_false Bool.false_or Bool.or_true Bool.true_or cst setB res resSV pstart startL killL kill1 eraL frzL svPV rvPV rvInt rvSlice frzOf close closeL pconv pbuiltin pmax2 partPV setCells fillPV zrow bound newSV PV.cells Bk.cells Bk.with SV.key pres presL_nil presL_tmp presL_cell presC2_some cellPV_ptr presC List.toList_toArray List.size_toArray List.getElem?_drop Nat.mul_one Int.toNat_natCast Nat.not_lt_zero Nat.lt_irrefl decide_true decide_false Nat.not_lt Option.some.injEq PV.lst.injEq PV.int.injEq PV.bool.injEq PV.tuple.injEq List.cons.injEq Option.map_some Option.map_none Option.bind_some Option.toList List.map_cons List.map_nil List.nil_append List.cons_append List.append_nil List.zip_cons_cons List.zip_nil_left List.zip_nil_right List.getElem?_cons_zero List.getElem?_cons_succ List.drop_zero List.drop_succ_cons List.take_succ_cons List.take_zero List.set_cons_zero List.set_cons_succ List.length_cons List.length_nil List.length_set List.replicate_one List.replicate_zero bne_self_eq_false beq_self_eq_true Nat.zero_add Nat.add_zero Nat.zero_mul Bool.false_eq_true Bool.true_eq_false Bool.not_true Bool.not_false and_true true_and false_and and_false or_false false_or or_true true_or not_true_eq_false not_false_eq_true ne_eq gt_iff_lt List.mem_cons List.not_mem_nil
attribute [local go_sem ↓] pseq_normal pseq_ret pseq_exit pblk_normal pblk_ret newDsts_cons inlDsts_cons gdst_zero gdst_succ retQ_normal retQ_ret qneed_nil qneed_cons retM_normal retM_ret endR_normal endR_ret endR_exit
attribute [local go_sem] Int.reduceToNat Int.reduceEq Int.reduceNe Int.reduceLT Int.reduceLE Int.reduceNeg Int.reduceAdd Nat.reduceEqDiff Nat.reduceAdd Nat.reduceSub Nat.reduceMul Nat.reduceLeDiff Nat.reduceLT
attribute [local go_sem ↓] reduceIte reduceCtorEq

/-- Bits and flags of a square root; r is the whole part of a root. -/
def sqrtS (x r : Nat) (dir : Int) : Nat × Nat :=
  if kind x = 5 then (9221120237041090560, 16)
  else if kind x = 4 then (9221120237041090560, 0)
  else if kind x = 0 then (x, 0)
  else if fs x = true then (9221120237041090560, 16)
  else if kind x = 3 then (x, 0)
  else toS (rootD (fd x) r) (decide (r * r ≠ rootM (fd x))) dir
theorem b_SqrtN {x : Nat} {dir : Int} (hd : ¬ (0 ≤ dir ∧ dir ≤ 3)) : PC E 51 [u x, .int .i64 dir] (resB (0, 0) 1) := by
  have ke := b_earlyN (l := [x]) hd
  have z0 : ((0 : Nat) : Int) = 0 := rfl
  simp only [u, NL, U, List.map_cons, List.map_nil, List.length_cons, List.length_nil, resB, resE, Nat.reduceAdd, z0] at ke ⊢
  refine PC.of_body follows Tryz.func51 (by decide +kernel) rfl (by kernel_rfl) (Nat.le_of_ble_eq_true rfl) (walk ?_)
  simp only [Tryz.f51, List.replicate_succ, go_sem]
  refine qcall_i (ke) ?_; simp only [Tryz.f51, List.replicate_succ, go_sem]
  try rfl
set_option maxHeartbeats 4000000 in
theorem b_Sqrt {x r : Nat} (hx : x < W) (hr : Isq (rootM (fd x)) r) {dir : Int} (hd : 0 ≤ dir ∧ dir ≤ 3) : PC E 51 [u x, .int .i64 dir] (resB (sqrtS x r dir) 0) := by
  have ol : Ok W [x] := fun d h => by simp at h; rcases h with rfl; assumption
  have ke := b_early ol (by simp) hd
  rw [show ([x].any fun x => decide ((kind x : Int) = 5)) = _ from any1 x 5, show ([x].any fun x => decide ((kind x : Int) = 4)) = _ from any1 x 4] at ke
  have k0 := b_kind ol (by simp) 0
  have k3 := b_kind ol (by simp) 3
  rw [show ([x].any fun x => decide ((kind x : Int) = 0)) = _ from any1 x 0] at k0
  rw [show ([x].any fun x => decide ((kind x : Int) = 3)) = _ from any1 x 3] at k3
  have kn := c_Neg x hx
  have ki := b_invalid
  have ks := b_is x
  have kd := r_FDyad hx
  have hx5 := kind_le x
  have kr : (kind x = 1 ∨ kind x = 2) → fs x = false → PC E 45 [(fd x).pv, .int .i64 dir] (.tuple [.int .u64 ((toS (rootD (fd x) r) (decide (r * r ≠ rootM (fd x))) dir).1 : Nat), .int .u8 ((toS (rootD (fd x) r) (decide (r * r ≠ rootM (fd x))) dir).2 : Nat), .int .i64 0]) := fun h1 h2 => by
    have := b_Root ((fd_lim x).RD (by decide)) hr dir
    unfold rootB at this
    rwa [if_pos ⟨fd_may h1, by rw [fd_s (fd_may h1).2.1, h2], hd⟩] at this
  have fx : kind x ≤ 2 → fe x < 2047 := fd_fin
  have z0 : ((0 : Nat) : Int) = 0 := rfl
  obtain ⟨R, hR⟩ : ∃ R, R = sqrtS x r dir := ⟨_, rfl⟩
  rw [← hR]
  unfold sqrtS at hR
  clear ol hx hr
  generalize toS (rootD (fd x) r) (decide (r * r ≠ rootM (fd x))) dir = To at *
  generalize kind x = a at *
  generalize fs x = sx at *
  simp only [u, NL, U, List.map_cons, List.map_nil, List.length_cons, List.length_nil, resB, resE, Nat.reduceAdd, z0] at ke k0 k3 kn ks kd ⊢
  refine PC.of_body follows Tryz.func51 (by decide +kernel) rfl (by kernel_rfl) (Nat.le_of_ble_eq_true rfl) (walk ?_)
  by_cases h5 : a = 5
  · rw [if_pos h5] at hR
    rw [decide_eq_true h5] at ke
    simp only [Tryz.f51, List.replicate_succ, go_sem]
    refine qcall_i (ke) ?_; simp only [Tryz.f51, List.replicate_succ, go_sem]
    rw [hR]
    try rfl
  rw [if_neg h5] at hR
  rw [decide_eq_false h5] at ke
  by_cases h4 : a = 4
  · rw [if_pos h4] at hR
    rw [decide_eq_true h4] at ke
    simp only [Tryz.f51, List.replicate_succ, go_sem]
    refine qcall_i (ke) ?_; simp only [Tryz.f51, List.replicate_succ, go_sem]
    rw [hR]
    try rfl
  rw [if_neg h4] at hR
  rw [decide_eq_false h4] at ke
  by_cases h0 : a = 0
  · rw [if_pos h0] at hR
    rw [decide_eq_true h0] at k0
    simp only [Tryz.f51, List.replicate_succ, go_sem]
    refine qcall_i (ke) ?_; simp only [Tryz.f51, List.replicate_succ, go_sem]
    refine qcall_i (k0) ?_; simp only [Tryz.f51, List.replicate_succ, go_sem]
    refine qcall_i (ks) ?_; simp only [Tryz.f51, List.replicate_succ, go_sem]
    rw [hR]
    try rfl
  rw [if_neg h0] at hR
  rw [decide_eq_false h0] at k0
  cases sx
  case true =>
    rw [if_pos rfl] at hR
    simp only [Tryz.f51, List.replicate_succ, go_sem]
    refine qcall_i (ke) ?_; simp only [Tryz.f51, List.replicate_succ, go_sem]
    refine qcall_i (k0) ?_; simp only [Tryz.f51, List.replicate_succ, go_sem]
    refine qcall_i (kn) ?_; simp only [Tryz.f51, List.replicate_succ, go_sem]
    refine qcall_i (ki) ?_; simp only [Tryz.f51, List.replicate_succ, go_sem]
    rw [hR]
    try rfl
  rw [if_neg (by decide)] at hR
  by_cases h3 : a = 3
  · rw [if_pos h3] at hR
    rw [decide_eq_true h3] at k3
    simp only [Tryz.f51, List.replicate_succ, go_sem]
    refine qcall_i (ke) ?_; simp only [Tryz.f51, List.replicate_succ, go_sem]
    refine qcall_i (k0) ?_; simp only [Tryz.f51, List.replicate_succ, go_sem]
    refine qcall_i (kn) ?_; simp only [Tryz.f51, List.replicate_succ, go_sem]
    refine qcall_i (k3) ?_; simp only [Tryz.f51, List.replicate_succ, go_sem]
    refine qcall_i (ks) ?_; simp only [Tryz.f51, List.replicate_succ, go_sem]
    rw [hR]
    try rfl
  rw [if_neg h3] at hR
  rw [decide_eq_false h3] at k3
  have kr := kr (by omega) rfl
  rw [if_pos (fx (by omega))] at kd
  generalize fd x = dx at *
  simp only [Dy.pv, DP] at kd kr
  simp only [Tryz.f51, List.replicate_succ, go_sem]
  refine qcall_i (ke) ?_; simp only [Tryz.f51, List.replicate_succ, go_sem]
  refine qcall_i (k0) ?_; simp only [Tryz.f51, List.replicate_succ, go_sem]
  refine qcall_i (kn) ?_; simp only [Tryz.f51, List.replicate_succ, go_sem]
  refine qcall_i (k3) ?_; simp only [Tryz.f51, List.replicate_succ, go_sem]
  refine qcall_i (kd) ?_; simp only [Tryz.f51, List.replicate_succ, go_sem]
  refine qcall_i (kr) ?_; simp only [Tryz.f51, List.replicate_succ, go_sem]
  rw [hR]
  try rfl
end Go.Proofs.YtejmlngnpekagaaGreatDoor
end
