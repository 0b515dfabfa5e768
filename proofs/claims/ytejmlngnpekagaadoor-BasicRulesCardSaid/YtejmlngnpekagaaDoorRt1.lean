/- root: a factor of one, first and second powers, a Newton step for square roots. -/
import Derived.Test.YtejmlngnpekagaaDoorMul5
import Derived.Test.YtejmlngnpekagaaDoorDq6
open Go PG Go.Proofs
set_option maxRecDepth 100000
set_option linter.unusedSimpArgs false
set_option linter.unusedVariables false
namespace Go.Proofs.YtejmlngnpekagaaDoor
attribute [local go_sem] Lay2 Lay3 Lay4 Lay5 Lay6 Lay7 Lay8 Lay9 Lay10 Lay11 Lay12 Lay13 Lay14 Lay15 Lay16 Lay17 Lay18 Lay19 Lay21 Lay22 Lay23 Lay24 Lay25 Lay30 Lay33 Lay36 Lay37 Lay46 Lay47 Lay48 Lay53 Lay54 Lay55 Lay59 Lay100 Lay101 Lay127 Lay146 Lay162 Lay168 Lay169 Lay173 Lay185 Lay186 Lay187 Lay188 Lay189 Lay191 Lay192 Lay194 Lay195 Lay196 Lay199 qexec_seq qexec_skip qexec_exit qexec_ret qexec_block qexec_loop qexec_range qexec_cond qexec_region qexec_drawn qops_nil qops_none qops_some put_some put_none pblk_exit pblk_other newDsts_nil inlDsts_nil isInl sget_cons sget_nil qval_some qbool_some qgs_bool qgs_und qfree_some qgrd_true qgrd_false qif_true qif_false qval_ite qval_itn qand_true map_ite map_some' map_none' qdo_move qdo_assign qdo_binOp qdo_pick qdo_unOp qdo_convert qdo_extract qdo_field qdo_fieldAddr qdo_alloc qdo_box qdo_build qdo_buildSlice qdo_load qdo_store qdo_nilCheck qdo_makeFunc qdo_makeSlice qdo_slice qdo_indexAddr qdo_call qcont_val qcont_new qcont_st qcont_app0 qcont_app qcont_inl qcont_call njSV_val njSV_nil njSV_row njSV_ptr njSV_sub binV_val binV_nil binV_nn binV_ptr bin_np bin_nnp nilCmp bin_add bin_sub bin_mul bin_quo bin_rem bin_and bin_or bin_xor bin_andNot bin_eql bin_neq bin_lss bin_leq bin_gtr bin_geq bin_shl bin_shr bin_seql bin_sneq bin_sadd bin_beql bin_aeql bin_aneq eqAnd_some eqCells_nil eqCells_cons fieldTypes isStruct eqCell bin_bneq un_not un_neg nj_ite Nat.beq stepA stepR isNew opSV constSV RV.sv allSome E_mu E_own qkeyIn_none qkeyIn_some qkeyAt_none qkeyAt_some Bool.or_false Bool.false_or Bool.or_true Bool.true_or cst setB res resSV pstart startL killL kill1 eraL frzL svPV rvPV rvInt rvSlice frzOf close closeL pconv pbuiltin pmax2 partPV setCells fillPV zrow bound newSV PV.cells Bk.cells Bk.with SV.key pres presL_nil presL_tmp presL_cell presC2_some cellPV_ptr presC List.toList_toArray List.size_toArray List.getElem?_drop Nat.mul_one Int.toNat_natCast Nat.not_lt_zero Nat.lt_irrefl decide_true decide_false Nat.not_lt Option.some.injEq PV.lst.injEq PV.int.injEq PV.bool.injEq PV.tuple.injEq List.cons.injEq Option.map_some Option.map_none Option.bind_some Option.toList List.map_cons List.map_nil List.nil_append List.cons_append List.append_nil List.zip_cons_cons List.zip_nil_left List.zip_nil_right List.getElem?_cons_zero List.getElem?_cons_succ List.drop_zero List.drop_succ_cons List.take_succ_cons List.take_zero List.set_cons_zero List.set_cons_succ List.length_cons List.length_nil List.length_set List.replicate_one List.replicate_zero bne_self_eq_false beq_self_eq_true Nat.zero_add Nat.add_zero Nat.zero_mul Bool.false_eq_true Bool.true_eq_false Bool.not_true Bool.not_false and_true true_and false_and and_false or_false false_or or_true true_or not_true_eq_false not_false_eq_true ne_eq gt_iff_lt List.mem_cons List.not_mem_nil
attribute [local go_sem ↓] pseq_normal pseq_ret pseq_exit pblk_normal pblk_ret newDsts_cons inlDsts_cons gdst_zero gdst_succ retQ_normal retQ_ret qneed_nil qneed_cons retM_normal retM_ret endR_normal endR_ret endR_exit
attribute [local go_sem] Int.reduceToNat Int.reduceEq Int.reduceNe Int.reduceLT Int.reduceLE Int.reduceNeg Int.reduceAdd Nat.reduceEqDiff Nat.reduceAdd Nat.reduceSub Nat.reduceMul Nat.reduceLeDiff Nat.reduceLT
attribute [local go_sem ↓] reduceIte reduceCtorEq

theorem k_Times1 {x : Nat} (hb : bitLen x ≤ 60000) : PC E 165 [NN x, .int .u64 1] (.tuple [NN x, .int .i64 0]) := by
  have k1 := c_Of 1 (by decide)
  have k2 := k_prodMul (num_bits (x := x) (by omega)) (num_bits (x := 1) (by decide)) (by omega) (by decide)
  unfold pmV at k2
  have e1 : bitLen 1 = 1 := by decide
  rw [e1] at k2
  simp only [u] at k1
  rw [show ((1 : Nat) : Int) = 1 from rfl] at k1
  by_cases h0 : x = 0
  · rw [if_pos (.inl h0)] at k2
    subst h0
    rw [show NN 0 = .lst 0 [] from rfl] at k2 ⊢
    simp only [NN, NL] at k1 k2
    refine PC.of_body follows Tryd.func165 (by decide +kernel) rfl (by kernel_rfl) (Nat.le_of_ble_eq_true rfl) (walk ?_)
    simp only [Tryd.f165, go_sem]
    refine qcall_i (k1) ?_; simp only [Tryd.f165, go_sem]
    refine qcall_i (k2) ?_; simp only [Tryd.f165, go_sem]
    try rfl
  · rw [if_neg (by omega), if_pos (by omega), Nat.mul_one] at k2
    simp only [NN, NL] at k1 k2 ⊢
    refine PC.of_body follows Tryd.func165 (by decide +kernel) rfl (by kernel_rfl) (Nat.le_of_ble_eq_true rfl) (walk ?_)
    simp only [Tryd.f165, go_sem]
    refine qcall_i (k1) ?_; simp only [Tryd.f165, go_sem]
    refine qcall_i (k2) ?_; simp only [Tryd.f165, go_sem]
    try rfl
theorem bitLen_one {x : Nat} (h : 2 ≤ x) : 2 ≤ bitLen x := Nat.not_lt.1 fun h2 => by
  have := (bitLen_le x 1).1 (by omega)
  omega
theorem c_BLen (k : Nat) (hk : k < W) : PC E 163 [.int .u64 k] (.int .i64 (bitLen k)) := by
  have k1 := c_Len64 k hk
  simp only [u] at k1
  refine PC.of_body follows Tryd.func163 (by decide +kernel) rfl (by kernel_rfl) (Nat.le_of_ble_eq_true rfl) (walk ?_)
  simp only [Tryd.f163, go_sem]
  refine qcall_i (k1) ?_; simp only [Tryd.f163, go_sem]
  try rfl
theorem pow_more {b : Int} (h : 2 ≤ b) (hb : b ≤ 20000) {k : Int} (hk : k ≤ 2) : ¬ k > Int.tdiv 65535 (b - 1) := by
  rw [Int.tdiv_eq_ediv_of_nonneg (by decide)]
  have : 2 ≤ 65535 / (b - 1) := (Int.le_ediv_iff_mul_le (by omega)).2 (by omega)
  omega
theorem bit_one {K t : Int} (h : (K = 1 ∧ t = 0) ∨ (K = 2 ∧ t = 1)) : bits .and .i64 (K.fdiv (2 ^ min t.toNat 64)) 1 = 1 := by
  rcases h with ⟨rfl, rfl⟩ | ⟨rfl, rfl⟩ <;> decide
theorem bit_zero {K t : Int} (h : K = 2 ∧ t = 0) : ¬ bits .and .i64 (K.fdiv (2 ^ min t.toNat 64)) 1 = 1 := by
  obtain ⟨rfl, rfl⟩ := h; decide
theorem bitLen_pow2 (x : Nat) : bitLen (x ^ 2) ≤ 2 * bitLen x := by
  rw [Nat.pow_two]
  have := bitLen_mul_le x x
  omega
set_option maxHeartbeats 4000000 in
theorem k_Pow {x : Nat} (hb : bitLen x ≤ 20000) {k : Nat} (hk : k = 1 ∨ k = 2) : PC E 150 [NN x, .int .i64 k] (.tuple [NN (x ^ k), .int .i64 0]) := by
  have k1 := k_Bare (num_bits (x := x) (by omega))
  have k2 := k_Small (num_bits (x := x) (by omega))
  have k3 := k_Bits (num_bits (x := x) (by omega))
  have k4 := c_Of 1 (by decide)
  have k5 := c_BLen k (by rcases hk with rfl | rfl <;> decide)
  have hp : ∀ j, j ≤ 2 → bitLen (x ^ j) ≤ 40000 := fun j hj => by
    have h2 := bitLen_pow2 x
    obtain rfl | rfl | rfl : j = 0 ∨ j = 1 ∨ j = 2 := by omega
    · rw [Nat.pow_zero]; decide
    · rw [Nat.pow_one]; omega
    · omega
  have pm : ∀ a b : Nat, bitLen a ≤ 40000 → bitLen b ≤ 40000 → PC E 134 [NN a, NN b] (NN (a * b)) := fun a b ha hb => by
    have h1 := w_of_bits (x := a) (n := 15625) (by omega)
    have h2 := w_of_bits (x := b) (n := 15625) (by omega)
    have := c_product (dg W a) (dg W b) (ok_dg W2 a) (ok_dg W2 b) (by omega) (by omega)
    rwa [show vl (dg W a) = a from dv_dg W2 a, show vl (dg W b) = b from dv_dg W2 b] at this
  have pb := fun j (hj : j ≤ 2) => k_Bits (num_bits (x := x ^ j) (by have := hp j hj; omega))
  have ek : bitLen k = k := by rcases hk with rfl | rfl <;> decide
  rw [ek] at k5
  have z1 : ((1 : Nat) : Int) = 1 := rfl
  by_cases hs : x < 2
  · have hW : x < W := Nat.lt_trans hs (by decide)
    rw [if_pos hW, decide_eq_true hW] at k2
    have ex : x ^ k = x := by
      obtain rfl | rfl : x = 0 ∨ x = 1 := by omega
      · rcases hk with rfl | rfl <;> decide
      · rcases hk with rfl | rfl <;> decide
    rw [ex]
    have hk0 : ¬ ((k : Int) < 0) := by omega
    have hk1 : ¬ ((k : Int) = 0) := by omega
    simp only [u, NN, NL] at k1 k2 ⊢
    refine PC.of_body follows Tryd.func150 (by decide +kernel) rfl (by kernel_rfl) (Nat.le_of_ble_eq_true rfl) (walk ?_)
    simp only [Tryd.f150, go_sem]
    refine qcall_i (k1) ?_; simp only [Tryd.f150, go_sem]
    refine qcall_i (k2) ?_; simp only [Tryd.f150, eq_false hk0, eq_false hk1, go_sem]
    refine qif_dt (by omega) ?_
    simp only [Tryd.f150, go_sem]
    try rfl
  have hx2 := bitLen_one (x := x) (by omega)
  have f0 : x ^ 0 * x ^ 0 * x = x ^ 1 := by simp
  have f1 : x ^ 1 * x ^ 1 = x ^ 2 := by rw [Nat.pow_one, Nat.pow_two]
  have q1 := pm (x ^ 0) (x ^ 0) (hp 0 (by decide)) (hp 0 (by decide))
  have q2 := pm (x ^ 0 * x ^ 0) x (by rw [Nat.pow_zero]; decide) (by omega)
  have q3 := pm (x ^ 1) (x ^ 1) (hp 1 (by decide)) (hp 1 (by decide))
  rw [f0] at q2
  rw [f1] at q3
  have r1 := pb 1 (by decide)
  have r2 := pb 2 (by decide)
  have hp1 := hp 1 (by decide)
  have hp2 := hp 2 (by decide)
  clear pb hp pm f0 f1
  have e0 : NN 1 = NN (x ^ 0) := by rw [Nat.pow_zero]
  rw [e0] at k4
  generalize x ^ 0 * x ^ 0 = y0 at *
  obtain ⟨f, hf⟩ : ∃ f : Nat → Nat, ∀ j, x ^ j = f j := ⟨_, fun _ => rfl⟩
  simp only [hf] at *
  clear hf e0
  have hsm : (decide (x < W) && decide (((if x < W then x else 0 : Nat) : Int) < 2)) = false := by
    by_cases h : x < W
    · rw [if_pos h, decide_eq_false (by omega : ¬ ((x : Int) < 2)), Bool.and_false]
    · rw [decide_eq_false h, Bool.false_and]
  have pmr := pow_more (b := bitLen x) (by omega) (by omega) (k := k) (by omega)
  obtain ⟨K, hK⟩ : ∃ K : Int, K = (k : Int) := ⟨_, rfl⟩
  have hK12 : K = 1 ∨ K = 2 := by omega
  have wK : IntKind.wrap .u64 K = K := by rcases hK12 with rfl | rfl <;> decide
  have hk0 : (K < 0) = False := eq_false (by omega)
  have hk1 : (K = 0) = False := eq_false (by omega)
  rw [← hK] at k5 pmr ⊢
  simp only [u, NN, NL] at k1 k2 k3 k4 k5 q1 q2 q3 r1 r2 ⊢
  rw [show ((1 : Nat) : Int) = 1 from rfl] at k4
  have wb1 : IntKind.wrap .i64 ((bitLen x : Int) - 1) = (bitLen x : Int) - 1 := wrap64 (by omega) (by omega)
  have wt : IntKind.wrap .i64 (Int.tdiv 65535 ((bitLen x : Int) - 1)) = Int.tdiv 65535 ((bitLen x : Int) - 1) := by
    rw [Int.tdiv_eq_ediv_of_nonneg (by decide)]
    have h1 : 0 ≤ 65535 / ((bitLen x : Int) - 1) := Int.ediv_nonneg (by decide) (by omega)
    have h2 : 65535 / ((bitLen x : Int) - 1) ≤ 65535 := Int.ediv_le_self _ (by decide)
    exact wrap64 (by omega) (by omega)
  refine PC.of_body follows Tryd.func150 (by decide +kernel) rfl (by kernel_rfl) (Nat.le_of_ble_eq_true rfl) (walk ?_)
  by_cases hW : x < W
  case' pos =>
    rw [if_pos hW, decide_eq_true hW] at k2
    simp only [Tryd.f150, go_sem]
    refine qcall_i (k1) ?_; simp only [Tryd.f150, go_sem]
    refine qcall_i (k2) ?_; simp only [Tryd.f150, hk0, hk1, go_sem]
    refine qif_df (by omega) ?_
    simp only [Tryd.f150, go_sem]
  case' neg =>
    rw [if_neg hW, decide_eq_false hW] at k2
    simp only [Tryd.f150, go_sem]
    refine qcall_i (k1) ?_; simp only [Tryd.f150, go_sem]
    refine qcall_i (k2) ?_; simp only [Tryd.f150, hk0, hk1, go_sem]
  all_goals
    refine qcall_i (k3) ?_; simp only [Tryd.f150, wb1, wt, go_sem]
    refine qand_i (by first | omega | (simp [V_length, U_length, tab_length, maxLen]; done) | (simp [V_length, U_length, tab_length, maxLen]; omega) | (refine ⟨?_, ?_⟩ <;> first | omega | (simp [V_length, U_length, tab_length, maxLen]; done) | (simp [V_length, U_length, tab_length, maxLen]; omega))) ?_; simp only [Tryd.f150, wb1, wt, go_sem]
    refine qif_df pmr ?_
    simp only [Tryd.f150, go_sem]
    refine qcall_i (k4) ?_; simp only [Tryd.f150, wK, go_sem]
    refine qcall_i (k5) ?_; simp only [Tryd.f150, wK, go_sem]
    refine PLoop.intro (fun j : Nat => ⟨[(0, .val (.lst (dg W x).length (U (dg W x)))), (1, .val (.int .i64 K)), (8, .val (.lst (dg W (f j)).length (U (dg W (f j))))), (9, .val (.int .i64 (K - 1 - j)))], []⟩) (fun j => j ≤ k) (fun j => k - j) 0 (Nat.zero_le _) ?_ fun j hj => walk ?_
    · have e : IntKind.wrap .i64 (K - 1) = K - 1 - ((0 : Nat) : Int) := by rcases hK12 with rfl | rfl <;> decide
      simp [Wk, sget, killL, kill1, SV.key, e]
    obtain ⟨t, ht⟩ : ∃ t : Int, t = K - 1 - j := ⟨_, rfl⟩
    rw [← ht]
    by_cases hjk : j = k
    · have htn : (t ≥ 0) = False := eq_false (by omega)
      simp only [Tryd.f150, htn, go_sem]
      rw [hjk]
      exact ⟨rfl, rfl⟩
    · have htn : (t ≥ 0) = True := eq_true (by omega)
      by_cases hj0 : j = 0
      · subst hj0
        have wn : IntKind.wrap .i64 (t - 1) = K - 1 - ((1 : Nat) : Int) := by rw [wrap64 (by omega) (by omega)]; omega
        simp only [Tryd.f150, htn, go_sem]
        refine qcall_i (q1) ?_; simp only [Tryd.f150, go_sem]
        refine qand_i (by first | omega | (simp [V_length, U_length, tab_length, maxLen]; done) | (simp [V_length, U_length, tab_length, maxLen]; omega) | (refine ⟨?_, ?_⟩ <;> first | omega | (simp [V_length, U_length, tab_length, maxLen]; done) | (simp [V_length, U_length, tab_length, maxLen]; omega))) ?_; simp only [Tryd.f150, go_sem]
        refine qif_dt (bit_one (by omega)) ?_
        simp only [Tryd.f150, go_sem]
        refine qcall_i (q2) ?_; simp only [Tryd.f150, go_sem]
        refine qcall_i (r1) ?_; simp only [Tryd.f150, go_sem]
        refine qif_df (by omega) ?_
        simp only [Tryd.f150, wn, go_sem]
        refine ⟨1, by omega, by omega, ?_⟩
        simp [Wk, sget, killL, kill1, SV.key]
      · have hj1 : j = 1 := by omega
        subst hj1
        have wn : IntKind.wrap .i64 (t - 1) = K - 1 - ((2 : Nat) : Int) := by rw [wrap64 (by omega) (by omega)]; omega
        simp only [Tryd.f150, htn, go_sem]
        refine qcall_i (q3) ?_; simp only [Tryd.f150, go_sem]
        refine qand_i (by first | omega | (simp [V_length, U_length, tab_length, maxLen]; done) | (simp [V_length, U_length, tab_length, maxLen]; omega) | (refine ⟨?_, ?_⟩ <;> first | omega | (simp [V_length, U_length, tab_length, maxLen]; done) | (simp [V_length, U_length, tab_length, maxLen]; omega))) ?_; simp only [Tryd.f150, go_sem]
        refine qif_df (bit_zero (by omega)) ?_
        simp only [Tryd.f150, go_sem]
        refine qcall_i (r2) ?_; simp only [Tryd.f150, go_sem]
        refine qif_df (by omega) ?_
        simp only [Tryd.f150, wn, go_sem]
        refine ⟨2, by omega, by omega, ?_⟩
        simp [Wk, sget, killL, kill1, SV.key]
end Go.Proofs.YtejmlngnpekagaaDoor