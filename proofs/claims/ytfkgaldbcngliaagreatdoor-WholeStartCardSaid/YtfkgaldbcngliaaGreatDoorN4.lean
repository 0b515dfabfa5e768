import Derived.Test.YtfkgaldbcngliaaGreatDoorN3
open Go PG Go.Proofs
namespace Go.Proofs.YtfkgaldbcngliaaGreatDoor
attribute [local go_sem] Lay2 Lay3 Lay4 Lay5 Lay6 Lay7 Lay8 Lay9 Lay10 Lay11 Lay12 Lay13 Lay14 Lay15 Lay16 Lay17 Lay18 Lay19 Lay20 Lay21 Lay22 Lay26 Lay27 Lay28 Lay29 Lay31 Lay32 Lay33 Lay34 Lay35 Lay41 Lay42 Lay43 Lay47 Lay48 Lay60 Lay61 Lay62 Lay63 Lay64 Lay72 Lay73 Lay74 Lay83 Lay84 Lay86 Lay90 Lay91 Lay92 Lay93 Lay102 Lay103 Lay139 Lay143 Lay149 Lay158 Lay159 Lay160 Lay161 Lay162 Lay174 Lay175 Lay193 Lay207 Lay208 Lay209 Lay210 Lay228 Lay229 Lay237 Lay238 Lay265 Lay287 Lay295 Lay296 Lay297 Lay299 Lay301 Lay302 Lay303 Lay304 Lay305 Lay307 Lay308 Lay310 Lay311 Lay312 Lay315 Lay316 Lay317 qexec_seq qexec_skip qexec_exit qexec_ret qexec_block qexec_loop qexec_range qexec_cond qexec_region qexec_drawn qops_nil qops_none qops_some put_some put_none pblk_exit pblk_other newDsts_nil inlDsts_nil isInl sget_cons sget_nil qval_some qbool_some qgs_bool qgs_und qfree_some qgrd_true qgrd_false qif_true qif_false qval_ite qval_itn qand_true map_ite map_some' map_none' qdo_move qdo_assign qdo_binOp qdo_pick qdo_unOp qdo_convert qdo_extract qdo_makeInterface qdo_field qdo_fieldAddr qdo_alloc qdo_box qdo_build qdo_buildSlice qdo_load qdo_store qdo_nilCheck qdo_makeFunc qdo_makeSlice qdo_slice qdo_indexAddr qdo_call qcont_val qcont_new qcont_st qcont_app0 qcont_app qcont_inl qcont_call njSV_val njSV_nil njSV_row njSV_ptr njSV_sub binV_val binV_nil binV_nn binV_ptr bin_np bin_nnp nilCmp bin_add bin_sub bin_mul bin_quo bin_rem bin_and bin_or bin_xor bin_andNot bin_eql bin_neq bin_lss bin_leq bin_gtr bin_geq bin_shl bin_shr bin_seql bin_sneq bin_sadd bin_beql bin_aeql bin_aneq eqAnd_some eqCells_nil eqCells_cons fieldTypes isStruct eqCell bin_bneq un_not un_neg nj_ite Nat.beq stepA stepR isNew opSV constSV RV.sv allSome E_mu E_own qkeyIn_none qkeyIn_some qkeyAt_none qkeyAt_some Bool.or_false Bool.false_or Bool.or_true Bool.true_or cst setB res resSV pstart startL killL kill1 eraL frzL svPV rvPV rvInt rvSlice rvBytes frzOf close closeL pconv pbuiltin pmax2 partPV setCells fillPV zrow bound newSV PV.cells Bk.cells Bk.with SV.key pres presL_nil presL_tmp presL_cell presC2_some cellPV_ptr presC List.toList_toArray List.size_toArray List.getElem?_drop Nat.mul_one Int.toNat_natCast Nat.not_lt_zero Nat.lt_irrefl decide_true decide_false Nat.not_lt Option.some.injEq PV.lst.injEq PV.int.injEq PV.bool.injEq PV.tuple.injEq List.cons.injEq Option.map_some Option.map_none Option.bind_some Option.toList List.map_cons List.map_nil List.nil_append List.cons_append List.append_nil List.zip_cons_cons List.zip_nil_left List.zip_nil_right List.getElem?_cons_zero List.getElem?_cons_succ List.drop_zero List.drop_succ_cons List.take_succ_cons List.take_zero List.set_cons_zero List.set_cons_succ List.length_cons List.length_nil List.length_set List.replicate_one List.replicate_zero bne_self_eq_false beq_self_eq_true Nat.zero_add Nat.add_zero Nat.zero_mul Bool.false_eq_true Bool.true_eq_false Bool.not_true Bool.not_false and_true true_and false_and and_false or_false false_or or_true true_or not_true_eq_false not_false_eq_true ne_eq gt_iff_lt List.mem_cons List.not_mem_nil
attribute [local go_sem ↓] pseq_normal pseq_ret pseq_exit pblk_normal pblk_ret newDsts_cons inlDsts_cons gdst_zero gdst_succ retQ_normal retQ_ret qneed_nil qneed_cons retM_normal retM_ret endR_normal endR_ret endR_exit
attribute [local go_sem] Int.reduceToNat Int.reduceEq Int.reduceNe Int.reduceLT Int.reduceLE Int.reduceNeg Int.reduceAdd Nat.reduceEqDiff Nat.reduceAdd Nat.reduceSub Nat.reduceMul Nat.reduceLeDiff Nat.reduceLT
attribute [local go_sem ↓] reduceIte reduceCtorEq
section
open Go PG Go.Proofs
set_option maxRecDepth 100000
set_option linter.unusedSimpArgs false
set_option linter.unusedVariables false
open XX
theorem and1_i64w {a : Nat} (ha : a < 9223372036854775808) : bits .and .i64 (a : Int) 1 = ((a % 2 : Nat) : Int) := by
  have h1 : (BitVec.ofInt 64 (a : Int)).toNat = a := by
    rw [BitVec.ofInt_natCast, BitVec.toNat_ofNat]; exact Nat.mod_eq_of_lt (by omega)
  have h2 : (BitVec.ofInt 64 (1 : Int)).toNat = 1 := by decide
  show IntKind.i64.wrap ((BitVec.ofInt 64 (a : Int) &&& BitVec.ofInt 64 (1 : Int)).toNat : Int) = _
  rw [BitVec.toNat_and, h1, h2, Nat.and_one_is_mod, wrap64 (by omega) (by omega)]
theorem c_BLenW (k : Nat) (hk : k < W) : PC E 230 [.int .u64 k] (.int .i64 (bitLen k)) := by
  have k1 := c_Len64 k hk
  simp only [u] at k1
  refine PC.of_body follows Tryz.func230 (by decide +kernel) rfl (by kernel_rfl) (Nat.le_of_ble_eq_true rfl) (walk ?_)
  simp only [Tryz.f230, go_sem]
  refine qcall_i (k1) ?_; simp only [Tryz.f230, go_sem]
  try rfl
theorem pow_bits1 (x : Nat) : ∀ j : Nat, bitLen (x ^ (j + 1)) ≤ bitLen x * (j + 1)
  | 0 => by rw [Nat.pow_one]; omega
  | j + 1 => by
    have ih := pow_bits1 x j
    have h := bitLen_mul_le (x ^ (j + 1)) x
    rw [Nat.pow_succ, show bitLen x * (j + 1 + 1) = bitLen x * (j + 1) + bitLen x from Nat.mul_succ _ _]
    omega
theorem pow_bits (x : Nat) (j : Nat) : bitLen (x ^ j) ≤ bitLen x * j + 1 := by
  cases j with
  | zero => rw [Nat.pow_zero, bit1]; omega
  | succ j => exact Nat.le_trans (pow_bits1 x j) (by omega)
set_option maxHeartbeats 4000000 in
theorem k_PowG {x n : Nat} (hb : bitLen x * n ≤ 65000) (hbx : bitLen x ≤ 65000) (hn : n < 4611686018427387904) : PC E 194 [NN x, .int .i64 n] (.tuple [NN (x ^ n), .int .i64 0]) := by
  have k1 := k_Bare (num_bits (x := x) (by omega))
  have k2 := k_Small (num_bits (x := x) (by omega))
  have k3 := k_Bits (num_bits (x := x) (by omega))
  have k4 := u_one
  by_cases h0 : n = 0
  · subst h0
    rw [Nat.pow_zero]
    simp only [u, NN, NL, Int.cast_ofNat_Int] at k1 k2 k3 k4 ⊢
    refine PC.of_body follows Tryz.func194 (by decide +kernel) rfl (by kernel_rfl) (Nat.le_of_ble_eq_true rfl) (walk ?_)
    simp only [Tryz.f194, Int.cast_ofNat_Int, go_sem]
    refine qcall_i (k1) ?_; simp only [Tryz.f194, Int.cast_ofNat_Int, go_sem]
    refine qcall_i (k2) ?_; simp only [Tryz.f194, Int.cast_ofNat_Int, go_sem]
    refine qcall_i (k4) ?_; simp only [Tryz.f194, Int.cast_ofNat_Int, go_sem]
    try rfl
  have hk0 : ((n : Int) < 0) = False := eq_false (by omega)
  have hk1 : ((n : Int) = 0) = False := eq_false (by omega)
  by_cases hs : x < 2
  · have hW : x < W := Nat.lt_trans hs (by decide)
    rw [if_pos hW, decide_eq_true hW] at k2
    have ex : x ^ n = x := by
      obtain rfl | rfl : x = 0 ∨ x = 1 := by omega
      · rw [Nat.zero_pow (by omega)]
      · rw [Nat.one_pow]
    rw [ex]
    simp only [u, NN, NL] at k1 k2 ⊢
    refine PC.of_body follows Tryz.func194 (by decide +kernel) rfl (by kernel_rfl) (Nat.le_of_ble_eq_true rfl) (walk ?_)
    simp only [Tryz.f194, go_sem]
    refine qcall_i (k1) ?_; simp only [Tryz.f194, go_sem]
    refine qcall_i (k2) ?_; simp only [Tryz.f194, hk0, hk1, go_sem]
    refine qif_dt (by omega) ?_
    simp only [Tryz.f194, go_sem]
    try rfl
  have hx2 : 2 ≤ bitLen x := Nat.not_lt.1 fun h2 => by
    have := (bitLen_le x 1).1 (by omega)
    omega
  have hnk : n ≤ 32500 := by
    have := Nat.mul_le_mul_right n hx2
    omega
  have k5 := c_BLenW n (Nat.lt_of_le_of_lt hnk (by decide))
  have hbl : bitLen n ≤ 15 := (bitLen_le n 15).2 (Nat.lt_of_le_of_lt hnk (by decide))
  have hbl1 : n < 2 ^ bitLen n := (bitLen_le n (bitLen n)).1 (Nat.le_refl _)
  have pm : ∀ a b : Nat, bitLen a ≤ 70000 → bitLen b ≤ 70000 → PC E 221 [NN a, NN b] (NN (a * b)) := fun a b ha hb => by
    have h1 := w_of_bits (x := a) (n := 15625) (by omega)
    have h2 := w_of_bits (x := b) (n := 15625) (by omega)
    have := c_product (dg W a) (dg W b) (ok_dg W2 a) (ok_dg W2 b) (by omega) (by omega)
    rwa [show vl (dg W a) = a from dv_dg W2 a, show vl (dg W b) = b from dv_dg W2 b] at this
  have wK : IntKind.wrap .u64 (n : Int) = n := wrap_nat64 (Nat.lt_of_le_of_lt hnk (by decide))
  have wb : IntKind.wrap .i64 ((bitLen n : Int) - 1) = ((bitLen n : Nat) : Int) - 1 := wrap64 (by omega) (by omega)
  have wx : IntKind.wrap .i64 ((bitLen x : Int) - 1) = (bitLen x : Int) - 1 := wrap64 (by omega) (by omega)
  have hq : (n : Int) ≤ Int.tdiv 65535 ((bitLen x : Int) - 1) := by
    rw [Int.tdiv_eq_ediv_of_nonneg (by decide), Int.le_ediv_iff_mul_le (by omega)]
    have h1 : ((bitLen x * n : Nat) : Int) = (bitLen x : Int) * n := Int.natCast_mul _ _
    have h2 : (n : Int) * ((bitLen x : Int) - 1) = (bitLen x : Int) * n - n := by rw [Int.mul_sub, Int.mul_one, Int.mul_comm]
    omega
  have wt : IntKind.wrap .i64 (Int.tdiv 65535 ((bitLen x : Int) - 1)) = Int.tdiv 65535 ((bitLen x : Int) - 1) := by
    rw [Int.tdiv_eq_ediv_of_nonneg (by decide)]
    have h1 : 0 ≤ 65535 / ((bitLen x : Int) - 1) := Int.ediv_nonneg (by decide) (by omega)
    have h2 : 65535 / ((bitLen x : Int) - 1) ≤ 65535 := Int.ediv_le_self _ (by decide)
    exact wrap64 (by omega) (by omega)
  have hfb0 : ∀ j, bitLen (x ^ (n / 2 ^ j)) ≤ 65001 := fun j => by
    have h1 := pow_bits x (n / 2 ^ j)
    have h2 := Nat.mul_le_mul_left (bitLen x) (Nat.div_le_self n (2 ^ j))
    omega
  have hsq0 : ∀ j, bitLen (x ^ (n / 2 ^ (j + 1)) * x ^ (n / 2 ^ (j + 1))) ≤ 65001 := fun j => by
    rw [← Nat.pow_add]
    have h1 := pow_bits x (n / 2 ^ (j + 1) + n / 2 ^ (j + 1))
    have h3 : n / 2 ^ (j + 1) + n / 2 ^ (j + 1) ≤ n := by
      have e : n / 2 ^ (j + 1) = n / 2 ^ j / 2 := by rw [Nat.pow_succ, Nat.div_div_eq_div_mul]
      have := Nat.div_le_self n (2 ^ j)
      omega
    have h2 := Nat.mul_le_mul_left (bitLen x) h3
    omega
  have hstep0 : ∀ j, (n / 2 ^ j % 2 = 1 → x ^ (n / 2 ^ (j + 1)) * x ^ (n / 2 ^ (j + 1)) * x = x ^ (n / 2 ^ j)) ∧ (n / 2 ^ j % 2 = 0 → x ^ (n / 2 ^ (j + 1)) * x ^ (n / 2 ^ (j + 1)) = x ^ (n / 2 ^ j)) := fun j => by
    have e : n / 2 ^ (j + 1) = n / 2 ^ j / 2 := by rw [Nat.pow_succ, Nat.div_div_eq_div_mul]
    rw [← Nat.pow_add, e]
    refine ⟨fun h => ?_, fun h => ?_⟩
    · rw [← Nat.pow_succ]; congr 1; omega
    · congr 1; omega
  have e0 : x ^ (n / 2 ^ bitLen n) = 1 := by rw [Nat.div_eq_of_lt hbl1, Nat.pow_zero]
  have en : x ^ (n / 2 ^ 0) = x ^ n := by rw [Nat.pow_zero, Nat.div_one]
  obtain ⟨f, hf⟩ : ∃ f : Nat → Nat, ∀ j, x ^ (n / 2 ^ j) = f j := ⟨_, fun _ => rfl⟩
  simp only [hf] at hfb0 hsq0 hstep0 e0 en
  rw [← en]
  rw [← e0] at k4
  have p1 := fun j => pm (f j) (f j) (by have := hfb0 j; omega) (by have := hfb0 j; omega)
  have p2 := fun j => pm (f (j + 1) * f (j + 1)) x (by have := hsq0 j; omega) (by omega)
  have p3 := fun j => k_Bits (num_bits (x := f j) (by have := hfb0 j; omega))
  have hbn : ∀ j, n / 2 ^ j < 9223372036854775808 := fun j => Nat.lt_of_le_of_lt (Nat.div_le_self _ _) (by omega)
  have hshr : ∀ j : Nat, j ≤ 15 → (n : Int).fdiv (2 ^ min j 64) = ((n / 2 ^ j : Nat) : Int) := fun j hj => by
    rw [Nat.min_eq_left (by omega), Int.fdiv_eq_ediv_of_nonneg _ (Int.pow_nonneg (by decide))]
    simp
  have hsm : (decide (x < W) && decide (((if x < W then x else 0 : Nat) : Int) < 2)) = false := by
    by_cases h : x < W
    · rw [if_pos h, decide_eq_false (by omega : ¬ ((x : Int) < 2)), Bool.and_false]
    · rw [decide_eq_false h, Bool.false_and]
  clear pm hf e0 en
  generalize bitLen n = L at *
  simp only [u, NN, NL] at k1 k2 k3 k4 k5 p1 p2 p3 ⊢
  refine PC.of_body follows Tryz.func194 (by decide +kernel) rfl (by kernel_rfl) (Nat.le_of_ble_eq_true rfl) (walk ?_)
  by_cases hW : x < W
  case' pos =>
    rw [if_pos hW, decide_eq_true hW] at k2
    simp only [Tryz.f194, go_sem]
    refine qcall_i (k1) ?_; simp only [Tryz.f194, go_sem]
    refine qcall_i (k2) ?_; simp only [Tryz.f194, hk0, hk1, go_sem]
    refine qif_df (by omega) ?_
    simp only [Tryz.f194, go_sem]
  case' neg =>
    rw [if_neg hW, decide_eq_false hW] at k2
    simp only [Tryz.f194, go_sem]
    refine qcall_i (k1) ?_; simp only [Tryz.f194, go_sem]
    refine qcall_i (k2) ?_; simp only [Tryz.f194, hk0, hk1, go_sem]
  all_goals
    refine qcall_i (k3) ?_; simp only [Tryz.f194, wx, wt, go_sem]
    refine qand_i (by first | omega | (simp [V_length, U_length, tab_length, maxLen]; done) | (simp [V_length, U_length, tab_length, maxLen]; omega) | (refine ⟨?_, ?_⟩ <;> first | omega | (simp [V_length, U_length, tab_length, maxLen]; done) | (simp [V_length, U_length, tab_length, maxLen]; omega))) ?_; simp only [Tryz.f194, wx, wt, go_sem]
    refine qif_df (by omega) ?_
    simp only [Tryz.f194, go_sem]
    refine qcall_i (k4) ?_; simp only [Tryz.f194, wK, go_sem]
    refine qcall_i (k5) ?_; simp only [Tryz.f194, wK, wb, go_sem]
    refine PLoop.intro (fun j : Nat => ⟨[(0, .val (.lst (dg W x).length (U (dg W x)))), (1, .val (.int .i64 n)), (8, .val (.lst (dg W (f j)).length (U (dg W (f j))))), (9, .val (.int .i64 ((j : Int) - 1)))], []⟩) (fun j => j ≤ L) (fun j => j) L (Nat.le_refl _) ?_ fun j hj => walk ?_
    · simp [Wk, sget, killL, kill1, SV.key]
    rcases j with _ | j
    · simp only [Tryz.f194, go_sem]
      refine qif_df (by omega) ?_
      simp only [Tryz.f194, go_sem]
      try exact ⟨rfl, rfl⟩
      try rfl
    · have e1 : (((j + 1 : Nat) : Int) - 1) = (j : Nat) := by omega
      rw [e1]
      have hs := hshr j (by omega)
      have hb := and1_i64w (hbn j)
      have wj : IntKind.wrap .i64 ((j : Int) - 1) = (j : Int) - 1 := wrap64 (by omega) (by omega)
      have q1 := p1 (j + 1)
      have q2 := p2 j
      have q3 := p3 j
      have hfj := hfb0 j
      have st := hstep0 j
      have hm2 : n / 2 ^ j % 2 < 2 := Nat.mod_lt _ (by decide)
      generalize n / 2 ^ j % 2 = bt at *
      generalize n / 2 ^ j = nj at *
      simp only [Tryz.f194, go_sem]
      refine qif_dt (by omega) ?_
      simp only [Tryz.f194, go_sem]
      refine qcall_i (q1) ?_; simp only [Tryz.f194, go_sem]
      refine qand_i (by first | omega | (simp [V_length, U_length, tab_length, maxLen]; done) | (simp [V_length, U_length, tab_length, maxLen]; omega) | (refine ⟨?_, ?_⟩ <;> first | omega | (simp [V_length, U_length, tab_length, maxLen]; done) | (simp [V_length, U_length, tab_length, maxLen]; omega))) ?_; simp only [Tryz.f194, hs, hb, go_sem]
      refine qif_d (fun h => ?_) (fun h => ?_)
      · have h1 : bt = 1 := by omega
        have e2 := st.1 h1
        rw [e2] at q2
        simp only [Tryz.f194, go_sem]
        refine qcall_i (q2) ?_; simp only [Tryz.f194, go_sem]
        refine qcall_i (q3) ?_; simp only [Tryz.f194, go_sem]
        refine qif_df (by omega) ?_
        simp only [Tryz.f194, wj, go_sem]
        refine ⟨j, by omega, by omega, ?_⟩
        simp [Wk, sget, killL, kill1, SV.key]
      · have h1 : bt = 0 := by omega
        have e2 := st.2 h1
        rw [e2]
        simp only [Tryz.f194, go_sem]
        refine qcall_i (q3) ?_; simp only [Tryz.f194, go_sem]
        refine qif_df (by omega) ?_
        simp only [Tryz.f194, wj, go_sem]
        refine ⟨j, by omega, by omega, ?_⟩
        simp [Wk, sget, killL, kill1, SV.key]
end
section
open Go PG Go.Proofs
set_option maxRecDepth 100000
set_option linter.unusedSimpArgs false
set_option linter.unusedVariables false
open XX
def Irt (j a r : Nat) : Prop := r ^ (j + 1) ≤ a ∧ a < (r + 1) ^ (j + 1)
def newtonK (j a x : Nat) : Nat := (x * j + a / x ^ j) / (j + 1)
theorem amgm (r x : Nat) : ∀ j : Nat, (j + 1) * (r * x ^ j) ≤ r ^ (j + 1) + j * x ^ (j + 1)
  | 0 => by simp
  | j + 1 => by
    have ih := amgm r x j
    have h1 := Nat.mul_le_mul_left r ih
    -- r^(j+2) + (j+1) x^(j+2) - (j+2) r x^(j+1) = r * (..) + (j+1) x^j (x - r)^2
    have h2 : 2 * (r * x) ≤ x * x + r * r := by
      obtain ⟨t, ht⟩ | ⟨t, ht⟩ : (∃ t, r = x + t) ∨ (∃ t, x = r + t) := by
        by_cases hc : x ≤ r
        · exact .inl ⟨r - x, by omega⟩
        · exact .inr ⟨x - r, by omega⟩
      · subst ht; grind
      · subst ht; grind
    have h3 := Nat.mul_le_mul_left ((j + 1) * x ^ j) h2
    rw [Nat.pow_succ x (j + 1), Nat.pow_succ r (j + 1)]
    rw [Nat.pow_succ x j] at *
    generalize x ^ j = X at *
    generalize r ^ (j + 1) = Rr at *
    grind
theorem newtonK_ge {j a r x : Nat} (h : Irt j a r) (hx : 0 < x) : r ≤ newtonK j a x := by
  unfold newtonK
  rw [Nat.le_div_iff_mul_le (by omega)]
  refine Nat.not_lt.1 fun hlt => ?_
  have hxj := Nat.pow_pos (n := j) hx
  have hle : x * j ≤ r * (j + 1) := Nat.le_of_lt (Nat.lt_of_le_of_lt (Nat.le_add_right _ _) hlt)
  have h1 : a / x ^ j < r * (j + 1) - x * j := Nat.lt_sub_of_add_lt (by rw [Nat.add_comm]; exact hlt)
  have h2 := (Nat.div_lt_iff_lt_mul hxj).1 h1
  clear h1 hlt
  have h3 := amgm r x j
  have h4 := h.1
  obtain ⟨d, hd⟩ : ∃ d, r * (j + 1) = x * j + d := ⟨r * (j + 1) - x * j, by omega⟩
  rw [show r * (j + 1) - x * j = d by omega] at h2
  have h5 : (j + 1) * (r * x ^ j) = x * j * x ^ j + d * x ^ j := by
    rw [← Nat.mul_assoc, Nat.mul_comm (j + 1) r, hd, Nat.add_mul]
  have h6 : j * x ^ (j + 1) = x * j * x ^ j := by rw [Nat.pow_succ, Nat.mul_comm (x ^ j) x, ← Nat.mul_assoc, Nat.mul_comm j x]
  omega
theorem newtonK_lt {j a r x : Nat} (h : Irt j a r) (hx : r < x) : newtonK j a x < x := by
  unfold newtonK
  rw [Nat.div_lt_iff_lt_mul (by omega)]
  have h1 : a < x ^ (j + 1) := Nat.lt_of_lt_of_le h.2 (Nat.pow_le_pow_left hx _)
  have h2 : a / x ^ j < x := (Nat.div_lt_iff_lt_mul (Nat.pow_pos (by omega))).2 (by rwa [Nat.pow_succ, Nat.mul_comm] at h1)
  rw [Nat.mul_add, Nat.mul_one]
  omega
theorem newtonK_le {j a x : Nat} : newtonK j a x ≤ x + a := by
  unfold newtonK
  have h1 := Nat.div_le_self a (x ^ j)
  refine Nat.div_le_of_le_mul ?_
  have h2 : (j + 1) * (x + a) = x * j + x + (j * a + a) := by grind
  have := Nat.zero_le (j * a)
  omega
theorem k_stepK {a x j : Nat} (ha : bitLen a ≤ 20000) (hx : bitLen x ≤ 20000) (h0 : x ≠ 0) (hj : j < 4611686018427387903) (hb : bitLen x * j ≤ 60000) : PC E 229 [NN a, NN x, .int .i64 ((j + 1 : Nat) : Int)] (NN (newtonK j a x)) := by
  have k1 := k_PowG (x := x) (n := j) (by omega) (by omega) (by omega)
  have hpb := pow_bits x j
  have hxj : x ^ j ≠ 0 := Nat.pos_iff_ne_zero.1 (Nat.pow_pos (by omega))
  have k2 := k_Div (num_bits (x := a) (by omega)) (num_bits (x := x ^ j) (by omega)) (by omega) (by omega) hxj
  have hjW : j < W := Nat.lt_trans hj (by decide)
  have hj1W : j + 1 < W := Nat.lt_of_le_of_lt (show j + 1 ≤ 4611686018427387903 by omega) (by decide)
  have k3 := k_times (x := x) (n := j) (by omega) hjW
  have bj : bitLen j ≤ 64 := (bitLen_le _ _).2 hjW
  have b3 := mul_bits hx bj
  have b4 := div_bits (n := x ^ j) ha
  have k4 := k_Add (num_bits (x := x * j) (by omega)) (num_bits (x := a / x ^ j) (by omega))
  have b5 := bitLen_add (x := x * j) (y := a / x ^ j) (n := 20064) (by omega) (by omega)
  have k5 := k_small (x := x * j + a / x ^ j) (n := j + 1) (by omega) hj1W (by omega)
  rw [show (x * j + a / x ^ j) / (j + 1) = newtonK j a x from rfl] at k5
  have w1 : IntKind.wrap .i64 (((j + 1 : Nat) : Int) - 1) = (j : Int) := by rw [wrap64 (by omega) (by omega)]; omega
  have w2 := wrap_nat64 hjW
  have w3 := wrap_nat64 hj1W
  generalize newtonK j a x = nw at *
  generalize (x * j + a / x ^ j) % (j + 1) = rm at *
  generalize x * j + a / x ^ j = sm at *
  generalize x * j = xj at *
  generalize a % x ^ j = am at *
  generalize a / x ^ j = ad at *
  generalize x ^ j = px at *
  generalize hJ : ((j + 1 : Nat) : Int) = J at *
  simp only [u, NN, NL, hJ] at k1 k2 k3 k4 k5 ⊢
  refine PC.of_body follows Tryz.func229 (by decide +kernel) rfl (by kernel_rfl) (Nat.le_of_ble_eq_true rfl) (walk ?_)
  simp only [Tryz.f229, w1, go_sem]
  refine qcall_i (k1) ?_; simp only [Tryz.f229, w1, go_sem]
  refine qcall_i (k2) ?_; simp only [Tryz.f229, w1, w2, go_sem]
  refine qcall_i (k3) ?_; simp only [Tryz.f229, w3, go_sem]
  refine qcall_i (k4) ?_; simp only [Tryz.f229, w3, go_sem]
  refine qcall_i (k5) ?_; simp only [Tryz.f229, go_sem]
  try exact ⟨rfl, rfl⟩
  try rfl
theorem irt_pos {j a r : Nat} (h : Irt j a r) (ha : a ≠ 0) : 1 ≤ r := Nat.not_lt.1 fun h0 => by
  have : r = 0 := by omega
  subst this
  have := h.2
  rw [Nat.zero_add, Nat.one_pow] at this
  omega
theorem irt_lt {j a r n : Nat} (h : Irt j a r) (hn : a < (2 ^ n) ^ (j + 1)) : r < 2 ^ n := Nat.not_le.1 fun h0 => by
  have := Nat.pow_le_pow_left h0 (j + 1)
  have := h.1
  omega
theorem irt_one {j a r : Nat} (h : Irt j a r) (ha : a ≠ 0) (hk : bitLen a ≤ j + 1) : r = 1 := by
  have h1 := irt_pos h ha
  have h2 := irt_lt (n := 1) h (by rw [← Nat.pow_mul, Nat.one_mul]; exact (bitLen_le a (j + 1)).1 hk)
  omega
set_option maxHeartbeats 4000000 in
theorem k_floorK {a r j : Nat} (h : Irt j a r) (ha : a ≠ 0) (hb : bitLen a ≤ 8192) (hj : j < 4611686018427387903) : PC E 193 [NN a, .int .i64 ((j + 1 : Nat) : Int)] (NN r) := by
  have k1 := k_Bits (num_bits (x := a) (by omega))
  have k2 := u_one
  have hb0 := bitLen_pos ha
  by_cases hs : bitLen a ≤ j + 1
  · have e := irt_one h ha hs
    subst e
    simp only [NN, NL] at k1 k2 ⊢
    refine PC.of_body follows Tryz.func193 (by decide +kernel) rfl (by kernel_rfl) (Nat.le_of_ble_eq_true rfl) (walk ?_)
    simp only [Tryz.f193, go_sem]
    refine qcall_i (k1) ?_; simp only [Tryz.f193, go_sem]
    refine qif_dt (by omega) ?_
    simp only [Tryz.f193, go_sem]
    refine qcall_i (k2) ?_; simp only [Tryz.f193, go_sem]
    try exact ⟨rfl, rfl⟩
    try rfl
  obtain ⟨n, hn⟩ : ∃ n, n = (bitLen a + j) / (j + 1) := ⟨_, rfl⟩
  have hjb : j + 1 < bitLen a := by omega
  have hn1 : bitLen a ≤ n * (j + 1) := by
    have h1 := Nat.div_add_mod (bitLen a + j) (j + 1)
    have h2 := Nat.mod_lt (bitLen a + j) (show 0 < j + 1 by omega)
    rw [← hn, Nat.mul_comm] at h1
    omega
  have hn2 : n * (j + 1) ≤ bitLen a + j := by rw [hn]; exact Nat.div_mul_le_self _ _
  have hnj : n ≤ n * (j + 1) := Nat.le_mul_of_pos_right n (by omega)
  have k3 := k_Shln (num_bits (x := 1) (by decide)) n (by rw [bit1]; omega)
  rw [Nat.one_mul] at k3
  have hr1 := irt_pos h ha
  have hrn : r < 2 ^ n := irt_lt h (by
    rw [← Nat.pow_mul]
    exact (bitLen_le a _).1 hn1)
  have hbn : bitLen (2 ^ n) ≤ n + 1 := bitLen_two2 n
  have hmj : (n + 1) * j ≤ 30000 := by
    have h1 : (n + 1) * j ≤ n * (j + 1) + j := by grind
    omega
  have hst : ∀ X : Nat, r ≤ X → bitLen X ≤ n + 1 → PC E 229 [NN a, NN X, .int .i64 ((j + 1 : Nat) : Int)] (NN (newtonK j a X)) := fun X hX hbX => k_stepK (by omega) (by omega) (by omega) hj (by
    have := Nat.mul_le_mul_right j hbX
    omega)
  have hcm : ∀ X : Nat, bitLen X ≤ n + 1 → PC E 181 [NN (newtonK j a X), NN X] (.int .i64 (sgn (newtonK j a X) X)) := fun X hbX => k_Cmp (num_bits (by
    have h1 := bitLen_mono (newtonK_le (j := j) (a := a) (x := X))
    have h2 := bitLen_add (x := X) (y := a) (n := 20000) (by omega) (by omega)
    omega)) (num_bits (by omega))
  have hge : ∀ X : Nat, r ≤ X → r ≤ newtonK j a X := fun X hX => newtonK_ge h (by omega)
  have hlt : ∀ X : Nat, r < X → newtonK j a X < X := fun X hX => newtonK_lt h hX
  generalize newtonK j a = nw at *
  have wb1 : IntKind.wrap .i64 ((bitLen a : Int) + ((j + 1 : Nat) : Int)) = (bitLen a : Int) + ((j + 1 : Nat) : Int) := wrap64 (by omega) (by omega)
  have wb2 : IntKind.wrap .i64 ((bitLen a : Int) + ((j + 1 : Nat) : Int) - 1) = ((bitLen a + j : Nat) : Int) := by rw [wrap64 (by omega) (by omega)]; omega
  have wt : Int.tdiv ((bitLen a + j : Nat) : Int) ((j + 1 : Nat) : Int) = n := by
    rw [Int.tdiv_eq_ediv_of_nonneg (by omega), hn]; rfl
  have wt2 : IntKind.wrap .i64 (n : Int) = n := wrap64 (by omega) (by omega)
  have hj0 : ¬ ((j + 1 : Nat) : Int) = 0 := by omega
  have hgeJ : ¬ ((j + 1 : Nat) : Int) ≥ (bitLen a : Int) := by omega
  clear hn hn1 hn2 hnj hmj hjb hj hs
  generalize hJ : ((j + 1 : Nat) : Int) = J at *
  simp only [NN, NL] at k1 k2 k3 hst hcm ⊢
  refine PC.of_body follows Tryz.func193 (by decide +kernel) rfl (by kernel_rfl) (Nat.le_of_ble_eq_true rfl) (walk ?_)
  simp only [Tryz.f193, go_sem]
  refine qcall_i (k1) ?_; simp only [Tryz.f193, go_sem]
  refine qif_df hgeJ ?_
  simp only [Tryz.f193, go_sem]
  refine qcall_i (k2) ?_; simp only [Tryz.f193, wb1, wb2, wt, wt2, go_sem]
  try (refine qand_i hj0 ?_; simp only [Tryz.f193, wb1, wb2, wt, wt2, go_sem])
  refine qcall_i (k3) ?_; simp only [Tryz.f193, go_sem]
  have hrn' : r ≤ 2 ^ n := Nat.le_of_lt hrn
  clear k1 k2 k3 hrn
  generalize 2 ^ n = x0 at *
  refine PLoop.intro (fun X : Nat => ⟨[(0, .val (.lst (dg W a).length (U (dg W a)))), (1, .val (.int .i64 J)), (6, .val (.lst (dg W X).length (U (dg W X))))], []⟩) (fun X => r ≤ X ∧ bitLen X ≤ n + 1) (fun X => X) x0 ⟨hrn', hbn⟩ ?_ fun X hX => walk ?_
  · simp [Wk, sget, killL, kill1, SV.key]
  have q1 := hst X hX.1 hX.2
  have q2 := hcm X hX.2
  have g1 := hge X hX.1
  have g2 := hlt X
  generalize nw X = Y at *
  simp only [Tryz.f193, go_sem]
  refine qcall_i (q1) ?_; simp only [Tryz.f193, go_sem]
  refine qcall_i (q2) ?_; simp only [Tryz.f193, go_sem]
  have hsg : (sgn (Y : Int) X ≥ 0) ↔ X ≤ Y := by
    have := sgn_neg (Y : Int) X
    omega
  refine qif_d (fun hc => ?_) (fun hc => ?_)
  · have hc := hsg.1 hc
    have e : X = r := by
      by_cases h : r < X
      · have := g2 h; omega
      · have := hX.1; omega
    simp only [Tryz.f193, go_sem]
    rw [e]
    exact ⟨rfl, rfl⟩
  · have hc : ¬ X ≤ Y := fun h => hc (hsg.2 h)
    simp only [Tryz.f193, go_sem]
    refine ⟨Y, ⟨g1, Nat.le_trans (bitLen_mono (by omega)) hX.2⟩, by omega, ?_⟩
    simp [Wk, sget, killL, kill1, SV.key]
theorem k_RootK {a r j : Nat} (h : Irt j a r) (ha : a ≠ 0) (hb : bitLen a ≤ 4000) (hj1 : 1 ≤ j) (hj : j ≤ 10000) : PC E 123 [NN a, .int .i64 ((j + 1 : Nat) : Int)] (.tuple [NN r, .bool (decide (r ^ (j + 1) = a)), .int .i64 0]) := by
  have k1 := k_Bare (num_bits (x := a) (by omega))
  have k2 := k_Bits (num_bits (x := a) (by omega))
  have k3 := k_floorK h ha (by omega) (by omega)
  -- r^(j+1) is at most a
  have hb0 := bitLen_pos ha
  have hr1 := irt_pos h ha
  have hrb : bitLen r * (j + 1) ≤ 30000 := by
    -- (bits - 1) * (j+1) ≤ bits of a - 1
    have h1 : (2 ^ (bitLen r - 1)) ^ (j + 1) ≤ a := Nat.le_trans (Nat.pow_le_pow_left (m_range (by omega)).1 _) h.1
    rw [← Nat.pow_mul] at h1
    have h2 := (bitLen_le a (bitLen a)).1 (Nat.le_refl _)
    have h3 := (Nat.pow_lt_pow_iff_right (by decide : 1 < 2)).1 (Nat.lt_of_le_of_lt h1 h2)
    have h4 := bitLen_pos (x := r) (by omega)
    obtain ⟨t, ht⟩ : ∃ t, bitLen r = t + 1 := ⟨bitLen r - 1, by omega⟩
    rw [ht] at h3 ⊢
    rw [show t + 1 - 1 = t by omega] at h3
    rw [Nat.add_mul, Nat.one_mul]
    omega
  have hrl : bitLen r ≤ 30000 := Nat.le_trans (Nat.le_mul_of_pos_right _ (by omega)) hrb
  have k4 := k_PowG (x := r) (n := j + 1) (by omega) (by omega) (by omega)
  have hpb := pow_bits r (j + 1)
  have k5 := k_Cmp (num_bits (x := r ^ (j + 1)) (by omega)) (num_bits (x := a) (by omega))
  obtain ⟨l, cs, e, hl⟩ := NN_len (x := a)
  have hl0 : ¬ (l : Int) = 0 := by have : l ≠ 0 := fun h' => ha (hl.1 h'); omega
  have hsg : decide (sgn ((r ^ (j + 1) : Nat) : Int) (a : Int) = 0) = decide (r ^ (j + 1) = a) := by
    have := sgn_zero ((r ^ (j + 1) : Nat) : Int) (a : Int)
    exact decide_eq_decide.2 (by rw [this]; exact Int.ofNat_inj)
  rw [← hsg]
  generalize r ^ (j + 1) = rr at *
  generalize sgn (rr : Int) (a : Int) = sg at *
  generalize hJ : ((j + 1 : Nat) : Int) = J at *
  have hJ1 : ¬ J < 1 := by omega
  have hJ2 : ¬ J = 1 := by omega
  rw [e] at k1 k2 k3 k5 ⊢
  simp only [NN, NL] at k1 k2 k3 k4 k5 ⊢
  refine PC.of_body follows Tryz.func123 (by decide +kernel) rfl (by kernel_rfl) (Nat.le_of_ble_eq_true rfl) (walk ?_)
  simp only [Tryz.f123, go_sem]
  refine qcall_i (k1) ?_; simp only [Tryz.f123, go_sem]
  refine qif_df hJ1 ?_
  simp only [Tryz.f123, go_sem]
  refine qcall_i (k2) ?_; simp only [Tryz.f123, go_sem]
  refine qif_df (by omega) ?_
  simp only [Tryz.f123, go_sem]
  refine qif_df hl0 ?_
  simp only [Tryz.f123, go_sem]
  refine qif_df hJ2 ?_
  simp only [Tryz.f123, go_sem]
  refine qcall_i (k3) ?_; simp only [Tryz.f123, go_sem]
  refine qcall_i (k4) ?_; simp only [Tryz.f123, go_sem]
  refine qcall_i (k5) ?_; simp only [Tryz.f123, go_sem]
  try exact ⟨rfl, rfl⟩
  try rfl
end
section
open Go PG Go.Proofs
set_option maxRecDepth 100000
set_option linter.unusedSimpArgs false
set_option linter.unusedVariables false
open XX
theorem wrapN64 {n : Int} (h0 : -9223372036854775808 ≤ n) (h1 : n < 0) : IntKind.wrap .u64 (0 - IntKind.wrap .u64 n) = ((n.natAbs : Nat) : Int) := by
  rw [IntKind.wrap_u64, IntKind.wrap_u64]; omega
theorem wrapP64 {n : Int} (h0 : 0 ≤ n) (h1 : n < 9223372036854775808) : IntKind.wrap .u64 n = ((n.natAbs : Nat) : Int) := by
  rw [IntKind.wrap_u64]; omega
theorem t_size {n : Int} (h0 : -9223372036854775808 ≤ n) (h1 : n < 9223372036854775808) : PC E 197 [.int .i64 n] (.int .u64 (n.natAbs : Nat)) := by
  refine PC.of_body follows Tryz.func197 (by decide +kernel) rfl (by kernel_rfl) (Nat.le_of_ble_eq_true rfl) (walk ?_)
  simp only [Tryz.f197, go_sem]
  refine qif_d (fun h => ?_) (fun h => ?_)
  · have w := wrapN64 h0 h
    simp only [Tryz.f197, w, go_sem]
    try rfl
  · have w := wrapP64 (n := n) (by omega) h1
    simp only [Tryz.f197, w, go_sem]
    try rfl
theorem e_size {n : Int} (h0 : -9223372036854775808 ≤ n) (h1 : n < 9223372036854775808) : PC E 122 [.int .i64 n] (.int .u64 (n.natAbs : Nat)) := by
  refine PC.of_body follows Tryz.func122 (by decide +kernel) rfl (by kernel_rfl) (Nat.le_of_ble_eq_true rfl) (walk ?_)
  simp only [Tryz.f122, go_sem]
  refine qif_d (fun h => ?_) (fun h => ?_)
  · have w := wrapN64 h0 h
    simp only [Tryz.f122, w, go_sem]
    try rfl
  · have w := wrapP64 (n := n) (by omega) h1
    simp only [Tryz.f122, w, go_sem]
    try rfl
theorem natAbs_W {n : Int} (h0 : -9223372036854775808 ≤ n) (h1 : n < 9223372036854775808) : n.natAbs < W := Nat.lt_of_le_of_lt (show n.natAbs ≤ 9223372036854775808 by omega) (by decide)
theorem mul_split {a b c : Nat} (hc : c < W) : (a * b / W = 0 ∧ a * b % W ≤ c) ↔ a * b ≤ c := by
  generalize a * b = p
  have h1 := Nat.div_add_mod p W
  constructor
  · rintro ⟨h2, h3⟩
    rw [h2, Nat.mul_zero, Nat.zero_add] at h1
    omega
  · intro h
    have h2 : p / W = 0 := Nat.div_eq_of_lt (by omega)
    refine ⟨h2, ?_⟩
    rw [h2, Nat.mul_zero, Nat.zero_add] at h1
    omega
theorem t_under {a b : Nat} (ha : a < W) (hb : b < W) : PC E 196 [.int .u64 a, .int .u64 b] (.bool (decide (a * b ≤ 60000))) := by
  have k1 := c_Mul64 a b ha hb
  have hs := mul_split (a := a) (b := b) (c := 60000) (by decide)
  simp only [u] at k1
  obtain ⟨R, hR⟩ : ∃ R, R = PV.bool (decide (a * b ≤ 60000)) := ⟨_, rfl⟩
  rw [← hR]
  obtain ⟨H, hH⟩ : ∃ H, H = a * b / W := ⟨_, rfl⟩
  obtain ⟨L, hL⟩ : ∃ L, L = a * b % W := ⟨_, rfl⟩
  rw [← hH, ← hL] at k1 hs
  refine PC.of_body follows Tryz.func196 (by decide +kernel) rfl (by kernel_rfl) (Nat.le_of_ble_eq_true rfl) (walk ?_)
  simp only [Tryz.f196, go_sem]
  refine qcall_i (k1) ?_; simp only [Tryz.f196, go_sem]
  refine qif_d (fun h => ?_) (fun h => ?_)
  · simp only [Tryz.f196, go_sem]
    rw [hR]
    congr 1
    exact decide_eq_decide.2 (by rw [← hs]; omega)
  · simp only [Tryz.f196, go_sem]
    rw [hR]
    congr 1
    exact (decide_eq_false (by rw [← hs]; omega)).symm
def fitsR (d : Dy) (m : Int) : Prop := bitLen d.m * m.natAbs ≤ 60000 ∧ d.e.natAbs * m.natAbs ≤ 60000
instance (d : Dy) (m : Int) : Decidable (fitsR d m) := inferInstanceAs (Decidable (_ ∧ _))
theorem t_Fits {p : PV} {d : Dy} (h : RD p d) (hf : d.fits) {m : Int} (h0 : -9223372036854775808 ≤ m) (h1 : m < 9223372036854775808) : PC E 126 [p, .int .i64 m] (.bool (decide (fitsR d m))) := by
  have k1 := r_Bare h
  rw [okD_of hf] at k1
  have hb := h.bits
  have k2 := k_Bits (num_bits (x := d.m) hb)
  have k3 := t_size h0 h1
  have hfe := hf.1
  have hfe2 := hf.2
  have k4 := t_size (n := d.e) (by omega) (by omega)
  have k5 := t_under (a := bitLen d.m) (b := m.natAbs) (Nat.lt_of_le_of_lt hb (by decide)) (natAbs_W h0 h1)
  have k6 := t_under (a := d.e.natAbs) (b := m.natAbs) (natAbs_W (by omega) (by omega)) (natAbs_W h0 h1)
  have w := wrap_nat64 (a := bitLen d.m) (Nat.lt_of_le_of_lt hb (by decide))
  obtain ⟨R, hR⟩ : ∃ R, R = PV.bool (decide (fitsR d m)) := ⟨_, rfl⟩
  rw [← hR]
  obtain ⟨s, q, x, e, rfl, -⟩ := h
  by_cases c1 : bitLen d.m * m.natAbs ≤ 60000
  case neg =>
    rw [decide_eq_false c1] at k5
    rw [decide_eq_false (fun h : fitsR d m => c1 h.1)] at hR
    simp only [DP, Dy.pv, NN, NL] at k1 k2 ⊢
    refine PC.of_body follows Tryz.func126 (by decide +kernel) rfl (by kernel_rfl) (Nat.le_of_ble_eq_true rfl) (walk ?_)
    simp only [Tryz.f126, go_sem]
    refine qcall_i (k1) ?_; simp only [Tryz.f126, go_sem]
    refine qcall_i (k2) ?_; simp only [Tryz.f126, w, go_sem]
    refine qcall_i (k3) ?_; simp only [Tryz.f126, go_sem]
    refine qcall_i (k5) ?_; simp only [Tryz.f126, go_sem]
    first | (rw [hR]; done) | (rw [hR]; rfl)
  rw [decide_eq_true c1] at k5
  have hd : decide (fitsR d m) = decide (d.e.natAbs * m.natAbs ≤ 60000) := decide_eq_decide.2 ⟨fun h => h.2, fun h => ⟨c1, h⟩⟩
  rw [hd] at hR
  simp only [DP, Dy.pv, NN, NL] at k1 k2 ⊢
  refine PC.of_body follows Tryz.func126 (by decide +kernel) rfl (by kernel_rfl) (Nat.le_of_ble_eq_true rfl) (walk ?_)
  simp only [Tryz.f126, go_sem]
  refine qcall_i (k1) ?_; simp only [Tryz.f126, go_sem]
  refine qcall_i (k2) ?_; simp only [Tryz.f126, w, go_sem]
  refine qcall_i (k3) ?_; simp only [Tryz.f126, go_sem]
  refine qcall_i (k5) ?_; simp only [Tryz.f126, go_sem]
  refine qcall_i (k4) ?_; simp only [Tryz.f126, go_sem]
  refine qcall_i (k3) ?_; simp only [Tryz.f126, go_sem]
  refine qcall_i (k6) ?_; simp only [Tryz.f126, go_sem]
  first | (rw [hR]; done) | (rw [hR]; rfl)
theorem odd_pow {m : Nat} (h : m % 2 = 1) (n : Nat) : m ^ n % 2 = 1 := by
  induction n with
  | zero => rfl
  | succ n ih => rw [Nat.pow_succ, Nat.mul_mod, ih, h]
theorem t_Pow0 {x n : Nat} (hx : x % 2 = 1) (hxb : bitLen x ≤ 60000) (hn : n ≤ 54) : ∃ v, PC E 125 [.agg [.bool false, NN x, .int .i64 0], .int .i64 n] v ∧ (bitLen x * n ≤ 60000 → v = .tuple [(Dy.mk false (x ^ n) 0).pv, .int .i64 0]) ∧ (¬ bitLen x * n ≤ 60000 → v = .tuple [Dy.zero.pv, .int .i64 2]) := by
  have hok : (Dy.mk false x 0).ok := .inr hx
  have hf : (Dy.mk false x 0).fits := ⟨show (-1073741824 : Int) ≤ 0 by decide, show (0 : Int) ≤ 1073741824 by decide⟩
  have hR : RD (Dy.mk false x 0).pv ⟨false, x, 0⟩ := RD.fit hok (by show bitLen x ≤ _; omega) hf
  have k1 := r_Bare hR
  rw [okD_of hf] at k1
  have k2 := t_Fits hR hf (m := n) (by omega) (by omega)
  have hfr : fitsR ⟨false, x, 0⟩ (n : Int) ↔ bitLen x * n ≤ 60000 := by
    unfold fitsR
    dsimp only
    rw [Int.natAbs_natCast, Int.natAbs_zero, Nat.zero_mul]
    exact ⟨fun h => h.1, fun h => ⟨h, by omega⟩⟩
  rw [decide_eq_decide.2 hfr] at k2
  by_cases hc : bitLen x * n ≤ 60000
  · refine ⟨_, ?_, fun _ => rfl, fun h => absurd hc h⟩
    rw [decide_eq_true hc] at k2
    have k3 := k_PowG (x := x) (n := n) (by omega) (by omega) (by omega)
    have hpb := pow_bits x n
    have k4 := r_Make (num_bits (x := x ^ n) (by omega)) (by omega) false 0
    rw [mkD_odd (odd_pow hx n) (by decide) (by decide), okD_of ⟨show (-1073741824 : Int) ≤ 0 by decide, show (0 : Int) ≤ 1073741824 by decide⟩] at k4
    generalize x ^ n = P at *
    simp only [DP, Dy.pv, NN, NL] at k1 k2 k3 k4 ⊢
    refine PC.of_body follows Tryz.func125 (by decide +kernel) rfl (by kernel_rfl) (Nat.le_of_ble_eq_true rfl) (walk ?_)
    simp only [Tryz.f125, go_sem]
    refine qcall_i (k1) ?_; simp only [Tryz.f125, go_sem]
    refine qif_df (by omega) ?_
    simp only [Tryz.f125, go_sem]
    refine qcall_i (k2) ?_; simp only [Tryz.f125, go_sem]
    refine qcall_i (k3) ?_; simp only [Tryz.f125, go_sem]
    have w0 : IntKind.wrap .i64 (0 * (n : Int)) = 0 := by rw [Int.zero_mul]; decide
    simp only [Tryz.f125, w0, go_sem]
    refine qcall_i (k4) ?_; simp only [Tryz.f125, go_sem]
    try exact ⟨rfl, rfl⟩
    try rfl
  · refine ⟨_, ?_, fun h => absurd h hc, fun _ => rfl⟩
    rw [decide_eq_false hc] at k2
    simp only [DP, Dy.pv, Dy.zero, NN, NL] at k1 k2 ⊢
    refine PC.of_body follows Tryz.func125 (by decide +kernel) rfl (by kernel_rfl) (Nat.le_of_ble_eq_true rfl) (walk ?_)
    simp only [Tryz.f125, go_sem]
    refine qcall_i (k1) ?_; simp only [Tryz.f125, go_sem]
    refine qif_df (by omega) ?_
    simp only [Tryz.f125, go_sem]
    refine qcall_i (k2) ?_; simp only [Tryz.f125, go_sem]
    try rfl
theorem e_Low {M : Int} {K : Nat} (hM : -9223372036854775808 < M ∧ M < 9223372036854775808) (hK : 1 ≤ K) (hK2 : K < 9223372036854775808) :
    PC E 65 [.agg [.int .i64 M, .int .i64 (K : Nat)]] (.tuple [.agg [.int .i64 (M.tdiv ((Nat.gcd M.natAbs K : Nat) : Int)), .int .i64 ((K / Nat.gcd M.natAbs K : Nat) : Int)], .int .i64 0]) := by
  have k1 := e_size (n := M) (by omega) hM.2
  have wK : IntKind.wrap .u64 (K : Int) = K := wrap_nat64 (Nat.lt_trans hK2 (by decide))
  have hg0 : 0 < Nat.gcd M.natAbs K := Nat.gcd_pos_of_pos_right _ (by omega)
  have hgK : Nat.gcd M.natAbs K ≤ K := Nat.gcd_le_right _ (by omega)
  have hKd : (K : Int).tdiv ((Nat.gcd M.natAbs K : Nat) : Int) = ((K / Nat.gcd M.natAbs K : Nat) : Int) := by
    rw [Int.tdiv_eq_ediv_of_nonneg (by omega)]; rfl
  have hMt : (M.tdiv ((Nat.gcd M.natAbs K : Nat) : Int)).natAbs ≤ M.natAbs := by
    rw [Int.natAbs_tdiv]
    exact Nat.div_le_self _ _
  have wM : IntKind.wrap .i64 (M.tdiv ((Nat.gcd M.natAbs K : Nat) : Int)) = M.tdiv ((Nat.gcd M.natAbs K : Nat) : Int) := wrap64 (by omega) (by omega)
  have hKq := Nat.div_le_self K (Nat.gcd M.natAbs K)
  have wKK : IntKind.wrap .i64 ((K / Nat.gcd M.natAbs K : Nat) : Int) = ((K / Nat.gcd M.natAbs K : Nat) : Int) := by
    generalize K / Nat.gcd M.natAbs K = KG at *
    exact wrap64 (by omega) (by omega)
  obtain ⟨G, hG⟩ : ∃ G, G = Nat.gcd M.natAbs K := ⟨_, rfl⟩
  rw [← hG] at hg0 hgK hKd hMt wM hKq wKK ⊢
  have wG : IntKind.wrap .i64 (G : Int) = G := wrap64 (by omega) (by omega)
  generalize K / G = KG at *
  have hG0 : ¬ (G : Int) = 0 := by omega
  refine PC.of_body follows Tryz.func65 (by decide +kernel) rfl (by kernel_rfl) (Nat.le_of_ble_eq_true rfl) (walk ?_)
  simp only [Tryz.f65, go_sem]
  refine qif_df (by omega) ?_
  simp only [Tryz.f65, go_sem]
  refine qcall_i (k1) ?_; simp only [Tryz.f65, wK, go_sem]
  refine PLoop.intro (fun i : Nat × Nat => ⟨[(1, .ptr 1 0), (2, .ptr 2 0), (3, .val (.int .i64 0)), (4, .val (.int .u64 i.1)), (5, .val (.int .u64 i.2))],
    [(1, (.box [.int .i64 M, .int .i64 K], false)), (2, (.box [.int .i64 0, .int .i64 0], false))]⟩) (fun i => Nat.gcd i.1 i.2 = G) (fun i => i.2) (M.natAbs, K) hG.symm ?_ fun i hi => walk ?_
  · simp [Wk, sget, killL, kill1, SV.key]
  obtain ⟨a, b⟩ := i
  dsimp only at hi ⊢
  simp only [Tryz.f65, go_sem]
  refine qif_d (fun h => ?_) (fun h => ?_)
  · have hb0 : ¬ (b : Int) = 0 := by omega
    have et : (a : Int).tmod b = ((a % b : Nat) : Int) := by rw [Int.tmod_eq_emod_of_nonneg (by omega)]; rfl
    simp only [Tryz.f65, go_sem]
    refine qand_i (by first | omega | (simp [V_length, U_length, tab_length, maxLen]; done) | (simp [V_length, U_length, tab_length, maxLen]; omega) | (refine ⟨?_, ?_⟩ <;> first | omega | (simp [V_length, U_length, tab_length, maxLen]; done) | (simp [V_length, U_length, tab_length, maxLen]; omega))) ?_; simp only [Tryz.f65, et, go_sem]
    try simp only [Tryz.f65, et, go_sem]
    refine ⟨(b, a % b), ?_, Nat.mod_lt _ (by omega), ?_⟩
    · dsimp only
      rw [Nat.gcd_comm b, ← Nat.gcd_rec, Nat.gcd_comm]; exact hi
    · simp [Wk, sget, killL, kill1, SV.key]
  · have hb : b = 0 := by omega
    subst hb
    rw [Nat.gcd_zero_right] at hi
    subst hi
    simp only [Tryz.f65, wG, go_sem]
    refine qand_i (by first | omega | (simp [V_length, U_length, tab_length, maxLen]; done) | (simp [V_length, U_length, tab_length, maxLen]; omega) | (refine ⟨?_, ?_⟩ <;> first | omega | (simp [V_length, U_length, tab_length, maxLen]; done) | (simp [V_length, U_length, tab_length, maxLen]; omega))) ?_; simp only [Tryz.f65, wG, wM, go_sem]
    refine qand_i (by first | omega | (simp [V_length, U_length, tab_length, maxLen]; done) | (simp [V_length, U_length, tab_length, maxLen]; omega) | (refine ⟨?_, ?_⟩ <;> first | omega | (simp [V_length, U_length, tab_length, maxLen]; done) | (simp [V_length, U_length, tab_length, maxLen]; omega))) ?_; simp only [Tryz.f65, wG, wM, hKd, wKK, go_sem]
    try exact ⟨rfl, rfl⟩
    try rfl
end
section
open Go PG Go.Proofs
set_option maxRecDepth 100000
set_option linter.unusedSimpArgs false
set_option linter.unusedVariables false
open XX
def exU (d : Dy) : Nat := d.m * 2 ^ (max d.e 0).toNat
def exOfOk (d : Dy) : Prop := -62 ≤ d.e ∧ (bitLen d.m : Int) + max d.e 0 ≤ 62
instance (d : Dy) : Decidable (exOfOk d) := inferInstanceAs (Decidable (_ ∧ _))
def exM (d : Dy) : Int := if d.s = true then -(exU d : Int) else exU d
def exK (d : Dy) : Nat := 2 ^ (max (-d.e) 0).toNat
theorem exU_lt {d : Dy} (h : exOfOk d) : exU d < 4611686018427387904 := by
  have h1 := (bitLen_le d.m (bitLen d.m)).1 (Nat.le_refl _)
  unfold exU
  have h2 := Nat.mul_lt_mul_of_pos_right h1 (Nat.two_pow_pos (max d.e 0).toNat)
  rw [← Nat.pow_add] at h2
  have h3 : 2 ^ (bitLen d.m + (max d.e 0).toNat) ≤ 2 ^ 62 := Nat.pow_le_pow_right (by decide) (by have := h.2; omega)
  exact Nat.lt_of_lt_of_le h2 h3
theorem exK_range {d : Dy} (h : -62 ≤ d.e) : 1 ≤ exK d ∧ exK d ≤ 4611686018427387904 := by
  unfold exK
  have h3 : 2 ^ (max (-d.e) 0).toNat ≤ 2 ^ 62 := Nat.pow_le_pow_right (by decide) (by omega)
  exact ⟨Nat.two_pow_pos _, h3⟩
theorem shl_one {x : Int} (h0 : 0 ≤ x) (h1 : x ≤ 62) : IntKind.wrap .i64 (1 * 2 ^ (min x.toNat 64)) = ((2 ^ x.toNat : Nat) : Int) := by
  rw [Nat.min_eq_left (by omega), Int.one_mul]
  have h3 : 2 ^ x.toNat ≤ 2 ^ 62 := Nat.pow_le_pow_right (by decide) (by omega)
  have e : (2 : Int) ^ x.toNat = ((2 ^ x.toNat : Nat) : Int) := by rw [Int.natCast_pow]; rfl
  rw [e]
  have h4 : (2 : Nat) ^ 62 = 4611686018427387904 := by decide
  generalize 2 ^ x.toNat = P at *
  exact wrap64 (by omega) (by omega)
set_option maxHeartbeats 2000000 in
theorem e_Of {p : PV} {d : Dy} {K : Nat} (h : RD p d) (hl : Lim K d) (hK : K ≤ 200000) : PC E 22 [p] (if exOfOk d then .tuple [.agg [.int .i64 (exM d), .int .i64 (exK d : Nat)], .bool true] else .tuple [.agg [.int .i64 0, .int .i64 0], .bool false]) := by
  have k1 := r_Bare h
  have hf := hl.fits (by omega)
  rw [okD_of hf] at k1
  have hbt := hl.bits
  have k2 := k_Bits (num_bits (x := d.m) (by omega))
  have he := hl.e0
  obtain ⟨s, q, x, e, rfl, -⟩ := h
  obtain ⟨R, hR⟩ : ∃ R, R = (if exOfOk d then PV.tuple [.agg [.int .i64 (exM d), .int .i64 (exK d : Nat)], .bool true] else .tuple [.agg [.int .i64 0, .int .i64 0], .bool false]) := ⟨_, rfl⟩
  rw [← hR]
  by_cases c1 : d.e < -62
  · rw [if_neg (fun h : exOfOk d => by have := h.1; omega)] at hR
    simp only [DP, Dy.pv, NN, NL] at k1 k2 ⊢
    refine PC.of_body follows Tryz.func22 (by decide +kernel) rfl (by kernel_rfl) (Nat.le_of_ble_eq_true rfl) (walk ?_)
    simp only [Tryz.f22, go_sem]
    refine qcall_i (k1) ?_; simp only [Tryz.f22, go_sem]
    refine qif_dt c1 ?_
    simp only [Tryz.f22, go_sem]
    rw [hR]
  have w1 : IntKind.wrap .i64 ((bitLen d.m : Int) + max d.e 0) = (bitLen d.m : Int) + max d.e 0 := wrap64 (by omega) (by omega)
  by_cases c2 : (bitLen d.m : Int) + max d.e 0 > 62
  · rw [if_neg (fun h : exOfOk d => by have := h.2; omega)] at hR
    simp only [DP, Dy.pv, NN, NL] at k1 k2 ⊢
    refine PC.of_body follows Tryz.func22 (by decide +kernel) rfl (by kernel_rfl) (Nat.le_of_ble_eq_true rfl) (walk ?_)
    simp only [Tryz.f22, go_sem]
    refine qcall_i (k1) ?_; simp only [Tryz.f22, go_sem]
    refine qif_df c1 ?_
    simp only [Tryz.f22, go_sem]
    refine qcall_i (k2) ?_; simp only [Tryz.f22, w1, go_sem]
    refine qif_dt c2 ?_
    simp only [Tryz.f22, go_sem]
    rw [hR]
  have ho : exOfOk d := ⟨by omega, by omega⟩
  rw [if_pos ho] at hR
  have hU := exU_lt ho
  have k3 := k_Shln (num_bits (x := d.m) (by omega)) (max d.e 0).toNat (by omega)
  rw [show (((max d.e 0).toNat : Nat) : Int) = max d.e 0 by omega] at k3
  have eU : d.m * 2 ^ (max d.e 0).toNat = exU d := rfl
  rw [eU] at k3
  have hUW : exU d < W := Nat.lt_trans hU (by decide)
  have k4 := k_Small (num_bits (x := exU d) (by have : bitLen (exU d) ≤ 64 := (bitLen_le _ _).2 hUW; omega))
  rw [if_pos hUW, decide_eq_true hUW] at k4
  have w2 : IntKind.wrap .i64 (exU d : Int) = exU d := wrap64 (by omega) (by omega)
  have w3 : IntKind.wrap .i64 (0 - d.e) = -d.e := by rw [wrap64 (by omega) (by omega)]; omega
  have w4 := shl_one (x := max (-d.e) 0) (by omega) (by omega)
  have eK : 2 ^ (max (-d.e) 0).toNat = exK d := rfl
  rw [eK] at w4
  have w5 : IntKind.wrap .i64 (0 - (exU d : Int)) = -(exU d : Int) := by rw [wrap64 (by omega) (by omega)]; omega
  have eM : exM d = if d.s = true then -(exU d : Int) else exU d := rfl
  rw [eM] at hR
  generalize exU d = Uu at *
  generalize exK d = Kk at *
  have hmx : ¬ max (-d.e) 0 < 0 := by omega
  simp only [DP, Dy.pv, u, NN, NL] at k1 k2 k3 k4 ⊢
  cases hs : d.s with
  | true =>
    rw [hs, if_pos rfl] at hR
    rw [hs] at k1
    refine PC.of_body follows Tryz.func22 (by decide +kernel) rfl (by kernel_rfl) (Nat.le_of_ble_eq_true rfl) (walk ?_)
    simp only [Tryz.f22, go_sem]
    refine qcall_i (k1) ?_; simp only [Tryz.f22, go_sem]
    refine qif_df c1 ?_
    simp only [Tryz.f22, go_sem]
    refine qcall_i (k2) ?_; simp only [Tryz.f22, w1, go_sem]
    refine qif_df c2 ?_
    simp only [Tryz.f22, go_sem]
    refine qcall_i (k3) ?_; simp only [Tryz.f22, go_sem]
    refine qcall_i (k4) ?_; simp only [Tryz.f22, w2, w3, go_sem]
    try (refine qand_i hmx ?_; simp only [Tryz.f22, w4, w5, go_sem])
    try simp only [Tryz.f22, w2, w3, w4, w5, go_sem]
    rw [hR]
  | false =>
    rw [hs, if_neg Bool.false_ne_true] at hR
    rw [hs] at k1
    refine PC.of_body follows Tryz.func22 (by decide +kernel) rfl (by kernel_rfl) (Nat.le_of_ble_eq_true rfl) (walk ?_)
    simp only [Tryz.f22, go_sem]
    refine qcall_i (k1) ?_; simp only [Tryz.f22, go_sem]
    refine qif_df c1 ?_
    simp only [Tryz.f22, go_sem]
    refine qcall_i (k2) ?_; simp only [Tryz.f22, w1, go_sem]
    refine qif_df c2 ?_
    simp only [Tryz.f22, go_sem]
    refine qcall_i (k3) ?_; simp only [Tryz.f22, go_sem]
    refine qcall_i (k4) ?_; simp only [Tryz.f22, w2, w3, go_sem]
    try (refine qand_i hmx ?_; simp only [Tryz.f22, w4, go_sem])
    try simp only [Tryz.f22, w2, w3, w4, go_sem]
    rw [hR]
end
section
open Go PG Go.Proofs
set_option maxRecDepth 100000
set_option linter.unusedSimpArgs false
set_option linter.unusedVariables false
open XX
theorem mulsign {e m : Int} (h : (decide (e < 0) != decide (m < 0)) = true) : -((e.natAbs * m.natAbs : Nat) : Int) = e * m := by
  rw [Int.natCast_mul]
  by_cases h1 : e < 0
  · by_cases h2 : m < 0
    · rw [decide_eq_true h1, decide_eq_true h2] at h; cases h
    · rw [show ((e.natAbs : Nat) : Int) = -e by omega, show ((m.natAbs : Nat) : Int) = m by omega]; grind
  · by_cases h2 : m < 0
    · rw [show ((e.natAbs : Nat) : Int) = e by omega, show ((m.natAbs : Nat) : Int) = -m by omega]; grind
    · rw [decide_eq_false h1, decide_eq_false h2] at h; cases h
theorem mulsign2 {e m : Int} (h : (decide (e < 0) != decide (m < 0)) = false) : ((e.natAbs * m.natAbs : Nat) : Int) = e * m := by
  rw [Int.natCast_mul]
  by_cases h1 : e < 0
  · by_cases h2 : m < 0
    · rw [show ((e.natAbs : Nat) : Int) = -e by omega, show ((m.natAbs : Nat) : Int) = -m by omega]; grind
    · rw [decide_eq_true h1, decide_eq_false h2] at h; cases h
  · by_cases h2 : m < 0
    · rw [decide_eq_false h1, decide_eq_true h2] at h; cases h
    · rw [show ((e.natAbs : Nat) : Int) = e by omega, show ((m.natAbs : Nat) : Int) = m by omega]
theorem e_shift {e m : Int} (h0 : -9223372036854775808 ≤ e) (h1 : e < 9223372036854775808) (h2 : -9223372036854775808 ≤ m) (h3 : m < 9223372036854775808) :
    PC E 124 [.int .i64 e, .int .i64 m] (if e.natAbs * m.natAbs ≤ 4096 then .tuple [.int .i64 (e * m), .bool true] else .tuple [.int .i64 0, .bool false]) := by
  have k1 := e_size h0 h1
  have k2 := e_size h2 h3
  have k3 := c_Mul64 e.natAbs m.natAbs (natAbs_W h0 h1) (natAbs_W h2 h3)
  have hs := mul_split (a := e.natAbs) (b := m.natAbs) (c := 4096) (by decide)
  have m1 := mulsign (e := e) (m := m)
  have m2 := mulsign2 (e := e) (m := m)
  have hdm := Nat.div_add_mod (e.natAbs * m.natAbs) W
  simp only [u] at k3
  obtain ⟨R, hR⟩ : ∃ R, R = (if e.natAbs * m.natAbs ≤ 4096 then PV.tuple [.int .i64 (e * m), .bool true] else .tuple [.int .i64 0, .bool false]) := ⟨_, rfl⟩
  rw [← hR]
  by_cases hc : e.natAbs * m.natAbs ≤ 4096
  · rw [if_pos hc] at hR
    obtain ⟨z1, z2⟩ := hs.2 hc
    have z3 : e.natAbs * m.natAbs % W = e.natAbs * m.natAbs := by rw [z1, Nat.mul_zero, Nat.zero_add] at hdm; exact hdm
    rw [z1, z3] at k3
    have w1 : IntKind.wrap .i64 ((e.natAbs * m.natAbs : Nat) : Int) = ((e.natAbs * m.natAbs : Nat) : Int) := wrap64 (by omega) (by omega)
    have w2 : IntKind.wrap .i64 (0 - ((e.natAbs * m.natAbs : Nat) : Int)) = -((e.natAbs * m.natAbs : Nat) : Int) := by rw [wrap64 (by omega) (by omega)]; omega
    generalize e.natAbs * m.natAbs = P at *
    cases hb : (decide (e < 0) != decide (m < 0)) with
    | true =>
      rw [← m1 hb] at hR
      refine PC.of_body follows Tryz.func124 (by decide +kernel) rfl (by kernel_rfl) (Nat.le_of_ble_eq_true rfl) (walk ?_)
      simp only [Tryz.f124, go_sem]
      refine qcall_i (k1) ?_; simp only [Tryz.f124, go_sem]
      refine qcall_i (k2) ?_; simp only [Tryz.f124, go_sem]
      refine qcall_i (k3) ?_; simp only [Tryz.f124, go_sem]
      try (refine qif_df (by omega) ?_)
      try simp only [Tryz.f124, go_sem]
      try (refine qif_df (by omega) ?_)
      try simp only [Tryz.f124, hb, w1, w2, go_sem]
      rw [hR]
    | false =>
      rw [← m2 hb] at hR
      refine PC.of_body follows Tryz.func124 (by decide +kernel) rfl (by kernel_rfl) (Nat.le_of_ble_eq_true rfl) (walk ?_)
      simp only [Tryz.f124, go_sem]
      refine qcall_i (k1) ?_; simp only [Tryz.f124, go_sem]
      refine qcall_i (k2) ?_; simp only [Tryz.f124, go_sem]
      refine qcall_i (k3) ?_; simp only [Tryz.f124, go_sem]
      try (refine qif_df (by omega) ?_)
      try simp only [Tryz.f124, go_sem]
      try (refine qif_df (by omega) ?_)
      try simp only [Tryz.f124, hb, w1, w2, go_sem]
      rw [hR]
  · rw [if_neg hc] at hR
    have hs' : ¬ (e.natAbs * m.natAbs / W = 0 ∧ e.natAbs * m.natAbs % W ≤ 4096) := fun h => hc (hs.1 h)
    generalize e.natAbs * m.natAbs / W = H at *
    generalize e.natAbs * m.natAbs % W = L at *
    refine PC.of_body follows Tryz.func124 (by decide +kernel) rfl (by kernel_rfl) (Nat.le_of_ble_eq_true rfl) (walk ?_)
    simp only [Tryz.f124, go_sem]
    refine qcall_i (k1) ?_; simp only [Tryz.f124, go_sem]
    refine qcall_i (k2) ?_; simp only [Tryz.f124, go_sem]
    refine qcall_i (k3) ?_; simp only [Tryz.f124, go_sem]
    refine qif_d (fun h => ?_) (fun h => ?_)
    · simp only [Tryz.f124, go_sem]
      rw [hR]
    · simp only [Tryz.f124, go_sem]
      refine qif_dt (by omega) ?_
      simp only [Tryz.f124, go_sem]
      rw [hR]
def irtF (j : Nat) : Nat → Nat
  | 0 => 0
  | a + 1 => if (irtF j a + 1) ^ (j + 1) ≤ a + 1 then irtF j a + 1 else irtF j a
theorem irtF_spec (j a : Nat) : Irt j a (irtF j a) := by
  induction a with
  | zero => exact ⟨by show 0 ^ (j + 1) ≤ 0; rw [Nat.zero_pow (by omega)]; omega, by show 0 < (0 + 1) ^ (j + 1); rw [Nat.zero_add, Nat.one_pow]; omega⟩
  | succ a ih =>
    unfold irtF
    split
    · rename_i h
      refine ⟨h, ?_⟩
      have h2 := ih.2
      have h3 : (irtF j a + 1) ^ (j + 1) < (irtF j a + 1 + 1) ^ (j + 1) := Nat.pow_lt_pow_left (by omega) (by omega)
      omega
    · exact ⟨Nat.le_trans ih.1 (by omega), by omega⟩
def rootO (d : Dy) (k : Nat) : Option Dy :=
  if k = 1 then some d else if d.e % (k : Int) ≠ 0 then none else if d.m = 1 then some ⟨d.s, 1, d.e / k⟩
  else if bitLen d.m < k then none else if irtF (k - 1) d.m ^ k = d.m then some ⟨d.s, irtF (k - 1) d.m, d.e / k⟩ else none
theorem tmod_zero {e k : Int} : e.tmod k = 0 ↔ e % k = 0 := by rw [← Int.dvd_iff_emod_eq_zero, ← Int.dvd_iff_tmod_eq_zero]
theorem tdiv_of {e k : Int} (h : e % k = 0) : e.tdiv k = e / k := Int.tdiv_eq_ediv_of_dvd (Int.dvd_of_emod_eq_zero h)
set_option maxHeartbeats 2000000 in
theorem e_rooted {d : Dy} (hl : LgOk d) {k : Nat} (hk : 1 ≤ k) (hk2 : k < 4611686018427387905) :
    ∃ v, PC E 66 [d.pv, .int .i64 (k : Nat)] (.tuple [v, .bool (rootO d k).isSome]) ∧ (∀ r, rootO d k = some r → v = r.pv) ∧ ∃ (a b c : PV), v = .agg [a, b, c] := by
  have hb := hl.bits
  have he := hl.e
  have k1 := k_Bits (num_bits (x := d.m) (by omega))
  have hk0 : ¬ (k : Int) = 0 := by omega
  by_cases c1 : k = 1
  · have e1 : rootO d k = some d := by unfold rootO; rw [if_pos c1]
    refine ⟨d.pv, ?_, fun r h => by rw [e1] at h; cases h; rfl, _, _, _, rfl⟩
    rw [e1]
    simp only [Dy.pv, DP, NN, NL] at k1 ⊢
    refine PC.of_body follows Tryz.func66 (by decide +kernel) rfl (by kernel_rfl) (Nat.le_of_ble_eq_true rfl) (walk ?_)
    simp only [Tryz.f66, go_sem]
    refine qif_dt (by omega) ?_
    simp only [Tryz.f66, go_sem]
    try exact ⟨rfl, rfl⟩
    try rfl
  have wr : (d.e.tmod (k : Int) = 0) = (d.e % (k : Int) = 0) := propext tmod_zero
  by_cases c2 : d.e % (k : Int) = 0
  case neg =>
    have e1 : rootO d k = none := by unfold rootO; rw [if_neg c1, if_pos c2]
    refine ⟨Dy.zero.pv, ?_, fun r h => (by rw [e1] at h; cases h), _, _, _, rfl⟩
    rw [e1]
    have c2' : ¬ d.e.tmod (k : Int) = 0 := fun h => c2 (tmod_zero.1 h)
    simp only [Dy.pv, DP, NN, NL, Dy.zero] at k1 ⊢
    refine PC.of_body follows Tryz.func66 (by decide +kernel) rfl (by kernel_rfl) (Nat.le_of_ble_eq_true rfl) (walk ?_)
    simp only [Tryz.f66, go_sem]
    refine qif_df (by omega) ?_
    simp only [Tryz.f66, go_sem]
    try (refine qand_i hk0 ?_; simp only [Tryz.f66, go_sem])
    refine qif_dt c2' ?_
    simp only [Tryz.f66, go_sem]
    try exact ⟨rfl, rfl⟩
    try rfl
  have c2' : ¬ d.e.tmod (k : Int) ≠ 0 := fun h => h (tmod_zero.2 c2)
  have wd : d.e.tdiv (k : Int) = d.e / (k : Int) := tdiv_of c2
  have hq : -1052576 ≤ d.e / (k : Int) ∧ d.e / (k : Int) ≤ 1048576 := by
    have h1 : (k : Int) * (d.e / k) = d.e := Int.mul_ediv_cancel_of_emod_eq_zero c2
    rcases Int.le_total 0 (d.e / (k : Int)) with h2 | h2
    · have h3 := Int.mul_le_mul_of_nonneg_right (show (1 : Int) ≤ k by omega) h2
      omega
    · have h3 := Int.mul_le_mul_of_nonpos_right (show (1 : Int) ≤ k by omega) h2
      omega
  have ww : IntKind.wrap .i64 (d.e / (k : Int)) = d.e / (k : Int) := wrap64 (by omega) (by omega)
  by_cases c3 : d.m = 1
  · have e1 : rootO d k = some ⟨d.s, 1, d.e / k⟩ := by unfold rootO; rw [if_neg c1, if_neg (fun h => h c2), if_pos c3]
    have hb1 : bitLen d.m = 1 := by rw [c3]; decide
    rw [hb1] at k1
    refine ⟨(Dy.mk d.s 1 (d.e / k)).pv, ?_, fun r h => by rw [e1] at h; cases h; rfl, _, _, _, rfl⟩
    rw [e1]
    rw [← c3]
    generalize d.e / (k : Int) = E' at *
    generalize hKI : (k : Int) = KI at *
    have c1' : ¬ KI = 1 := by omega
    simp only [Dy.pv, DP, NN, NL] at k1 ⊢
    refine PC.of_body follows Tryz.func66 (by decide +kernel) rfl (by kernel_rfl) (Nat.le_of_ble_eq_true rfl) (walk ?_)
    simp only [Tryz.f66, go_sem]
    refine qif_df c1' ?_
    simp only [Tryz.f66, go_sem]
    try (refine qand_i hk0 ?_; simp only [Tryz.f66, go_sem])
    refine qif_df c2' ?_
    simp only [Tryz.f66, wd, ww, go_sem]
    try (refine qand_i hk0 ?_; simp only [Tryz.f66, wd, ww, go_sem])
    refine qcall_i (k1) ?_; simp only [Tryz.f66, go_sem]
    try (refine qif_dt (by decide) ?_)
    try simp only [Tryz.f66, go_sem]
    try exact ⟨rfl, rfl⟩
    try rfl
  have hb1 : ¬ (bitLen d.m : Int) = 1 := fun h => c3 ((bits_one d.m).1 (by omega))
  by_cases c4 : bitLen d.m < k
  · have e1 : rootO d k = none := by unfold rootO; rw [if_neg c1, if_neg (fun h => h c2), if_neg c3, if_pos c4]
    refine ⟨Dy.zero.pv, ?_, fun r h => (by rw [e1] at h; cases h), _, _, _, rfl⟩
    rw [e1]
    have c4' : (k : Int) > (bitLen d.m : Int) := by omega
    have c1' : ¬ (k : Int) = 1 := by omega
    generalize d.e / (k : Int) = E' at *
    generalize (k : Int) = KI at *
    simp only [Dy.pv, DP, NN, NL, Dy.zero] at k1 ⊢
    refine PC.of_body follows Tryz.func66 (by decide +kernel) rfl (by kernel_rfl) (Nat.le_of_ble_eq_true rfl) (walk ?_)
    simp only [Tryz.f66, go_sem]
    refine qif_df c1' ?_
    simp only [Tryz.f66, go_sem]
    try (refine qand_i hk0 ?_; simp only [Tryz.f66, go_sem])
    refine qif_df c2' ?_
    simp only [Tryz.f66, wd, ww, go_sem]
    try (refine qand_i hk0 ?_; simp only [Tryz.f66, wd, ww, go_sem])
    refine qcall_i (k1) ?_; simp only [Tryz.f66, go_sem]
    refine qif_df hb1 ?_
    simp only [Tryz.f66, go_sem]
    refine qcall_i (k1) ?_; simp only [Tryz.f66, go_sem]
    refine qif_dt c4' ?_
    simp only [Tryz.f66, go_sem]
    try exact ⟨rfl, rfl⟩
    try rfl
  obtain ⟨j, rfl⟩ : ∃ j, k = j + 1 := ⟨k - 1, by omega⟩
  have k2 := k_RootK (irtF_spec j d.m) hl.m0 hb (by omega) (by omega)
  have c4' : ¬ ((j + 1 : Nat) : Int) > (bitLen d.m : Int) := by omega
  have c1' : ¬ ((j + 1 : Nat) : Int) = 1 := by omega
  have e0 : rootO d (j + 1) = if irtF j d.m ^ (j + 1) = d.m then some ⟨d.s, irtF j d.m, d.e / ((j + 1 : Nat) : Int)⟩ else none := by
    unfold rootO; rw [if_neg c1, if_neg (fun h => h c2), if_neg c3, if_neg c4]; rfl
  have h0 : ∀ r, rootO d (j + 1) = some r → (Dy.mk d.s (irtF j d.m) (d.e / ((j + 1 : Nat) : Int))).pv = r.pv := fun r h => by
    rw [e0] at h
    split at h
    · cases h; rfl
    · cases h
  refine ⟨(Dy.mk d.s (irtF j d.m) (d.e / ((j + 1 : Nat) : Int))).pv, ?_, h0, _, _, _, rfl⟩
  have e1 : (rootO d (j + 1)).isSome = decide (irtF j d.m ^ (j + 1) = d.m) := by
    rw [e0]
    by_cases h : irtF j d.m ^ (j + 1) = d.m
    · rw [if_pos h, decide_eq_true h]; rfl
    · rw [if_neg h, decide_eq_false h]; rfl
  rw [e1]
  generalize decide (irtF j d.m ^ (j + 1) = d.m) = bb at *
  generalize irtF j d.m = r at *
  generalize d.e / ((j + 1 : Nat) : Int) = E' at *
  generalize ((j + 1 : Nat) : Int) = KI at *
  simp only [Dy.pv, DP, NN, NL] at k1 k2 ⊢
  refine PC.of_body follows Tryz.func66 (by decide +kernel) rfl (by kernel_rfl) (Nat.le_of_ble_eq_true rfl) (walk ?_)
  simp only [Tryz.f66, go_sem]
  refine qif_df c1' ?_
  simp only [Tryz.f66, go_sem]
  try (refine qand_i hk0 ?_; simp only [Tryz.f66, go_sem])
  refine qif_df c2' ?_
  simp only [Tryz.f66, wd, ww, go_sem]
  try (refine qand_i hk0 ?_; simp only [Tryz.f66, wd, ww, go_sem])
  refine qcall_i (k1) ?_; simp only [Tryz.f66, go_sem]
  refine qif_df hb1 ?_
  simp only [Tryz.f66, go_sem]
  refine qcall_i (k1) ?_; simp only [Tryz.f66, go_sem]
  refine qif_df c4' ?_
  simp only [Tryz.f66, go_sem]
  refine qcall_i (k2) ?_; simp only [Tryz.f66, go_sem]
  cases bb
  · simp only [Tryz.f66, go_sem]
    try exact ⟨rfl, rfl⟩
    try rfl
  · simp only [Tryz.f66, go_sem]
    try exact ⟨rfl, rfl⟩
    try rfl
def raisO (d : Dy) (m : Int) : Option Dy :=
  if 4096 < d.e.natAbs * m.natAbs then none else if d.m = 1 then some ⟨false, 1, d.e * m⟩ else if m < 0 ∨ 54 < m then none
  else if bitLen d.m * m.natAbs ≤ 60000 then some ⟨false, d.m ^ m.natAbs, d.e * m⟩ else none
set_option maxHeartbeats 2000000 in
theorem e_raised {d : Dy} (hm : d.m % 2 = 1) (hb : bitLen d.m ≤ 4000) (he : -1073741824 ≤ d.e ∧ d.e ≤ 1073741824) {m : Int} (h2 : -9223372036854775808 ≤ m) (h3 : m < 9223372036854775808) :
    ∃ v, PC E 67 [d.pv, .int .i64 m] (.tuple [v, .bool (raisO d m).isSome]) ∧ (∀ r, raisO d m = some r → v = r.pv) ∧ ∃ (a b c : PV), v = .agg [a, b, c] := by
  have k1 := e_shift (e := d.e) (m := m) (by omega) (by omega) h2 h3
  have k2 := k_Bits (num_bits (x := d.m) (by omega))
  by_cases c1 : d.e.natAbs * m.natAbs ≤ 4096
  case neg =>
    have e1 : raisO d m = none := by unfold raisO; rw [if_pos (by omega)]
    refine ⟨Dy.zero.pv, ?_, fun r h => (by rw [e1] at h; cases h), _, _, _, rfl⟩
    rw [e1]
    rw [if_neg c1] at k1
    simp only [Dy.pv, DP, NN0, NN, NL, Dy.zero] at k1 k2 ⊢
    refine PC.of_body follows Tryz.func67 (by decide +kernel) rfl (by kernel_rfl) (Nat.le_of_ble_eq_true rfl) (walk ?_)
    simp only [Tryz.f67, go_sem]
    refine qcall_i (k1) ?_; simp only [Tryz.f67, go_sem]
    try exact ⟨rfl, rfl⟩
    try rfl
  rw [if_pos c1] at k1
  by_cases c3 : d.m = 1
  · have e1 : raisO d m = some ⟨false, 1, d.e * m⟩ := by unfold raisO; rw [if_neg (by omega), if_pos c3]
    have hb1 : bitLen d.m = 1 := by rw [c3]; decide
    rw [hb1] at k2
    refine ⟨(Dy.mk false 1 (d.e * m)).pv, ?_, fun r h => by rw [e1] at h; cases h; rfl, _, _, _, rfl⟩
    rw [e1]
    rw [← c3]
    generalize d.e * m = E' at *
    simp only [Dy.pv, DP, NN, NL] at k1 k2 ⊢
    refine PC.of_body follows Tryz.func67 (by decide +kernel) rfl (by kernel_rfl) (Nat.le_of_ble_eq_true rfl) (walk ?_)
    simp only [Tryz.f67, go_sem]
    refine qcall_i (k1) ?_; simp only [Tryz.f67, go_sem]
    refine qcall_i (k2) ?_; simp only [Tryz.f67, go_sem]
    try (refine qif_dt (by decide) ?_)
    try simp only [Tryz.f67, go_sem]
    try exact ⟨rfl, rfl⟩
    try rfl
  have hb1 : ¬ (bitLen d.m : Int) = 1 := fun h => c3 ((bits_one d.m).1 (by omega))
  by_cases c4 : m < 0
  · have e1 : raisO d m = none := by unfold raisO; rw [if_neg (by omega), if_neg c3, if_pos (.inl c4)]
    refine ⟨Dy.zero.pv, ?_, fun r h => (by rw [e1] at h; cases h), _, _, _, rfl⟩
    rw [e1]
    simp only [Dy.pv, DP, NN, NL, Dy.zero] at k1 k2 ⊢
    refine PC.of_body follows Tryz.func67 (by decide +kernel) rfl (by kernel_rfl) (Nat.le_of_ble_eq_true rfl) (walk ?_)
    simp only [Tryz.f67, go_sem]
    refine qcall_i (k1) ?_; simp only [Tryz.f67, go_sem]
    refine qcall_i (k2) ?_; simp only [Tryz.f67, go_sem]
    refine qif_df hb1 ?_
    simp only [Tryz.f67, go_sem]
    refine qif_dt c4 ?_
    simp only [Tryz.f67, go_sem]
    try exact ⟨rfl, rfl⟩
    try rfl
  by_cases c5 : m > 54
  · have e1 : raisO d m = none := by unfold raisO; rw [if_neg (by omega), if_neg c3, if_pos (.inr c5)]
    refine ⟨Dy.zero.pv, ?_, fun r h => (by rw [e1] at h; cases h), _, _, _, rfl⟩
    rw [e1]
    simp only [Dy.pv, DP, NN, NL, Dy.zero] at k1 k2 ⊢
    refine PC.of_body follows Tryz.func67 (by decide +kernel) rfl (by kernel_rfl) (Nat.le_of_ble_eq_true rfl) (walk ?_)
    simp only [Tryz.f67, go_sem]
    refine qcall_i (k1) ?_; simp only [Tryz.f67, go_sem]
    refine qcall_i (k2) ?_; simp only [Tryz.f67, go_sem]
    refine qif_df hb1 ?_
    simp only [Tryz.f67, go_sem]
    refine qif_df c4 ?_
    simp only [Tryz.f67, go_sem]
    refine qif_dt c5 ?_
    simp only [Tryz.f67, go_sem]
    try exact ⟨rfl, rfl⟩
    try rfl
  obtain ⟨n, rfl⟩ : ∃ n : Nat, m = n := ⟨m.toNat, by omega⟩
  obtain ⟨v, k3, hv1, hv2⟩ := t_Pow0 (x := d.m) (n := n) hm (by omega) (by omega)
  by_cases c6 : bitLen d.m * n ≤ 60000
  · have e1 : raisO d (n : Int) = some ⟨false, d.m ^ n, d.e * n⟩ := by unfold raisO; rw [if_neg (by omega), if_neg c3, if_neg (by omega), Int.natAbs_natCast, if_pos c6]
    refine ⟨(Dy.mk false (d.m ^ n) (d.e * n)).pv, ?_, fun r h => by rw [e1] at h; cases h; rfl, _, _, _, rfl⟩
    rw [e1]
    have hv := hv1 c6
    subst hv
    generalize d.e * (n : Int) = E' at *
    generalize d.m ^ n = P at *
    simp only [Dy.pv, DP, NN, NL] at k1 k2 k3 ⊢
    refine PC.of_body follows Tryz.func67 (by decide +kernel) rfl (by kernel_rfl) (Nat.le_of_ble_eq_true rfl) (walk ?_)
    simp only [Tryz.f67, go_sem]
    refine qcall_i (k1) ?_; simp only [Tryz.f67, go_sem]
    refine qcall_i (k2) ?_; simp only [Tryz.f67, go_sem]
    refine qif_df hb1 ?_
    simp only [Tryz.f67, go_sem]
    refine qif_df c4 ?_
    simp only [Tryz.f67, go_sem]
    refine qif_df c5 ?_
    simp only [Tryz.f67, go_sem]
    refine qcall_i (k3) ?_; simp only [Tryz.f67, go_sem]
    try exact ⟨rfl, rfl⟩
    try rfl
  · have e1 : raisO d (n : Int) = none := by unfold raisO; rw [if_neg (by omega), if_neg c3, if_neg (by omega), Int.natAbs_natCast, if_neg c6]
    refine ⟨.agg [.bool false, .lst 0 [], .int .i64 (d.e * n)], ?_, fun r h => (by rw [e1] at h; cases h), _, _, _, rfl⟩
    rw [e1]
    have hv := hv2 c6
    subst hv
    generalize d.e * (n : Int) = E' at *
    simp only [Dy.pv, DP, NN0, NN, NL, Dy.zero] at k1 k2 k3 ⊢
    refine PC.of_body follows Tryz.func67 (by decide +kernel) rfl (by kernel_rfl) (Nat.le_of_ble_eq_true rfl) (walk ?_)
    simp only [Tryz.f67, go_sem]
    refine qcall_i (k1) ?_; simp only [Tryz.f67, go_sem]
    refine qcall_i (k2) ?_; simp only [Tryz.f67, go_sem]
    refine qif_df hb1 ?_
    simp only [Tryz.f67, go_sem]
    refine qif_df c4 ?_
    simp only [Tryz.f67, go_sem]
    refine qif_df c5 ?_
    simp only [Tryz.f67, go_sem]
    refine qcall_i (k3) ?_; simp only [Tryz.f67, go_sem]
    try exact ⟨rfl, rfl⟩
    try rfl
end
section
open Go PG Go.Proofs
set_option maxRecDepth 100000
set_option linter.unusedSimpArgs false
set_option linter.unusedVariables false
open XX
theorem odd_of_pow {r m n : Nat} (h : r ^ n = m) (hm : m % 2 = 1) (hn : 1 ≤ n) : r % 2 = 1 := by
  have h0 : r % 2 = 0 ∨ r % 2 = 1 := by omega
  rcases h0 with h0 | h0
  · obtain ⟨n', rfl⟩ : ∃ n', n = n' + 1 := ⟨n - 1, by omega⟩
    rw [Nat.pow_succ] at h
    have : m % 2 = 0 := by rw [← h, Nat.mul_mod, h0, Nat.mul_zero]
    omega
  · exact h0
theorem rootO_facts {d r : Dy} (hl : LgOk d) {k : Nat} (hk : 1 ≤ k) (h : rootO d k = some r) : r.m % 2 = 1 ∧ bitLen r.m ≤ 4000 ∧ -1073741824 ≤ r.e ∧ r.e ≤ 1073741824 ∧ r.s = false := by
  have hodd := hl.ok.resolve_left (fun h => hl.m0 (by rw [h]; rfl))
  have he := hl.e
  have hb := hl.bits
  have hq : ∀ (q : Int), d.e / (k : Int) = q → -1073741824 ≤ q ∧ q ≤ 1073741824 := by
    rintro q rfl
    have h1 := Int.mul_ediv_add_emod d.e k
    have h2 := Int.emod_nonneg d.e (show (k : Int) ≠ 0 by omega)
    have h3 := Int.emod_lt_of_pos d.e (show (0 : Int) < k by omega)
    rcases Int.le_total 0 (d.e / (k : Int)) with h4 | h4
    · have h5 := Int.mul_le_mul_of_nonneg_right (show (1 : Int) ≤ k by omega) h4
      omega
    · have h5 : -d.e.natAbs - 1 ≤ d.e / (k : Int) := by
        rw [Int.le_ediv_iff_mul_le (by omega)]
        have h6 : ((d.e.natAbs : Int) + 1) * 1 ≤ (d.e.natAbs + 1) * k := Int.mul_le_mul_of_nonneg_left (by omega) (by omega)
        have h7 : (-(d.e.natAbs : Int) - 1) * k = -((d.e.natAbs + 1) * k) := by grind
        rw [h7]
        omega
      omega
  unfold rootO at h
  split at h
  · cases h
    exact ⟨hodd, hb, by omega, by omega, hl.pos⟩
  · split at h
    · cases h
    · split at h
      · cases h
        obtain ⟨q1, q2⟩ := hq _ rfl
        exact ⟨rfl, by show bitLen 1 ≤ 4000; decide, q1, q2, hl.pos⟩
      · split at h
        · cases h
        · split at h
          · rename_i hr
            cases h
            obtain ⟨q1, q2⟩ := hq _ rfl
            refine ⟨odd_of_pow hr hodd hk, ?_, q1, q2, hl.pos⟩
            refine Nat.le_trans (bitLen_mono ?_) hb
            dsimp only
            have h8 : irtF (k - 1) d.m ≤ irtF (k - 1) d.m ^ k := Nat.le_self_pow (n := k) (by omega) _
            rw [hr] at h8
            exact h8
          · cases h
theorem raisO_facts {d r : Dy} (hm : d.m % 2 = 1) {m : Int} (h : raisO d m = some r) : r.m % 2 = 1 ∧ bitLen r.m ≤ 60001 ∧ -4096 ≤ r.e ∧ r.e ≤ 4096 ∧ r.s = false := by
  have hem : d.e.natAbs * m.natAbs ≤ 4096 → -4096 ≤ d.e * m ∧ d.e * m ≤ 4096 := fun h => by
    have h1 : (d.e * m).natAbs = d.e.natAbs * m.natAbs := Int.natAbs_mul _ _
    omega
  unfold raisO at h
  split at h
  · cases h
  · rename_i hc
    obtain ⟨q1, q2⟩ := hem (by omega)
    split at h
    · cases h
      exact ⟨rfl, by show bitLen 1 ≤ _; decide, q1, q2, rfl⟩
    · split at h
      · cases h
      · split at h
        · rename_i hb
          cases h
          exact ⟨odd_pow hm _, Nat.le_trans (pow_bits _ _) (by omega), q1, q2, rfl⟩
        · cases h
def powO (d : Dy) (M : Int) (K : Nat) : Option Dy :=
  if M.tdiv ((Nat.gcd M.natAbs K : Nat) : Int) = 0 then some (norm 1 0) else
  match rootO d (K / Nat.gcd M.natAbs K) with
  | none => none
  | some r => match raisO r (M.tdiv ((Nat.gcd M.natAbs K : Nat) : Int)) with
    | none => none
    | some p => if brkP p then some p else none
theorem zero_pv : Dy.zero.pv = .agg [.bool false, .lst 0 [], .int .i64 0] := rfl
def powPV : Option Dy → PV
  | some p => .tuple [p.pv, .bool true, .int .i64 0]
  | none => .tuple [Dy.zero.pv, .bool false, .int .i64 0]
set_option maxHeartbeats 2000000 in
theorem e_Power {p : PV} {d : Dy} (h : RD p d) (hl : LgOk d) {M : Int} {K : Nat} (hM : -9223372036854775808 < M ∧ M < 9223372036854775808) (hK : 1 ≤ K) (hK2 : K < 4611686018427387905) :
    PC E 23 [p, .agg [.int .i64 M, .int .i64 (K : Nat)]] (powPV (powO d M K)) := by
  have k1 := r_Bare h
  rw [okD_of hl.fits] at k1
  have hR : RD d.pv d := RD.fit hl.ok (by have := hl.bits; omega) hl.fits
  have k2 := e_Low hM hK (by omega)
  have k3 := r_Sign hR
  rw [hl.sg] at k3
  have k4 := c_dOf 1 (by decide) (by decide)
  have hg0 : 0 < Nat.gcd M.natAbs K := Nat.gcd_pos_of_pos_right _ (by omega)
  have hgK : Nat.gcd M.natAbs K ≤ K := Nat.gcd_le_right _ (by omega)
  have hkq : 1 ≤ K / Nat.gcd M.natAbs K := Nat.div_pos hgK hg0
  have hkq2 := Nat.div_le_self K (Nat.gcd M.natAbs K)
  have hMt : (M.tdiv ((Nat.gcd M.natAbs K : Nat) : Int)).natAbs ≤ M.natAbs := by
    rw [Int.natAbs_tdiv]
    exact Nat.div_le_self _ _
  obtain ⟨R, hRr⟩ : ∃ R, R = powPV (powO d M K) := ⟨_, rfl⟩
  rw [← hRr]
  unfold powO at hRr
  generalize M.tdiv ((Nat.gcd M.natAbs K : Nat) : Int) = m at *
  generalize K / Nat.gcd M.natAbs K = k at *
  generalize norm 1 0 = N1 at *
  obtain ⟨s0, q0, x0, e0, rfl, -⟩ := h
  have kd : d.pv = .agg [.bool d.s, NN d.m, .int .i64 d.e] := rfl
  by_cases c1 : m = 0
  · rw [if_pos c1] at hRr
    simp only [powPV, Dy.pv, DP, NN, NL] at k1 k2 k3 k4 hRr ⊢
    refine PC.of_body follows Tryz.func23 (by decide +kernel) rfl (by kernel_rfl) (Nat.le_of_ble_eq_true rfl) (walk ?_)
    simp only [Tryz.f23, go_sem]
    refine qcall_i (k1) ?_; simp only [Tryz.f23, go_sem]
    refine qcall_i (k2) ?_; simp only [Tryz.f23, go_sem]
    refine qcall_i (k3) ?_; simp only [Tryz.f23, go_sem]
    try (refine qif_df (by decide) ?_)
    try simp only [Tryz.f23, go_sem]
    refine qif_dt c1 ?_
    simp only [Tryz.f23, go_sem]
    refine qcall_i (k4) ?_; simp only [Tryz.f23, go_sem]
    first | (rw [hRr]; done) | (rw [hRr]; rfl)
  rw [if_neg c1] at hRr
  obtain ⟨v, k5, hv1, v1, v2, v3, hv2⟩ := e_rooted hl hkq (by omega)
  cases hr : rootO d k with
  | none =>
    rw [hr] at hRr k5
    simp only [powPV, zero_pv, Dy.pv, DP, NN, NL, Option.isSome_none] at k1 k2 k3 k4 k5 hRr ⊢
    rw [hv2] at k5
    refine PC.of_body follows Tryz.func23 (by decide +kernel) rfl (by kernel_rfl) (Nat.le_of_ble_eq_true rfl) (walk ?_)
    simp only [Tryz.f23, go_sem]
    refine qcall_i (k1) ?_; simp only [Tryz.f23, go_sem]
    refine qcall_i (k2) ?_; simp only [Tryz.f23, go_sem]
    refine qcall_i (k3) ?_; simp only [Tryz.f23, go_sem]
    try (refine qif_df (by decide) ?_)
    try simp only [Tryz.f23, go_sem]
    refine qif_df c1 ?_
    simp only [Tryz.f23, go_sem]
    refine qcall_i (k5) ?_; simp only [Tryz.f23, go_sem]
    first | (rw [hRr]; done) | (rw [hRr]; rfl)
  | some r =>
    rw [hr] at hRr k5
    have hv := hv1 r hr
    subst hv
    obtain ⟨f1, f2, f3, f4, f5⟩ := rootO_facts hl hkq hr
    obtain ⟨v', k6, hv3, v4, v5, v6, hv4⟩ := e_raised f1 f2 ⟨f3, f4⟩ (m := m) (by omega) (by omega)
    dsimp only at hRr
    cases hp : raisO r m with
    | none =>
      rw [hp] at hRr k6
      simp only [powPV, zero_pv, Dy.pv, DP, NN, NL, Option.isSome_none, Option.isSome_some] at k1 k2 k3 k4 k5 k6 hRr ⊢
      rw [hv4] at k6
      refine PC.of_body follows Tryz.func23 (by decide +kernel) rfl (by kernel_rfl) (Nat.le_of_ble_eq_true rfl) (walk ?_)
      simp only [Tryz.f23, go_sem]
      refine qcall_i (k1) ?_; simp only [Tryz.f23, go_sem]
      refine qcall_i (k2) ?_; simp only [Tryz.f23, go_sem]
      refine qcall_i (k3) ?_; simp only [Tryz.f23, go_sem]
      try (refine qif_df (by decide) ?_)
      try simp only [Tryz.f23, go_sem]
      refine qif_df c1 ?_
      simp only [Tryz.f23, go_sem]
      refine qcall_i (k5) ?_; simp only [Tryz.f23, go_sem]
      refine qcall_i (k6) ?_; simp only [Tryz.f23, go_sem]
      first | (rw [hRr]; done) | (rw [hRr]; rfl)
    | some p =>
      rw [hp] at hRr k6
      have hv := hv3 p hp
      subst hv
      obtain ⟨g1, g2, g3, g4, g5⟩ := raisO_facts f1 hp
      have hpf : p.fits := ⟨by omega, by omega⟩
      have hpR : RD p.pv p := RD.fit (.inr g1) (by omega) hpf
      have k7 := c_Break hpR
      have hbd : decide (p.fits ∧ brkP p) = decide (brkP p) := decide_eq_decide.2 ⟨fun h => h.2, fun h => ⟨hpf, h⟩⟩
      rw [hbd] at k7
      have k8 := r_Bare hpR
      rw [okD_of hpf] at k8
      dsimp only at hRr
      by_cases c2 : brkP p
      · rw [if_pos c2] at hRr
        rw [decide_eq_true c2] at k7
        simp only [powPV, Dy.pv, Dy.zero, DP, NN, NL, Option.isSome_some] at k1 k2 k3 k4 k5 k6 k7 k8 hRr ⊢
        refine PC.of_body follows Tryz.func23 (by decide +kernel) rfl (by kernel_rfl) (Nat.le_of_ble_eq_true rfl) (walk ?_)
        simp only [Tryz.f23, go_sem]
        refine qcall_i (k1) ?_; simp only [Tryz.f23, go_sem]
        refine qcall_i (k2) ?_; simp only [Tryz.f23, go_sem]
        refine qcall_i (k3) ?_; simp only [Tryz.f23, go_sem]
        try (refine qif_df (by decide) ?_)
        try simp only [Tryz.f23, go_sem]
        refine qif_df c1 ?_
        simp only [Tryz.f23, go_sem]
        refine qcall_i (k5) ?_; simp only [Tryz.f23, go_sem]
        refine qcall_i (k6) ?_; simp only [Tryz.f23, go_sem]
        refine qcall_i (k7) ?_; simp only [Tryz.f23, go_sem]
        refine qcall_i (k8) ?_; simp only [Tryz.f23, go_sem]
        first | (rw [hRr]; done) | (rw [hRr]; rfl)
      · rw [if_neg c2] at hRr
        rw [decide_eq_false c2] at k7
        simp only [powPV, zero_pv, Dy.pv, DP, NN, NL, Option.isSome_some] at k1 k2 k3 k4 k5 k6 k7 k8 hRr ⊢
        refine PC.of_body follows Tryz.func23 (by decide +kernel) rfl (by kernel_rfl) (Nat.le_of_ble_eq_true rfl) (walk ?_)
        simp only [Tryz.f23, go_sem]
        refine qcall_i (k1) ?_; simp only [Tryz.f23, go_sem]
        refine qcall_i (k2) ?_; simp only [Tryz.f23, go_sem]
        refine qcall_i (k3) ?_; simp only [Tryz.f23, go_sem]
        try (refine qif_df (by decide) ?_)
        try simp only [Tryz.f23, go_sem]
        refine qif_df c1 ?_
        simp only [Tryz.f23, go_sem]
        refine qcall_i (k5) ?_; simp only [Tryz.f23, go_sem]
        refine qcall_i (k6) ?_; simp only [Tryz.f23, go_sem]
        refine qcall_i (k7) ?_; simp only [Tryz.f23, go_sem]
        first | (rw [hRr]; done) | (rw [hRr]; rfl)
end
end Go.Proofs.YtfkgaldbcngliaaGreatDoor
