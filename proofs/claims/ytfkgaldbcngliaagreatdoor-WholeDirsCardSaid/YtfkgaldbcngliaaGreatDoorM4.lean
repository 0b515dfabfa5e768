/- Several parts in one text. -/
import Derived.Test.YtfkgaldbcngliaaGreatDoorM3
import Derived.Test.YtfkgaldbcngliaaGreatDoorM1
import Derived.Test.YtfkgaldbcngliaaGreatDoorM2
open Go PG Go.Proofs
set_option linter.unusedSimpArgs false
set_option linter.unusedVariables false
set_option maxRecDepth 100000
namespace Go.Proofs.YtfkgaldbcngliaaGreatDoor
attribute [local go_sem] Lay2 Lay3 Lay4 Lay5 Lay6 Lay7 Lay8 Lay9 Lay10 Lay11 Lay12 Lay13 Lay14 Lay15 Lay16 Lay17 Lay18 Lay19 Lay20 Lay21 Lay22 Lay26 Lay27 Lay28 Lay29 Lay31 Lay32 Lay33 Lay34 Lay35 Lay41 Lay42 Lay43 Lay47 Lay48 Lay60 Lay61 Lay62 Lay63 Lay64 Lay72 Lay73 Lay74 Lay83 Lay84 Lay86 Lay90 Lay91 Lay92 Lay93 Lay102 Lay103 Lay139 Lay143 Lay149 Lay158 Lay159 Lay160 Lay161 Lay162 Lay174 Lay175 Lay193 Lay207 Lay208 Lay209 Lay210 Lay228 Lay229 Lay237 Lay238 Lay265 Lay287 Lay295 Lay296 Lay297 Lay299 Lay301 Lay302 Lay303 Lay304 Lay305 Lay307 Lay308 Lay310 Lay311 Lay312 Lay315 Lay316 Lay317 qexec_seq qexec_skip qexec_exit qexec_ret qexec_block qexec_loop qexec_range qexec_cond qexec_region qexec_drawn qops_nil qops_none qops_some put_some put_none pblk_exit pblk_other newDsts_nil inlDsts_nil isInl sget_cons sget_nil qval_some qbool_some qgs_bool qgs_und qfree_some qgrd_true qgrd_false qif_true qif_false qval_ite qval_itn qand_true map_ite map_some' map_none' qdo_move qdo_assign qdo_binOp qdo_pick qdo_unOp qdo_convert qdo_extract qdo_makeInterface qdo_field qdo_fieldAddr qdo_alloc qdo_box qdo_build qdo_buildSlice qdo_load qdo_store qdo_nilCheck qdo_makeFunc qdo_makeSlice qdo_slice qdo_indexAddr qdo_call qcont_val qcont_new qcont_st qcont_app0 qcont_app qcont_inl qcont_call njSV_val njSV_nil njSV_row njSV_ptr njSV_sub binV_val binV_nil binV_nn binV_ptr bin_np bin_nnp nilCmp bin_add bin_sub bin_mul bin_quo bin_rem bin_and bin_or bin_xor bin_andNot bin_eql bin_neq bin_lss bin_leq bin_gtr bin_geq bin_shl bin_shr bin_seql bin_sneq bin_sadd bin_beql bin_aeql bin_aneq eqAnd_some eqCells_nil eqCells_cons fieldTypes isStruct eqCell bin_bneq un_not un_neg nj_ite Nat.beq stepA stepR isNew opSV constSV RV.sv allSome E_mu E_own qkeyIn_none qkeyIn_some qkeyAt_none qkeyAt_some Bool.or_false Bool.false_or Bool.or_true Bool.true_or cst setB res resSV pstart startL killL kill1 eraL frzL svPV rvPV rvInt rvSlice rvBytes frzOf close closeL pconv pbuiltin pmax2 partPV setCells fillPV zrow bound newSV PV.cells Bk.cells Bk.with SV.key pres presL_nil presL_tmp presL_cell presC2_some cellPV_ptr presC List.toList_toArray List.size_toArray List.getElem?_drop Nat.mul_one Int.toNat_natCast Nat.not_lt_zero Nat.lt_irrefl decide_true decide_false Nat.not_lt Option.some.injEq PV.lst.injEq PV.int.injEq PV.bool.injEq PV.tuple.injEq List.cons.injEq Option.map_some Option.map_none Option.bind_some Option.toList List.map_cons List.map_nil List.nil_append List.cons_append List.append_nil List.zip_cons_cons List.zip_nil_left List.zip_nil_right List.getElem?_cons_zero List.getElem?_cons_succ List.drop_zero List.drop_succ_cons List.take_succ_cons List.take_zero List.set_cons_zero List.set_cons_succ List.length_cons List.length_nil List.length_set List.replicate_one List.replicate_zero bne_self_eq_false beq_self_eq_true Nat.zero_add Nat.add_zero Nat.zero_mul Bool.false_eq_true Bool.true_eq_false Bool.not_true Bool.not_false and_true true_and false_and and_false or_false false_or or_true true_or not_true_eq_false not_false_eq_true ne_eq gt_iff_lt List.mem_cons List.not_mem_nil
attribute [local go_sem ↓] pseq_normal pseq_ret pseq_exit pblk_normal pblk_ret newDsts_cons inlDsts_cons gdst_zero gdst_succ retQ_normal retQ_ret qneed_nil qneed_cons retM_normal retM_ret endR_normal endR_ret endR_exit
attribute [local go_sem] Int.reduceToNat Int.reduceEq Int.reduceNe Int.reduceLT Int.reduceLE Int.reduceNeg Int.reduceAdd Nat.reduceEqDiff Nat.reduceAdd Nat.reduceSub Nat.reduceMul Nat.reduceLeDiff Nat.reduceLT
attribute [local go_sem ↓] reduceIte reduceCtorEq
section
section
open Go PG Go.Proofs
open XX
theorem and1_i64w {a : Nat} (ha : a < 9223372036854775808) : bits .and .i64 (a : Int) 1 = ((a % 2 : Nat) : Int) := by
  have h1 : (BitVec.ofInt 64 (a : Int)).toNat = a := by
    rw [BitVec.ofInt_natCast, BitVec.toNat_ofNat]; exact Nat.mod_eq_of_lt (by omega)
  have h2 : (BitVec.ofInt 64 (1 : Int)).toNat = 1 := by decide
  show IntKind.i64.wrap ((BitVec.ofInt 64 (a : Int) &&& BitVec.ofInt 64 (1 : Int)).toNat : Int) = _
  rw [BitVec.toNat_and, h1, h2, Nat.and_one_is_mod, wrap64 (by omega) (by omega)]
theorem c_BLenW (k : Nat) (hk : k < W) : PC E 230 [.int .u64 k] (.int .i64 (bitLen k)) := by
  have k1 := c_Len64 k hk
  simp only [u] at k1
  refine PC.of_body follows Tryz.func230 (by decide +kernel) rfl (by kernel_rfl) (Nat.le_of_ble_eq_true rfl) (walk ?_)
  simp only [Tryz.f230, go_sem]
  refine qcall_i (k1) ?_; simp only [Tryz.f230, go_sem]
  try rfl
theorem pow_bits1 (x : Nat) : ∀ j : Nat, bitLen (x ^ (j + 1)) ≤ bitLen x * (j + 1)
  | 0 => by rw [Nat.pow_one]; omega
  | j + 1 => by
    have ih := pow_bits1 x j
    have h := bitLen_mul_le (x ^ (j + 1)) x
    rw [Nat.pow_succ, show bitLen x * (j + 1 + 1) = bitLen x * (j + 1) + bitLen x from Nat.mul_succ _ _]
    omega
theorem pow_bits (x : Nat) (j : Nat) : bitLen (x ^ j) ≤ bitLen x * j + 1 := by
  cases j with
  | zero => rw [Nat.pow_zero, bit1]; omega
  | succ j => exact Nat.le_trans (pow_bits1 x j) (by omega)
set_option maxHeartbeats 4000000 in
theorem k_PowG {x n : Nat} (hb : bitLen x * n ≤ 65000) (hbx : bitLen x ≤ 65000) (hn : n < 4611686018427387904) : PC E 194 [NN x, .int .i64 n] (.tuple [NN (x ^ n), .int .i64 0]) := by
  have k1 := k_Bare (num_bits (x := x) (by omega))
  have k2 := k_Small (num_bits (x := x) (by omega))
  have k3 := k_Bits (num_bits (x := x) (by omega))
  have k4 := u_one
  by_cases h0 : n = 0
  · subst h0
    rw [Nat.pow_zero]
    simp only [u, NN, NL, Int.cast_ofNat_Int] at k1 k2 k3 k4 ⊢
    refine PC.of_body follows Tryz.func194 (by decide +kernel) rfl (by kernel_rfl) (Nat.le_of_ble_eq_true rfl) (walk ?_)
    simp only [Tryz.f194, Int.cast_ofNat_Int, go_sem]
    refine qcall_i (k1) ?_; simp only [Tryz.f194, Int.cast_ofNat_Int, go_sem]
    refine qcall_i (k2) ?_; simp only [Tryz.f194, Int.cast_ofNat_Int, go_sem]
    refine qcall_i (k4) ?_; simp only [Tryz.f194, Int.cast_ofNat_Int, go_sem]
    try rfl
  have hk0 : ((n : Int) < 0) = False := eq_false (by omega)
  have hk1 : ((n : Int) = 0) = False := eq_false (by omega)
  by_cases hs : x < 2
  · have hW : x < W := Nat.lt_trans hs (by decide)
    rw [if_pos hW, decide_eq_true hW] at k2
    have ex : x ^ n = x := by
      obtain rfl | rfl : x = 0 ∨ x = 1 := by omega
      · rw [Nat.zero_pow (by omega)]
      · rw [Nat.one_pow]
    rw [ex]
    simp only [u, NN, NL] at k1 k2 ⊢
    refine PC.of_body follows Tryz.func194 (by decide +kernel) rfl (by kernel_rfl) (Nat.le_of_ble_eq_true rfl) (walk ?_)
    simp only [Tryz.f194, go_sem]
    refine qcall_i (k1) ?_; simp only [Tryz.f194, go_sem]
    refine qcall_i (k2) ?_; simp only [Tryz.f194, hk0, hk1, go_sem]
    refine qif_dt (by omega) ?_
    simp only [Tryz.f194, go_sem]
    try rfl
  have hx2 : 2 ≤ bitLen x := Nat.not_lt.1 fun h2 => by
    have := (bitLen_le x 1).1 (by omega)
    omega
  have hnk : n ≤ 32500 := by
    have := Nat.mul_le_mul_right n hx2
    omega
  have k5 := c_BLenW n (Nat.lt_of_le_of_lt hnk (by decide))
  have hbl : bitLen n ≤ 15 := (bitLen_le n 15).2 (Nat.lt_of_le_of_lt hnk (by decide))
  have hbl1 : n < 2 ^ bitLen n := (bitLen_le n (bitLen n)).1 (Nat.le_refl _)
  have pm : ∀ a b : Nat, bitLen a ≤ 70000 → bitLen b ≤ 70000 → PC E 221 [NN a, NN b] (NN (a * b)) := fun a b ha hb => by
    have h1 := w_of_bits (x := a) (n := 15625) (by omega)
    have h2 := w_of_bits (x := b) (n := 15625) (by omega)
    have := c_product (dg W a) (dg W b) (ok_dg W2 a) (ok_dg W2 b) (by omega) (by omega)
    rwa [show vl (dg W a) = a from dv_dg W2 a, show vl (dg W b) = b from dv_dg W2 b] at this
  have wK : IntKind.wrap .u64 (n : Int) = n := wrap_nat64 (Nat.lt_of_le_of_lt hnk (by decide))
  have wb : IntKind.wrap .i64 ((bitLen n : Int) - 1) = ((bitLen n : Nat) : Int) - 1 := wrap64 (by omega) (by omega)
  have wx : IntKind.wrap .i64 ((bitLen x : Int) - 1) = (bitLen x : Int) - 1 := wrap64 (by omega) (by omega)
  have hq : (n : Int) ≤ Int.tdiv 65535 ((bitLen x : Int) - 1) := by
    rw [Int.tdiv_eq_ediv_of_nonneg (by decide), Int.le_ediv_iff_mul_le (by omega)]
    have h1 : ((bitLen x * n : Nat) : Int) = (bitLen x : Int) * n := Int.natCast_mul _ _
    have h2 : (n : Int) * ((bitLen x : Int) - 1) = (bitLen x : Int) * n - n := by rw [Int.mul_sub, Int.mul_one, Int.mul_comm]
    omega
  have wt : IntKind.wrap .i64 (Int.tdiv 65535 ((bitLen x : Int) - 1)) = Int.tdiv 65535 ((bitLen x : Int) - 1) := by
    rw [Int.tdiv_eq_ediv_of_nonneg (by decide)]
    have h1 : 0 ≤ 65535 / ((bitLen x : Int) - 1) := Int.ediv_nonneg (by decide) (by omega)
    have h2 : 65535 / ((bitLen x : Int) - 1) ≤ 65535 := Int.ediv_le_self _ (by decide)
    exact wrap64 (by omega) (by omega)
  have hfb0 : ∀ j, bitLen (x ^ (n / 2 ^ j)) ≤ 65001 := fun j => by
    have h1 := pow_bits x (n / 2 ^ j)
    have h2 := Nat.mul_le_mul_left (bitLen x) (Nat.div_le_self n (2 ^ j))
    omega
  have hsq0 : ∀ j, bitLen (x ^ (n / 2 ^ (j + 1)) * x ^ (n / 2 ^ (j + 1))) ≤ 65001 := fun j => by
    rw [← Nat.pow_add]
    have h1 := pow_bits x (n / 2 ^ (j + 1) + n / 2 ^ (j + 1))
    have h3 : n / 2 ^ (j + 1) + n / 2 ^ (j + 1) ≤ n := by
      have e : n / 2 ^ (j + 1) = n / 2 ^ j / 2 := by rw [Nat.pow_succ, Nat.div_div_eq_div_mul]
      have := Nat.div_le_self n (2 ^ j)
      omega
    have h2 := Nat.mul_le_mul_left (bitLen x) h3
    omega
  have hstep0 : ∀ j, (n / 2 ^ j % 2 = 1 → x ^ (n / 2 ^ (j + 1)) * x ^ (n / 2 ^ (j + 1)) * x = x ^ (n / 2 ^ j)) ∧ (n / 2 ^ j % 2 = 0 → x ^ (n / 2 ^ (j + 1)) * x ^ (n / 2 ^ (j + 1)) = x ^ (n / 2 ^ j)) := fun j => by
    have e : n / 2 ^ (j + 1) = n / 2 ^ j / 2 := by rw [Nat.pow_succ, Nat.div_div_eq_div_mul]
    rw [← Nat.pow_add, e]
    refine ⟨fun h => ?_, fun h => ?_⟩
    · rw [← Nat.pow_succ]; congr 1; omega
    · congr 1; omega
  have e0 : x ^ (n / 2 ^ bitLen n) = 1 := by rw [Nat.div_eq_of_lt hbl1, Nat.pow_zero]
  have en : x ^ (n / 2 ^ 0) = x ^ n := by rw [Nat.pow_zero, Nat.div_one]
  obtain ⟨f, hf⟩ : ∃ f : Nat → Nat, ∀ j, x ^ (n / 2 ^ j) = f j := ⟨_, fun _ => rfl⟩
  simp only [hf] at hfb0 hsq0 hstep0 e0 en
  rw [← en]
  rw [← e0] at k4
  have p1 := fun j => pm (f j) (f j) (by have := hfb0 j; omega) (by have := hfb0 j; omega)
  have p2 := fun j => pm (f (j + 1) * f (j + 1)) x (by have := hsq0 j; omega) (by omega)
  have p3 := fun j => k_Bits (num_bits (x := f j) (by have := hfb0 j; omega))
  have hbn : ∀ j, n / 2 ^ j < 9223372036854775808 := fun j => Nat.lt_of_le_of_lt (Nat.div_le_self _ _) (by omega)
  have hshr : ∀ j : Nat, j ≤ 15 → (n : Int).fdiv (2 ^ min j 64) = ((n / 2 ^ j : Nat) : Int) := fun j hj => by
    rw [Nat.min_eq_left (by omega), Int.fdiv_eq_ediv_of_nonneg _ (Int.pow_nonneg (by decide))]
    simp
  have hsm : (decide (x < W) && decide (((if x < W then x else 0 : Nat) : Int) < 2)) = false := by
    by_cases h : x < W
    · rw [if_pos h, decide_eq_false (by omega : ¬ ((x : Int) < 2)), Bool.and_false]
    · rw [decide_eq_false h, Bool.false_and]
  clear pm hf e0 en
  generalize bitLen n = L at *
  simp only [u, NN, NL] at k1 k2 k3 k4 k5 p1 p2 p3 ⊢
  refine PC.of_body follows Tryz.func194 (by decide +kernel) rfl (by kernel_rfl) (Nat.le_of_ble_eq_true rfl) (walk ?_)
  by_cases hW : x < W
  case' pos =>
    rw [if_pos hW, decide_eq_true hW] at k2
    simp only [Tryz.f194, go_sem]
    refine qcall_i (k1) ?_; simp only [Tryz.f194, go_sem]
    refine qcall_i (k2) ?_; simp only [Tryz.f194, hk0, hk1, go_sem]
    refine qif_df (by omega) ?_
    simp only [Tryz.f194, go_sem]
  case' neg =>
    rw [if_neg hW, decide_eq_false hW] at k2
    simp only [Tryz.f194, go_sem]
    refine qcall_i (k1) ?_; simp only [Tryz.f194, go_sem]
    refine qcall_i (k2) ?_; simp only [Tryz.f194, hk0, hk1, go_sem]
  all_goals
    refine qcall_i (k3) ?_; simp only [Tryz.f194, wx, wt, go_sem]
    refine qand_i (by first | omega | (simp [V_length, U_length, tab_length, maxLen]; done) | (simp [V_length, U_length, tab_length, maxLen]; omega) | (refine ⟨?_, ?_⟩ <;> first | omega | (simp [V_length, U_length, tab_length, maxLen]; done) | (simp [V_length, U_length, tab_length, maxLen]; omega))) ?_; simp only [Tryz.f194, wx, wt, go_sem]
    refine qif_df (by omega) ?_
    simp only [Tryz.f194, go_sem]
    refine qcall_i (k4) ?_; simp only [Tryz.f194, wK, go_sem]
    refine qcall_i (k5) ?_; simp only [Tryz.f194, wK, wb, go_sem]
    refine PLoop.intro (fun j : Nat => ⟨[(0, .val (.lst (dg W x).length (U (dg W x)))), (1, .val (.int .i64 n)), (8, .val (.lst (dg W (f j)).length (U (dg W (f j))))), (9, .val (.int .i64 ((j : Int) - 1)))], []⟩) (fun j => j ≤ L) (fun j => j) L (Nat.le_refl _) ?_ fun j hj => walk ?_
    · simp [Wk, sget, killL, kill1, SV.key]
    rcases j with _ | j
    · simp only [Tryz.f194, go_sem]
      refine qif_df (by omega) ?_
      simp only [Tryz.f194, go_sem]
      try exact ⟨rfl, rfl⟩
      try rfl
    · have e1 : (((j + 1 : Nat) : Int) - 1) = (j : Nat) := by omega
      rw [e1]
      have hs := hshr j (by omega)
      have hb := and1_i64w (hbn j)
      have wj : IntKind.wrap .i64 ((j : Int) - 1) = (j : Int) - 1 := wrap64 (by omega) (by omega)
      have q1 := p1 (j + 1)
      have q2 := p2 j
      have q3 := p3 j
      have hfj := hfb0 j
      have st := hstep0 j
      have hm2 : n / 2 ^ j % 2 < 2 := Nat.mod_lt _ (by decide)
      generalize n / 2 ^ j % 2 = bt at *
      generalize n / 2 ^ j = nj at *
      simp only [Tryz.f194, go_sem]
      refine qif_dt (by omega) ?_
      simp only [Tryz.f194, go_sem]
      refine qcall_i (q1) ?_; simp only [Tryz.f194, go_sem]
      refine qand_i (by first | omega | (simp [V_length, U_length, tab_length, maxLen]; done) | (simp [V_length, U_length, tab_length, maxLen]; omega) | (refine ⟨?_, ?_⟩ <;> first | omega | (simp [V_length, U_length, tab_length, maxLen]; done) | (simp [V_length, U_length, tab_length, maxLen]; omega))) ?_; simp only [Tryz.f194, hs, hb, go_sem]
      refine qif_d (fun h => ?_) (fun h => ?_)
      · have h1 : bt = 1 := by omega
        have e2 := st.1 h1
        rw [e2] at q2
        simp only [Tryz.f194, go_sem]
        refine qcall_i (q2) ?_; simp only [Tryz.f194, go_sem]
        refine qcall_i (q3) ?_; simp only [Tryz.f194, go_sem]
        refine qif_df (by omega) ?_
        simp only [Tryz.f194, wj, go_sem]
        refine ⟨j, by omega, by omega, ?_⟩
        simp [Wk, sget, killL, kill1, SV.key]
      · have h1 : bt = 0 := by omega
        have e2 := st.2 h1
        rw [e2]
        simp only [Tryz.f194, go_sem]
        refine qcall_i (q3) ?_; simp only [Tryz.f194, go_sem]
        refine qif_df (by omega) ?_
        simp only [Tryz.f194, wj, go_sem]
        refine ⟨j, by omega, by omega, ?_⟩
        simp [Wk, sget, killL, kill1, SV.key]
end
section
open Go PG Go.Proofs
open XX
def Irt (j a r : Nat) : Prop := r ^ (j + 1) ≤ a ∧ a < (r + 1) ^ (j + 1)
def newtonK (j a x : Nat) : Nat := (x * j + a / x ^ j) / (j + 1)
theorem amgm (r x : Nat) : ∀ j : Nat, (j + 1) * (r * x ^ j) ≤ r ^ (j + 1) + j * x ^ (j + 1)
  | 0 => by simp
  | j + 1 => by
    have ih := amgm r x j
    have h1 := Nat.mul_le_mul_left r ih
    -- r^(j+2) + (j+1) x^(j+2) - (j+2) r x^(j+1) = r * (..) + (j+1) x^j (x - r)^2
    have h2 : 2 * (r * x) ≤ x * x + r * r := by
      obtain ⟨t, ht⟩ | ⟨t, ht⟩ : (∃ t, r = x + t) ∨ (∃ t, x = r + t) := by
        by_cases hc : x ≤ r
        · exact .inl ⟨r - x, by omega⟩
        · exact .inr ⟨x - r, by omega⟩
      · subst ht; grind
      · subst ht; grind
    have h3 := Nat.mul_le_mul_left ((j + 1) * x ^ j) h2
    rw [Nat.pow_succ x (j + 1), Nat.pow_succ r (j + 1)]
    rw [Nat.pow_succ x j] at *
    generalize x ^ j = X at *
    generalize r ^ (j + 1) = Rr at *
    grind
theorem newtonK_ge {j a r x : Nat} (h : Irt j a r) (hx : 0 < x) : r ≤ newtonK j a x := by
  unfold newtonK
  rw [Nat.le_div_iff_mul_le (by omega)]
  refine Nat.not_lt.1 fun hlt => ?_
  have hxj := Nat.pow_pos (n := j) hx
  have hle : x * j ≤ r * (j + 1) := Nat.le_of_lt (Nat.lt_of_le_of_lt (Nat.le_add_right _ _) hlt)
  have h1 : a / x ^ j < r * (j + 1) - x * j := Nat.lt_sub_of_add_lt (by rw [Nat.add_comm]; exact hlt)
  have h2 := (Nat.div_lt_iff_lt_mul hxj).1 h1
  clear h1 hlt
  have h3 := amgm r x j
  have h4 := h.1
  obtain ⟨d, hd⟩ : ∃ d, r * (j + 1) = x * j + d := ⟨r * (j + 1) - x * j, by omega⟩
  rw [show r * (j + 1) - x * j = d by omega] at h2
  have h5 : (j + 1) * (r * x ^ j) = x * j * x ^ j + d * x ^ j := by
    rw [← Nat.mul_assoc, Nat.mul_comm (j + 1) r, hd, Nat.add_mul]
  have h6 : j * x ^ (j + 1) = x * j * x ^ j := by rw [Nat.pow_succ, Nat.mul_comm (x ^ j) x, ← Nat.mul_assoc, Nat.mul_comm j x]
  omega
theorem newtonK_lt {j a r x : Nat} (h : Irt j a r) (hx : r < x) : newtonK j a x < x := by
  unfold newtonK
  rw [Nat.div_lt_iff_lt_mul (by omega)]
  have h1 : a < x ^ (j + 1) := Nat.lt_of_lt_of_le h.2 (Nat.pow_le_pow_left hx _)
  have h2 : a / x ^ j < x := (Nat.div_lt_iff_lt_mul (Nat.pow_pos (by omega))).2 (by rwa [Nat.pow_succ, Nat.mul_comm] at h1)
  rw [Nat.mul_add, Nat.mul_one]
  omega
theorem newtonK_le {j a x : Nat} : newtonK j a x ≤ x + a := by
  unfold newtonK
  have h1 := Nat.div_le_self a (x ^ j)
  refine Nat.div_le_of_le_mul ?_
  have h2 : (j + 1) * (x + a) = x * j + x + (j * a + a) := by grind
  have := Nat.zero_le (j * a)
  omega
theorem k_stepK {a x j : Nat} (ha : bitLen a ≤ 20000) (hx : bitLen x ≤ 20000) (h0 : x ≠ 0) (hj : j < 4611686018427387903) (hb : bitLen x * j ≤ 60000) : PC E 229 [NN a, NN x, .int .i64 ((j + 1 : Nat) : Int)] (NN (newtonK j a x)) := by
  have k1 := k_PowG (x := x) (n := j) (by omega) (by omega) (by omega)
  have hpb := pow_bits x j
  have hxj : x ^ j ≠ 0 := Nat.pos_iff_ne_zero.1 (Nat.pow_pos (by omega))
  have k2 := k_Div (num_bits (x := a) (by omega)) (num_bits (x := x ^ j) (by omega)) (by omega) (by omega) hxj
  have hjW : j < W := Nat.lt_trans hj (by decide)
  have hj1W : j + 1 < W := Nat.lt_of_le_of_lt (show j + 1 ≤ 4611686018427387903 by omega) (by decide)
  have k3 := k_times (x := x) (n := j) (by omega) hjW
  have bj : bitLen j ≤ 64 := (bitLen_le _ _).2 hjW
  have b3 := mul_bits hx bj
  have b4 := div_bits (n := x ^ j) ha
  have k4 := k_Add (num_bits (x := x * j) (by omega)) (num_bits (x := a / x ^ j) (by omega))
  have b5 := bitLen_add (x := x * j) (y := a / x ^ j) (n := 20064) (by omega) (by omega)
  have k5 := k_small (x := x * j + a / x ^ j) (n := j + 1) (by omega) hj1W (by omega)
  rw [show (x * j + a / x ^ j) / (j + 1) = newtonK j a x from rfl] at k5
  have w1 : IntKind.wrap .i64 (((j + 1 : Nat) : Int) - 1) = (j : Int) := by rw [wrap64 (by omega) (by omega)]; omega
  have w2 := wrap_nat64 hjW
  have w3 := wrap_nat64 hj1W
  generalize newtonK j a x = nw at *
  generalize (x * j + a / x ^ j) % (j + 1) = rm at *
  generalize x * j + a / x ^ j = sm at *
  generalize x * j = xj at *
  generalize a % x ^ j = am at *
  generalize a / x ^ j = ad at *
  generalize x ^ j = px at *
  generalize hJ : ((j + 1 : Nat) : Int) = J at *
  simp only [u, NN, NL, hJ] at k1 k2 k3 k4 k5 ⊢
  refine PC.of_body follows Tryz.func229 (by decide +kernel) rfl (by kernel_rfl) (Nat.le_of_ble_eq_true rfl) (walk ?_)
  simp only [Tryz.f229, w1, go_sem]
  refine qcall_i (k1) ?_; simp only [Tryz.f229, w1, go_sem]
  refine qcall_i (k2) ?_; simp only [Tryz.f229, w1, w2, go_sem]
  refine qcall_i (k3) ?_; simp only [Tryz.f229, w3, go_sem]
  refine qcall_i (k4) ?_; simp only [Tryz.f229, w3, go_sem]
  refine qcall_i (k5) ?_; simp only [Tryz.f229, go_sem]
  try exact ⟨rfl, rfl⟩
  try rfl
theorem irt_pos {j a r : Nat} (h : Irt j a r) (ha : a ≠ 0) : 1 ≤ r := Nat.not_lt.1 fun h0 => by
  have : r = 0 := by omega
  subst this
  have := h.2
  rw [Nat.zero_add, Nat.one_pow] at this
  omega
theorem irt_lt {j a r n : Nat} (h : Irt j a r) (hn : a < (2 ^ n) ^ (j + 1)) : r < 2 ^ n := Nat.not_le.1 fun h0 => by
  have := Nat.pow_le_pow_left h0 (j + 1)
  have := h.1
  omega
theorem irt_one {j a r : Nat} (h : Irt j a r) (ha : a ≠ 0) (hk : bitLen a ≤ j + 1) : r = 1 := by
  have h1 := irt_pos h ha
  have h2 := irt_lt (n := 1) h (by rw [← Nat.pow_mul, Nat.one_mul]; exact (bitLen_le a (j + 1)).1 hk)
  omega
set_option maxHeartbeats 4000000 in
theorem k_floorK {a r j : Nat} (h : Irt j a r) (ha : a ≠ 0) (hb : bitLen a ≤ 8192) (hj : j < 4611686018427387903) : PC E 193 [NN a, .int .i64 ((j + 1 : Nat) : Int)] (NN r) := by
  have k1 := k_Bits (num_bits (x := a) (by omega))
  have k2 := u_one
  have hb0 := bitLen_pos ha
  by_cases hs : bitLen a ≤ j + 1
  · have e := irt_one h ha hs
    subst e
    simp only [NN, NL] at k1 k2 ⊢
    refine PC.of_body follows Tryz.func193 (by decide +kernel) rfl (by kernel_rfl) (Nat.le_of_ble_eq_true rfl) (walk ?_)
    simp only [Tryz.f193, go_sem]
    refine qcall_i (k1) ?_; simp only [Tryz.f193, go_sem]
    refine qif_dt (by omega) ?_
    simp only [Tryz.f193, go_sem]
    refine qcall_i (k2) ?_; simp only [Tryz.f193, go_sem]
    try exact ⟨rfl, rfl⟩
    try rfl
  obtain ⟨n, hn⟩ : ∃ n, n = (bitLen a + j) / (j + 1) := ⟨_, rfl⟩
  have hjb : j + 1 < bitLen a := by omega
  have hn1 : bitLen a ≤ n * (j + 1) := by
    have h1 := Nat.div_add_mod (bitLen a + j) (j + 1)
    have h2 := Nat.mod_lt (bitLen a + j) (show 0 < j + 1 by omega)
    rw [← hn, Nat.mul_comm] at h1
    omega
  have hn2 : n * (j + 1) ≤ bitLen a + j := by rw [hn]; exact Nat.div_mul_le_self _ _
  have hnj : n ≤ n * (j + 1) := Nat.le_mul_of_pos_right n (by omega)
  have k3 := k_Shln (num_bits (x := 1) (by decide)) n (by rw [bit1]; omega)
  rw [Nat.one_mul] at k3
  have hr1 := irt_pos h ha
  have hrn : r < 2 ^ n := irt_lt h (by
    rw [← Nat.pow_mul]
    exact (bitLen_le a _).1 hn1)
  have hbn : bitLen (2 ^ n) ≤ n + 1 := bitLen_two2 n
  have hmj : (n + 1) * j ≤ 30000 := by
    have h1 : (n + 1) * j ≤ n * (j + 1) + j := by grind
    omega
  have hst : ∀ X : Nat, r ≤ X → bitLen X ≤ n + 1 → PC E 229 [NN a, NN X, .int .i64 ((j + 1 : Nat) : Int)] (NN (newtonK j a X)) := fun X hX hbX => k_stepK (by omega) (by omega) (by omega) hj (by
    have := Nat.mul_le_mul_right j hbX
    omega)
  have hcm : ∀ X : Nat, bitLen X ≤ n + 1 → PC E 181 [NN (newtonK j a X), NN X] (.int .i64 (sgn (newtonK j a X) X)) := fun X hbX => k_Cmp (num_bits (by
    have h1 := bitLen_mono (newtonK_le (j := j) (a := a) (x := X))
    have h2 := bitLen_add (x := X) (y := a) (n := 20000) (by omega) (by omega)
    omega)) (num_bits (by omega))
  have hge : ∀ X : Nat, r ≤ X → r ≤ newtonK j a X := fun X hX => newtonK_ge h (by omega)
  have hlt : ∀ X : Nat, r < X → newtonK j a X < X := fun X hX => newtonK_lt h hX
  generalize newtonK j a = nw at *
  have wb1 : IntKind.wrap .i64 ((bitLen a : Int) + ((j + 1 : Nat) : Int)) = (bitLen a : Int) + ((j + 1 : Nat) : Int) := wrap64 (by omega) (by omega)
  have wb2 : IntKind.wrap .i64 ((bitLen a : Int) + ((j + 1 : Nat) : Int) - 1) = ((bitLen a + j : Nat) : Int) := by rw [wrap64 (by omega) (by omega)]; omega
  have wt : Int.tdiv ((bitLen a + j : Nat) : Int) ((j + 1 : Nat) : Int) = n := by
    rw [Int.tdiv_eq_ediv_of_nonneg (by omega), hn]; rfl
  have wt2 : IntKind.wrap .i64 (n : Int) = n := wrap64 (by omega) (by omega)
  have hj0 : ¬ ((j + 1 : Nat) : Int) = 0 := by omega
  have hgeJ : ¬ ((j + 1 : Nat) : Int) ≥ (bitLen a : Int) := by omega
  clear hn hn1 hn2 hnj hmj hjb hj hs
  generalize hJ : ((j + 1 : Nat) : Int) = J at *
  simp only [NN, NL] at k1 k2 k3 hst hcm ⊢
  refine PC.of_body follows Tryz.func193 (by decide +kernel) rfl (by kernel_rfl) (Nat.le_of_ble_eq_true rfl) (walk ?_)
  simp only [Tryz.f193, go_sem]
  refine qcall_i (k1) ?_; simp only [Tryz.f193, go_sem]
  refine qif_df hgeJ ?_
  simp only [Tryz.f193, go_sem]
  refine qcall_i (k2) ?_; simp only [Tryz.f193, wb1, wb2, wt, wt2, go_sem]
  try (refine qand_i hj0 ?_; simp only [Tryz.f193, wb1, wb2, wt, wt2, go_sem])
  refine qcall_i (k3) ?_; simp only [Tryz.f193, go_sem]
  have hrn' : r ≤ 2 ^ n := Nat.le_of_lt hrn
  clear k1 k2 k3 hrn
  generalize 2 ^ n = x0 at *
  refine PLoop.intro (fun X : Nat => ⟨[(0, .val (.lst (dg W a).length (U (dg W a)))), (1, .val (.int .i64 J)), (6, .val (.lst (dg W X).length (U (dg W X))))], []⟩) (fun X => r ≤ X ∧ bitLen X ≤ n + 1) (fun X => X) x0 ⟨hrn', hbn⟩ ?_ fun X hX => walk ?_
  · simp [Wk, sget, killL, kill1, SV.key]
  have q1 := hst X hX.1 hX.2
  have q2 := hcm X hX.2
  have g1 := hge X hX.1
  have g2 := hlt X
  generalize nw X = Y at *
  simp only [Tryz.f193, go_sem]
  refine qcall_i (q1) ?_; simp only [Tryz.f193, go_sem]
  refine qcall_i (q2) ?_; simp only [Tryz.f193, go_sem]
  have hsg : (sgn (Y : Int) X ≥ 0) ↔ X ≤ Y := by
    have := sgn_neg (Y : Int) X
    omega
  refine qif_d (fun hc => ?_) (fun hc => ?_)
  · have hc := hsg.1 hc
    have e : X = r := by
      by_cases h : r < X
      · have := g2 h; omega
      · have := hX.1; omega
    simp only [Tryz.f193, go_sem]
    rw [e]
    exact ⟨rfl, rfl⟩
  · have hc : ¬ X ≤ Y := fun h => hc (hsg.2 h)
    simp only [Tryz.f193, go_sem]
    refine ⟨Y, ⟨g1, Nat.le_trans (bitLen_mono (by omega)) hX.2⟩, by omega, ?_⟩
    simp [Wk, sget, killL, kill1, SV.key]
theorem k_RootK {a r j : Nat} (h : Irt j a r) (ha : a ≠ 0) (hb : bitLen a ≤ 4000) (hj1 : 1 ≤ j) (hj : j ≤ 10000) : PC E 123 [NN a, .int .i64 ((j + 1 : Nat) : Int)] (.tuple [NN r, .bool (decide (r ^ (j + 1) = a)), .int .i64 0]) := by
  have k1 := k_Bare (num_bits (x := a) (by omega))
  have k2 := k_Bits (num_bits (x := a) (by omega))
  have k3 := k_floorK h ha (by omega) (by omega)
  -- r^(j+1) is at most a
  have hb0 := bitLen_pos ha
  have hr1 := irt_pos h ha
  have hrb : bitLen r * (j + 1) ≤ 30000 := by
    -- (bits - 1) * (j+1) ≤ bits of a - 1
    have h1 : (2 ^ (bitLen r - 1)) ^ (j + 1) ≤ a := Nat.le_trans (Nat.pow_le_pow_left (m_range (by omega)).1 _) h.1
    rw [← Nat.pow_mul] at h1
    have h2 := (bitLen_le a (bitLen a)).1 (Nat.le_refl _)
    have h3 := (Nat.pow_lt_pow_iff_right (by decide : 1 < 2)).1 (Nat.lt_of_le_of_lt h1 h2)
    have h4 := bitLen_pos (x := r) (by omega)
    obtain ⟨t, ht⟩ : ∃ t, bitLen r = t + 1 := ⟨bitLen r - 1, by omega⟩
    rw [ht] at h3 ⊢
    rw [show t + 1 - 1 = t by omega] at h3
    rw [Nat.add_mul, Nat.one_mul]
    omega
  have hrl : bitLen r ≤ 30000 := Nat.le_trans (Nat.le_mul_of_pos_right _ (by omega)) hrb
  have k4 := k_PowG (x := r) (n := j + 1) (by omega) (by omega) (by omega)
  have hpb := pow_bits r (j + 1)
  have k5 := k_Cmp (num_bits (x := r ^ (j + 1)) (by omega)) (num_bits (x := a) (by omega))
  obtain ⟨l, cs, e, hl⟩ := NN_len (x := a)
  have hl0 : ¬ (l : Int) = 0 := by have : l ≠ 0 := fun h' => ha (hl.1 h'); omega
  have hsg : decide (sgn ((r ^ (j + 1) : Nat) : Int) (a : Int) = 0) = decide (r ^ (j + 1) = a) := by
    have := sgn_zero ((r ^ (j + 1) : Nat) : Int) (a : Int)
    exact decide_eq_decide.2 (by rw [this]; exact Int.ofNat_inj)
  rw [← hsg]
  generalize r ^ (j + 1) = rr at *
  generalize sgn (rr : Int) (a : Int) = sg at *
  generalize hJ : ((j + 1 : Nat) : Int) = J at *
  have hJ1 : ¬ J < 1 := by omega
  have hJ2 : ¬ J = 1 := by omega
  rw [e] at k1 k2 k3 k5 ⊢
  simp only [NN, NL] at k1 k2 k3 k4 k5 ⊢
  refine PC.of_body follows Tryz.func123 (by decide +kernel) rfl (by kernel_rfl) (Nat.le_of_ble_eq_true rfl) (walk ?_)
  simp only [Tryz.f123, go_sem]
  refine qcall_i (k1) ?_; simp only [Tryz.f123, go_sem]
  refine qif_df hJ1 ?_
  simp only [Tryz.f123, go_sem]
  refine qcall_i (k2) ?_; simp only [Tryz.f123, go_sem]
  refine qif_df (by omega) ?_
  simp only [Tryz.f123, go_sem]
  refine qif_df hl0 ?_
  simp only [Tryz.f123, go_sem]
  refine qif_df hJ2 ?_
  simp only [Tryz.f123, go_sem]
  refine qcall_i (k3) ?_; simp only [Tryz.f123, go_sem]
  refine qcall_i (k4) ?_; simp only [Tryz.f123, go_sem]
  refine qcall_i (k5) ?_; simp only [Tryz.f123, go_sem]
  try exact ⟨rfl, rfl⟩
  try rfl
end
section
open Go PG Go.Proofs
open XX
theorem wrapN64 {n : Int} (h0 : -9223372036854775808 ≤ n) (h1 : n < 0) : IntKind.wrap .u64 (0 - IntKind.wrap .u64 n) = ((n.natAbs : Nat) : Int) := by
  rw [IntKind.wrap_u64, IntKind.wrap_u64]; omega
theorem wrapP64 {n : Int} (h0 : 0 ≤ n) (h1 : n < 9223372036854775808) : IntKind.wrap .u64 n = ((n.natAbs : Nat) : Int) := by
  rw [IntKind.wrap_u64]; omega
theorem t_size {n : Int} (h0 : -9223372036854775808 ≤ n) (h1 : n < 9223372036854775808) : PC E 197 [.int .i64 n] (.int .u64 (n.natAbs : Nat)) := by
  refine PC.of_body follows Tryz.func197 (by decide +kernel) rfl (by kernel_rfl) (Nat.le_of_ble_eq_true rfl) (walk ?_)
  simp only [Tryz.f197, go_sem]
  refine qif_d (fun h => ?_) (fun h => ?_)
  · have w := wrapN64 h0 h
    simp only [Tryz.f197, w, go_sem]
    try rfl
  · have w := wrapP64 (n := n) (by omega) h1
    simp only [Tryz.f197, w, go_sem]
    try rfl
theorem e_size {n : Int} (h0 : -9223372036854775808 ≤ n) (h1 : n < 9223372036854775808) : PC E 122 [.int .i64 n] (.int .u64 (n.natAbs : Nat)) := by
  refine PC.of_body follows Tryz.func122 (by decide +kernel) rfl (by kernel_rfl) (Nat.le_of_ble_eq_true rfl) (walk ?_)
  simp only [Tryz.f122, go_sem]
  refine qif_d (fun h => ?_) (fun h => ?_)
  · have w := wrapN64 h0 h
    simp only [Tryz.f122, w, go_sem]
    try rfl
  · have w := wrapP64 (n := n) (by omega) h1
    simp only [Tryz.f122, w, go_sem]
    try rfl
theorem natAbs_W {n : Int} (h0 : -9223372036854775808 ≤ n) (h1 : n < 9223372036854775808) : n.natAbs < W := Nat.lt_of_le_of_lt (show n.natAbs ≤ 9223372036854775808 by omega) (by decide)
theorem mul_split {a b c : Nat} (hc : c < W) : (a * b / W = 0 ∧ a * b % W ≤ c) ↔ a * b ≤ c := by
  generalize a * b = p
  have h1 := Nat.div_add_mod p W
  constructor
  · rintro ⟨h2, h3⟩
    rw [h2, Nat.mul_zero, Nat.zero_add] at h1
    omega
  · intro h
    have h2 : p / W = 0 := Nat.div_eq_of_lt (by omega)
    refine ⟨h2, ?_⟩
    rw [h2, Nat.mul_zero, Nat.zero_add] at h1
    omega
theorem t_under {a b : Nat} (ha : a < W) (hb : b < W) : PC E 196 [.int .u64 a, .int .u64 b] (.bool (decide (a * b ≤ 60000))) := by
  have k1 := c_Mul64 a b ha hb
  have hs := mul_split (a := a) (b := b) (c := 60000) (by decide)
  simp only [u] at k1
  obtain ⟨R, hR⟩ : ∃ R, R = PV.bool (decide (a * b ≤ 60000)) := ⟨_, rfl⟩
  rw [← hR]
  obtain ⟨H, hH⟩ : ∃ H, H = a * b / W := ⟨_, rfl⟩
  obtain ⟨L, hL⟩ : ∃ L, L = a * b % W := ⟨_, rfl⟩
  rw [← hH, ← hL] at k1 hs
  refine PC.of_body follows Tryz.func196 (by decide +kernel) rfl (by kernel_rfl) (Nat.le_of_ble_eq_true rfl) (walk ?_)
  simp only [Tryz.f196, go_sem]
  refine qcall_i (k1) ?_; simp only [Tryz.f196, go_sem]
  refine qif_d (fun h => ?_) (fun h => ?_)
  · simp only [Tryz.f196, go_sem]
    rw [hR]
    congr 1
    exact decide_eq_decide.2 (by rw [← hs]; omega)
  · simp only [Tryz.f196, go_sem]
    rw [hR]
    congr 1
    exact (decide_eq_false (by rw [← hs]; omega)).symm
def fitsR (d : Dy) (m : Int) : Prop := bitLen d.m * m.natAbs ≤ 60000 ∧ d.e.natAbs * m.natAbs ≤ 60000
instance (d : Dy) (m : Int) : Decidable (fitsR d m) := inferInstanceAs (Decidable (_ ∧ _))
theorem t_Fits {p : PV} {d : Dy} (h : RD p d) (hf : d.fits) {m : Int} (h0 : -9223372036854775808 ≤ m) (h1 : m < 9223372036854775808) : PC E 126 [p, .int .i64 m] (.bool (decide (fitsR d m))) := by
  have k1 := r_Bare h
  rw [okD_of hf] at k1
  have hb := h.bits
  have k2 := k_Bits (num_bits (x := d.m) hb)
  have k3 := t_size h0 h1
  have hfe := hf.1
  have hfe2 := hf.2
  have k4 := t_size (n := d.e) (by omega) (by omega)
  have k5 := t_under (a := bitLen d.m) (b := m.natAbs) (Nat.lt_of_le_of_lt hb (by decide)) (natAbs_W h0 h1)
  have k6 := t_under (a := d.e.natAbs) (b := m.natAbs) (natAbs_W (by omega) (by omega)) (natAbs_W h0 h1)
  have w := wrap_nat64 (a := bitLen d.m) (Nat.lt_of_le_of_lt hb (by decide))
  obtain ⟨R, hR⟩ : ∃ R, R = PV.bool (decide (fitsR d m)) := ⟨_, rfl⟩
  rw [← hR]
  obtain ⟨s, q, x, e, rfl, -⟩ := h
  by_cases c1 : bitLen d.m * m.natAbs ≤ 60000
  case neg =>
    rw [decide_eq_false c1] at k5
    rw [decide_eq_false (fun h : fitsR d m => c1 h.1)] at hR
    simp only [DP, Dy.pv, NN, NL] at k1 k2 ⊢
    refine PC.of_body follows Tryz.func126 (by decide +kernel) rfl (by kernel_rfl) (Nat.le_of_ble_eq_true rfl) (walk ?_)
    simp only [Tryz.f126, go_sem]
    refine qcall_i (k1) ?_; simp only [Tryz.f126, go_sem]
    refine qcall_i (k2) ?_; simp only [Tryz.f126, w, go_sem]
    refine qcall_i (k3) ?_; simp only [Tryz.f126, go_sem]
    refine qcall_i (k5) ?_; simp only [Tryz.f126, go_sem]
    first | (rw [hR]; done) | (rw [hR]; rfl)
  rw [decide_eq_true c1] at k5
  have hd : decide (fitsR d m) = decide (d.e.natAbs * m.natAbs ≤ 60000) := decide_eq_decide.2 ⟨fun h => h.2, fun h => ⟨c1, h⟩⟩
  rw [hd] at hR
  simp only [DP, Dy.pv, NN, NL] at k1 k2 ⊢
  refine PC.of_body follows Tryz.func126 (by decide +kernel) rfl (by kernel_rfl) (Nat.le_of_ble_eq_true rfl) (walk ?_)
  simp only [Tryz.f126, go_sem]
  refine qcall_i (k1) ?_; simp only [Tryz.f126, go_sem]
  refine qcall_i (k2) ?_; simp only [Tryz.f126, w, go_sem]
  refine qcall_i (k3) ?_; simp only [Tryz.f126, go_sem]
  refine qcall_i (k5) ?_; simp only [Tryz.f126, go_sem]
  refine qcall_i (k4) ?_; simp only [Tryz.f126, go_sem]
  refine qcall_i (k3) ?_; simp only [Tryz.f126, go_sem]
  refine qcall_i (k6) ?_; simp only [Tryz.f126, go_sem]
  first | (rw [hR]; done) | (rw [hR]; rfl)
theorem odd_pow {m : Nat} (h : m % 2 = 1) (n : Nat) : m ^ n % 2 = 1 := by
  induction n with
  | zero => rfl
  | succ n ih => rw [Nat.pow_succ, Nat.mul_mod, ih, h]
theorem t_Pow0 {x n : Nat} (hx : x % 2 = 1) (hxb : bitLen x ≤ 60000) (hn : n ≤ 54) : ∃ v, PC E 125 [.agg [.bool false, NN x, .int .i64 0], .int .i64 n] v ∧ (bitLen x * n ≤ 60000 → v = .tuple [(Dy.mk false (x ^ n) 0).pv, .int .i64 0]) ∧ (¬ bitLen x * n ≤ 60000 → v = .tuple [Dy.zero.pv, .int .i64 2]) := by
  have hok : (Dy.mk false x 0).ok := .inr hx
  have hf : (Dy.mk false x 0).fits := ⟨show (-1073741824 : Int) ≤ 0 by decide, show (0 : Int) ≤ 1073741824 by decide⟩
  have hR : RD (Dy.mk false x 0).pv ⟨false, x, 0⟩ := RD.fit hok (by show bitLen x ≤ _; omega) hf
  have k1 := r_Bare hR
  rw [okD_of hf] at k1
  have k2 := t_Fits hR hf (m := n) (by omega) (by omega)
  have hfr : fitsR ⟨false, x, 0⟩ (n : Int) ↔ bitLen x * n ≤ 60000 := by
    unfold fitsR
    dsimp only
    rw [Int.natAbs_natCast, Int.natAbs_zero, Nat.zero_mul]
    exact ⟨fun h => h.1, fun h => ⟨h, by omega⟩⟩
  rw [decide_eq_decide.2 hfr] at k2
  by_cases hc : bitLen x * n ≤ 60000
  · refine ⟨_, ?_, fun _ => rfl, fun h => absurd hc h⟩
    rw [decide_eq_true hc] at k2
    have k3 := k_PowG (x := x) (n := n) (by omega) (by omega) (by omega)
    have hpb := pow_bits x n
    have k4 := r_Make (num_bits (x := x ^ n) (by omega)) (by omega) false 0
    rw [mkD_odd (odd_pow hx n) (by decide) (by decide), okD_of ⟨show (-1073741824 : Int) ≤ 0 by decide, show (0 : Int) ≤ 1073741824 by decide⟩] at k4
    generalize x ^ n = P at *
    simp only [DP, Dy.pv, NN, NL] at k1 k2 k3 k4 ⊢
    refine PC.of_body follows Tryz.func125 (by decide +kernel) rfl (by kernel_rfl) (Nat.le_of_ble_eq_true rfl) (walk ?_)
    simp only [Tryz.f125, go_sem]
    refine qcall_i (k1) ?_; simp only [Tryz.f125, go_sem]
    refine qif_df (by omega) ?_
    simp only [Tryz.f125, go_sem]
    refine qcall_i (k2) ?_; simp only [Tryz.f125, go_sem]
    refine qcall_i (k3) ?_; simp only [Tryz.f125, go_sem]
    have w0 : IntKind.wrap .i64 (0 * (n : Int)) = 0 := by rw [Int.zero_mul]; decide
    simp only [Tryz.f125, w0, go_sem]
    refine qcall_i (k4) ?_; simp only [Tryz.f125, go_sem]
    try exact ⟨rfl, rfl⟩
    try rfl
  · refine ⟨_, ?_, fun h => absurd h hc, fun _ => rfl⟩
    rw [decide_eq_false hc] at k2
    simp only [DP, Dy.pv, Dy.zero, NN, NL] at k1 k2 ⊢
    refine PC.of_body follows Tryz.func125 (by decide +kernel) rfl (by kernel_rfl) (Nat.le_of_ble_eq_true rfl) (walk ?_)
    simp only [Tryz.f125, go_sem]
    refine qcall_i (k1) ?_; simp only [Tryz.f125, go_sem]
    refine qif_df (by omega) ?_
    simp only [Tryz.f125, go_sem]
    refine qcall_i (k2) ?_; simp only [Tryz.f125, go_sem]
    try rfl
theorem e_Low {M : Int} {K : Nat} (hM : -9223372036854775808 < M ∧ M < 9223372036854775808) (hK : 1 ≤ K) (hK2 : K < 9223372036854775808) :
    PC E 65 [.agg [.int .i64 M, .int .i64 (K : Nat)]] (.tuple [.agg [.int .i64 (M.tdiv ((Nat.gcd M.natAbs K : Nat) : Int)), .int .i64 ((K / Nat.gcd M.natAbs K : Nat) : Int)], .int .i64 0]) := by
  have k1 := e_size (n := M) (by omega) hM.2
  have wK : IntKind.wrap .u64 (K : Int) = K := wrap_nat64 (Nat.lt_trans hK2 (by decide))
  have hg0 : 0 < Nat.gcd M.natAbs K := Nat.gcd_pos_of_pos_right _ (by omega)
  have hgK : Nat.gcd M.natAbs K ≤ K := Nat.gcd_le_right _ (by omega)
  have hKd : (K : Int).tdiv ((Nat.gcd M.natAbs K : Nat) : Int) = ((K / Nat.gcd M.natAbs K : Nat) : Int) := by
    rw [Int.tdiv_eq_ediv_of_nonneg (by omega)]; rfl
  have hMt : (M.tdiv ((Nat.gcd M.natAbs K : Nat) : Int)).natAbs ≤ M.natAbs := by
    rw [Int.natAbs_tdiv]
    exact Nat.div_le_self _ _
  have wM : IntKind.wrap .i64 (M.tdiv ((Nat.gcd M.natAbs K : Nat) : Int)) = M.tdiv ((Nat.gcd M.natAbs K : Nat) : Int) := wrap64 (by omega) (by omega)
  have hKq := Nat.div_le_self K (Nat.gcd M.natAbs K)
  have wKK : IntKind.wrap .i64 ((K / Nat.gcd M.natAbs K : Nat) : Int) = ((K / Nat.gcd M.natAbs K : Nat) : Int) := by
    generalize K / Nat.gcd M.natAbs K = KG at *
    exact wrap64 (by omega) (by omega)
  obtain ⟨G, hG⟩ : ∃ G, G = Nat.gcd M.natAbs K := ⟨_, rfl⟩
  rw [← hG] at hg0 hgK hKd hMt wM hKq wKK ⊢
  have wG : IntKind.wrap .i64 (G : Int) = G := wrap64 (by omega) (by omega)
  generalize K / G = KG at *
  have hG0 : ¬ (G : Int) = 0 := by omega
  refine PC.of_body follows Tryz.func65 (by decide +kernel) rfl (by kernel_rfl) (Nat.le_of_ble_eq_true rfl) (walk ?_)
  simp only [Tryz.f65, go_sem]
  refine qif_df (by omega) ?_
  simp only [Tryz.f65, go_sem]
  refine qcall_i (k1) ?_; simp only [Tryz.f65, wK, go_sem]
  refine PLoop.intro (fun i : Nat × Nat => ⟨[(1, .ptr 1 0), (2, .ptr 2 0), (3, .val (.int .i64 0)), (4, .val (.int .u64 i.1)), (5, .val (.int .u64 i.2))],
    [(1, (.box [.int .i64 M, .int .i64 K], false)), (2, (.box [.int .i64 0, .int .i64 0], false))]⟩) (fun i => Nat.gcd i.1 i.2 = G) (fun i => i.2) (M.natAbs, K) hG.symm ?_ fun i hi => walk ?_
  · simp [Wk, sget, killL, kill1, SV.key]
  obtain ⟨a, b⟩ := i
  dsimp only at hi ⊢
  simp only [Tryz.f65, go_sem]
  refine qif_d (fun h => ?_) (fun h => ?_)
  · have hb0 : ¬ (b : Int) = 0 := by omega
    have et : (a : Int).tmod b = ((a % b : Nat) : Int) := by rw [Int.tmod_eq_emod_of_nonneg (by omega)]; rfl
    simp only [Tryz.f65, go_sem]
    refine qand_i (by first | omega | (simp [V_length, U_length, tab_length, maxLen]; done) | (simp [V_length, U_length, tab_length, maxLen]; omega) | (refine ⟨?_, ?_⟩ <;> first | omega | (simp [V_length, U_length, tab_length, maxLen]; done) | (simp [V_length, U_length, tab_length, maxLen]; omega))) ?_; simp only [Tryz.f65, et, go_sem]
    try simp only [Tryz.f65, et, go_sem]
    refine ⟨(b, a % b), ?_, Nat.mod_lt _ (by omega), ?_⟩
    · dsimp only
      rw [Nat.gcd_comm b, ← Nat.gcd_rec, Nat.gcd_comm]; exact hi
    · simp [Wk, sget, killL, kill1, SV.key]
  · have hb : b = 0 := by omega
    subst hb
    rw [Nat.gcd_zero_right] at hi
    subst hi
    simp only [Tryz.f65, wG, go_sem]
    refine qand_i (by first | omega | (simp [V_length, U_length, tab_length, maxLen]; done) | (simp [V_length, U_length, tab_length, maxLen]; omega) | (refine ⟨?_, ?_⟩ <;> first | omega | (simp [V_length, U_length, tab_length, maxLen]; done) | (simp [V_length, U_length, tab_length, maxLen]; omega))) ?_; simp only [Tryz.f65, wG, wM, go_sem]
    refine qand_i (by first | omega | (simp [V_length, U_length, tab_length, maxLen]; done) | (simp [V_length, U_length, tab_length, maxLen]; omega) | (refine ⟨?_, ?_⟩ <;> first | omega | (simp [V_length, U_length, tab_length, maxLen]; done) | (simp [V_length, U_length, tab_length, maxLen]; omega))) ?_; simp only [Tryz.f65, wG, wM, hKd, wKK, go_sem]
    try exact ⟨rfl, rfl⟩
    try rfl
end
section
open Go PG Go.Proofs
open XX
def exU (d : Dy) : Nat := d.m * 2 ^ (max d.e 0).toNat
def exOfOk (d : Dy) : Prop := -62 ≤ d.e ∧ (bitLen d.m : Int) + max d.e 0 ≤ 62
instance (d : Dy) : Decidable (exOfOk d) := inferInstanceAs (Decidable (_ ∧ _))
def exM (d : Dy) : Int := if d.s = true then -(exU d : Int) else exU d
def exK (d : Dy) : Nat := 2 ^ (max (-d.e) 0).toNat
theorem exU_lt {d : Dy} (h : exOfOk d) : exU d < 4611686018427387904 := by
  have h1 := (bitLen_le d.m (bitLen d.m)).1 (Nat.le_refl _)
  unfold exU
  have h2 := Nat.mul_lt_mul_of_pos_right h1 (Nat.two_pow_pos (max d.e 0).toNat)
  rw [← Nat.pow_add] at h2
  have h3 : 2 ^ (bitLen d.m + (max d.e 0).toNat) ≤ 2 ^ 62 := Nat.pow_le_pow_right (by decide) (by have := h.2; omega)
  exact Nat.lt_of_lt_of_le h2 h3
theorem exK_range {d : Dy} (h : -62 ≤ d.e) : 1 ≤ exK d ∧ exK d ≤ 4611686018427387904 := by
  unfold exK
  have h3 : 2 ^ (max (-d.e) 0).toNat ≤ 2 ^ 62 := Nat.pow_le_pow_right (by decide) (by omega)
  exact ⟨Nat.two_pow_pos _, h3⟩
theorem shl_one {x : Int} (h0 : 0 ≤ x) (h1 : x ≤ 62) : IntKind.wrap .i64 (1 * 2 ^ (min x.toNat 64)) = ((2 ^ x.toNat : Nat) : Int) := by
  rw [Nat.min_eq_left (by omega), Int.one_mul]
  have h3 : 2 ^ x.toNat ≤ 2 ^ 62 := Nat.pow_le_pow_right (by decide) (by omega)
  have e : (2 : Int) ^ x.toNat = ((2 ^ x.toNat : Nat) : Int) := by rw [Int.natCast_pow]; rfl
  rw [e]
  have h4 : (2 : Nat) ^ 62 = 4611686018427387904 := by decide
  generalize 2 ^ x.toNat = P at *
  exact wrap64 (by omega) (by omega)
set_option maxHeartbeats 2000000 in
theorem e_Of {p : PV} {d : Dy} {K : Nat} (h : RD p d) (hl : Lim K d) (hK : K ≤ 200000) : PC E 22 [p] (if exOfOk d then .tuple [.agg [.int .i64 (exM d), .int .i64 (exK d : Nat)], .bool true] else .tuple [.agg [.int .i64 0, .int .i64 0], .bool false]) := by
  have k1 := r_Bare h
  have hf := hl.fits (by omega)
  rw [okD_of hf] at k1
  have hbt := hl.bits
  have k2 := k_Bits (num_bits (x := d.m) (by omega))
  have he := hl.e0
  obtain ⟨s, q, x, e, rfl, -⟩ := h
  obtain ⟨R, hR⟩ : ∃ R, R = (if exOfOk d then PV.tuple [.agg [.int .i64 (exM d), .int .i64 (exK d : Nat)], .bool true] else .tuple [.agg [.int .i64 0, .int .i64 0], .bool false]) := ⟨_, rfl⟩
  rw [← hR]
  by_cases c1 : d.e < -62
  · rw [if_neg (fun h : exOfOk d => by have := h.1; omega)] at hR
    simp only [DP, Dy.pv, NN, NL] at k1 k2 ⊢
    refine PC.of_body follows Tryz.func22 (by decide +kernel) rfl (by kernel_rfl) (Nat.le_of_ble_eq_true rfl) (walk ?_)
    simp only [Tryz.f22, go_sem]
    refine qcall_i (k1) ?_; simp only [Tryz.f22, go_sem]
    refine qif_dt c1 ?_
    simp only [Tryz.f22, go_sem]
    rw [hR]
  have w1 : IntKind.wrap .i64 ((bitLen d.m : Int) + max d.e 0) = (bitLen d.m : Int) + max d.e 0 := wrap64 (by omega) (by omega)
  by_cases c2 : (bitLen d.m : Int) + max d.e 0 > 62
  · rw [if_neg (fun h : exOfOk d => by have := h.2; omega)] at hR
    simp only [DP, Dy.pv, NN, NL] at k1 k2 ⊢
    refine PC.of_body follows Tryz.func22 (by decide +kernel) rfl (by kernel_rfl) (Nat.le_of_ble_eq_true rfl) (walk ?_)
    simp only [Tryz.f22, go_sem]
    refine qcall_i (k1) ?_; simp only [Tryz.f22, go_sem]
    refine qif_df c1 ?_
    simp only [Tryz.f22, go_sem]
    refine qcall_i (k2) ?_; simp only [Tryz.f22, w1, go_sem]
    refine qif_dt c2 ?_
    simp only [Tryz.f22, go_sem]
    rw [hR]
  have ho : exOfOk d := ⟨by omega, by omega⟩
  rw [if_pos ho] at hR
  have hU := exU_lt ho
  have k3 := k_Shln (num_bits (x := d.m) (by omega)) (max d.e 0).toNat (by omega)
  rw [show (((max d.e 0).toNat : Nat) : Int) = max d.e 0 by omega] at k3
  have eU : d.m * 2 ^ (max d.e 0).toNat = exU d := rfl
  rw [eU] at k3
  have hUW : exU d < W := Nat.lt_trans hU (by decide)
  have k4 := k_Small (num_bits (x := exU d) (by have : bitLen (exU d) ≤ 64 := (bitLen_le _ _).2 hUW; omega))
  rw [if_pos hUW, decide_eq_true hUW] at k4
  have w2 : IntKind.wrap .i64 (exU d : Int) = exU d := wrap64 (by omega) (by omega)
  have w3 : IntKind.wrap .i64 (0 - d.e) = -d.e := by rw [wrap64 (by omega) (by omega)]; omega
  have w4 := shl_one (x := max (-d.e) 0) (by omega) (by omega)
  have eK : 2 ^ (max (-d.e) 0).toNat = exK d := rfl
  rw [eK] at w4
  have w5 : IntKind.wrap .i64 (0 - (exU d : Int)) = -(exU d : Int) := by rw [wrap64 (by omega) (by omega)]; omega
  have eM : exM d = if d.s = true then -(exU d : Int) else exU d := rfl
  rw [eM] at hR
  generalize exU d = Uu at *
  generalize exK d = Kk at *
  have hmx : ¬ max (-d.e) 0 < 0 := by omega
  simp only [DP, Dy.pv, u, NN, NL] at k1 k2 k3 k4 ⊢
  cases hs : d.s with
  | true =>
    rw [hs, if_pos rfl] at hR
    rw [hs] at k1
    refine PC.of_body follows Tryz.func22 (by decide +kernel) rfl (by kernel_rfl) (Nat.le_of_ble_eq_true rfl) (walk ?_)
    simp only [Tryz.f22, go_sem]
    refine qcall_i (k1) ?_; simp only [Tryz.f22, go_sem]
    refine qif_df c1 ?_
    simp only [Tryz.f22, go_sem]
    refine qcall_i (k2) ?_; simp only [Tryz.f22, w1, go_sem]
    refine qif_df c2 ?_
    simp only [Tryz.f22, go_sem]
    refine qcall_i (k3) ?_; simp only [Tryz.f22, go_sem]
    refine qcall_i (k4) ?_; simp only [Tryz.f22, w2, w3, go_sem]
    try (refine qand_i hmx ?_; simp only [Tryz.f22, w4, w5, go_sem])
    try simp only [Tryz.f22, w2, w3, w4, w5, go_sem]
    rw [hR]
  | false =>
    rw [hs, if_neg Bool.false_ne_true] at hR
    rw [hs] at k1
    refine PC.of_body follows Tryz.func22 (by decide +kernel) rfl (by kernel_rfl) (Nat.le_of_ble_eq_true rfl) (walk ?_)
    simp only [Tryz.f22, go_sem]
    refine qcall_i (k1) ?_; simp only [Tryz.f22, go_sem]
    refine qif_df c1 ?_
    simp only [Tryz.f22, go_sem]
    refine qcall_i (k2) ?_; simp only [Tryz.f22, w1, go_sem]
    refine qif_df c2 ?_
    simp only [Tryz.f22, go_sem]
    refine qcall_i (k3) ?_; simp only [Tryz.f22, go_sem]
    refine qcall_i (k4) ?_; simp only [Tryz.f22, w2, w3, go_sem]
    try (refine qand_i hmx ?_; simp only [Tryz.f22, w4, go_sem])
    try simp only [Tryz.f22, w2, w3, w4, go_sem]
    rw [hR]
end
section
open Go PG Go.Proofs
open XX
theorem mulsign {e m : Int} (h : (decide (e < 0) != decide (m < 0)) = true) : -((e.natAbs * m.natAbs : Nat) : Int) = e * m := by
  rw [Int.natCast_mul]
  by_cases h1 : e < 0
  · by_cases h2 : m < 0
    · rw [decide_eq_true h1, decide_eq_true h2] at h; cases h
    · rw [show ((e.natAbs : Nat) : Int) = -e by omega, show ((m.natAbs : Nat) : Int) = m by omega]; grind
  · by_cases h2 : m < 0
    · rw [show ((e.natAbs : Nat) : Int) = e by omega, show ((m.natAbs : Nat) : Int) = -m by omega]; grind
    · rw [decide_eq_false h1, decide_eq_false h2] at h; cases h
theorem mulsign2 {e m : Int} (h : (decide (e < 0) != decide (m < 0)) = false) : ((e.natAbs * m.natAbs : Nat) : Int) = e * m := by
  rw [Int.natCast_mul]
  by_cases h1 : e < 0
  · by_cases h2 : m < 0
    · rw [show ((e.natAbs : Nat) : Int) = -e by omega, show ((m.natAbs : Nat) : Int) = -m by omega]; grind
    · rw [decide_eq_true h1, decide_eq_false h2] at h; cases h
  · by_cases h2 : m < 0
    · rw [decide_eq_false h1, decide_eq_true h2] at h; cases h
    · rw [show ((e.natAbs : Nat) : Int) = e by omega, show ((m.natAbs : Nat) : Int) = m by omega]
theorem e_shift {e m : Int} (h0 : -9223372036854775808 ≤ e) (h1 : e < 9223372036854775808) (h2 : -9223372036854775808 ≤ m) (h3 : m < 9223372036854775808) :
    PC E 124 [.int .i64 e, .int .i64 m] (if e.natAbs * m.natAbs ≤ 4096 then .tuple [.int .i64 (e * m), .bool true] else .tuple [.int .i64 0, .bool false]) := by
  have k1 := e_size h0 h1
  have k2 := e_size h2 h3
  have k3 := c_Mul64 e.natAbs m.natAbs (natAbs_W h0 h1) (natAbs_W h2 h3)
  have hs := mul_split (a := e.natAbs) (b := m.natAbs) (c := 4096) (by decide)
  have m1 := mulsign (e := e) (m := m)
  have m2 := mulsign2 (e := e) (m := m)
  have hdm := Nat.div_add_mod (e.natAbs * m.natAbs) W
  simp only [u] at k3
  obtain ⟨R, hR⟩ : ∃ R, R = (if e.natAbs * m.natAbs ≤ 4096 then PV.tuple [.int .i64 (e * m), .bool true] else .tuple [.int .i64 0, .bool false]) := ⟨_, rfl⟩
  rw [← hR]
  by_cases hc : e.natAbs * m.natAbs ≤ 4096
  · rw [if_pos hc] at hR
    obtain ⟨z1, z2⟩ := hs.2 hc
    have z3 : e.natAbs * m.natAbs % W = e.natAbs * m.natAbs := by rw [z1, Nat.mul_zero, Nat.zero_add] at hdm; exact hdm
    rw [z1, z3] at k3
    have w1 : IntKind.wrap .i64 ((e.natAbs * m.natAbs : Nat) : Int) = ((e.natAbs * m.natAbs : Nat) : Int) := wrap64 (by omega) (by omega)
    have w2 : IntKind.wrap .i64 (0 - ((e.natAbs * m.natAbs : Nat) : Int)) = -((e.natAbs * m.natAbs : Nat) : Int) := by rw [wrap64 (by omega) (by omega)]; omega
    generalize e.natAbs * m.natAbs = P at *
    cases hb : (decide (e < 0) != decide (m < 0)) with
    | true =>
      rw [← m1 hb] at hR
      refine PC.of_body follows Tryz.func124 (by decide +kernel) rfl (by kernel_rfl) (Nat.le_of_ble_eq_true rfl) (walk ?_)
      simp only [Tryz.f124, go_sem]
      refine qcall_i (k1) ?_; simp only [Tryz.f124, go_sem]
      refine qcall_i (k2) ?_; simp only [Tryz.f124, go_sem]
      refine qcall_i (k3) ?_; simp only [Tryz.f124, go_sem]
      try (refine qif_df (by omega) ?_)
      try simp only [Tryz.f124, go_sem]
      try (refine qif_df (by omega) ?_)
      try simp only [Tryz.f124, hb, w1, w2, go_sem]
      rw [hR]
    | false =>
      rw [← m2 hb] at hR
      refine PC.of_body follows Tryz.func124 (by decide +kernel) rfl (by kernel_rfl) (Nat.le_of_ble_eq_true rfl) (walk ?_)
      simp only [Tryz.f124, go_sem]
      refine qcall_i (k1) ?_; simp only [Tryz.f124, go_sem]
      refine qcall_i (k2) ?_; simp only [Tryz.f124, go_sem]
      refine qcall_i (k3) ?_; simp only [Tryz.f124, go_sem]
      try (refine qif_df (by omega) ?_)
      try simp only [Tryz.f124, go_sem]
      try (refine qif_df (by omega) ?_)
      try simp only [Tryz.f124, hb, w1, w2, go_sem]
      rw [hR]
  · rw [if_neg hc] at hR
    have hs' : ¬ (e.natAbs * m.natAbs / W = 0 ∧ e.natAbs * m.natAbs % W ≤ 4096) := fun h => hc (hs.1 h)
    generalize e.natAbs * m.natAbs / W = H at *
    generalize e.natAbs * m.natAbs % W = L at *
    refine PC.of_body follows Tryz.func124 (by decide +kernel) rfl (by kernel_rfl) (Nat.le_of_ble_eq_true rfl) (walk ?_)
    simp only [Tryz.f124, go_sem]
    refine qcall_i (k1) ?_; simp only [Tryz.f124, go_sem]
    refine qcall_i (k2) ?_; simp only [Tryz.f124, go_sem]
    refine qcall_i (k3) ?_; simp only [Tryz.f124, go_sem]
    refine qif_d (fun h => ?_) (fun h => ?_)
    · simp only [Tryz.f124, go_sem]
      rw [hR]
    · simp only [Tryz.f124, go_sem]
      refine qif_dt (by omega) ?_
      simp only [Tryz.f124, go_sem]
      rw [hR]
def irtF (j : Nat) : Nat → Nat
  | 0 => 0
  | a + 1 => if (irtF j a + 1) ^ (j + 1) ≤ a + 1 then irtF j a + 1 else irtF j a
theorem irtF_spec (j a : Nat) : Irt j a (irtF j a) := by
  induction a with
  | zero => exact ⟨by show 0 ^ (j + 1) ≤ 0; rw [Nat.zero_pow (by omega)]; omega, by show 0 < (0 + 1) ^ (j + 1); rw [Nat.zero_add, Nat.one_pow]; omega⟩
  | succ a ih =>
    unfold irtF
    split
    · rename_i h
      refine ⟨h, ?_⟩
      have h2 := ih.2
      have h3 : (irtF j a + 1) ^ (j + 1) < (irtF j a + 1 + 1) ^ (j + 1) := Nat.pow_lt_pow_left (by omega) (by omega)
      omega
    · exact ⟨Nat.le_trans ih.1 (by omega), by omega⟩
def rootO (d : Dy) (k : Nat) : Option Dy :=
  if k = 1 then some d else if d.e % (k : Int) ≠ 0 then none else if d.m = 1 then some ⟨d.s, 1, d.e / k⟩
  else if bitLen d.m < k then none else if irtF (k - 1) d.m ^ k = d.m then some ⟨d.s, irtF (k - 1) d.m, d.e / k⟩ else none
theorem tmod_zero {e k : Int} : e.tmod k = 0 ↔ e % k = 0 := by rw [← Int.dvd_iff_emod_eq_zero, ← Int.dvd_iff_tmod_eq_zero]
theorem tdiv_of {e k : Int} (h : e % k = 0) : e.tdiv k = e / k := Int.tdiv_eq_ediv_of_dvd (Int.dvd_of_emod_eq_zero h)
set_option maxHeartbeats 2000000 in
theorem e_rooted {d : Dy} (hl : LgOk d) {k : Nat} (hk : 1 ≤ k) (hk2 : k < 4611686018427387905) :
    ∃ v, PC E 66 [d.pv, .int .i64 (k : Nat)] (.tuple [v, .bool (rootO d k).isSome]) ∧ (∀ r, rootO d k = some r → v = r.pv) ∧ ∃ (a b c : PV), v = .agg [a, b, c] := by
  have hb := hl.bits
  have he := hl.e
  have k1 := k_Bits (num_bits (x := d.m) (by omega))
  have hk0 : ¬ (k : Int) = 0 := by omega
  by_cases c1 : k = 1
  · have e1 : rootO d k = some d := by unfold rootO; rw [if_pos c1]
    refine ⟨d.pv, ?_, fun r h => by rw [e1] at h; cases h; rfl, _, _, _, rfl⟩
    rw [e1]
    simp only [Dy.pv, DP, NN, NL] at k1 ⊢
    refine PC.of_body follows Tryz.func66 (by decide +kernel) rfl (by kernel_rfl) (Nat.le_of_ble_eq_true rfl) (walk ?_)
    simp only [Tryz.f66, go_sem]
    refine qif_dt (by omega) ?_
    simp only [Tryz.f66, go_sem]
    try exact ⟨rfl, rfl⟩
    try rfl
  have wr : (d.e.tmod (k : Int) = 0) = (d.e % (k : Int) = 0) := propext tmod_zero
  by_cases c2 : d.e % (k : Int) = 0
  case neg =>
    have e1 : rootO d k = none := by unfold rootO; rw [if_neg c1, if_pos c2]
    refine ⟨Dy.zero.pv, ?_, fun r h => (by rw [e1] at h; cases h), _, _, _, rfl⟩
    rw [e1]
    have c2' : ¬ d.e.tmod (k : Int) = 0 := fun h => c2 (tmod_zero.1 h)
    simp only [Dy.pv, DP, NN, NL, Dy.zero] at k1 ⊢
    refine PC.of_body follows Tryz.func66 (by decide +kernel) rfl (by kernel_rfl) (Nat.le_of_ble_eq_true rfl) (walk ?_)
    simp only [Tryz.f66, go_sem]
    refine qif_df (by omega) ?_
    simp only [Tryz.f66, go_sem]
    try (refine qand_i hk0 ?_; simp only [Tryz.f66, go_sem])
    refine qif_dt c2' ?_
    simp only [Tryz.f66, go_sem]
    try exact ⟨rfl, rfl⟩
    try rfl
  have c2' : ¬ d.e.tmod (k : Int) ≠ 0 := fun h => h (tmod_zero.2 c2)
  have wd : d.e.tdiv (k : Int) = d.e / (k : Int) := tdiv_of c2
  have hq : -1052576 ≤ d.e / (k : Int) ∧ d.e / (k : Int) ≤ 1048576 := by
    have h1 : (k : Int) * (d.e / k) = d.e := Int.mul_ediv_cancel_of_emod_eq_zero c2
    rcases Int.le_total 0 (d.e / (k : Int)) with h2 | h2
    · have h3 := Int.mul_le_mul_of_nonneg_right (show (1 : Int) ≤ k by omega) h2
      omega
    · have h3 := Int.mul_le_mul_of_nonpos_right (show (1 : Int) ≤ k by omega) h2
      omega
  have ww : IntKind.wrap .i64 (d.e / (k : Int)) = d.e / (k : Int) := wrap64 (by omega) (by omega)
  by_cases c3 : d.m = 1
  · have e1 : rootO d k = some ⟨d.s, 1, d.e / k⟩ := by unfold rootO; rw [if_neg c1, if_neg (fun h => h c2), if_pos c3]
    have hb1 : bitLen d.m = 1 := by rw [c3]; decide
    rw [hb1] at k1
    refine ⟨(Dy.mk d.s 1 (d.e / k)).pv, ?_, fun r h => by rw [e1] at h; cases h; rfl, _, _, _, rfl⟩
    rw [e1]
    rw [← c3]
    generalize d.e / (k : Int) = E' at *
    generalize hKI : (k : Int) = KI at *
    have c1' : ¬ KI = 1 := by omega
    simp only [Dy.pv, DP, NN, NL] at k1 ⊢
    refine PC.of_body follows Tryz.func66 (by decide +kernel) rfl (by kernel_rfl) (Nat.le_of_ble_eq_true rfl) (walk ?_)
    simp only [Tryz.f66, go_sem]
    refine qif_df c1' ?_
    simp only [Tryz.f66, go_sem]
    try (refine qand_i hk0 ?_; simp only [Tryz.f66, go_sem])
    refine qif_df c2' ?_
    simp only [Tryz.f66, wd, ww, go_sem]
    try (refine qand_i hk0 ?_; simp only [Tryz.f66, wd, ww, go_sem])
    refine qcall_i (k1) ?_; simp only [Tryz.f66, go_sem]
    try (refine qif_dt (by decide) ?_)
    try simp only [Tryz.f66, go_sem]
    try exact ⟨rfl, rfl⟩
    try rfl
  have hb1 : ¬ (bitLen d.m : Int) = 1 := fun h => c3 ((bits_one d.m).1 (by omega))
  by_cases c4 : bitLen d.m < k
  · have e1 : rootO d k = none := by unfold rootO; rw [if_neg c1, if_neg (fun h => h c2), if_neg c3, if_pos c4]
    refine ⟨Dy.zero.pv, ?_, fun r h => (by rw [e1] at h; cases h), _, _, _, rfl⟩
    rw [e1]
    have c4' : (k : Int) > (bitLen d.m : Int) := by omega
    have c1' : ¬ (k : Int) = 1 := by omega
    generalize d.e / (k : Int) = E' at *
    generalize (k : Int) = KI at *
    simp only [Dy.pv, DP, NN, NL, Dy.zero] at k1 ⊢
    refine PC.of_body follows Tryz.func66 (by decide +kernel) rfl (by kernel_rfl) (Nat.le_of_ble_eq_true rfl) (walk ?_)
    simp only [Tryz.f66, go_sem]
    refine qif_df c1' ?_
    simp only [Tryz.f66, go_sem]
    try (refine qand_i hk0 ?_; simp only [Tryz.f66, go_sem])
    refine qif_df c2' ?_
    simp only [Tryz.f66, wd, ww, go_sem]
    try (refine qand_i hk0 ?_; simp only [Tryz.f66, wd, ww, go_sem])
    refine qcall_i (k1) ?_; simp only [Tryz.f66, go_sem]
    refine qif_df hb1 ?_
    simp only [Tryz.f66, go_sem]
    refine qcall_i (k1) ?_; simp only [Tryz.f66, go_sem]
    refine qif_dt c4' ?_
    simp only [Tryz.f66, go_sem]
    try exact ⟨rfl, rfl⟩
    try rfl
  obtain ⟨j, rfl⟩ : ∃ j, k = j + 1 := ⟨k - 1, by omega⟩
  have k2 := k_RootK (irtF_spec j d.m) hl.m0 hb (by omega) (by omega)
  have c4' : ¬ ((j + 1 : Nat) : Int) > (bitLen d.m : Int) := by omega
  have c1' : ¬ ((j + 1 : Nat) : Int) = 1 := by omega
  have e0 : rootO d (j + 1) = if irtF j d.m ^ (j + 1) = d.m then some ⟨d.s, irtF j d.m, d.e / ((j + 1 : Nat) : Int)⟩ else none := by
    unfold rootO; rw [if_neg c1, if_neg (fun h => h c2), if_neg c3, if_neg c4]; rfl
  have h0 : ∀ r, rootO d (j + 1) = some r → (Dy.mk d.s (irtF j d.m) (d.e / ((j + 1 : Nat) : Int))).pv = r.pv := fun r h => by
    rw [e0] at h
    split at h
    · cases h; rfl
    · cases h
  refine ⟨(Dy.mk d.s (irtF j d.m) (d.e / ((j + 1 : Nat) : Int))).pv, ?_, h0, _, _, _, rfl⟩
  have e1 : (rootO d (j + 1)).isSome = decide (irtF j d.m ^ (j + 1) = d.m) := by
    rw [e0]
    by_cases h : irtF j d.m ^ (j + 1) = d.m
    · rw [if_pos h, decide_eq_true h]; rfl
    · rw [if_neg h, decide_eq_false h]; rfl
  rw [e1]
  generalize decide (irtF j d.m ^ (j + 1) = d.m) = bb at *
  generalize irtF j d.m = r at *
  generalize d.e / ((j + 1 : Nat) : Int) = E' at *
  generalize ((j + 1 : Nat) : Int) = KI at *
  simp only [Dy.pv, DP, NN, NL] at k1 k2 ⊢
  refine PC.of_body follows Tryz.func66 (by decide +kernel) rfl (by kernel_rfl) (Nat.le_of_ble_eq_true rfl) (walk ?_)
  simp only [Tryz.f66, go_sem]
  refine qif_df c1' ?_
  simp only [Tryz.f66, go_sem]
  try (refine qand_i hk0 ?_; simp only [Tryz.f66, go_sem])
  refine qif_df c2' ?_
  simp only [Tryz.f66, wd, ww, go_sem]
  try (refine qand_i hk0 ?_; simp only [Tryz.f66, wd, ww, go_sem])
  refine qcall_i (k1) ?_; simp only [Tryz.f66, go_sem]
  refine qif_df hb1 ?_
  simp only [Tryz.f66, go_sem]
  refine qcall_i (k1) ?_; simp only [Tryz.f66, go_sem]
  refine qif_df c4' ?_
  simp only [Tryz.f66, go_sem]
  refine qcall_i (k2) ?_; simp only [Tryz.f66, go_sem]
  cases bb
  · simp only [Tryz.f66, go_sem]
    try exact ⟨rfl, rfl⟩
    try rfl
  · simp only [Tryz.f66, go_sem]
    try exact ⟨rfl, rfl⟩
    try rfl
def raisO (d : Dy) (m : Int) : Option Dy :=
  if 4096 < d.e.natAbs * m.natAbs then none else if d.m = 1 then some ⟨false, 1, d.e * m⟩ else if m < 0 ∨ 54 < m then none
  else if bitLen d.m * m.natAbs ≤ 60000 then some ⟨false, d.m ^ m.natAbs, d.e * m⟩ else none
set_option maxHeartbeats 2000000 in
theorem e_raised {d : Dy} (hm : d.m % 2 = 1) (hb : bitLen d.m ≤ 4000) (he : -1073741824 ≤ d.e ∧ d.e ≤ 1073741824) {m : Int} (h2 : -9223372036854775808 ≤ m) (h3 : m < 9223372036854775808) :
    ∃ v, PC E 67 [d.pv, .int .i64 m] (.tuple [v, .bool (raisO d m).isSome]) ∧ (∀ r, raisO d m = some r → v = r.pv) ∧ ∃ (a b c : PV), v = .agg [a, b, c] := by
  have k1 := e_shift (e := d.e) (m := m) (by omega) (by omega) h2 h3
  have k2 := k_Bits (num_bits (x := d.m) (by omega))
  by_cases c1 : d.e.natAbs * m.natAbs ≤ 4096
  case neg =>
    have e1 : raisO d m = none := by unfold raisO; rw [if_pos (by omega)]
    refine ⟨Dy.zero.pv, ?_, fun r h => (by rw [e1] at h; cases h), _, _, _, rfl⟩
    rw [e1]
    rw [if_neg c1] at k1
    simp only [Dy.pv, DP, NN0, NN, NL, Dy.zero] at k1 k2 ⊢
    refine PC.of_body follows Tryz.func67 (by decide +kernel) rfl (by kernel_rfl) (Nat.le_of_ble_eq_true rfl) (walk ?_)
    simp only [Tryz.f67, go_sem]
    refine qcall_i (k1) ?_; simp only [Tryz.f67, go_sem]
    try exact ⟨rfl, rfl⟩
    try rfl
  rw [if_pos c1] at k1
  by_cases c3 : d.m = 1
  · have e1 : raisO d m = some ⟨false, 1, d.e * m⟩ := by unfold raisO; rw [if_neg (by omega), if_pos c3]
    have hb1 : bitLen d.m = 1 := by rw [c3]; decide
    rw [hb1] at k2
    refine ⟨(Dy.mk false 1 (d.e * m)).pv, ?_, fun r h => by rw [e1] at h; cases h; rfl, _, _, _, rfl⟩
    rw [e1]
    rw [← c3]
    generalize d.e * m = E' at *
    simp only [Dy.pv, DP, NN, NL] at k1 k2 ⊢
    refine PC.of_body follows Tryz.func67 (by decide +kernel) rfl (by kernel_rfl) (Nat.le_of_ble_eq_true rfl) (walk ?_)
    simp only [Tryz.f67, go_sem]
    refine qcall_i (k1) ?_; simp only [Tryz.f67, go_sem]
    refine qcall_i (k2) ?_; simp only [Tryz.f67, go_sem]
    try (refine qif_dt (by decide) ?_)
    try simp only [Tryz.f67, go_sem]
    try exact ⟨rfl, rfl⟩
    try rfl
  have hb1 : ¬ (bitLen d.m : Int) = 1 := fun h => c3 ((bits_one d.m).1 (by omega))
  by_cases c4 : m < 0
  · have e1 : raisO d m = none := by unfold raisO; rw [if_neg (by omega), if_neg c3, if_pos (.inl c4)]
    refine ⟨Dy.zero.pv, ?_, fun r h => (by rw [e1] at h; cases h), _, _, _, rfl⟩
    rw [e1]
    simp only [Dy.pv, DP, NN, NL, Dy.zero] at k1 k2 ⊢
    refine PC.of_body follows Tryz.func67 (by decide +kernel) rfl (by kernel_rfl) (Nat.le_of_ble_eq_true rfl) (walk ?_)
    simp only [Tryz.f67, go_sem]
    refine qcall_i (k1) ?_; simp only [Tryz.f67, go_sem]
    refine qcall_i (k2) ?_; simp only [Tryz.f67, go_sem]
    refine qif_df hb1 ?_
    simp only [Tryz.f67, go_sem]
    refine qif_dt c4 ?_
    simp only [Tryz.f67, go_sem]
    try exact ⟨rfl, rfl⟩
    try rfl
  by_cases c5 : m > 54
  · have e1 : raisO d m = none := by unfold raisO; rw [if_neg (by omega), if_neg c3, if_pos (.inr c5)]
    refine ⟨Dy.zero.pv, ?_, fun r h => (by rw [e1] at h; cases h), _, _, _, rfl⟩
    rw [e1]
    simp only [Dy.pv, DP, NN, NL, Dy.zero] at k1 k2 ⊢
    refine PC.of_body follows Tryz.func67 (by decide +kernel) rfl (by kernel_rfl) (Nat.le_of_ble_eq_true rfl) (walk ?_)
    simp only [Tryz.f67, go_sem]
    refine qcall_i (k1) ?_; simp only [Tryz.f67, go_sem]
    refine qcall_i (k2) ?_; simp only [Tryz.f67, go_sem]
    refine qif_df hb1 ?_
    simp only [Tryz.f67, go_sem]
    refine qif_df c4 ?_
    simp only [Tryz.f67, go_sem]
    refine qif_dt c5 ?_
    simp only [Tryz.f67, go_sem]
    try exact ⟨rfl, rfl⟩
    try rfl
  obtain ⟨n, rfl⟩ : ∃ n : Nat, m = n := ⟨m.toNat, by omega⟩
  obtain ⟨v, k3, hv1, hv2⟩ := t_Pow0 (x := d.m) (n := n) hm (by omega) (by omega)
  by_cases c6 : bitLen d.m * n ≤ 60000
  · have e1 : raisO d (n : Int) = some ⟨false, d.m ^ n, d.e * n⟩ := by unfold raisO; rw [if_neg (by omega), if_neg c3, if_neg (by omega), Int.natAbs_natCast, if_pos c6]
    refine ⟨(Dy.mk false (d.m ^ n) (d.e * n)).pv, ?_, fun r h => by rw [e1] at h; cases h; rfl, _, _, _, rfl⟩
    rw [e1]
    have hv := hv1 c6
    subst hv
    generalize d.e * (n : Int) = E' at *
    generalize d.m ^ n = P at *
    simp only [Dy.pv, DP, NN, NL] at k1 k2 k3 ⊢
    refine PC.of_body follows Tryz.func67 (by decide +kernel) rfl (by kernel_rfl) (Nat.le_of_ble_eq_true rfl) (walk ?_)
    simp only [Tryz.f67, go_sem]
    refine qcall_i (k1) ?_; simp only [Tryz.f67, go_sem]
    refine qcall_i (k2) ?_; simp only [Tryz.f67, go_sem]
    refine qif_df hb1 ?_
    simp only [Tryz.f67, go_sem]
    refine qif_df c4 ?_
    simp only [Tryz.f67, go_sem]
    refine qif_df c5 ?_
    simp only [Tryz.f67, go_sem]
    refine qcall_i (k3) ?_; simp only [Tryz.f67, go_sem]
    try exact ⟨rfl, rfl⟩
    try rfl
  · have e1 : raisO d (n : Int) = none := by unfold raisO; rw [if_neg (by omega), if_neg c3, if_neg (by omega), Int.natAbs_natCast, if_neg c6]
    refine ⟨.agg [.bool false, .lst 0 [], .int .i64 (d.e * n)], ?_, fun r h => (by rw [e1] at h; cases h), _, _, _, rfl⟩
    rw [e1]
    have hv := hv2 c6
    subst hv
    generalize d.e * (n : Int) = E' at *
    simp only [Dy.pv, DP, NN0, NN, NL, Dy.zero] at k1 k2 k3 ⊢
    refine PC.of_body follows Tryz.func67 (by decide +kernel) rfl (by kernel_rfl) (Nat.le_of_ble_eq_true rfl) (walk ?_)
    simp only [Tryz.f67, go_sem]
    refine qcall_i (k1) ?_; simp only [Tryz.f67, go_sem]
    refine qcall_i (k2) ?_; simp only [Tryz.f67, go_sem]
    refine qif_df hb1 ?_
    simp only [Tryz.f67, go_sem]
    refine qif_df c4 ?_
    simp only [Tryz.f67, go_sem]
    refine qif_df c5 ?_
    simp only [Tryz.f67, go_sem]
    refine qcall_i (k3) ?_; simp only [Tryz.f67, go_sem]
    try exact ⟨rfl, rfl⟩
    try rfl
end
section
open Go PG Go.Proofs
open XX
theorem odd_of_pow {r m n : Nat} (h : r ^ n = m) (hm : m % 2 = 1) (hn : 1 ≤ n) : r % 2 = 1 := by
  have h0 : r % 2 = 0 ∨ r % 2 = 1 := by omega
  rcases h0 with h0 | h0
  · obtain ⟨n', rfl⟩ : ∃ n', n = n' + 1 := ⟨n - 1, by omega⟩
    rw [Nat.pow_succ] at h
    have : m % 2 = 0 := by rw [← h, Nat.mul_mod, h0, Nat.mul_zero]
    omega
  · exact h0
theorem rootO_facts {d r : Dy} (hl : LgOk d) {k : Nat} (hk : 1 ≤ k) (h : rootO d k = some r) : r.m % 2 = 1 ∧ bitLen r.m ≤ 4000 ∧ -1073741824 ≤ r.e ∧ r.e ≤ 1073741824 ∧ r.s = false := by
  have hodd := hl.ok.resolve_left (fun h => hl.m0 (by rw [h]; rfl))
  have he := hl.e
  have hb := hl.bits
  have hq : ∀ (q : Int), d.e / (k : Int) = q → -1073741824 ≤ q ∧ q ≤ 1073741824 := by
    rintro q rfl
    have h1 := Int.mul_ediv_add_emod d.e k
    have h2 := Int.emod_nonneg d.e (show (k : Int) ≠ 0 by omega)
    have h3 := Int.emod_lt_of_pos d.e (show (0 : Int) < k by omega)
    rcases Int.le_total 0 (d.e / (k : Int)) with h4 | h4
    · have h5 := Int.mul_le_mul_of_nonneg_right (show (1 : Int) ≤ k by omega) h4
      omega
    · have h5 : -d.e.natAbs - 1 ≤ d.e / (k : Int) := by
        rw [Int.le_ediv_iff_mul_le (by omega)]
        have h6 : ((d.e.natAbs : Int) + 1) * 1 ≤ (d.e.natAbs + 1) * k := Int.mul_le_mul_of_nonneg_left (by omega) (by omega)
        have h7 : (-(d.e.natAbs : Int) - 1) * k = -((d.e.natAbs + 1) * k) := by grind
        rw [h7]
        omega
      omega
  unfold rootO at h
  split at h
  · cases h
    exact ⟨hodd, hb, by omega, by omega, hl.pos⟩
  · split at h
    · cases h
    · split at h
      · cases h
        obtain ⟨q1, q2⟩ := hq _ rfl
        exact ⟨rfl, by show bitLen 1 ≤ 4000; decide, q1, q2, hl.pos⟩
      · split at h
        · cases h
        · split at h
          · rename_i hr
            cases h
            obtain ⟨q1, q2⟩ := hq _ rfl
            refine ⟨odd_of_pow hr hodd hk, ?_, q1, q2, hl.pos⟩
            refine Nat.le_trans (bitLen_mono ?_) hb
            dsimp only
            have h8 : irtF (k - 1) d.m ≤ irtF (k - 1) d.m ^ k := Nat.le_self_pow (n := k) (by omega) _
            rw [hr] at h8
            exact h8
          · cases h
theorem raisO_facts {d r : Dy} (hm : d.m % 2 = 1) {m : Int} (h : raisO d m = some r) : r.m % 2 = 1 ∧ bitLen r.m ≤ 60001 ∧ -4096 ≤ r.e ∧ r.e ≤ 4096 ∧ r.s = false := by
  have hem : d.e.natAbs * m.natAbs ≤ 4096 → -4096 ≤ d.e * m ∧ d.e * m ≤ 4096 := fun h => by
    have h1 : (d.e * m).natAbs = d.e.natAbs * m.natAbs := Int.natAbs_mul _ _
    omega
  unfold raisO at h
  split at h
  · cases h
  · rename_i hc
    obtain ⟨q1, q2⟩ := hem (by omega)
    split at h
    · cases h
      exact ⟨rfl, by show bitLen 1 ≤ _; decide, q1, q2, rfl⟩
    · split at h
      · cases h
      · split at h
        · rename_i hb
          cases h
          exact ⟨odd_pow hm _, Nat.le_trans (pow_bits _ _) (by omega), q1, q2, rfl⟩
        · cases h
def powO (d : Dy) (M : Int) (K : Nat) : Option Dy :=
  if M.tdiv ((Nat.gcd M.natAbs K : Nat) : Int) = 0 then some (norm 1 0) else
  match rootO d (K / Nat.gcd M.natAbs K) with
  | none => none
  | some r => match raisO r (M.tdiv ((Nat.gcd M.natAbs K : Nat) : Int)) with
    | none => none
    | some p => if brkP p then some p else none
theorem zero_pv : Dy.zero.pv = .agg [.bool false, .lst 0 [], .int .i64 0] := rfl
def powPV : Option Dy → PV
  | some p => .tuple [p.pv, .bool true, .int .i64 0]
  | none => .tuple [Dy.zero.pv, .bool false, .int .i64 0]
set_option maxHeartbeats 2000000 in
theorem e_Power {p : PV} {d : Dy} (h : RD p d) (hl : LgOk d) {M : Int} {K : Nat} (hM : -9223372036854775808 < M ∧ M < 9223372036854775808) (hK : 1 ≤ K) (hK2 : K < 4611686018427387905) :
    PC E 23 [p, .agg [.int .i64 M, .int .i64 (K : Nat)]] (powPV (powO d M K)) := by
  have k1 := r_Bare h
  rw [okD_of hl.fits] at k1
  have hR : RD d.pv d := RD.fit hl.ok (by have := hl.bits; omega) hl.fits
  have k2 := e_Low hM hK (by omega)
  have k3 := r_Sign hR
  rw [hl.sg] at k3
  have k4 := c_dOf 1 (by decide) (by decide)
  have hg0 : 0 < Nat.gcd M.natAbs K := Nat.gcd_pos_of_pos_right _ (by omega)
  have hgK : Nat.gcd M.natAbs K ≤ K := Nat.gcd_le_right _ (by omega)
  have hkq : 1 ≤ K / Nat.gcd M.natAbs K := Nat.div_pos hgK hg0
  have hkq2 := Nat.div_le_self K (Nat.gcd M.natAbs K)
  have hMt : (M.tdiv ((Nat.gcd M.natAbs K : Nat) : Int)).natAbs ≤ M.natAbs := by
    rw [Int.natAbs_tdiv]
    exact Nat.div_le_self _ _
  obtain ⟨R, hRr⟩ : ∃ R, R = powPV (powO d M K) := ⟨_, rfl⟩
  rw [← hRr]
  unfold powO at hRr
  generalize M.tdiv ((Nat.gcd M.natAbs K : Nat) : Int) = m at *
  generalize K / Nat.gcd M.natAbs K = k at *
  generalize norm 1 0 = N1 at *
  obtain ⟨s0, q0, x0, e0, rfl, -⟩ := h
  have kd : d.pv = .agg [.bool d.s, NN d.m, .int .i64 d.e] := rfl
  by_cases c1 : m = 0
  · rw [if_pos c1] at hRr
    simp only [powPV, Dy.pv, DP, NN, NL] at k1 k2 k3 k4 hRr ⊢
    refine PC.of_body follows Tryz.func23 (by decide +kernel) rfl (by kernel_rfl) (Nat.le_of_ble_eq_true rfl) (walk ?_)
    simp only [Tryz.f23, go_sem]
    refine qcall_i (k1) ?_; simp only [Tryz.f23, go_sem]
    refine qcall_i (k2) ?_; simp only [Tryz.f23, go_sem]
    refine qcall_i (k3) ?_; simp only [Tryz.f23, go_sem]
    try (refine qif_df (by decide) ?_)
    try simp only [Tryz.f23, go_sem]
    refine qif_dt c1 ?_
    simp only [Tryz.f23, go_sem]
    refine qcall_i (k4) ?_; simp only [Tryz.f23, go_sem]
    first | (rw [hRr]; done) | (rw [hRr]; rfl)
  rw [if_neg c1] at hRr
  obtain ⟨v, k5, hv1, v1, v2, v3, hv2⟩ := e_rooted hl hkq (by omega)
  cases hr : rootO d k with
  | none =>
    rw [hr] at hRr k5
    simp only [powPV, zero_pv, Dy.pv, DP, NN, NL, Option.isSome_none] at k1 k2 k3 k4 k5 hRr ⊢
    rw [hv2] at k5
    refine PC.of_body follows Tryz.func23 (by decide +kernel) rfl (by kernel_rfl) (Nat.le_of_ble_eq_true rfl) (walk ?_)
    simp only [Tryz.f23, go_sem]
    refine qcall_i (k1) ?_; simp only [Tryz.f23, go_sem]
    refine qcall_i (k2) ?_; simp only [Tryz.f23, go_sem]
    refine qcall_i (k3) ?_; simp only [Tryz.f23, go_sem]
    try (refine qif_df (by decide) ?_)
    try simp only [Tryz.f23, go_sem]
    refine qif_df c1 ?_
    simp only [Tryz.f23, go_sem]
    refine qcall_i (k5) ?_; simp only [Tryz.f23, go_sem]
    first | (rw [hRr]; done) | (rw [hRr]; rfl)
  | some r =>
    rw [hr] at hRr k5
    have hv := hv1 r hr
    subst hv
    obtain ⟨f1, f2, f3, f4, f5⟩ := rootO_facts hl hkq hr
    obtain ⟨v', k6, hv3, v4, v5, v6, hv4⟩ := e_raised f1 f2 ⟨f3, f4⟩ (m := m) (by omega) (by omega)
    dsimp only at hRr
    cases hp : raisO r m with
    | none =>
      rw [hp] at hRr k6
      simp only [powPV, zero_pv, Dy.pv, DP, NN, NL, Option.isSome_none, Option.isSome_some] at k1 k2 k3 k4 k5 k6 hRr ⊢
      rw [hv4] at k6
      refine PC.of_body follows Tryz.func23 (by decide +kernel) rfl (by kernel_rfl) (Nat.le_of_ble_eq_true rfl) (walk ?_)
      simp only [Tryz.f23, go_sem]
      refine qcall_i (k1) ?_; simp only [Tryz.f23, go_sem]
      refine qcall_i (k2) ?_; simp only [Tryz.f23, go_sem]
      refine qcall_i (k3) ?_; simp only [Tryz.f23, go_sem]
      try (refine qif_df (by decide) ?_)
      try simp only [Tryz.f23, go_sem]
      refine qif_df c1 ?_
      simp only [Tryz.f23, go_sem]
      refine qcall_i (k5) ?_; simp only [Tryz.f23, go_sem]
      refine qcall_i (k6) ?_; simp only [Tryz.f23, go_sem]
      first | (rw [hRr]; done) | (rw [hRr]; rfl)
    | some p =>
      rw [hp] at hRr k6
      have hv := hv3 p hp
      subst hv
      obtain ⟨g1, g2, g3, g4, g5⟩ := raisO_facts f1 hp
      have hpf : p.fits := ⟨by omega, by omega⟩
      have hpR : RD p.pv p := RD.fit (.inr g1) (by omega) hpf
      have k7 := c_Break hpR
      have hbd : decide (p.fits ∧ brkP p) = decide (brkP p) := decide_eq_decide.2 ⟨fun h => h.2, fun h => ⟨hpf, h⟩⟩
      rw [hbd] at k7
      have k8 := r_Bare hpR
      rw [okD_of hpf] at k8
      dsimp only at hRr
      by_cases c2 : brkP p
      · rw [if_pos c2] at hRr
        rw [decide_eq_true c2] at k7
        simp only [powPV, Dy.pv, Dy.zero, DP, NN, NL, Option.isSome_some] at k1 k2 k3 k4 k5 k6 k7 k8 hRr ⊢
        refine PC.of_body follows Tryz.func23 (by decide +kernel) rfl (by kernel_rfl) (Nat.le_of_ble_eq_true rfl) (walk ?_)
        simp only [Tryz.f23, go_sem]
        refine qcall_i (k1) ?_; simp only [Tryz.f23, go_sem]
        refine qcall_i (k2) ?_; simp only [Tryz.f23, go_sem]
        refine qcall_i (k3) ?_; simp only [Tryz.f23, go_sem]
        try (refine qif_df (by decide) ?_)
        try simp only [Tryz.f23, go_sem]
        refine qif_df c1 ?_
        simp only [Tryz.f23, go_sem]
        refine qcall_i (k5) ?_; simp only [Tryz.f23, go_sem]
        refine qcall_i (k6) ?_; simp only [Tryz.f23, go_sem]
        refine qcall_i (k7) ?_; simp only [Tryz.f23, go_sem]
        refine qcall_i (k8) ?_; simp only [Tryz.f23, go_sem]
        first | (rw [hRr]; done) | (rw [hRr]; rfl)
      · rw [if_neg c2] at hRr
        rw [decide_eq_false c2] at k7
        simp only [powPV, zero_pv, Dy.pv, DP, NN, NL, Option.isSome_some] at k1 k2 k3 k4 k5 k6 k7 k8 hRr ⊢
        refine PC.of_body follows Tryz.func23 (by decide +kernel) rfl (by kernel_rfl) (Nat.le_of_ble_eq_true rfl) (walk ?_)
        simp only [Tryz.f23, go_sem]
        refine qcall_i (k1) ?_; simp only [Tryz.f23, go_sem]
        refine qcall_i (k2) ?_; simp only [Tryz.f23, go_sem]
        refine qcall_i (k3) ?_; simp only [Tryz.f23, go_sem]
        try (refine qif_df (by decide) ?_)
        try simp only [Tryz.f23, go_sem]
        refine qif_df c1 ?_
        simp only [Tryz.f23, go_sem]
        refine qcall_i (k5) ?_; simp only [Tryz.f23, go_sem]
        refine qcall_i (k6) ?_; simp only [Tryz.f23, go_sem]
        refine qcall_i (k7) ?_; simp only [Tryz.f23, go_sem]
        first | (rw [hRr]; done) | (rw [hRr]; rfl)
end
end
section
section
open Go PG Go.Proofs
open XX
def lowT : Nat → Nat → Int → Nat × Int
  | 0, n, e => (n, e)
  | f + 1, n, e => if n % 2 = 0 ∧ 0 < e then lowT f (n / 2) (e - 1) else (n, e)
theorem lowT_facts : ∀ (f n : Nat) (e : Int), 1 ≤ n → n < 2 ^ f → 1 ≤ (lowT f n e).1 ∧ (lowT f n e).1 ≤ n ∧ (lowT f n e).2 ≤ e ∧ (0 ≤ e → 0 ≤ (lowT f n e).2) ∧ (e ≤ 0 → (lowT f n e).2 = e)
  | 0, n, e, h1, h2 => by
    rw [Nat.pow_zero] at h2; omega
  | f + 1, n, e, h1, h2 => by
    unfold lowT
    rw [Nat.pow_succ] at h2
    split
    · rename_i h
      obtain ⟨g1, g2, g3, g4, g5⟩ := lowT_facts f (n / 2) (e - 1) (by omega) (by omega)
      exact ⟨g1, by omega, by omega, fun _ => g4 (by omega), fun _ => by omega⟩
    · exact ⟨h1, Nat.le_refl _, Int.le_refl _, fun h => h, fun _ => rfl⟩
def lowN (d : Dy) (n : Nat) : Nat := (lowT 64 n d.e).1
def lowE (d : Dy) (n : Nat) : Int := (lowT 64 n d.e).2
def lowG (d : Dy) (n : Nat) : Nat := Nat.gcd (lowN d n) d.m
def lowD (d : Dy) (n : Nat) : Dy := ⟨d.s, d.m / lowG d n, lowE d n⟩
def lowQ (d : Dy) (n : Nat) : Nat := lowN d n / lowG d n
set_option maxHeartbeats 4000000 in
theorem o_lowest {s : Bool} {P : PV} {e : Int} {d : Dy} (h : RD (DP s P e) d) (h0 : d.m ≠ 0) (hW : d.m < W) (hf : d.fits) {n : Nat} (hn1 : 1 ≤ n) (hn : n < W) :
    PC E 233 [.agg [.bool s, P, .int .i64 e, .int .u64 n]] (.agg [.bool (lowD d n).s, NN (lowD d n).m, .int .i64 (lowD d n).e, .int .u64 (lowQ d n)]) := by
  have k1 := r_Bare h
  rw [okD_of hf] at k1
  have hR : RD d.pv d := RD.fit h.ok h.bits hf
  have k2 := r_Sign hR
  have hsg : ¬ d.sg = 0 := by unfold Dy.sg; rw [if_neg h0]; split <;> omega
  have hn64 : n < 2 ^ 64 := hn
  obtain ⟨t1, t2, t3, t4, t5⟩ := lowT_facts 64 n d.e hn1 hn64
  have hfe := hf.1
  have hfe2 := hf.2
  have eN : NN d.m = .lst 1 [.int .u64 (d.m : Nat)] := by
    unfold NN
    rw [dg_one h0 hW]
    rfl
  have eD : (lowD d n).s = d.s ∧ (lowD d n).m = d.m / lowG d n ∧ (lowD d n).e = lowE d n := ⟨rfl, rfl, rfl⟩
  rw [eD.1, eD.2.1, eD.2.2]
  have hG0 : 0 < lowG d n := Nat.gcd_pos_of_pos_right _ (by omega)
  have hGm : lowG d n ≤ d.m := Nat.gcd_le_right _ (by omega)
  have hGn : lowG d n ≤ lowN d n := Nat.gcd_le_left _ t1
  have kd1 := c_Div64 (hi := 0) (lo := d.m) (y := lowN d n) (show lowN d n < W from Nat.lt_of_le_of_lt t2 hn) hW (by show 0 < (lowT 64 n d.e).1; omega)
  have kd2 := c_Div64 (hi := 0) (lo := d.m) (y := lowG d n) (by omega) hW hG0
  rw [Nat.zero_mul, Nat.zero_add] at kd1 kd2
  have hq := Nat.div_le_self d.m (lowG d n)
  have kb := n_Bare [d.m / lowG d n] (by simp) (Ok.cons (by omega) Ok.nil)
  have evl : vl [d.m / lowG d n] = d.m / lowG d n := by simp [vl, dv]
  rw [evl] at kb
  have hgr : Nat.gcd (lowN d n) (d.m % lowN d n) = lowG d n := by
    unfold lowG
    rw [Nat.gcd_comm, ← Nat.gcd_rec]
  have hNW : lowN d n < W := Nat.lt_of_le_of_lt t2 hn
  have eQ : lowQ d n = lowN d n / lowG d n := rfl
  rw [eQ]
  have hqn := Nat.div_le_self (lowN d n) (lowG d n)
  have wQ : IntKind.wrap .u64 (((lowN d n : Nat) : Int).tdiv ((lowG d n : Nat) : Int)) = ((lowN d n / lowG d n : Nat) : Int) := by
    rw [Int.tdiv_eq_ediv_of_nonneg (by omega)]
    exact wrap_nat64 (a := lowN d n / lowG d n) (by omega)
  have hJ : lowT 64 n d.e = (lowN d n, lowE d n) := rfl
  have hG0' : ¬ ((lowG d n : Nat) : Int) = 0 := by omega
  have hN0' : ¬ ((lowN d n : Nat) : Int) = 0 := by have : 1 ≤ lowN d n := t1; omega
  have z0 : (0 : Int).tmod ((lowN d n : Nat) : Int) = 0 := Int.zero_tmod _
  have hmodlt : d.m % lowN d n < lowN d n := Nat.mod_lt _ t1
  clear t1 t2 t3 t4 t5 eD
  generalize lowN d n / lowG d n = QN at *
  generalize d.m / lowG d n = MQ at *
  generalize d.m % lowG d n = MR at *
  generalize d.m / lowN d n = MQ1 at *
  generalize d.m % lowN d n = RE at *
  generalize lowG d n = G at *
  generalize lowN d n = N' at *
  generalize lowE d n = E' at *
  simp only [DP, Dy.pv, eN, u] at k1 k2 kd1 kd2
  simp only [NL, U, List.map_cons, List.map_nil, List.length_cons, List.length_nil, Nat.zero_add] at kb
  simp only [NN, NL] at kb ⊢
  refine PC.of_body follows Tryz.func233 (by decide +kernel) rfl (by kernel_rfl) (Nat.le_of_ble_eq_true rfl) (walk ?_)
  simp only [Tryz.f233, go_sem]
  refine qcall_i (k1) ?_; simp only [Tryz.f233, go_sem]
  refine qcall_i (k2) ?_; simp only [Tryz.f233, go_sem]
  refine qif_df hsg ?_
  simp only [Tryz.f233, go_sem]
  refine qif_df (by omega) ?_
  simp only [Tryz.f233, go_sem]
  refine PLoop.intro (fun i : Nat × Nat × Int => ⟨[(1, .ptr 1 0), (2, .ptr 2 0), (3, .ptr 3 0), (5, .val (.int .u64 i.2.1))],
    [(2, (.box [.bool false, .lst 0 [], .int .i64 0, .int .u64 0], false)), (3, (.box [.bool d.s, .lst 1 [.int .u64 d.m], .int .i64 i.2.2], false))]⟩)
    (fun i => lowT i.1 i.2.1 i.2.2 = (N', E') ∧ 1 ≤ i.2.1 ∧ i.2.1 < 2 ^ i.1 ∧ i.1 ≤ 64 ∧ -1073741824 ≤ i.2.2 ∧ i.2.2 ≤ 1073741824) (fun i => i.1) (64, n, d.e) ⟨hJ, hn1, hn64, Nat.le_refl _, hfe, hfe2⟩ ?_ fun i hi => walk ?_
  · simp [Wk, sget, killL, kill1, SV.key]
  obtain ⟨f, a, e'⟩ := i
  dsimp only at hi ⊢
  obtain ⟨j1, j2, j3, j4, j5, j6⟩ := hi
  have ha64 : a < W := Nat.lt_of_lt_of_le j3 (Nat.le_trans (Nat.pow_le_pow_right (by decide) j4) (by decide))
  have em : ((a : Int).tmod 2 = 0) = (a % 2 = 0) := propext (by rw [Int.tmod_eq_emod_of_nonneg (by omega)]; omega)
  have eq2 : IntKind.wrap .u64 ((a : Int).tdiv 2) = ((a / 2 : Nat) : Int) := by
    rw [Int.tdiv_eq_ediv_of_nonneg (by omega)]
    exact wrap_nat64 (a := a / 2) (by omega)
  have we : IntKind.wrap .i64 (e' - 1) = e' - 1 := wrap64 (by omega) (by omega)
  have fin : ¬ (a % 2 = 0 ∧ 0 < e') → a = N' ∧ e' = E' := fun h => by
    cases f with
    | zero => rw [Nat.pow_zero] at j3; omega
    | succ f =>
      unfold lowT at j1
      rw [if_neg h] at j1
      cases j1; exact ⟨rfl, rfl⟩
  simp only [Tryz.f233, em, Int.cast_ofNat_Int, go_sem]
  by_cases hc : a % 2 = 0 ∧ 0 < e'
  · obtain ⟨g, rfl⟩ : ∃ g, f = g + 1 := ⟨f - 1, by
      rcases Nat.eq_zero_or_pos f with h | h
      · subst h; rw [Nat.pow_zero] at j3; omega
      · omega⟩
    unfold lowT at j1
    rw [if_pos hc] at j1
    rw [Nat.pow_succ] at j3
    refine qif_dt hc.1 ?_
    simp only [Tryz.f233, em, Int.cast_ofNat_Int, go_sem]
    refine qif_dt hc.2 ?_
    simp only [Tryz.f233, eq2, we, go_sem]
    refine ⟨(g, a / 2, e' - 1), ⟨j1, by dsimp only; omega, by dsimp only; omega, by dsimp only; omega, by dsimp only; omega, by dsimp only; omega⟩, Nat.lt_succ_self g, ?_⟩
    simp [Wk, sget, killL, kill1, SV.key]
  obtain ⟨rfl, rfl⟩ := fin hc
  have v1 : IntKind.wrap .i64 (1 - 1) = 0 := by decide
  have v2 : IntKind.wrap .i64 (0 - 1) = -1 := by decide
  by_cases hm : a % 2 = 0
  case' pos =>
    refine qif_dt hm ?_
    simp only [Tryz.f233, em, Int.cast_ofNat_Int, go_sem]
    refine qif_df (fun h => hc ⟨hm, h⟩) ?_
    simp only [Tryz.f233, v1, go_sem]
  case' neg =>
    refine qif_df hm ?_
    simp only [Tryz.f233, v1, go_sem]
  all_goals
    refine qloop_u 2 ?_
    simp only [Tryz.f233, qunr_succ, Int.cast_ofNat_Int, List.range_zero, List.getD_cons_zero, List.getD_cons_succ, Nat.reduceMod, v1, v2, z0, go_sem]
    refine qif_dt (by decide) ?_
    simp only [Tryz.f233, qunr_succ, Int.cast_ofNat_Int, List.range_zero, List.getD_cons_zero, List.getD_cons_succ, Nat.reduceMod, v1, v2, z0, go_sem]
    refine qand_i hN0' ?_
    simp only [Tryz.f233, qunr_succ, Int.cast_ofNat_Int, List.range_zero, List.getD_cons_zero, List.getD_cons_succ, Nat.reduceMod, v1, v2, z0, List.getElem?_cons_zero, Int.toNat_zero, go_sem]
    refine qcall_i (kd1) ?_; simp only [Tryz.f233, qunr_succ, Int.cast_ofNat_Int, List.range_zero, List.getD_cons_zero, List.getD_cons_succ, Nat.reduceMod, v1, v2, z0, go_sem]
    refine qif_df (by decide) ?_
    simp only [Tryz.f233, qunr_succ, Int.cast_ofNat_Int, List.range_zero, List.getD_cons_zero, List.getD_cons_succ, Nat.reduceMod, v1, v2, z0, go_sem]
    refine PLoop.intro (fun i : Nat × Nat => ⟨[(1, .ptr 1 0), (2, .ptr 2 0), (3, .ptr 3 0), (5, .val (.int .u64 a)), (6, .val (.int .u64 i.1)), (7, .val (.int .u64 i.2))],
      [(2, (.box [.bool false, .lst 0 [], .int .i64 0, .int .u64 0], false)), (3, (.box [.bool d.s, .lst 1 [.int .u64 d.m], .int .i64 e'], false))]⟩)
      (fun i => Nat.gcd i.1 i.2 = G) (fun i => i.2) (a, RE) hgr ?_ fun i hi => walk ?_
    · simp [Wk, sget, killL, kill1, SV.key]
    obtain ⟨x, b⟩ := i
    dsimp only at hi ⊢
    simp only [Tryz.f233, go_sem]
    refine qif_d (fun h => ?_) (fun h => ?_)
    · have hb0 : ¬ (b : Int) = 0 := by omega
      have et : (x : Int).tmod b = ((x % b : Nat) : Int) := by rw [Int.tmod_eq_emod_of_nonneg (by omega)]; rfl
      simp only [Tryz.f233, go_sem]
      refine qand_i hb0 ?_
      simp only [Tryz.f233, et, go_sem]
      refine ⟨(b, x % b), ?_, Nat.mod_lt _ (by omega), ?_⟩
      · dsimp only
        rw [Nat.gcd_comm b, ← Nat.gcd_rec, Nat.gcd_comm]; exact hi
      · simp [Wk, sget, killL, kill1, SV.key]
    have hb : b = 0 := by omega
    subst hb
    rw [Nat.gcd_zero_right] at hi
    subst hi
    simp only [Tryz.f233, v1, List.replicate_succ, List.replicate_zero, go_sem]
    refine qand_i (by decide) ?_
    simp only [Tryz.f233, v1, List.replicate_succ, List.replicate_zero, go_sem]
    refine qloop_u 2 ?_
    simp only [Tryz.f233, qunr_succ, Int.cast_ofNat_Int, List.range_zero, List.getD_cons_zero, List.getD_cons_succ, Nat.reduceMod, v1, v2, z0, go_sem]
    refine qif_dt (by decide) ?_
    simp only [Tryz.f233, qunr_succ, Int.cast_ofNat_Int, List.range_zero, List.getD_cons_zero, List.getD_cons_succ, Nat.reduceMod, v1, v2, z0, List.getElem?_cons_zero, Int.toNat_zero, go_sem]
    refine qcall_i (kd2) ?_; simp only [Tryz.f233, qunr_succ, Int.cast_ofNat_Int, List.range_zero, List.getD_cons_zero, List.getD_cons_succ, Nat.reduceMod, v1, v2, z0, List.getElem?_cons_zero, Int.toNat_zero, List.set_cons_zero, go_sem]
    refine qif_df (by decide) ?_
    simp only [Tryz.f233, qunr_succ, Int.cast_ofNat_Int, List.range_zero, List.getD_cons_zero, List.getD_cons_succ, Nat.reduceMod, v1, v2, z0, go_sem]
    refine qcall_i (kb) ?_; simp only [Tryz.f233, go_sem]
    refine qand_i hG0' ?_
    simp only [Tryz.f233, wQ, go_sem]
end
section
open Go PG Go.Proofs
open XX
def wholeOk (d : Dy) (n : Nat) : Prop := exOfOk (lowD d n) ∧ lowQ d n ≤ 4611686018427387904 ∧ exK (lowD d n) ≤ 4611686018427387904 / lowQ d n
instance (d : Dy) (n : Nat) : Decidable (wholeOk d n) := inferInstanceAs (Decidable (_ ∧ _))
theorem low_facts {d : Dy} {n : Nat} (h0 : d.m ≠ 0) (hod : d.m % 2 = 1) (hn1 : 1 ≤ n) (hn : n < W) : (lowD d n).m % 2 = 1 ∧ (lowD d n).m ≤ d.m ∧ (lowD d n).e ≤ d.e ∧ min d.e 0 ≤ (lowD d n).e ∧ 1 ≤ lowQ d n ∧ lowQ d n ≤ n ∧ (lowD d n).s = d.s := by
  obtain ⟨t1, t2, t3, t4, t5⟩ := lowT_facts 64 n d.e hn1 hn
  have hG0 : 0 < lowG d n := Nat.gcd_pos_of_pos_right _ (by omega)
  have hGn : lowG d n ≤ lowN d n := Nat.gcd_le_left _ t1
  have hdv : lowG d n ∣ d.m := Nat.gcd_dvd_right _ _
  have he : min d.e 0 ≤ lowE d n := by
    show min d.e 0 ≤ (lowT 64 n d.e).2
    rcases Int.le_total 0 d.e with h | h
    · have := t4 h; omega
    · have := t5 h; omega
  refine ⟨?_, Nat.div_le_self _ _, t3, he, Nat.div_pos hGn hG0, Nat.le_trans (Nat.div_le_self _ _) t2, rfl⟩
  obtain ⟨c, hc⟩ := hdv
  have e1 : (lowD d n).m = c := Nat.div_eq_of_eq_mul_right hG0 hc
  rw [e1]
  have h1 : c % 2 = 0 ∨ c % 2 = 1 := by omega
  rcases h1 with h1 | h1
  · rw [hc, Nat.mul_mod, h1, Nat.mul_zero] at hod
    omega
  · exact h1
theorem low_lim {a : Ask} (ha : AskOk a) : Lim 1200 (lowD a.y a.n) := by
  have hod := ha.y.resolve_left (fun h => ha.y0 (by rw [h]; rfl))
  obtain ⟨f1, f2, f3, f4, f5, f6, f7⟩ := low_facts ha.y0 hod ha.n1 ha.nW
  have h1 := ha.yt
  have h2 := ha.yb
  have h3 := bitLen_pos ha.y0
  have h4 := top_eq ha.y0
  have hm : (lowD a.y a.n).m ≠ 0 := by omega
  have h5 := top_eq hm
  have h6 := bitLen_mono f2
  exact lim_top (.inr f1) hm (by omega) (by omega)
set_option maxHeartbeats 2000000 in
theorem o_whole {p : PV} {a : Ask} (h : RA p a) (ha : AskOk a) {s : Bool} {P : PV} {e : Int} (hy : RD (DP s P e) a.y) :
    PC E 213 [.agg [.bool s, P, .int .i64 e, .int .u64 (a.n : Nat)]] (if wholeOk a.y a.n then .tuple [.agg [.int .i64 (exM (lowD a.y a.n)), .int .i64 (exK (lowD a.y a.n) * lowQ a.y a.n : Nat)], .bool true] else .tuple [.agg [.int .i64 0, .int .i64 0], .bool false]) := by
  have hod := ha.y.resolve_left (fun h => ha.y0 (by rw [h]; rfl))
  have hmW : a.y.m < W := (bitLen_le _ 64).1 ha.yb
  have k1 := o_lowest hy ha.y0 hmW (ha.yLim.fits (by decide)) ha.n1 ha.nW
  have hl := low_lim ha
  obtain ⟨f1, f2, f3, f4, f5, f6, f7⟩ := low_facts ha.y0 hod ha.n1 ha.nW
  have k2 := e_Of (hl.RD (by decide)) hl (by decide)
  have hnW := ha.nW
  obtain ⟨R, hR⟩ : ∃ R, R = (if wholeOk a.y a.n then PV.tuple [.agg [.int .i64 (exM (lowD a.y a.n)), .int .i64 (exK (lowD a.y a.n) * lowQ a.y a.n : Nat)], .bool true] else .tuple [.agg [.int .i64 0, .int .i64 0], .bool false]) := ⟨_, rfl⟩
  rw [← hR]
  by_cases c1 : exOfOk (lowD a.y a.n)
  case neg =>
    rw [if_neg c1] at k2
    rw [if_neg (fun h : wholeOk a.y a.n => c1 h.1)] at hR
    simp only [DP, Dy.pv, NN, NL] at k1 k2 ⊢
    refine PC.of_body follows Tryz.func213 (by decide +kernel) rfl (by kernel_rfl) (Nat.le_of_ble_eq_true rfl) (walk ?_)
    simp only [Tryz.f213, go_sem]
    refine qcall_i (k1) ?_; simp only [Tryz.f213, go_sem]
    refine qcall_i (k2) ?_; simp only [Tryz.f213, go_sem]
    first | (rw [hR]; done) | (rw [hR]; rfl)
  rw [if_pos c1] at k2
  by_cases c2 : lowQ a.y a.n ≤ 4611686018427387904
  case neg =>
    rw [if_neg (fun h : wholeOk a.y a.n => c2 h.2.1)] at hR
    simp only [DP, Dy.pv, NN, NL] at k1 k2 ⊢
    refine PC.of_body follows Tryz.func213 (by decide +kernel) rfl (by kernel_rfl) (Nat.le_of_ble_eq_true rfl) (walk ?_)
    simp only [Tryz.f213, go_sem]
    refine qcall_i (k1) ?_; simp only [Tryz.f213, go_sem]
    refine qcall_i (k2) ?_; simp only [Tryz.f213, go_sem]
    refine qif_dt (by omega) ?_
    simp only [Tryz.f213, go_sem]
    first | (rw [hR]; done) | (rw [hR]; rfl)
  have hq0 : ¬ ((lowQ a.y a.n : Nat) : Int) = 0 := by omega
  have hdq := Nat.div_le_self 4611686018427387904 (lowQ a.y a.n)
  have w1 : IntKind.wrap .u64 (Int.tdiv 4611686018427387904 ((lowQ a.y a.n : Nat) : Int)) = ((4611686018427387904 / lowQ a.y a.n : Nat) : Int) := by
    rw [Int.tdiv_eq_ediv_of_nonneg (by decide)]
    exact wrap_nat64 (a := 4611686018427387904 / lowQ a.y a.n) (Nat.lt_of_le_of_lt hdq (by decide))
  have w2 : IntKind.wrap .i64 ((4611686018427387904 / lowQ a.y a.n : Nat) : Int) = ((4611686018427387904 / lowQ a.y a.n : Nat) : Int) := by
    generalize 4611686018427387904 / lowQ a.y a.n = q at *
    exact wrap64 (by omega) (by omega)
  by_cases c3 : exK (lowD a.y a.n) ≤ 4611686018427387904 / lowQ a.y a.n
  case neg =>
    rw [if_neg (fun h : wholeOk a.y a.n => c3 h.2.2)] at hR
    generalize 4611686018427387904 / lowQ a.y a.n = q at *
    generalize lowQ a.y a.n = N' at *
    simp only [DP, Dy.pv, NN, NL] at k1 k2 ⊢
    refine PC.of_body follows Tryz.func213 (by decide +kernel) rfl (by kernel_rfl) (Nat.le_of_ble_eq_true rfl) (walk ?_)
    simp only [Tryz.f213, go_sem]
    refine qcall_i (k1) ?_; simp only [Tryz.f213, go_sem]
    refine qcall_i (k2) ?_; simp only [Tryz.f213, go_sem]
    refine qif_df (by omega) ?_
    simp only [Tryz.f213, go_sem]
    refine qand_i hq0 ?_
    simp only [Tryz.f213, w1, w2, go_sem]
    refine qif_dt (by omega) ?_
    simp only [Tryz.f213, go_sem]
    first | (rw [hR]; done) | (rw [hR]; rfl)
  rw [if_pos (show wholeOk a.y a.n from ⟨c1, c2, c3⟩)] at hR
  have hprod : exK (lowD a.y a.n) * lowQ a.y a.n ≤ 4611686018427387904 := Nat.le_trans (Nat.mul_le_mul_right _ c3) (Nat.div_mul_le_self _ _)
  have w3 : IntKind.wrap .i64 ((lowQ a.y a.n : Nat) : Int) = ((lowQ a.y a.n : Nat) : Int) := wrap64 (by omega) (by omega)
  have w4 : IntKind.wrap .i64 (((exK (lowD a.y a.n) : Nat) : Int) * ((lowQ a.y a.n : Nat) : Int)) = ((exK (lowD a.y a.n) * lowQ a.y a.n : Nat) : Int) := by
    rw [← Int.natCast_mul]
    exact wrap64 (by omega) (by omega)
  generalize exK (lowD a.y a.n) * lowQ a.y a.n = KN at *
  generalize 4611686018427387904 / lowQ a.y a.n = q at *
  generalize lowQ a.y a.n = N' at *
  simp only [DP, Dy.pv, NN, NL] at k1 k2 ⊢
  refine PC.of_body follows Tryz.func213 (by decide +kernel) rfl (by kernel_rfl) (Nat.le_of_ble_eq_true rfl) (walk ?_)
  simp only [Tryz.f213, go_sem]
  refine qcall_i (k1) ?_; simp only [Tryz.f213, go_sem]
  refine qcall_i (k2) ?_; simp only [Tryz.f213, go_sem]
  refine qif_df (by omega) ?_
  simp only [Tryz.f213, go_sem]
  refine qand_i hq0 ?_
  simp only [Tryz.f213, w1, w2, go_sem]
  refine qif_df (by omega) ?_
  simp only [Tryz.f213, w3, w4, go_sem]
  first | (rw [hR]; done) | (rw [hR]; rfl)
def exactO (a : Ask) : Option Dy :=
  if sgS a = 0 then some (norm 1 0) else if wholeOk a.y a.n then powO a.x (exM (lowD a.y a.n)) (exK (lowD a.y a.n) * lowQ a.y a.n) else none
def exPVd : Option Dy → PV
  | some p => .tuple [p.pv, .bool true]
  | none => .tuple [Dy.zero.pv, .bool false]
theorem exM_lt {d : Dy} (h : exOfOk d) : -4611686018427387904 < exM d ∧ exM d < 4611686018427387904 := by
  have := exU_lt h
  unfold exM
  split <;> omega
theorem o_Exact {p : PV} {a : Ask} (h : RA p a) (ha : AskOk a) : PC E 152 [p] (exPVd (exactO a)) := by
  have k1 := o_Right h ha
  have k2 := o_Sign h ha
  have h' := h
  obtain ⟨s1, P1, e1, s2, P2, e2, rfl, h1, h2⟩ := h'
  have k3 := c_dOf 1 (by decide) (by decide)
  have k4 := o_whole h ha h2
  obtain ⟨R, hR⟩ : ∃ R, R = exPVd (exactO a) := ⟨_, rfl⟩
  rw [← hR]
  unfold exactO at hR
  by_cases c1 : sgS a = 0
  · rw [if_pos c1] at hR
    rw [c1] at k2
    generalize norm 1 0 = N1 at *
    simp only [exPVd, DP, Dy.pv, NN, NL] at k1 k2 k3 hR ⊢
    refine PC.of_body follows Tryz.func152 (by decide +kernel) rfl (by kernel_rfl) (Nat.le_of_ble_eq_true rfl) (walk ?_)
    simp only [Tryz.f152, go_sem]
    refine qcall_i (k1) ?_; simp only [Tryz.f152, go_sem]
    refine qcall_i (k2) ?_; simp only [Tryz.f152, go_sem]
    try (refine qif_dt (by decide) ?_)
    try simp only [Tryz.f152, go_sem]
    refine qcall_i (k3) ?_; simp only [Tryz.f152, go_sem]
    first | (rw [hR]; done) | (rw [hR]; rfl)
  rw [if_neg c1] at hR
  by_cases c2 : wholeOk a.y a.n
  case neg =>
    rw [if_neg c2] at hR k4
    simp only [exPVd, zero_pv, DP, Dy.pv, NN, NL] at k1 k2 k3 k4 hR ⊢
    refine PC.of_body follows Tryz.func152 (by decide +kernel) rfl (by kernel_rfl) (Nat.le_of_ble_eq_true rfl) (walk ?_)
    simp only [Tryz.f152, go_sem]
    refine qcall_i (k1) ?_; simp only [Tryz.f152, go_sem]
    refine qcall_i (k2) ?_; simp only [Tryz.f152, go_sem]
    refine qif_df c1 ?_
    simp only [Tryz.f152, go_sem]
    refine qcall_i (k4) ?_; simp only [Tryz.f152, go_sem]
    first | (rw [hR]; done) | (rw [hR]; rfl)
  rw [if_pos c2] at hR k4
  have hM := exM_lt c2.1
  have hod := ha.y.resolve_left (fun h => ha.y0 (by rw [h]; rfl))
  obtain ⟨f1, f2, f3, f4, f5, f6, f7⟩ := low_facts ha.y0 hod ha.n1 ha.nW
  have hK := exK_range c2.1.1
  have hprod : exK (lowD a.y a.n) * lowQ a.y a.n ≤ 4611686018427387904 := Nat.le_trans (Nat.mul_le_mul_right _ c2.2.2) (Nat.div_mul_le_self _ _)
  have hp1 : 1 ≤ exK (lowD a.y a.n) * lowQ a.y a.n := Nat.mul_pos hK.1 f5
  have k5 := e_Power h1 ha.x (M := exM (lowD a.y a.n)) (K := exK (lowD a.y a.n) * lowQ a.y a.n) (by omega) hp1 (by omega)
  generalize exK (lowD a.y a.n) * lowQ a.y a.n = KN at *
  generalize exM (lowD a.y a.n) = MM at *
  cases hp : powO a.x MM KN with
  | none =>
    rw [hp] at hR k5
    simp only [powPV, exPVd, zero_pv, DP, Dy.pv, NN, NL] at k1 k2 k3 k4 k5 hR ⊢
    refine PC.of_body follows Tryz.func152 (by decide +kernel) rfl (by kernel_rfl) (Nat.le_of_ble_eq_true rfl) (walk ?_)
    simp only [Tryz.f152, go_sem]
    refine qcall_i (k1) ?_; simp only [Tryz.f152, go_sem]
    refine qcall_i (k2) ?_; simp only [Tryz.f152, go_sem]
    refine qif_df c1 ?_
    simp only [Tryz.f152, go_sem]
    refine qcall_i (k4) ?_; simp only [Tryz.f152, go_sem]
    refine qcall_i (k5) ?_; simp only [Tryz.f152, go_sem]
    first | (rw [hR]; done) | (rw [hR]; rfl)
  | some d =>
    rw [hp] at hR k5
    simp only [powPV, exPVd, DP, Dy.pv, NN, NL] at k1 k2 k3 k4 k5 hR ⊢
    refine PC.of_body follows Tryz.func152 (by decide +kernel) rfl (by kernel_rfl) (Nat.le_of_ble_eq_true rfl) (walk ?_)
    simp only [Tryz.f152, go_sem]
    refine qcall_i (k1) ?_; simp only [Tryz.f152, go_sem]
    refine qcall_i (k2) ?_; simp only [Tryz.f152, go_sem]
    refine qif_df c1 ?_
    simp only [Tryz.f152, go_sem]
    refine qcall_i (k4) ?_; simp only [Tryz.f152, go_sem]
    refine qcall_i (k5) ?_; simp only [Tryz.f152, go_sem]
    first | (rw [hR]; done) | (rw [hR]; rfl)
end
section
open Go PG Go.Proofs
open XX
theorem ansC_pv (v : (Nat × Nat) × Iv) : ansC v = [.int .u64 (v.1.1 : Nat), .int .u8 (v.1.2 : Nat), .int .i64 0, .bool v.2.lo.s, NN v.2.lo.m, .int .i64 v.2.lo.e, .bool v.2.hi.s, NN v.2.hi.m, .int .i64 v.2.hi.e] := rfl
theorem o_Do1 {s1 : Bool} {P1 : PV} {e1 : Int} {s2 : Bool} {P2 : PV} {e2 : Int} {a : Ask} (h1 : RD (DP s1 P1 e1) a.x) (h2 : RD (DP s2 P2 e2) a.y) (ha : AskOk a) (sign : Int) {b : Nat} (hb : 32 ≤ b) (hb2 : b ≤ 8192) :
    PC E 155 [.int .i64 (b : Nat), .ref [.bool s1, P1, .int .i64 e1, .bool s2, P2, .int .i64 e2, .int .u64 (a.n : Nat), .bool a.neg, .int .i64 a.dir, .int .i64 a.f, .int .i64 a.t], .ref [.int .i64 sign]] (.tuple [.agg (ansC (tryS a sign b).1), .bool (tryS a sign b).2]) := by
  have k1 := o_try (p := .agg [.bool s1, P1, .int .i64 e1, .bool s2, P2, .int .i64 e2, .int .u64 (a.n : Nat), .bool a.neg, .int .i64 a.dir, .int .i64 a.f, .int .i64 a.t]) ⟨s1, P1, e1, s2, P2, e2, rfl, h1, h2⟩ ha sign hb hb2
  generalize tryS a sign b = T at *
  simp only [ansC_pv, NN, NL] at k1 ⊢
  refine PC.of_body follows Tryz.func155 (by decide +kernel) rfl (by kernel_rfl) (Nat.le_of_ble_eq_true rfl) (walk ?_)
  simp only [Tryz.f155, go_sem]
  refine qcall_i (k1) ?_; simp only [Tryz.f155, go_sem]
  try rfl
def runS (a : Ask) : (((Nat × Nat) × Iv) × Nat × Nat) × Nat := goS (fun n => (tryS a (sgS a) n).1) (fun n => (tryS a (sgS a) n).2) (planS a.f a.t) ans0 0 0
def doS (a : Ask) : Nat × Nat × Nat × Nat :=
  match exactO a with
  | some d => ((toS (sgnD d a.neg) false a.dir).1, (toS (sgnD d a.neg) false a.dir).2, 0, 0)
  | none => if (runS a).2 = 0 then ((runS a).1.1.1.1, (runS a).1.1.1.2, 0, (runS a).1.2.2)
    else match looseS (runS a).1.1.2 a.neg a.dir with
      | some r => (r.1, r.2 ||| 1, 1, (runS a).1.2.2)
      | none => (9221120237041090560, 1, 1, (runS a).1.2.2)
def doPV (r : Nat × Nat × Nat × Nat) : PV := .tuple [.agg [.int .u64 (r.1 : Nat), .int .u8 (r.2.1 : Nat), .int .i64 (r.2.2.1 : Nat)], .int .i64 (r.2.2.2 : Nat), .int .i64 0]
theorem goS_inv {A : Nat → (Nat × Nat) × Iv} {ok : Nat → Bool} {P : (Nat × Nat) × Iv → Prop} (hA : ∀ n, P (A n)) : ∀ (l : List Nat) (v : (Nat × Nat) × Iv) (b t : Nat), P v → P (goS A ok l v b t).1.1 ∧ (goS A ok l v b t).1.2.2 ≤ t + l.length ∧ ((goS A ok l v b t).2 = 0 ∨ (goS A ok l v b t).2 = 2)
  | [], v, b, t, h => ⟨h, Nat.le_refl _, .inr rfl⟩
  | n :: l, v, b, t, h => by
    unfold goS
    split
    · exact ⟨hA n, by simp, .inl rfl⟩
    · obtain ⟨h1, h2, h3⟩ := goS_inv (ok := ok) hA l (A n) n (t + 1) (hA n)
      exact ⟨h1, by rw [List.length_cons]; omega, h3⟩
theorem goS_mem {A : Nat → (Nat × Nat) × Iv} {ok : Nat → Bool} {P : (Nat × Nat) × Iv → Prop} : ∀ (l : List Nat) (v : (Nat × Nat) × Iv) (b t : Nat), (∀ n ∈ l, P (A n)) → P v → P (goS A ok l v b t).1.1
  | [], v, b, t, hA, h => h
  | n :: l, v, b, t, hA, h => by
    unfold goS
    split
    · exact hA n (by simp)
    · exact goS_mem l (A n) n (t + 1) (fun m hm => hA m (by simp [hm])) (hA n (by simp))
theorem try_lim {a : Ask} (ha : AskOk a) (sign : Int) {b : Nat} (hb : 32 ≤ b) : (tryS a sign b).1.2.lim 26200 := by
  have hz : Iv.zero.lim 26200 := ⟨Lim.zero _, Lim.zero _⟩
  have hsc := scS_range (y := a.y) hb
  unfold tryS
  by_cases h1 : boundS (zS a b) sign ≠ 0
  · rw [if_pos h1]; exact hz
  rw [if_neg h1]
  by_cases h2 : splitOk (zS a b) (scS a.y b)
  · rw [if_pos h2]
    have := expI_lim (i := zS a b) (s := scS a.y b) (by omega) (by omega) h2
    split
    · exact this
    · exact this
  · rw [if_neg h2]; exact hz
theorem run_lim {a : Ask} (ha : AskOk a) : (runS a).1.1.2.lim 26200 := goS_mem (P := fun v => v.2.lim 26200) _ _ _ _ (fun n hn => try_lim ha (sgS a) (planS_range ha.plan hn).1) ⟨Lim.zero _, Lim.zero _⟩
theorem run_facts (a : Ask) : (runS a).1.2.2 ≤ 9 ∧ ((runS a).2 = 0 ∨ (runS a).2 = 2) := by
  obtain ⟨-, h2, h3⟩ := goS_inv (P := fun _ => True) (A := fun n => (tryS a (sgS a) n).1) (ok := fun n => (tryS a (sgS a) n).2) (fun _ => trivial) (planS a.f a.t) ans0 0 0 trivial
  have := planL_len 8 a.f.toNat a.t.toNat
  have e : planS a.f a.t = planL 8 a.f.toNat a.t.toNat := rfl
  rw [e] at h2
  exact ⟨by show (goS _ _ (planS a.f a.t) ans0 0 0).1.2.2 ≤ 9; rw [e]; omega, h3⟩
theorem toS_flags (d : Dy) (more : Bool) (dir : Int) : (toS d more dir).2 = 0 ∨ (toS d more dir).2 = 1 ∨ (toS d more dir).2 = 3 ∨ (toS d more dir).2 = 5 := by
  unfold toS magS
  repeat' split
  all_goals simp
theorem or_one {f : Nat} (h : f = 0 ∨ f = 1 ∨ f = 3 ∨ f = 5) : bits .or .u8 (f : Int) 1 = ((f ||| 1 : Nat) : Int) := by
  rcases h with rfl | rfl | rfl | rfl <;> decide
theorem exactO_facts {a : Ask} (ha : AskOk a) {d : Dy} (h : exactO a = some d) : RD d.pv d ∧ bitLen d.m ≤ 60001 ∧ d.fits := by
  have one : RD (norm 1 0).pv (norm 1 0) ∧ bitLen (norm 1 0).m ≤ 60001 ∧ (norm 1 0).fits := by
    have hl : Lim 20 (norm 1 0) := Lim.norm (K := 20) (z := 1) (by decide) (by decide)
    exact ⟨hl.RD (by decide), by have := hl.bits; omega, hl.fits (by decide)⟩
  unfold exactO at h
  split at h
  · cases h; exact one
  split at h
  · rename_i hw
    have hod := ha.y.resolve_left (fun h => ha.y0 (by rw [h]; rfl))
    obtain ⟨f1, f2, f3, f4, f5, f6, f7⟩ := low_facts ha.y0 hod ha.n1 ha.nW
    have hK := exK_range hw.1.1
    have hp1 : 1 ≤ exK (lowD a.y a.n) * lowQ a.y a.n := Nat.mul_pos hK.1 f5
    generalize exK (lowD a.y a.n) * lowQ a.y a.n = KN at *
    have hg0 : 0 < Nat.gcd (exM (lowD a.y a.n)).natAbs KN := Nat.gcd_pos_of_pos_right _ (by omega)
    have hgK : Nat.gcd (exM (lowD a.y a.n)).natAbs KN ≤ KN := Nat.gcd_le_right _ (by omega)
    have hkq : 1 ≤ KN / Nat.gcd (exM (lowD a.y a.n)).natAbs KN := Nat.div_pos hgK hg0
    unfold powO at h
    split at h
    · cases h; exact one
    · split at h
      · cases h
      · rename_i r hr
        obtain ⟨g1, g2, g3, g4, g5⟩ := rootO_facts ha.x hkq hr
        split at h
        · cases h
        · rename_i p hp
          obtain ⟨q1, q2, q3, q4, q5⟩ := raisO_facts g1 hp
          split at h
          · cases h
            have hf : d.fits := ⟨by omega, by omega⟩
            exact ⟨RD.fit (.inr q1) (by omega) hf, q2, hf⟩
          · cases h
  · cases h
set_option maxHeartbeats 4000000 in
theorem o_Do {p : PV} {a : Ask} (h : RA p a) (ha : AskOk a) : PC E 95 [p, .np] (doPV (doS a)) := by
  have k1 := o_Right h ha
  have k2 := o_Exact h ha
  obtain ⟨R, hR⟩ : ∃ R, R = doPV (doS a) := ⟨_, rfl⟩
  rw [← hR]
  unfold doS at hR
  cases hx : exactO a with
  | some d =>
    rw [hx] at k2 hR
    obtain ⟨hRd, hbd, hfd⟩ := exactO_facts ha hx
    have k3 := r_MinusF hRd hfd
    have k4 : PC E 105 [(sgnD d a.neg).pv, .bool false, .int .i64 a.dir] (.tuple [u (toS (sgnD d a.neg) false a.dir).1, .int .u8 (toS (sgnD d a.neg) false a.dir).2, .int .i64 0]) := by
      have hs : RD (sgnD d a.neg).pv (sgnD d a.neg) ∧ (sgnD d a.neg).fits := by
        unfold sgnD
        split
        · have hf2 : d.neg.fits := by
            unfold Dy.neg
            split
            · decide
            · exact hfd
          exact ⟨RD.fit (neg_ok hRd.ok) (by
            unfold Dy.neg
            split
            · exact Nat.le_trans (show bitLen 0 ≤ 0 by decide) (Nat.zero_le _)
            · dsimp only; omega) hf2, hf2⟩
        · exact ⟨hRd, hfd⟩
      have := r_To hs.1 (by rw [sgnD_m]; omega) false a.dir
      rwa [if_pos (toE_of hs.2 ha.dir)] at this
    obtain ⟨s1, P1, e1, s2, P2, e2, rfl, h1, h2⟩ := h
    dsimp only at hR
    generalize toS (sgnD d a.neg) false a.dir = T at *
    obtain ⟨t1, t2⟩ := T
    unfold sgnD at k4
    cases hneg : a.neg with
    | true =>
      rw [hneg] at k1 k2 k4
      rw [if_pos rfl] at k4
      generalize d.neg = D2 at *
      simp only [exPVd, doPV, DP, Dy.pv, u, NN, NL] at k1 k2 k3 k4 hR ⊢
      refine PC.of_body follows Tryz.func95 (by decide +kernel) rfl (by kernel_rfl) (Nat.le_of_ble_eq_true rfl) (walk ?_)
      simp only [Tryz.f95, go_sem]
      refine qcall_i (k1) ?_; simp only [Tryz.f95, go_sem]
      refine qcall_i (k2) ?_; simp only [Tryz.f95, go_sem]
      refine qcall_i (k3) ?_; simp only [Tryz.f95, go_sem]
      refine qcall_i (k4) ?_; simp only [Tryz.f95, go_sem]
      first | (rw [hR]; done) | (rw [hR]; rfl)
    | false =>
      rw [hneg] at k1 k2 k4
      rw [if_neg Bool.false_ne_true] at k4
      simp only [exPVd, doPV, DP, Dy.pv, u, NN, NL] at k1 k2 k3 k4 hR ⊢
      refine PC.of_body follows Tryz.func95 (by decide +kernel) rfl (by kernel_rfl) (Nat.le_of_ble_eq_true rfl) (walk ?_)
      simp only [Tryz.f95, go_sem]
      refine qcall_i (k1) ?_; simp only [Tryz.f95, go_sem]
      refine qcall_i (k2) ?_; simp only [Tryz.f95, go_sem]
      refine qcall_i (k4) ?_; simp only [Tryz.f95, go_sem]
      first | (rw [hR]; done) | (rw [hR]; rfl)
  | none =>
    rw [hx] at k2 hR
    have k3 := c_Plan a.f a.t
    rw [if_pos ha.plan] at k3
    have k4 := o_Sign h ha
    obtain ⟨s1, P1, e1, s2, P2, e2, rfl, h1, h2⟩ := h
    have hlen := planL_len 8 a.f.toNat a.t.toNat
    have ePl : planS a.f a.t = planL 8 a.f.toNat a.t.toNat := rfl
    rw [← ePl] at hlen
    have k5 := c_Go (f := 155) (by kernel_rfl) (cs := [.ref [.bool s1, P1, .int .i64 e1, .bool s2, P2, .int .i64 e2, .int .u64 (a.n : Nat), .bool a.neg, .int .i64 a.dir, .int .i64 a.f, .int .i64 a.t], .ref [.int .i64 (sgS a)]]) (A := fun n => (tryS a (sgS a) n).1) (ok := fun n => (tryS a (sgS a) n).2) (P := planS a.f a.t) (by omega)
      (fun n hn => by
        obtain ⟨r1, r2, r3⟩ := planS_range ha.plan hn
        exact o_Do1 h1 h2 ha (sgS a) r1 r3)
    have eRun : goS (fun n => (tryS a (sgS a) n).1) (fun n => (tryS a (sgS a) n).2) (planS a.f a.t) ans0 0 0 = runS a := rfl
    rw [eRun] at k5
    have hlim := run_lim ha
    have hfacts := run_facts a
    have k6 := d_Loose (hlim.RI (by decide)) hlim (by decide) a.neg ha.dir
    have hfl : ∀ r, looseS (runS a).1.1.2 a.neg a.dir = some r → bits .or .u8 (r.2 : Int) 1 = ((r.2 ||| 1 : Nat) : Int) := fun r hr => by
      unfold looseS at hr
      split at hr
      · cases hr; exact or_one (toS_flags _ _ _)
      · cases hr
    have eRI : (runS a).1.1.2.pv = .agg [.bool (runS a).1.1.2.lo.s, NN (runS a).1.1.2.lo.m, .int .i64 (runS a).1.1.2.lo.e, .bool (runS a).1.1.2.hi.s, NN (runS a).1.1.2.hi.m, .int .i64 (runS a).1.1.2.hi.e] := rfl
    rw [eRI] at k6
    dsimp only at hR
    generalize looseS (runS a).1.1.2 a.neg a.dir = LO at *
    generalize runS a = RR at *
    generalize sgS a = sg at *
    generalize IL (planS a.f a.t) = IP at *
    generalize (planS a.f a.t).length = LP at *
    clear eRI eRun ePl
    obtain ⟨⟨⟨⟨b0, fl0⟩, iv⟩, nb, nt⟩, en⟩ := RR
    dsimp only at *
    have w0 : bits .or .u8 0 1 = 1 := by decide
    rcases hfacts.2 with h0 | h0
    · rw [if_pos h0] at hR
      subst h0
      simp only [exPVd, zero_pv, doPV, runC, ansC_pv, List.cons_append, List.nil_append, NN, NL] at k1 k2 k3 k4 k5 hR ⊢
      refine PC.of_body follows Tryz.func95 (by decide +kernel) rfl (by kernel_rfl) (Nat.le_of_ble_eq_true rfl) (walk ?_)
      simp only [Tryz.f95, go_sem]
      refine qcall_i (k1) ?_; simp only [Tryz.f95, go_sem]
      refine qcall_i (k2) ?_; simp only [Tryz.f95, go_sem]
      refine qcall_i (k3) ?_; simp only [Tryz.f95, go_sem]
      refine qcall_i (k4) ?_; simp only [Tryz.f95, go_sem]
      refine qcall_i (k5) ?_; simp only [Tryz.f95, go_sem]
      try (refine qif_dt (by decide) ?_)
      try simp only [Tryz.f95, go_sem]
      first | (rw [hR]; done) | (rw [hR]; rfl)
    · rw [if_neg (by omega)] at hR
      subst h0
      cases LO with
      | some r =>
        obtain ⟨lb, lf⟩ := r
        have wl := hfl _ rfl
        dsimp only at wl
        simp only [exPVd, zero_pv, doPV, bfoPV, u, runC, ansC_pv, List.cons_append, List.nil_append, NN, NL] at k1 k2 k3 k4 k5 k6 hR ⊢
        refine PC.of_body follows Tryz.func95 (by decide +kernel) rfl (by kernel_rfl) (Nat.le_of_ble_eq_true rfl) (walk ?_)
        simp only [Tryz.f95, go_sem]
        refine qcall_i (k1) ?_; simp only [Tryz.f95, go_sem]
        refine qcall_i (k2) ?_; simp only [Tryz.f95, go_sem]
        refine qcall_i (k3) ?_; simp only [Tryz.f95, go_sem]
        refine qcall_i (k4) ?_; simp only [Tryz.f95, go_sem]
        refine qcall_i (k5) ?_; simp only [Tryz.f95, go_sem]
        try (refine qif_df (by decide) ?_)
        try simp only [Tryz.f95, go_sem]
        refine qcall_i (k6) ?_; simp only [Tryz.f95, wl, go_sem]
        first | (rw [hR]; done) | (rw [hR]; rfl)
      | none =>
        simp only [exPVd, zero_pv, doPV, bfoPV, u, runC, ansC_pv, List.cons_append, List.nil_append, NN, NL] at k1 k2 k3 k4 k5 k6 hR ⊢
        refine PC.of_body follows Tryz.func95 (by decide +kernel) rfl (by kernel_rfl) (Nat.le_of_ble_eq_true rfl) (walk ?_)
        simp only [Tryz.f95, go_sem]
        refine qcall_i (k1) ?_; simp only [Tryz.f95, go_sem]
        refine qcall_i (k2) ?_; simp only [Tryz.f95, go_sem]
        refine qcall_i (k3) ?_; simp only [Tryz.f95, go_sem]
        refine qcall_i (k4) ?_; simp only [Tryz.f95, go_sem]
        refine qcall_i (k5) ?_; simp only [Tryz.f95, go_sem]
        try (refine qif_df (by decide) ?_)
        try simp only [Tryz.f95, go_sem]
        refine qcall_i (k6) ?_; simp only [Tryz.f95, w0, go_sem]
        first | (rw [hR]; done) | (rw [hR]; rfl)
end
end
section
section
open Go PG Go.Proofs
def resA (o : Option (Nat × Nat)) : PV := match o with
  | some (b, f) => .agg [.int .u64 b, .int .u8 f, .int .i64 0]
  | none => .agg [.int .u64 0, .int .u8 0, .int .i64 0]
theorem resPV_eq (o : Option (Nat × Nat)) : resPV o = .tuple [resA o, .bool o.isSome] := by
  cases o <;> rfl
theorem resA_ex (o : Option (Nat × Nat)) : ∃ B F : Int, resA o = .agg [.int .u64 B, .int .u8 F, .int .i64 0] := by
  cases o with
  | none => exact ⟨0, 0, rfl⟩
  | some p => exact ⟨_, _, rfl⟩
end
section
open Go PG Go.Proofs
theorem i64_and1 (n : Int) : bits .and .i64 n 1 = n % 2 := by
  have h1 : (BitVec.ofInt 64 1).toNat = 2 ^ 1 - 1 := by decide
  have key : (BitVec.ofInt 64 n &&& BitVec.ofInt 64 1).toNat = (n % ((2 ^ 64 : Nat) : Int)).toNat % 2 ^ 1 := by
    rw [BitVec.toNat_and, BitVec.toNat_ofInt, h1, Nat.and_two_pow_sub_one_eq_mod]
  show IntKind.i64.wrap ((BitVec.ofInt 64 n &&& BitVec.ofInt 64 1).toNat : Nat) = n % 2
  rw [key, IntKind.wrap_i64]
  omega
def podd (n : Int) : Bool := decide (n % 2 = 1)
theorem tmod2 (n : Int) : decide (¬ Int.tmod n 2 = 0) = podd n := decide_eq_decide.2 (by
  rw [← Int.dvd_iff_tmod_eq_zero, Int.dvd_iff_emod_eq_zero]
  omega)
theorem tmod2' (n : Int) : decide (Int.tmod n 2 = 0) = !podd n := by
  unfold podd
  rw [← decide_not, decide_eq_decide, ← Int.dvd_iff_tmod_eq_zero, Int.dvd_iff_emod_eq_zero]
  omega
theorem and2 (n : Int) : decide (n % 2 = 0) = !podd n := by
  unfold podd
  rw [← decide_not, decide_eq_decide]
  omega
def endsS (x : Nat) (n : Int) : Option (Nat × Nat) :=
  if kind x = 0 then (if n < 0 then some (sgd bInf x (podd n), 8) else some (sgd 0 x (podd n), 0))
  else if kind x = 3 then (if n < 0 then some (sgd 0 x (podd n), 0) else some (sgd bInf x (podd n), 0)) else none
def pownS (x : Nat) (n : Int) : Option (Nat × Nat) := if kind x = 5 then some (bNaN, 16) else if n = 0 then some (bOne, 0) else if kind x = 4 then some (bNaN, 0) else endsS x n
def rootnS (x : Nat) (n : Int) : Option (Nat × Nat) :=
  if kind x = 5 then some (bNaN, 16) else if kind x = 4 then some (bNaN, 0) else if n = 0 then some (bNaN, 16) else if fs x = true ∧ ¬ kind x = 0 ∧ podd n = false then some (bNaN, 16) else endsS x n
def compS (x : Nat) (n : Int) : Option (Nat × Nat) :=
  if kind x = 5 then some (bNaN, 16) else if ¬ kind x = 4 ∧ fs x = true ∧ 4607182418800017408 < fsz x then some (bNaN, 16)
  else if n = 0 then some (bOne, 0) else if kind x = 4 then some (bNaN, 0)
  else if fs x = true ∧ fsz x = 4607182418800017408 then (if n < 0 then some (bInf, 8) else some (0, 0))
  else if kind x = 0 then some (bOne, 0) else if kind x = 3 then (if n < 0 then some (0, 0) else some (bInf, 0)) else none
set_option maxHeartbeats 1000000 in
theorem c_ends (x : Nat) (hx : x < W) (n : Int) : PC E 93 [u x, .int .i64 n] (resPV (endsS x n)) := by
  obtain ⟨R, hR⟩ : ∃ R, R = resPV (endsS x n) := ⟨_, rfl⟩
  rw [← hR]
  refine PC.of_body follows Tryz.func93 (by decide +kernel) rfl (by kernel_rfl) (Nat.le_of_ble_eq_true rfl) (walk ?_)
  have q1 : decide (n % 2 = 1) = podd n := rfl
  have k1 := c_signals x hx
  have k2 := c_nought x hx
  have k3 := c_infinite x hx
  have k4 := c_nan x hx
  have k5 : PC E 132 [.int .u64 9218868437227405312, .int .u64 x, .bool (podd n)] (.int .u64 (sgd bInf x (podd n) : Nat)) := c_signed bInf x (by decide) hx _
  have k6 : PC E 132 [.int .u64 0, .int .u64 x, .bool (podd n)] (.int .u64 (sgd 0 x (podd n) : Nat)) := c_signed 0 x (by decide) hx _
  have k7 : PC E 131 [.int .u64 (sgd bInf x (podd n) : Nat), .int .u8 8] (resPV (some (sgd bInf x (podd n), 8))) := c_flagged _ 8
  have k8 : PC E 91 [.int .u64 (sgd bInf x (podd n) : Nat)] (resPV (some (sgd bInf x (podd n), 0))) := c_is _
  have k9 : PC E 91 [.int .u64 (sgd 0 x (podd n) : Nat)] (resPV (some (sgd 0 x (podd n), 0))) := c_is _
  simp only [u] at k1 k2 k3 k4
  simp only [Tryz.f93, u, i64_and1, q1, go_sem]
  unfold endsS at hR
  generalize podd n = o at *
  generalize sgd bInf x o = g1 at *
  generalize sgd 0 x o = g2 at *
  clear hx
  repeat' first
    | ((with_reducible refine qif_b (fun h => ?_) (fun h => ?_)) <;> (try simp only [h] at k2 k3) <;> simp only [Tryz.f93, h, u, ansPV, resPV, q1, go_sem])
    | ((with_reducible refine qcall_i k1 ?_); simp only [Tryz.f93, u, ansPV, resPV, q1, go_sem])
    | ((with_reducible refine qcall_i k2 ?_); simp only [Tryz.f93, u, ansPV, resPV, q1, go_sem])
    | ((with_reducible refine qcall_i k3 ?_); simp only [Tryz.f93, u, ansPV, resPV, q1, go_sem])
    | ((with_reducible refine qcall_i k4 ?_); simp only [Tryz.f93, u, ansPV, resPV, q1, go_sem])
    | ((with_reducible refine qcall_i k5 ?_); simp only [Tryz.f93, u, ansPV, resPV, q1, go_sem])
    | ((with_reducible refine qcall_i k6 ?_); simp only [Tryz.f93, u, ansPV, resPV, q1, go_sem])
    | ((with_reducible refine qcall_i k7 ?_); simp only [Tryz.f93, u, ansPV, resPV, q1, go_sem])
    | ((with_reducible refine qcall_i k8 ?_); simp only [Tryz.f93, u, ansPV, resPV, q1, go_sem])
    | ((with_reducible refine qcall_i k9 ?_); simp only [Tryz.f93, u, ansPV, resPV, q1, go_sem])
    | ((with_reducible refine Eq.trans ?_ hR.symm); clear k1 k2 k3 k4 k5 k6 k7 k8 k9 q1 hR; first | (simp_all [ansPV, resPV, bNaN, bInf, bOne]; done) | ((repeat' split) <;> first | rfl | exact hE.symm | (exfalso; simp_all; done) | (exfalso; simp_all; omega)))
set_option maxHeartbeats 1000000 in
theorem c_Pown (x : Nat) (hx : x < W) (n : Int) : PC E 40 [u x, .int .i64 n] (resPV (pownS x n)) := by
  obtain ⟨R, hR⟩ : ∃ R, R = resPV (pownS x n) := ⟨_, rfl⟩
  rw [← hR]
  refine PC.of_body follows Tryz.func40 (by decide +kernel) rfl (by kernel_rfl) (Nat.le_of_ble_eq_true rfl) (walk ?_)
  have k1 := c_signals x hx
  have k4 := c_nan x hx
  have k10 : PC E 91 [.int .u64 4607182418800017408] (resPV (some (bOne, 0))) := c_is bOne
  have k11 : PC E 91 [.int .u64 9221120237041090560] (resPV (some (bNaN, 0))) := c_is bNaN
  have k12 := c_invalid
  have k13 := c_ends x hx n
  unfold pownS at hR
  rw [resPV_eq] at k13
  have q9 : R = R := rfl
  have hE := resPV_eq (endsS x n)
  obtain ⟨rB, rF, hr⟩ := resA_ex (endsS x n)
  rw [hr] at k13 hE
  generalize endsS x n = z at *
  simp only [u] at k1 k4 k13
  simp only [Tryz.f40, u, go_sem]
  clear hx
  repeat' first
    | ((with_reducible refine qif_b (fun h => ?_) (fun h => ?_)) <;> (try simp only [h] at k4) <;> simp only [Tryz.f40, h, u, ansPV, resPV, q9, go_sem])
    | ((with_reducible refine qcall_i k1 ?_); simp only [Tryz.f40, u, ansPV, resPV, q9, go_sem])
    | ((with_reducible refine qcall_i k4 ?_); simp only [Tryz.f40, u, ansPV, resPV, q9, go_sem])
    | ((with_reducible refine qcall_i k10 ?_); simp only [Tryz.f40, u, ansPV, resPV, q9, go_sem])
    | ((with_reducible refine qcall_i k11 ?_); simp only [Tryz.f40, u, ansPV, resPV, q9, go_sem])
    | ((with_reducible refine qcall_i k12 ?_); simp only [Tryz.f40, u, ansPV, resPV, q9, go_sem])
    | ((with_reducible refine qcall_i k13 ?_); simp only [Tryz.f40, u, ansPV, resPV, q9, go_sem])
    | ((with_reducible refine Eq.trans ?_ hR.symm); clear k1 k4 k10 k11 k12 k13 q9 hR; first | (simp_all [ansPV, resPV, bNaN, bInf, bOne]; done) | ((repeat' split) <;> first | rfl | exact hE.symm | (exfalso; simp_all; done) | (exfalso; simp_all; omega)))
set_option maxHeartbeats 1000000 in
theorem c_Rootn (x : Nat) (hx : x < W) (n : Int) : PC E 46 [u x, .int .i64 n] (resPV (rootnS x n)) := by
  obtain ⟨R, hR⟩ : ∃ R, R = resPV (rootnS x n) := ⟨_, rfl⟩
  rw [← hR]
  refine PC.of_body follows Tryz.func46 (by decide +kernel) rfl (by kernel_rfl) (Nat.le_of_ble_eq_true rfl) (walk ?_)
  have q1 := and2 n
  have k1 := c_signals x hx
  have k4 := c_nan x hx
  have k5 := c_below x hx
  have k11 : PC E 91 [.int .u64 9221120237041090560] (resPV (some (bNaN, 0))) := c_is bNaN
  have k12 := c_invalid
  have k13 := c_ends x hx n
  unfold rootnS at hR
  rw [resPV_eq] at k13
  have hE := resPV_eq (endsS x n)
  obtain ⟨rB, rF, hr⟩ := resA_ex (endsS x n)
  rw [hr] at k13 hE
  generalize endsS x n = z at *
  simp only [u] at k1 k4 k5 k13
  simp only [Tryz.f46, u, go_sem]
  clear hx
  repeat' first
    | ((with_reducible refine qif_b (fun h => ?_) (fun h => ?_)) <;> (try simp only [h] at k4) <;> simp only [Tryz.f46, h, u, ansPV, resPV, i64_and1, q1, go_sem])
    | ((with_reducible refine qcall_i k1 ?_); simp only [Tryz.f46, u, ansPV, resPV, i64_and1, q1, go_sem])
    | ((with_reducible refine qcall_i k4 ?_); simp only [Tryz.f46, u, ansPV, resPV, i64_and1, q1, go_sem])
    | ((with_reducible refine qcall_i k5 ?_); simp only [Tryz.f46, u, ansPV, resPV, i64_and1, q1, go_sem])
    | ((with_reducible refine qcall_i k11 ?_); simp only [Tryz.f46, u, ansPV, resPV, i64_and1, q1, go_sem])
    | ((with_reducible refine qcall_i k12 ?_); simp only [Tryz.f46, u, ansPV, resPV, i64_and1, q1, go_sem])
    | ((with_reducible refine qcall_i k13 ?_); simp only [Tryz.f46, u, ansPV, resPV, i64_and1, q1, go_sem])
    | ((with_reducible refine Eq.trans ?_ hR.symm); clear k1 k4 k5 k11 k12 k13 q1 hR; first | (simp_all [ansPV, resPV, bNaN, bInf, bOne]; done) | ((repeat' split) <;> first | rfl | exact hE.symm | (exfalso; simp_all; done) | (exfalso; simp_all; omega)))
end
section
open Go PG Go.Proofs
theorem ansPV_ex (o : Option (Nat × Nat)) : ∃ (B F : Int) (I : Bool), ansPV o = .agg [.int .u64 B, .int .i64 F, .bool I] := by
  cases o with
  | none => exact ⟨0, 0, false, rfl⟩
  | some p => exact ⟨_, _, true, rfl⟩
theorem kind3 (x : Nat) : kind x = 3 ↔ fsz x = 9218868437227405312 := by
  unfold kind fe ff fsz
  repeat' split
  all_goals omega
theorem kind0 (x : Nat) : kind x = 0 ↔ fsz x = 0 := by
  unfold kind fe ff fsz
  repeat' split
  all_goals omega
theorem x_of (x : Nat) (hx : x < W) : (fs x = true ∧ x = fsz x + 9223372036854775808) ∨ (fs x = false ∧ x = fsz x) := by
  have : x < 18446744073709551616 := hx
  unfold fs fsz
  by_cases h : 9223372036854775808 ≤ x
  · left; exact ⟨decide_eq_true h, by omega⟩
  · right; exact ⟨decide_eq_false h, by omega⟩
set_option maxHeartbeats 1000000 in
theorem c_Compound (x : Nat) (hx : x < W) (n : Int) : PC E 136 [u x, .int .i64 n] (resPV (compS x n)) := by
  obtain ⟨R, hR⟩ : ∃ R, R = resPV (compS x n) := ⟨_, rfl⟩
  rw [← hR]
  refine PC.of_body follows Tryz.func136 (by decide +kernel) rfl (by kernel_rfl) (Nat.le_of_ble_eq_true rfl) (walk ?_)
  have hl := fsz_lt x
  have q1 : ((x : Int) > 13830554455654793216) = (fs x = true ∧ 4607182418800017408 < fsz x) := propext (by
    rcases x_of x hx with ⟨h1, h2⟩ | ⟨h1, h2⟩
    · rw [h1]; exact ⟨fun h => ⟨rfl, by omega⟩, fun h => by have := h.2; omega⟩
    · rw [h1]; exact ⟨fun h => by omega, fun h => by cases h.1⟩)
  have q2 : ((x : Int) = 13830554455654793216) = (fs x = true ∧ fsz x = 4607182418800017408) := propext (by
    rcases x_of x hx with ⟨h1, h2⟩ | ⟨h1, h2⟩
    · rw [h1]; exact ⟨fun h => ⟨rfl, by omega⟩, fun h => by have := h.2; omega⟩
    · rw [h1]; exact ⟨fun h => by omega, fun h => by cases h.1⟩)
  have q3 : ((x : Int) = 9218868437227405312) = (fs x = false ∧ fsz x = 9218868437227405312) := propext (by
    rcases x_of x hx with ⟨h1, h2⟩ | ⟨h1, h2⟩
    · rw [h1]; exact ⟨fun h => by omega, fun h => by cases h.1⟩
    · rw [h1]; exact ⟨fun h => ⟨rfl, by omega⟩, fun h => by have := h.2; omega⟩)
  have f3 := kind3 x
  have f0 := kind0 x
  have f5 := kind_le x
  have k1 := c_signals x hx
  have k2 := c_nought x hx
  have k4 := c_nan x hx
  have k5 := c_below x hx
  have k8 : PC E 131 [.int .u64 9218868437227405312, .int .u8 8] (resPV (some (bInf, 8))) := c_flagged bInf 8
  have k9 : PC E 91 [.int .u64 9218868437227405312] (resPV (some (bInf, 0))) := c_is bInf
  have k10 : PC E 91 [.int .u64 4607182418800017408] (resPV (some (bOne, 0))) := c_is bOne
  have k11 : PC E 91 [.int .u64 9221120237041090560] (resPV (some (bNaN, 0))) := c_is bNaN
  have k12 : PC E 91 [.int .u64 0] (resPV (some (0, 0))) := c_is 0
  have k13 := c_invalid
  unfold compS at hR
  simp only [u] at k1 k2 k4 k5
  generalize fs x = t at *
  generalize fsz x = z at *
  generalize kind x = a at *
  simp only [Tryz.f136, u, go_sem]
  clear hx
  repeat' first
    | ((with_reducible refine qif_b (fun h => ?_) (fun h => ?_)) <;> (try simp only [h] at k2 k4) <;> simp only [Tryz.f136, h, u, ansPV, resPV, q1, q2, q3, go_sem])
    | ((with_reducible refine qcall_i k1 ?_); simp only [Tryz.f136, u, ansPV, resPV, q1, q2, q3, go_sem])
    | ((with_reducible refine qcall_i k2 ?_); simp only [Tryz.f136, u, ansPV, resPV, q1, q2, q3, go_sem])
    | ((with_reducible refine qcall_i k4 ?_); simp only [Tryz.f136, u, ansPV, resPV, q1, q2, q3, go_sem])
    | ((with_reducible refine qcall_i k5 ?_); simp only [Tryz.f136, u, ansPV, resPV, q1, q2, q3, go_sem])
    | ((with_reducible refine qcall_i k8 ?_); simp only [Tryz.f136, u, ansPV, resPV, q1, q2, q3, go_sem])
    | ((with_reducible refine qcall_i k9 ?_); simp only [Tryz.f136, u, ansPV, resPV, q1, q2, q3, go_sem])
    | ((with_reducible refine qcall_i k10 ?_); simp only [Tryz.f136, u, ansPV, resPV, q1, q2, q3, go_sem])
    | ((with_reducible refine qcall_i k11 ?_); simp only [Tryz.f136, u, ansPV, resPV, q1, q2, q3, go_sem])
    | ((with_reducible refine qcall_i k12 ?_); simp only [Tryz.f136, u, ansPV, resPV, q1, q2, q3, go_sem])
    | ((with_reducible refine qcall_i k13 ?_); simp only [Tryz.f136, u, ansPV, resPV, q1, q2, q3, go_sem])
    | ((with_reducible refine Eq.trans ?_ hR.symm); clear k1 k2 k4 k5 k8 k9 k10 k11 k12 k13 q1 q2 q3 hR; first | (simp_all [ansPV, resPV, bNaN, bInf, bOne]; done) | ((repeat' split) <;> first | rfl | exact hE.symm | (exfalso; simp_all; done) | (exfalso; simp_all; omega)))
set_option maxHeartbeats 1000000 in
theorem c_rEnd (x : Nat) (hx : x < W) (n : Int) (hn : n ≠ 0) : PC E 150 [u x, .int .i64 n] (ansPV (endsS x n)) := by
  obtain ⟨R, hR⟩ : ∃ R, R = ansPV (endsS x n) := ⟨_, rfl⟩
  rw [← hR]
  refine PC.of_body follows Tryz.func150 (by decide +kernel) rfl (by kernel_rfl) (Nat.le_of_ble_eq_true rfl) (walk ?_)
  have q1 := tmod2 n
  have q2 := sgd_add x (podd n)
  have k1 := c_rsign x (podd n)
  have e5 : ∀ m : Nat, ((kind x : Int) = m) = (kind x = m) := fun m => by rw [Int.ofNat_inj]
  have q3 := e5 3
  have q4 := e5 0
  simp only [Int.cast_ofNat_Int] at q3 q4
  clear e5
  simp only [u] at k1
  simp only [Tryz.f150, q1, go_sem]
  refine qcall_i (c_rKind x hx) ?_; simp only [Tryz.f150, u, q1, q3, q4, go_sem]
  unfold endsS at hR
  generalize podd n = o at *
  generalize sgd bInf x o = g1 at *
  generalize sgd 0 x o = g2 at *
  generalize kind x = a at *
  clear hx
  repeat' first
    | ((with_reducible refine qif_b (fun h => ?_) (fun h => ?_)) <;> simp only [Tryz.f150, h, u, ansPV, resPV, q1, q2, q3, q4, go_sem])
    | ((with_reducible refine qcall_i k1 ?_); simp only [Tryz.f150, u, ansPV, resPV, q1, q2, q3, q4, go_sem])
    | ((with_reducible refine Eq.trans ?_ hR.symm); clear k1 q1 q2 q3 q4 hR; first | (simp_all [ansPV, resPV, bNaN, bInf, bOne]; done) | ((repeat' split) <;> first | rfl | exact hE.symm | (exfalso; simp_all; done) | (exfalso; simp_all; omega)))
set_option maxHeartbeats 1000000 in
theorem c_rPown (x : Nat) (hx : x < W) (n : Int) : PC E 86 [u x, .int .i64 n] (ansPV (pownS x n)) := by
  obtain ⟨R, hR⟩ : ∃ R, R = ansPV (pownS x n) := ⟨_, rfl⟩
  rw [← hR]
  refine PC.of_body follows Tryz.func86 (by decide +kernel) rfl (by kernel_rfl) (Nat.le_of_ble_eq_true rfl) (walk ?_)
  have k1 := fun h => c_rEnd x hx n h
  have e5 : ∀ m : Nat, ((kind x : Int) = m) = (kind x = m) := fun m => by rw [Int.ofNat_inj]
  have q3 := e5 5
  have q4 := e5 4
  simp only [Int.cast_ofNat_Int] at q3 q4
  clear e5
  have hE := ansPV_ex (endsS x n)
  obtain ⟨rB, rF, rI, hr⟩ := hE
  simp only [u, hr] at k1
  simp only [Tryz.f86, go_sem]
  refine qcall_i (c_rKind x hx) ?_; simp only [Tryz.f86, u, q3, q4, go_sem]
  unfold pownS at hR
  generalize kind x = a at *
  have hE := hr
  generalize endsS x n = z at *
  clear hx
  repeat' first
    | ((with_reducible refine qif_b (fun h => ?_) (fun h => ?_)) <;> simp only [Tryz.f86, h, u, ansPV, resPV, q3, q4, go_sem])
    | ((with_reducible refine qcall_i (k1 (by simp only [decide_eq_true_eq, decide_eq_false_iff_not] at *; omega)) ?_); simp only [Tryz.f86, u, ansPV, resPV, q3, q4, go_sem])
    | ((with_reducible refine Eq.trans ?_ hR.symm); clear k1 q3 q4 hR; first | (simp_all [ansPV, resPV, bNaN, bInf, bOne]; done) | ((repeat' split) <;> first | rfl | exact hE.symm | (exfalso; simp_all; done) | (exfalso; simp_all; omega)))
set_option maxHeartbeats 1000000 in
theorem c_rRootn (x : Nat) (hx : x < W) (n : Int) : PC E 87 [u x, .int .i64 n] (ansPV (rootnS x n)) := by
  obtain ⟨R, hR⟩ : ∃ R, R = ansPV (rootnS x n) := ⟨_, rfl⟩
  rw [← hR]
  refine PC.of_body follows Tryz.func87 (by decide +kernel) rfl (by kernel_rfl) (Nat.le_of_ble_eq_true rfl) (walk ?_)
  have k1 := fun h => c_rEnd x hx n h
  have q1 := tmod2' n
  have q5 : decide ((x : Int) ≥ 9223372036854775808) = fs x := decide_eq_decide.2 (by omega)
  have e5 : ∀ m : Nat, ((kind x : Int) = m) = (kind x = m) := fun m => by rw [Int.ofNat_inj]
  have q3 := e5 5
  have q4 := e5 4
  have q6 := e5 0
  simp only [Int.cast_ofNat_Int] at q3 q4 q6
  clear e5
  have hE := ansPV_ex (endsS x n)
  obtain ⟨rB, rF, rI, hr⟩ := hE
  simp only [u, hr] at k1
  simp only [Tryz.f87, go_sem]
  refine qcall_i (c_rKind x hx) ?_; simp only [Tryz.f87, u, q3, q4, go_sem]
  unfold rootnS at hR
  generalize kind x = a at *
  have hE := hr
  generalize endsS x n = z at *
  generalize fs x = t at *
  generalize podd n = o at *
  clear hx
  repeat' first
    | ((with_reducible refine qif_b (fun h => ?_) (fun h => ?_)) <;> simp only [Tryz.f87, h, u, ansPV, resPV, q1, q3, q4, q5, q6, go_sem])
    | ((with_reducible refine qcall_i (k1 (by simp only [decide_eq_true_eq, decide_eq_false_iff_not] at *; omega)) ?_); simp only [Tryz.f87, u, ansPV, resPV, q1, q3, q4, q5, q6, go_sem])
    | ((with_reducible refine Eq.trans ?_ hR.symm); clear k1 q1 q3 q4 q5 q6 hR; first | (simp_all [ansPV, resPV, bNaN, bInf, bOne]; done) | ((repeat' split) <;> first | rfl | exact hE.symm | (exfalso; simp_all; done) | (exfalso; simp_all; omega)))
set_option maxHeartbeats 1000000 in
theorem c_rCompound (x : Nat) (hx : x < W) (n : Int) : PC E 88 [u x, .int .i64 n] (ansPV (compS x n)) := by
  obtain ⟨R, hR⟩ : ∃ R, R = ansPV (compS x n) := ⟨_, rfl⟩
  rw [← hR]
  refine PC.of_body follows Tryz.func88 (by decide +kernel) rfl (by kernel_rfl) (Nat.le_of_ble_eq_true rfl) (walk ?_)
  have k1 := fun h => c_less x hx h
  have q2 : (sgn (fsz x) 4607182418800017408 = 0) = (fsz x = 4607182418800017408) := by rw [sgn_zero, ← Int.ofNat_inj]; rfl
  have q3 : (0 < sgn (fsz x) 4607182418800017408) = (4607182418800017408 < fsz x) := by rw [sgn_pos, ← Int.ofNat_lt]; rfl
  have q5 : decide ((x : Int) ≥ 9223372036854775808) = fs x := decide_eq_decide.2 (by omega)
  have e5 : ∀ m : Nat, ((kind x : Int) = m) = (kind x = m) := fun m => by rw [Int.ofNat_inj]
  have q6 := e5 5
  have q7 := e5 4
  have q8 := e5 3
  have q9 := e5 0
  have q10 : ((kind x : Int) ≤ 3) = (kind x ≤ 3) := propext (by omega)
  simp only [Int.cast_ofNat_Int] at q6 q7 q8 q9
  clear e5
  have f5 := kind_le x
  simp only [u] at k1
  simp only [Tryz.f88, go_sem]
  refine qcall_i (c_rKind x hx) ?_; simp only [Tryz.f88, u, q6, q10, go_sem]
  unfold compS at hR
  generalize kind x = a at *
  generalize fs x = t at *
  generalize fsz x = z at *
  clear hx
  repeat' first
    | ((with_reducible refine qif_b (fun h => ?_) (fun h => ?_)) <;> simp only [Tryz.f88, h, u, ansPV, resPV, q2, q3, q5, q6, q7, q8, q9, q10, go_sem])
    | ((with_reducible refine qcall_i (k1 (by simp only [decide_eq_true_eq, decide_eq_false_iff_not] at *; omega)) ?_); simp only [Tryz.f88, u, ansPV, resPV, q2, q3, q5, q6, q7, q8, q9, q10, go_sem])
    | ((with_reducible refine Eq.trans ?_ hR.symm); clear k1 q2 q3 q5 q6 q7 q8 q9 q10 hR; first | (simp_all [ansPV, resPV, bNaN, bInf, bOne]; done) | ((repeat' split) <;> first | rfl | exact hE.symm | (exfalso; simp_all; done) | (exfalso; simp_all; omega)))
end
end
section
section
open Go PG Go.Proofs
open XX
def hvv (dir f t : Int) : PV := .agg [.int .i64 dir, .int .i64 f, .int .i64 t, .np]
def hOk (dir f t : Int) : Prop := planOk f t ∧ 0 ≤ dir ∧ dir ≤ 3
instance (dir f t : Int) : Decidable (hOk dir f t) := inferInstanceAs (Decidable (_ ∧ _))
theorem w_Plain : PC E 13 [] (hvv 0 64 1024) := by
  unfold hvv
  refine PC.of_body follows Tryz.func13 (by decide +kernel) rfl (by kernel_rfl) (Nat.le_of_ble_eq_true rfl) (walk ?_)
  simp only [Tryz.f13, go_sem]
  try rfl
theorem w_right (dir f t : Int) : PC E 94 [hvv dir f t] (.bool (decide (hOk dir f t))) := by
  have k1 := c_Plan f t
  unfold hvv
  obtain ⟨R, hR⟩ : ∃ R, R = PV.bool (decide (hOk dir f t)) := ⟨_, rfl⟩
  rw [← hR]
  by_cases c1 : planOk f t
  case neg =>
    rw [if_neg c1] at k1
    rw [decide_eq_false (fun h : hOk dir f t => c1 h.1)] at hR
    refine PC.of_body follows Tryz.func94 (by decide +kernel) rfl (by kernel_rfl) (Nat.le_of_ble_eq_true rfl) (walk ?_)
    simp only [Tryz.f94, go_sem]
    refine qcall_i (k1) ?_; simp only [Tryz.f94, go_sem]
    first | (rw [hR]; done) | (rw [hR]; rfl)
  rw [if_pos c1] at k1
  have e : decide (hOk dir f t) = decide (0 ≤ dir ∧ dir ≤ 3) := decide_eq_decide.2 ⟨fun h => h.2, fun h => ⟨c1, h⟩⟩
  rw [e] at hR
  generalize IL (planS f t) = IP at *
  generalize (planS f t).length = LP at *
  refine PC.of_body follows Tryz.func94 (by decide +kernel) rfl (by kernel_rfl) (Nat.le_of_ble_eq_true rfl) (walk ?_)
  simp only [Tryz.f94, go_sem]
  refine qcall_i (k1) ?_; simp only [Tryz.f94, go_sem]
  refine qif_d (fun h => ?_) (fun h => ?_)
  · simp only [Tryz.f94, go_sem]
    rw [hR]
    congr 1
    exact decide_eq_decide.2 (by omega)
  · simp only [Tryz.f94, go_sem]
    rw [hR]
    congr 1
    exact (decide_eq_false (by omega)).symm
def resC (r : Nat × Nat) : PV := .agg [.int .u64 (r.1 : Nat), .int .u8 (r.2 : Nat), .int .i64 0]
theorem w_doesArg {dir f t : Int} (h : ¬ hOk dir f t) (r : Nat × Nat) (b : Bool) (g : FuncId) (cs : List PV) : PC E 41 [hvv dir f t, resC r, .bool b, .clo g cs] (.tuple [.agg [.int .u64 0, .int .u8 0, .int .i64 0], .int .i64 0, .int .i64 1]) := by
  have k1 := w_right dir f t
  rw [decide_eq_false h] at k1
  unfold hvv at *
  unfold resC
  refine PC.of_body follows Tryz.func41 (by decide +kernel) rfl (by kernel_rfl) (Nat.le_of_ble_eq_true rfl) (walk ?_)
  simp only [Tryz.f41, go_sem]
  refine qcall_i (k1) ?_; simp only [Tryz.f41, go_sem]
  try rfl
theorem w_doesIs {dir f t : Int} (h : hOk dir f t) (r : Nat × Nat) (g : FuncId) (cs : List PV) : PC E 41 [hvv dir f t, resC r, .bool true, .clo g cs] (.tuple [resC r, .int .i64 0, .int .i64 0]) := by
  have k1 := w_right dir f t
  rw [decide_eq_true h] at k1
  unfold hvv at *
  unfold resC
  refine PC.of_body follows Tryz.func41 (by decide +kernel) rfl (by kernel_rfl) (Nat.le_of_ble_eq_true rfl) (walk ?_)
  simp only [Tryz.f41, go_sem]
  refine qcall_i (k1) ?_; simp only [Tryz.f41, go_sem]
  try rfl
theorem w_does {dir f t : Int} (h : hOk dir f t) (r : Nat × Nat) {g : FuncId} (hmu : E.mu g = false) {cs : List PV} {p : PV} {a : Ask} (hp : RA p a) (ha : AskOk a) (hc : PC E g cs p) : PC E 41 [hvv dir f t, resC r, .bool false, .clo g cs] (doPV (doS a)) := by
  have k1 := w_right dir f t
  rw [decide_eq_true h] at k1
  have k2 := o_Do hp ha
  rw [E_mu] at hmu
  generalize doS a = D at *
  obtain ⟨d1, d2, d3, d4⟩ := D
  obtain ⟨s1, P1, e1, s2, P2, e2, rfl, h1, h2⟩ := hp
  unfold hvv at *
  unfold resC
  simp only [doPV] at k2 ⊢
  refine PC.of_body follows Tryz.func41 (by decide +kernel) rfl (by kernel_rfl) (Nat.le_of_ble_eq_true rfl) (walk ?_)
  simp only [Tryz.f41, hmu, go_sem]
  refine qcall_i (k1) ?_; simp only [Tryz.f41, hmu, go_sem]
  refine qcall_i (hc) ?_; simp only [Tryz.f41, hmu, go_sem]
  refine qcall_i (k2) ?_; simp only [Tryz.f41, go_sem]
  try rfl
theorem RD.lst {s : Bool} {P : PV} {e : Int} {d : Dy} (h : RD (DP s P e) d) : ∃ n cs, P = .lst n cs := by
  obtain ⟨s', q, x, e', hp, ⟨l, rfl, -⟩, -⟩ := h
  simp only [DP, PV.agg.injEq, List.cons.injEq] at hp
  exact ⟨_, _, hp.2.1⟩
theorem w_ask {s1 : Bool} {n1 : Nat} {c1 : List PV} {e1 : Int} {s2 : Bool} {n2 : Nat} {c2 : List PV} {e2 : Int} (n : Nat) (neg : Bool) (dir f t : Int) :
    PC E 96 [.agg [.bool s1, .lst n1 c1, .int .i64 e1], .agg [.bool s2, .lst n2 c2, .int .i64 e2], .int .u64 n, .bool neg, hvv dir f t] (.agg [.bool s1, .lst n1 c1, .int .i64 e1, .bool s2, .lst n2 c2, .int .i64 e2, .int .u64 n, .bool neg, .int .i64 dir, .int .i64 f, .int .i64 t]) := by
  unfold hvv
  refine PC.of_body follows Tryz.func96 (by decide +kernel) rfl (by kernel_rfl) (Nat.le_of_ble_eq_true rfl) (walk ?_)
  simp only [Tryz.f96, go_sem]
  try rfl
theorem w_size {n : Int} (h0 : -9223372036854775808 ≤ n) (h1 : n < 9223372036854775808) : PC E 48 [.int .i64 n] (.int .u64 (n.natAbs : Nat)) := by
  refine PC.of_body follows Tryz.func48 (by decide +kernel) rfl (by kernel_rfl) (Nat.le_of_ble_eq_true rfl) (walk ?_)
  simp only [Tryz.f48, go_sem]
  refine qif_d (fun h => ?_) (fun h => ?_)
  · have w := wrapN64 h0 h
    simp only [Tryz.f48, w, go_sem]
    try rfl
  · have w := wrapP64 (n := n) (by omega) h1
    simp only [Tryz.f48, w, go_sem]
    try rfl
def askA (x : Nat) (y : Dy) (n : Nat) (neg : Bool) (dir f t : Int) : Ask := ⟨fd (fsz x), y, n, neg, dir, f, t⟩
theorem fe_fsz (b : Nat) : fe (fsz b) = fe b := (fm_fsz b).2
theorem fsz2 (b : Nat) : fsz (fsz b) = fsz b := Nat.mod_eq_of_lt (fsz_lt b)
theorem w_Asked {x : Nat} (hx : x < W) (hf : fe x < 2047) {p : PV} {y : Dy} (hy : RD p y) (n : Nat) (neg : Bool) (dir f t : Int) :
    ∃ r, PC E 43 [u x, p, .int .u64 n, .bool neg, hvv dir f t] r ∧ RA r (askA x y n neg dir f t) := by
  have e1 := n63 hx
  have k1 := r_FDyad (b := fsz x) (Nat.lt_trans (fsz_lt x) (by decide))
  rw [fe_fsz, if_pos hf] at k1
  generalize decide (fe x < 2047) = bb at *
  have hR := RD.fd (fsz x)
  have hy' := hy
  obtain ⟨s2, P2, x2, e2, rfl, -⟩ := hy'
  obtain ⟨n2, c2, rfl⟩ := RD.lst hy
  have k2 := w_ask (s1 := (fd (fsz x)).s) (n1 := (dg W (fd (fsz x)).m).length) (c1 := U (dg W (fd (fsz x)).m)) (e1 := (fd (fsz x)).e) (s2 := s2) (n2 := n2) (c2 := c2) (e2 := e2) n neg dir f t
  refine ⟨_, ?_, (fd (fsz x)).s, NN (fd (fsz x)).m, (fd (fsz x)).e, s2, .lst n2 c2, e2, rfl, hR, hy⟩
  show PC E _ _ (.agg [.bool (fd (fsz x)).s, NN (fd (fsz x)).m, .int .i64 (fd (fsz x)).e, .bool s2, .lst n2 c2, .int .i64 e2, .int .u64 n, .bool neg, .int .i64 dir, .int .i64 f, .int .i64 t])
  generalize fd (fsz x) = D at *
  unfold hvv at *
  simp only [DP, Dy.pv, u, NN, NL] at k1 k2 ⊢
  refine PC.of_body follows Tryz.func43 (by decide +kernel) rfl (by kernel_rfl) (Nat.le_of_ble_eq_true rfl) (walk ?_)
  simp only [Tryz.f43, go_sem]
  simp only [Tryz.f43, e1, go_sem]
  refine qcall_i (k1) ?_; simp only [Tryz.f43, go_sem]
  refine qcall_i (k2) ?_; simp only [Tryz.f43, go_sem]
  try rfl
theorem fin_ask {x : Nat} (hf : fe x < 2047) (h0 : fsz x ≠ 0) : LgOk (fd (fsz x)) ∧ -1074 ≤ (fd (fsz x)).top ∧ (fd (fsz x)).top ≤ 1153 ∧ bitLen (fd (fsz x)).m ≤ 53 := by
  have hm : (fd (fsz x)).m ≠ 0 := fun h => h0 (by
    have := (fd_m0 (b := fsz x) (by rw [fe_fsz]; exact hf)).1 h
    rwa [fsz2] at this)
  have he := fd_e (fsz x)
  have hb := fd_bits (fsz x)
  have hl := (fd_lim (fsz x)).top_lt hm
  have hb0 := bitLen_pos hm
  have ht := top_eq hm
  have hs : (fd (fsz x)).s = false := by
    rw [fd_s hm]
    exact fs_small (fsz_lt x)
  exact ⟨⟨fd_ok' _, hs, hm, by omega, by omega, by omega⟩, by omega, by omega, hb⟩
theorem fin_y {y : Nat} (hf : fe y < 2047) (h0 : fsz y ≠ 0) : (fd y).m ≠ 0 ∧ bitLen (fd y).m ≤ 64 ∧ -1100 ≤ (fd y).top ∧ (fd y).top ≤ 1100 := by
  have hm : (fd y).m ≠ 0 := fun h => h0 ((fd_m0 hf).1 h)
  have he := fd_e y
  have hb := fd_bits y
  have hb0 := bitLen_pos hm
  have ht := top_eq hm
  exact ⟨hm, by omega, by omega, by omega⟩
theorem norm_facts {n : Int} (h0 : n ≠ 0) (h1 : -9223372036854775808 ≤ n) (h2 : n < 9223372036854775808) : (norm n 0).ok ∧ (norm n 0).m ≠ 0 ∧ bitLen (norm n 0).m ≤ 64 ∧ 0 ≤ (norm n 0).top ∧ (norm n 0).top ≤ 64 ∧ RD (norm n 0).pv (norm n 0) := by
  have hn : n.natAbs < 2 ^ 64 := Nat.lt_of_le_of_lt (show n.natAbs ≤ 9223372036854775808 by omega) (by decide)
  have hl : Lim 64 (norm n 0) := Lim.norm hn (by decide)
  have hm : (norm n 0).m ≠ 0 := fun h => by
    have := mkD_m0.1 h
    omega
  have ht := hl.top_lt hm
  have hb := norm_bits n 0
  have hbn : bitLen n.natAbs ≤ 64 := (bitLen_le _ _).2 hn
  have hg := (norm_ge n (k := 0) (by decide) (by decide)).resolve_left hm
  have hb0 := bitLen_pos hm
  have hte := top_eq hm
  exact ⟨norm_ok _ _, hm, by omega, by omega, by omega, hl.RD (by decide)⟩
theorem askOk_fin {x : Nat} (hf : fe x < 2047) (h0 : fsz x ≠ 0) {y : Dy} (hy : y.ok) (hy0 : y.m ≠ 0) (hyb : bitLen y.m ≤ 64) (hyt : -1100 ≤ y.top ∧ y.top ≤ 1100) {n : Nat} (hn1 : 1 ≤ n) (hn : n < W) {neg : Bool} {dir f t : Int} (h : hOk dir f t) : AskOk (askA x y n neg dir f t) := by
  obtain ⟨a1, a2, a3, a4⟩ := fin_ask hf h0
  exact ⟨a1, ⟨by show -2200 ≤ (fd (fsz x)).top; omega, by show (fd (fsz x)).top ≤ 2200; omega⟩, by show bitLen (fd (fsz x)).m ≤ _; omega, hy, hy0, hyb, hyt, hn1, hn, h.2, h.1⟩
end
section
open Go PG Go.Proofs
open XX
theorem kind_fin {b : Nat} (h : kind b = 1 ∨ kind b = 2) : fe b < 2047 ∧ fsz b ≠ 0 := by
  have hk : kind b ≠ 0 ∧ kind b ≤ 2 := by omega
  constructor
  · refine Nat.not_le.1 fun h1 => ?_
    have h2 := hk.2
    unfold kind at h2
    rw [if_neg (by omega), if_neg (by omega), if_neg (by omega)] at h2
    split at h2
    · omega
    · split at h2 <;> omega
  · intro h0
    refine hk.1 ?_
    unfold kind
    have : fe b = 0 ∧ ff b = 0 := by
      unfold fsz at h0
      unfold fe ff
      omega
    rw [if_pos this]
theorem powS_none {x y : Nat} (h : powS x y = none) : (kind x = 1 ∨ kind x = 2) ∧ (kind y = 1 ∨ kind y = 2) := by
  have h1 := kind_le x
  have h2 := kind_le y
  unfold powS at h
  split at h
  · cases h
  split at h
  · cases h
  split at h
  · cases h
  split at h
  · split at h
    · split at h <;> cases h
    · cases h
  split at h
  · split at h
    · cases h
    · split at h <;> cases h
  split at h
  · split at h <;> cases h
  omega
theorem endsS_none {x : Nat} {n : Int} (h : endsS x n = none) : kind x ≠ 0 ∧ kind x ≠ 3 := by
  unfold endsS at h
  split at h
  · split at h <;> cases h
  · split at h
    · split at h <;> cases h
    · omega
theorem pownS_none {x : Nat} {n : Int} (h : pownS x n = none) : (kind x = 1 ∨ kind x = 2) ∧ n ≠ 0 := by
  have h1 := kind_le x
  unfold pownS at h
  split at h
  · cases h
  split at h
  · cases h
  split at h
  · cases h
  have := endsS_none h
  omega
theorem rootnS_none {x : Nat} {n : Int} (h : rootnS x n = none) : (kind x = 1 ∨ kind x = 2) ∧ n ≠ 0 := by
  have h1 := kind_le x
  unfold rootnS at h
  split at h
  · cases h
  split at h
  · cases h
  split at h
  · cases h
  split at h
  · cases h
  have := endsS_none h
  omega
theorem compS_none {x : Nat} {n : Int} (h : compS x n = none) : (kind x = 1 ∨ kind x = 2) ∧ n ≠ 0 ∧ (fs x = true → fsz x < 4607182418800017408) := by
  have h1 := kind_le x
  unfold compS at h
  split at h
  · cases h
  split at h
  · cases h
  split at h
  · cases h
  split at h
  · cases h
  split at h
  · split at h <;> cases h
  split at h
  · cases h
  split at h
  · split at h <;> cases h
  refine ⟨by omega, by omega, fun hs => ?_⟩
  rename_i c1 c2 c3 c4 c5 c6 c7
  have g2 : ¬ 4607182418800017408 < fsz x := fun hh => c2 ⟨c4, hs, hh⟩
  have g5 : ¬ fsz x = 4607182418800017408 := fun hh => c5 ⟨hs, hh⟩
  omega
def opPV (o : Option (Nat × Nat)) (dir f t : Int) (a : Ask) : PV :=
  if hOk dir f t then (match o with | some r => doPV (r.1, r.2, 0, 0) | none => doPV (doS a)) else .tuple [resC (0, 0), .int .i64 0, .int .i64 1]
def resD (o : Option (Nat × Nat)) : Nat × Nat := o.getD (0, 0)
theorem resPV_C (o : Option (Nat × Nat)) : resPV o = .tuple [resC (resD o), .bool o.isSome] := by cases o <;> rfl
theorem w_doesO {dir f t : Int} (o : Option (Nat × Nat)) {g : FuncId} (hmu : E.mu g = false) {cs : List PV} {a : Ask} (hc : o = none → hOk dir f t → ∃ p, RA p a ∧ AskOk a ∧ PC E g cs p) :
    PC E 41 [hvv dir f t, resC (resD o), .bool o.isSome, .clo g cs] (opPV o dir f t a) := by
  unfold opPV
  by_cases h : hOk dir f t
  · rw [if_pos h]
    cases o with
    | some r => exact w_doesIs h r g cs
    | none =>
      obtain ⟨p, h1, h2, h3⟩ := hc rfl h
      exact w_does h _ hmu h1 h2 h3
  · rw [if_neg h]
    exact w_doesArg h _ _ g cs
theorem w_Pow1 {x y : Nat} (hx : x < W) (hy : y < W) (fx : fe x < 2047) (fy : fe y < 2047) (dir f t : Int) :
    ∃ r, PC E 71 [.ref [u y], .ref [u x], .ref [.int .i64 dir, .int .i64 f, .int .i64 t, .np]] r ∧ RA r (askA x (fd y) 1 (fs x && od y) dir f t) := by
  obtain ⟨r, k4, hr⟩ := w_Asked hx fx (RD.fd y) 1 (fs x && od y) dir f t
  refine ⟨r, ?_, hr⟩
  have k1 := c_Whole' y hy
  have k2 := r_FDyad hy
  rw [if_pos fy, decide_eq_true fy] at k2
  have k3 := c_Neg x hx
  obtain ⟨s1, P1, e1, s2, P2, e2, rfl, h1, h2⟩ := hr
  have e1' : ((1 : Nat) : Int) = 1 := rfl
  generalize wh y = w1 at *
  generalize fd y = D at *
  unfold hvv at k4
  simp only [DP, Dy.pv, u, NN, NL, askA, e1'] at k1 k2 k3 k4 ⊢
  cases hs : fs x with
  | true =>
    rw [hs] at k3 k4
    rw [Bool.true_and] at k4 ⊢
    refine PC.of_body follows Tryz.func71 (by decide +kernel) rfl (by kernel_rfl) (Nat.le_of_ble_eq_true rfl) (walk ?_)
    simp only [Tryz.f71, go_sem]
    refine qcall_i (k1) ?_; simp only [Tryz.f71, go_sem]
    refine qcall_i (k2) ?_; simp only [Tryz.f71, go_sem]
    refine qcall_i (k3) ?_; simp only [Tryz.f71, go_sem]
    refine qcall_i (k4) ?_; simp only [Tryz.f71, go_sem]
    try rfl
  | false =>
    rw [hs] at k3 k4
    rw [Bool.false_and] at k4 ⊢
    refine PC.of_body follows Tryz.func71 (by decide +kernel) rfl (by kernel_rfl) (Nat.le_of_ble_eq_true rfl) (walk ?_)
    simp only [Tryz.f71, go_sem]
    refine qcall_i (k1) ?_; simp only [Tryz.f71, go_sem]
    refine qcall_i (k2) ?_; simp only [Tryz.f71, go_sem]
    refine qcall_i (k3) ?_; simp only [Tryz.f71, go_sem]
    refine qcall_i (k4) ?_; simp only [Tryz.f71, go_sem]
    try rfl
theorem w_Pow {x y : Nat} (hx : x < W) (hy : y < W) (dir f t : Int) : PC E 26 [u x, u y, hvv dir f t] (opPV (powS x y) dir f t (askA x (fd y) 1 (fs x && od y) dir f t)) := by
  have k1 := c_Pow x y hx hy
  rw [resPV_C] at k1
  have k2 := w_doesO (dir := dir) (f := f) (t := t) (powS x y) (g := 71) (by kernel_rfl) (cs := [.ref [u y], .ref [u x], .ref [.int .i64 dir, .int .i64 f, .int .i64 t, .np]]) (a := askA x (fd y) 1 (fs x && od y) dir f t) (fun ho hk => by
    obtain ⟨kx, ky⟩ := powS_none ho
    obtain ⟨fx, x0⟩ := kind_fin kx
    obtain ⟨fy, y0⟩ := kind_fin ky
    obtain ⟨r, q1, q2⟩ := w_Pow1 hx hy fx fy dir f t
    obtain ⟨g1, g2, g3⟩ := fin_y fy y0
    exact ⟨r, q2, askOk_fin fx x0 (fd_ok' y) g1 g2 g3 (Nat.le_refl 1) (by decide) hk, q1⟩)
  have ho : ∃ a b c d e, opPV (powS x y) dir f t (askA x (fd y) 1 (fs x && od y) dir f t) = .tuple [.agg [.int .u64 a, .int .u8 b, .int .i64 c], .int .i64 d, .int .i64 e] := by
    unfold opPV
    split
    · split <;> exact ⟨_, _, _, _, _, rfl⟩
    · exact ⟨_, _, _, _, _, rfl⟩
  obtain ⟨a1, a2, a3, a4, a5, ho⟩ := ho
  rw [ho] at k2 ⊢
  generalize resD (powS x y) = RR at *
  generalize (powS x y).isSome = bb at *
  simp only [resC, hvv, u] at k1 k2 ⊢
  refine PC.of_body follows Tryz.func26 (by decide +kernel) rfl (by kernel_rfl) (Nat.le_of_ble_eq_true rfl) (walk ?_)
  simp only [Tryz.f26, go_sem]
  refine qcall_i (k1) ?_; simp only [Tryz.f26, go_sem]
  refine qcall_i (k2) ?_; simp only [Tryz.f26, go_sem]
  try rfl
end
section
open Go PG Go.Proofs
open XX
theorem opPV_ex (o : Option (Nat × Nat)) (dir f t : Int) (A : Ask) : ∃ a b c d e, opPV o dir f t A = .tuple [.agg [.int .u64 a, .int .u8 b, .int .i64 c], .int .i64 d, .int .i64 e] := by
  unfold opPV
  split
  · split <;> exact ⟨_, _, _, _, _, rfl⟩
  · exact ⟨_, _, _, _, _, rfl⟩
def pownA (x : Nat) (n : Int) (dir f t : Int) : Ask := askA x (norm n 0) 1 (fs x && podd n) dir f t
theorem w_Pown1 {x : Nat} (hx : x < W) (fx : fe x < 2047) {n : Int} (n0 : n ≠ 0) (n1 : -9223372036854775808 ≤ n) (n2 : n < 9223372036854775808) (dir f t : Int) :
    ∃ r, PC E 42 [.ref [u x], .ref [.int .i64 n], .ref [.int .i64 dir, .int .i64 f, .int .i64 t, .np]] r ∧ RA r (pownA x n dir f t) := by
  obtain ⟨g1, g2, g3, g4, g5, g6⟩ := norm_facts n0 n1 n2
  obtain ⟨r, k4, hr⟩ := w_Asked hx fx g6 1 (fs x && podd n) dir f t
  refine ⟨r, ?_, hr⟩
  have k1 := c_dOf n n1 n2
  have k3 := c_Neg x hx
  have hand := i64_and1 n
  have hpo : decide (n % 2 = 1) = podd n := rfl
  obtain ⟨s1, P1, e1, s2, P2, e2, rfl, h1, h2⟩ := hr
  have e1' : ((1 : Nat) : Int) = 1 := rfl
  generalize norm n 0 = D at *
  unfold hvv at k4
  simp only [DP, Dy.pv, u, NN, NL, askA, pownA, e1'] at k1 k3 k4 ⊢
  cases hs : fs x with
  | true =>
    rw [hs] at k3 k4
    rw [Bool.true_and] at k4 ⊢
    refine PC.of_body follows Tryz.func42 (by decide +kernel) rfl (by kernel_rfl) (Nat.le_of_ble_eq_true rfl) (walk ?_)
    simp only [Tryz.f42, go_sem]
    refine qcall_i (k1) ?_; simp only [Tryz.f42, go_sem]
    refine qcall_i (k3) ?_; simp only [Tryz.f42, hand, hpo, go_sem]
    refine qcall_i (k4) ?_; simp only [Tryz.f42, go_sem]
    try rfl
  | false =>
    rw [hs] at k3 k4
    rw [Bool.false_and] at k4 ⊢
    refine PC.of_body follows Tryz.func42 (by decide +kernel) rfl (by kernel_rfl) (Nat.le_of_ble_eq_true rfl) (walk ?_)
    simp only [Tryz.f42, go_sem]
    refine qcall_i (k1) ?_; simp only [Tryz.f42, go_sem]
    refine qcall_i (k3) ?_; simp only [Tryz.f42, go_sem]
    refine qcall_i (k4) ?_; simp only [Tryz.f42, go_sem]
    try rfl
theorem w_Pown {x : Nat} (hx : x < W) {n : Int} (n1 : -9223372036854775808 ≤ n) (n2 : n < 9223372036854775808) (dir f t : Int) : PC E 14 [u x, .int .i64 n, hvv dir f t] (opPV (pownS x n) dir f t (pownA x n dir f t)) := by
  have k1 := c_Pown x hx n
  rw [resPV_C] at k1
  have k2 := w_doesO (dir := dir) (f := f) (t := t) (pownS x n) (g := 42) (by kernel_rfl) (cs := [.ref [u x], .ref [.int .i64 n], .ref [.int .i64 dir, .int .i64 f, .int .i64 t, .np]]) (a := pownA x n dir f t) (fun ho hk => by
    obtain ⟨kx, n0⟩ := pownS_none ho
    obtain ⟨fx, x0⟩ := kind_fin kx
    obtain ⟨r, q1, q2⟩ := w_Pown1 hx fx n0 n1 n2 dir f t
    obtain ⟨g1, g2, g3, g4, g5, g6⟩ := norm_facts n0 n1 n2
    exact ⟨r, q2, askOk_fin fx x0 g1 g2 g3 ⟨by omega, by omega⟩ (Nat.le_refl 1) (by decide) hk, q1⟩)
  obtain ⟨a1, a2, a3, a4, a5, ho⟩ := opPV_ex (pownS x n) dir f t (pownA x n dir f t)
  rw [ho] at k2 ⊢
  generalize resD (pownS x n) = RR at *
  generalize (pownS x n).isSome = bb at *
  simp only [resC, hvv, u] at k1 k2 ⊢
  refine PC.of_body follows Tryz.func14 (by decide +kernel) rfl (by kernel_rfl) (Nat.le_of_ble_eq_true rfl) (walk ?_)
  simp only [Tryz.f14, go_sem]
  refine qcall_i (k1) ?_; simp only [Tryz.f14, go_sem]
  refine qcall_i (k2) ?_; simp only [Tryz.f14, go_sem]
  try rfl
def rootA (x : Nat) (n : Int) (dir f t : Int) : Ask := askA x (mkD (decide (n < 0)) 1 0) n.natAbs (fs x) dir f t
theorem one_facts (s : Bool) : (mkD s 1 0).ok ∧ (mkD s 1 0).m ≠ 0 ∧ bitLen (mkD s 1 0).m ≤ 64 ∧ (mkD s 1 0).top = 0 := by
  cases s
  · exact ⟨mkD_ok _ _ _, by decide, by decide, by decide⟩
  · exact ⟨mkD_ok _ _ _, by decide, by decide, by decide⟩
theorem w_Rootn1 {x : Nat} (hx : x < W) (fx : fe x < 2047) {n : Int} (n1 : -9223372036854775808 ≤ n) (n2 : n < 9223372036854775808) (dir f t : Int) :
    ∃ r, PC E 47 [.ref [.int .i64 n], .ref [u x], .ref [.int .i64 dir, .int .i64 f, .int .i64 t, .np]] r ∧ RA r (rootA x n dir f t) := by
  have hone : RD (DP (decide (n < 0)) (.lst 1 [.int .u64 1]) 0) (mkD (decide (n < 0)) 1 0) := RD.one (x := 1) (by decide)
  obtain ⟨r, k4, hr⟩ := w_Asked hx fx hone n.natAbs (fs x) dir f t
  refine ⟨r, ?_, hr⟩
  have k1 := w_size n1 n2
  have k3 := c_Neg x hx
  obtain ⟨s1, P1, e1, s2, P2, e2, rfl, h1, h2⟩ := hr
  unfold hvv at k4
  simp only [DP, Dy.pv, u, NN, NL, askA, rootA] at k1 k3 k4 ⊢
  refine PC.of_body follows Tryz.func47 (by decide +kernel) rfl (by kernel_rfl) (Nat.le_of_ble_eq_true rfl) (walk ?_)
  simp only [Tryz.f47, List.range_zero, List.getD_cons_zero, List.getD_cons_succ, Nat.reduceMod, go_sem]
  refine qcall_i (k1) ?_; simp only [Tryz.f47, List.range_zero, List.getD_cons_zero, List.getD_cons_succ, Nat.reduceMod, go_sem]
  refine qcall_i (k3) ?_; simp only [Tryz.f47, List.range_zero, List.getD_cons_zero, List.getD_cons_succ, Nat.reduceMod, go_sem]
  refine qcall_i (k4) ?_; simp only [Tryz.f47, go_sem]
  try rfl
theorem w_Rootn {x : Nat} (hx : x < W) {n : Int} (n1 : -9223372036854775808 ≤ n) (n2 : n < 9223372036854775808) (dir f t : Int) : PC E 15 [u x, .int .i64 n, hvv dir f t] (opPV (rootnS x n) dir f t (rootA x n dir f t)) := by
  have k1 := c_Rootn x hx n
  rw [resPV_C] at k1
  have k2 := w_doesO (dir := dir) (f := f) (t := t) (rootnS x n) (g := 47) (by kernel_rfl) (cs := [.ref [.int .i64 n], .ref [u x], .ref [.int .i64 dir, .int .i64 f, .int .i64 t, .np]]) (a := rootA x n dir f t) (fun ho hk => by
    obtain ⟨kx, n0⟩ := rootnS_none ho
    obtain ⟨fx, x0⟩ := kind_fin kx
    obtain ⟨r, q1, q2⟩ := w_Rootn1 hx fx n1 n2 dir f t
    obtain ⟨g1, g2, g3, g4⟩ := one_facts (decide (n < 0))
    exact ⟨r, q2, askOk_fin fx x0 g1 g2 g3 ⟨by omega, by omega⟩ (by omega) (natAbs_W n1 n2) hk, q1⟩)
  obtain ⟨a1, a2, a3, a4, a5, ho⟩ := opPV_ex (rootnS x n) dir f t (rootA x n dir f t)
  rw [ho] at k2 ⊢
  generalize resD (rootnS x n) = RR at *
  generalize (rootnS x n).isSome = bb at *
  simp only [resC, hvv, u] at k1 k2 ⊢
  refine PC.of_body follows Tryz.func15 (by decide +kernel) rfl (by kernel_rfl) (Nat.le_of_ble_eq_true rfl) (walk ?_)
  simp only [Tryz.f15, go_sem]
  refine qcall_i (k1) ?_; simp only [Tryz.f15, go_sem]
  refine qcall_i (k2) ?_; simp only [Tryz.f15, go_sem]
  try rfl
def onePlus (x : Nat) : Dy := addS (norm 1 0) (fd x)
def compA (x : Nat) (n : Int) (dir f t : Int) : Ask := ⟨onePlus x, norm n 0, 1, false, dir, f, t⟩
theorem one_lim : Lim 1153 (norm 1 0) := (Lim.norm (K := 20) (z := 1) (by decide) (by decide)).mono (by decide)
theorem one_val : (norm 1 0).val = 1 := by
  rw [val_norm 1 (by decide) (by decide), z2_zero, Rat.mul_one]; rfl
theorem onePlus_val (x : Nat) : (onePlus x).val = 1 + (fd x).val := by
  unfold onePlus
  rw [one_lim.val_add (fd_lim x) (by decide), one_val]
theorem fd_gt {x : Nat} (hf : fe x < 2047) (hs : fs x = true → fsz x < 4607182418800017408) : -1 < (fd x).val := by
  have h1 : (fd 4607182418800017408).val = 1 := by
    rw [fd_one]
    have : (⟨false, 1, 0⟩ : Dy) = norm 1 0 := by decide
    rw [this, one_val]
  by_cases h : (fd x).val < 0
  · have hv := val_abs (fd x)
    rw [if_pos h, fd_abs] at hv
    have hm : (fd x).m ≠ 0 := fun h0 => by
      rw [val_eq_zero.2 h0] at h
      exact absurd h (by decide)
    have hsx : fs x = true := by
      rw [← fd_s hm]
      cases hb : (fd x).s with
      | true => rfl
      | false =>
        exfalso
        have h2 := sg_val (d := fd x)
        have h3 : 0 < (fd x).sg := by unfold Dy.sg; rw [if_neg hm, hb]; decide
        have := h2.2.2.1 h3
        grind
    have h2 := fd_cmp (fsz_lt x) (b := 4607182418800017408) (by decide)
    have h3 := (sgn_neg ((fsz x : Nat) : Int) 4607182418800017408).2 (by have := hs hsx; omega)
    have h4 : cmpD (fd (fsz x)) (fd 4607182418800017408) < 0 := by rw [h2]; exact h3
    have h5 := cmp_val_lt.1 h4
    rw [h1, hv] at h5
    grind
  · have : 0 ≤ (fd x).val := Rat.not_lt.1 h
    grind
theorem onePlus_ok {x : Nat} (hf : fe x < 2047) (hs : fs x = true → fsz x < 4607182418800017408) : LgOk (onePlus x) ∧ -2200 ≤ (onePlus x).top ∧ (onePlus x).top ≤ 2200 ∧ bitLen (onePlus x).m ≤ 2400 ∧ Lim 1154 (onePlus x) := by
  have hl : Lim 1154 (onePlus x) := one_lim.add (fd_lim x) (by decide)
  have hv := onePlus_val x
  have hg := fd_gt hf hs
  have hp : 0 < (onePlus x).val := by rw [hv]; grind
  have hsg := sg_val.2.2.2 hp
  have hm := sg_m0 hsg
  have hss : (onePlus x).s = false := by
    unfold Dy.sg at hsg
    rw [if_neg hm] at hsg
    cases hb : (onePlus x).s with
    | false => rfl
    | true => rw [hb] at hsg; exact absurd hsg (by decide)
  have hb := hl.bits
  have ht := hl.top_lt hm
  have he := hl.e_ge hm
  have hte := top_eq hm
  have hb0 := bitLen_pos hm
  exact ⟨⟨hl.ok, hss, hm, by omega, by omega, by omega⟩, by omega, by omega, by omega, hl⟩
theorem w_Compound1 {x : Nat} (hx : x < W) (fx : fe x < 2047) {n : Int} (n0 : n ≠ 0) (n1 : -9223372036854775808 ≤ n) (n2 : n < 9223372036854775808) (dir f t : Int) :
    ∃ r, PC E 137 [.ref [u x], .ref [.int .i64 n], .ref [.int .i64 dir, .int .i64 f, .int .i64 t, .np]] r ∧ RA r (compA x n dir f t) := by
  obtain ⟨g1, g2, g3, g4, g5, g6⟩ := norm_facts n0 n1 n2
  have k1 := r_FDyad hx
  rw [if_pos fx, decide_eq_true fx] at k1
  have k2 := c_dOf 1 (by decide) (by decide)
  have hl1 := one_lim
  have k3 := r_Add (hl1.RD (by decide)) (RD.fd x)
  rw [addV_lim hl1 (fd_lim x) (by decide)] at k3
  have k4 := c_dOf n n1 n2
  have hlS : Lim 1154 (onePlus x) := one_lim.add (fd_lim x) (by decide)
  have hRS := hlS.RD (by decide)
  have eS : addS (norm 1 0) (fd x) = onePlus x := rfl
  rw [eS] at k3
  have k5 := w_ask (s1 := (onePlus x).s) (n1 := (dg W (onePlus x).m).length) (c1 := U (dg W (onePlus x).m)) (e1 := (onePlus x).e) (s2 := (norm n 0).s) (n2 := (dg W (norm n 0).m).length) (c2 := U (dg W (norm n 0).m)) (e2 := (norm n 0).e) 1 false dir f t
  refine ⟨_, ?_, (onePlus x).s, NN (onePlus x).m, (onePlus x).e, (norm n 0).s, NN (norm n 0).m, (norm n 0).e, rfl, hRS, g6⟩
  show PC E _ _ (.agg [.bool (onePlus x).s, NN (onePlus x).m, .int .i64 (onePlus x).e, .bool (norm n 0).s, NN (norm n 0).m, .int .i64 (norm n 0).e, .int .u64 ((1 : Nat) : Int), .bool false, .int .i64 dir, .int .i64 f, .int .i64 t])
  have e1' : ((1 : Nat) : Int) = 1 := rfl
  generalize onePlus x = SS at *
  generalize norm n 0 = D at *
  generalize norm 1 0 = D1 at *
  generalize fd x = D2 at *
  unfold hvv at k5
  simp only [DP, Dy.pv, u, NN, NL, e1'] at k1 k2 k3 k4 k5 ⊢
  refine PC.of_body follows Tryz.func137 (by decide +kernel) rfl (by kernel_rfl) (Nat.le_of_ble_eq_true rfl) (walk ?_)
  simp only [Tryz.f137, go_sem]
  refine qcall_i (k1) ?_; simp only [Tryz.f137, go_sem]
  refine qcall_i (k2) ?_; simp only [Tryz.f137, go_sem]
  refine qcall_i (k3) ?_; simp only [Tryz.f137, go_sem]
  refine qcall_i (k4) ?_; simp only [Tryz.f137, go_sem]
  refine qcall_i (k5) ?_; simp only [Tryz.f137, go_sem]
  try rfl
theorem w_Compound {x : Nat} (hx : x < W) {n : Int} (n1 : -9223372036854775808 ≤ n) (n2 : n < 9223372036854775808) (dir f t : Int) : PC E 74 [u x, .int .i64 n, hvv dir f t] (opPV (compS x n) dir f t (compA x n dir f t)) := by
  have k1 := c_Compound x hx n
  rw [resPV_C] at k1
  have k2 := w_doesO (dir := dir) (f := f) (t := t) (compS x n) (g := 137) (by kernel_rfl) (cs := [.ref [u x], .ref [.int .i64 n], .ref [.int .i64 dir, .int .i64 f, .int .i64 t, .np]]) (a := compA x n dir f t) (fun ho hk => by
    obtain ⟨kx, n0, hsx⟩ := compS_none ho
    obtain ⟨fx, x0⟩ := kind_fin kx
    obtain ⟨r, q1, q2⟩ := w_Compound1 hx fx n0 n1 n2 dir f t
    obtain ⟨g1, g2, g3, g4, g5, g6⟩ := norm_facts n0 n1 n2
    obtain ⟨a1, a2, a3, a4, a5⟩ := onePlus_ok fx hsx
    exact ⟨r, q2, ⟨a1, ⟨a2, a3⟩, a4, g1, g2, g3, ⟨by show -1100 ≤ (norm n 0).top; omega, by show (norm n 0).top ≤ 1100; omega⟩, Nat.le_refl 1, (by show 1 < W; decide), hk.2, hk.1⟩, q1⟩)
  obtain ⟨a1, a2, a3, a4, a5, ho⟩ := opPV_ex (compS x n) dir f t (compA x n dir f t)
  rw [ho] at k2 ⊢
  generalize resD (compS x n) = RR at *
  generalize (compS x n).isSome = bb at *
  simp only [resC, hvv, u] at k1 k2 ⊢
  refine PC.of_body follows Tryz.func74 (by decide +kernel) rfl (by kernel_rfl) (Nat.le_of_ble_eq_true rfl) (walk ?_)
  simp only [Tryz.f74, go_sem]
  refine qcall_i (k1) ?_; simp only [Tryz.f74, go_sem]
  refine qcall_i (k2) ?_; simp only [Tryz.f74, go_sem]
  try rfl
end
section
open Go PG Go.Proofs
open XX
theorem alive_val : doS (askA 4611686018427387904 (fd 4602678819172646912) 1 (fs 4611686018427387904 && od 4602678819172646912) 0 64 1024) = (4609047870845172685, 1, 0, 1) := by decide +kernel
theorem alive_none : powS 4611686018427387904 4602678819172646912 = none := by decide +kernel
theorem l_alive : PC E 10 [] (.bool true) := by
  have k1 := w_Plain
  have k2 := w_Pow (x := 4611686018427387904) (y := 4602678819172646912) (by decide) (by decide) 0 64 1024
  have hh : hOk 0 64 1024 := by decide
  unfold opPV at k2
  rw [if_pos hh, alive_none] at k2
  dsimp only at k2
  rw [alive_val] at k2
  unfold hvv at k1 k2
  simp only [doPV, u, Int.cast_ofNat_Int] at k2
  refine PC.of_body follows Tryz.func10 (by decide +kernel) rfl (by kernel_rfl) (Nat.le_of_ble_eq_true rfl) (walk ?_)
  simp only [Tryz.f10, go_sem]
  refine qcall_i (k1) ?_; simp only [Tryz.f10, go_sem]
  refine qcall_i (k2) ?_; simp only [Tryz.f10, go_sem]
  try rfl
def opv (k : Int) (x y : Nat) (n : Int) : PV := .agg [.int .i64 k, .int .u64 (x : Nat), .int .u64 (y : Nat), .int .i64 n]
def wayv (dir f t : Int) : PV := .agg [.int .i64 dir, .int .i64 f, .int .i64 t]
def farW (t : Int) : Prop := 1024 < t ∧ t ≤ 8192
instance (t : Int) : Decidable (farW t) := inferInstanceAs (Decidable (_ ∧ _))
theorem l_How (dir f t : Int) : PC E 32 [wayv dir f t] (hvv dir f t) := by
  unfold wayv hvv
  refine PC.of_body follows Tryz.func32 (by decide +kernel) rfl (by kernel_rfl) (Nat.le_of_ble_eq_true rfl) (walk ?_)
  simp only [Tryz.f32, go_sem]
  try rfl
theorem l_Far (dir f t : Int) : PC E 30 [wayv dir f t] (.bool (decide (farW t))) := by
  unfold wayv
  obtain ⟨R, hR⟩ : ∃ R, R = PV.bool (decide (farW t)) := ⟨_, rfl⟩
  rw [← hR]
  unfold farW at hR
  refine PC.of_body follows Tryz.func30 (by decide +kernel) rfl (by kernel_rfl) (Nat.le_of_ble_eq_true rfl) (walk ?_)
  simp only [Tryz.f30, go_sem]
  refine qif_d (fun h => ?_) (fun h => ?_)
  · simp only [Tryz.f30, go_sem]
    rw [hR]
    congr 1
    exact decide_eq_decide.2 (by omega)
  · simp only [Tryz.f30, go_sem]
    rw [hR]
    congr 1
    exact (decide_eq_false (by omega)).symm
theorem l_22Right (f t : Int) : PC E 75 [.int .i64 f, .int .i64 t] (.bool (decide (planOk f t))) := by
  obtain ⟨R, hR⟩ : ∃ R, R = PV.bool (decide (planOk f t)) := ⟨_, rfl⟩
  rw [← hR]
  unfold planOk at hR
  refine PC.of_body follows Tryz.func75 (by decide +kernel) rfl (by kernel_rfl) (Nat.le_of_ble_eq_true rfl) (walk ?_)
  simp only [Tryz.f75, go_sem]
  refine qif_d (fun h => ?_) (fun h => ?_)
  · simp only [Tryz.f75, go_sem]
    refine qif_d (fun h2 => ?_) (fun h2 => ?_)
    · simp only [Tryz.f75, go_sem]
      refine qif_d (fun h3 => ?_) (fun h3 => ?_)
      · simp only [Tryz.f75, go_sem]
        rw [hR]
        congr 1
        exact decide_eq_decide.2 (by omega)
      · simp only [Tryz.f75, go_sem]
        rw [hR]
        congr 1
        exact (decide_eq_false (by omega)).symm
    · simp only [Tryz.f75, go_sem]
      rw [hR]
      congr 1
      exact (decide_eq_false (by omega)).symm
  · simp only [Tryz.f75, go_sem]
    rw [hR]
    congr 1
    exact (decide_eq_false (by omega)).symm
theorem l_Right24 (dir f t : Int) : PC E 33 [wayv dir f t] (.bool (decide (hOk dir f t))) := by
  have k1 := l_22Right f t
  unfold wayv
  obtain ⟨R, hR⟩ : ∃ R, R = PV.bool (decide (hOk dir f t)) := ⟨_, rfl⟩
  rw [← hR]
  unfold hOk at hR
  refine PC.of_body follows Tryz.func33 (by decide +kernel) rfl (by kernel_rfl) (Nat.le_of_ble_eq_true rfl) (walk ?_)
  simp only [Tryz.f33, go_sem]
  refine qif_d (fun h => ?_) (fun h => ?_)
  · simp only [Tryz.f33, go_sem]
    refine qif_d (fun h2 => ?_) (fun h2 => ?_)
    · simp only [Tryz.f33, go_sem]
      refine qcall_i (k1) ?_; simp only [Tryz.f33, go_sem]
      rw [hR]
      congr 1
      exact decide_eq_decide.2 ⟨fun h3 => ⟨h3, by omega, by omega⟩, fun h3 => h3.1⟩
    · simp only [Tryz.f33, go_sem]
      rw [hR]
      congr 1
      exact (decide_eq_false (by omega)).symm
  · simp only [Tryz.f33, go_sem]
    rw [hR]
    congr 1
    exact (decide_eq_false (by omega)).symm
def opO (k : Int) (x y : Nat) (n : Int) : Option (Nat × Nat) := if k = 0 then powS x y else if k = 1 then pownS x n else if k = 2 then rootnS x n else compS x n
def opA (k : Int) (x y : Nat) (n : Int) (dir f t : Int) : Ask :=
  if k = 0 then askA x (fd y) 1 (fs x && od y) dir f t else if k = 1 then pownA x n dir f t else if k = 2 then rootA x n dir f t else compA x n dir f t
theorem opA_ok {k : Int} {x y : Nat} {n : Int} {dir f t : Int} (hx : x < W) (hy : y < W) (n1 : -9223372036854775808 ≤ n) (n2 : n < 9223372036854775808) (ho : opO k x y n = none) (hk : hOk dir f t) : AskOk (opA k x y n dir f t) := by
  unfold opO at ho
  unfold opA
  split at ho
  · rename_i c
    rw [if_pos c]
    obtain ⟨kx, ky⟩ := powS_none ho
    obtain ⟨fx, x0⟩ := kind_fin kx
    obtain ⟨fy, y0⟩ := kind_fin ky
    obtain ⟨g1, g2, g3⟩ := fin_y fy y0
    exact askOk_fin fx x0 (fd_ok' y) g1 g2 g3 (Nat.le_refl 1) (by decide) hk
  rename_i c
  rw [if_neg c]
  split at ho
  · rename_i c
    rw [if_pos c]
    obtain ⟨kx, n0⟩ := pownS_none ho
    obtain ⟨fx, x0⟩ := kind_fin kx
    obtain ⟨g1, g2, g3, g4, g5, g6⟩ := norm_facts n0 n1 n2
    exact askOk_fin fx x0 g1 g2 g3 ⟨by omega, by omega⟩ (Nat.le_refl 1) (by decide) hk
  rename_i c
  rw [if_neg c]
  split at ho
  · rename_i c
    rw [if_pos c]
    obtain ⟨kx, n0⟩ := rootnS_none ho
    obtain ⟨fx, x0⟩ := kind_fin kx
    obtain ⟨g1, g2, g3, g4⟩ := one_facts (decide (n < 0))
    exact askOk_fin fx x0 g1 g2 g3 ⟨by omega, by omega⟩ (by omega) (natAbs_W n1 n2) hk
  rename_i c
  rw [if_neg c]
  obtain ⟨kx, n0, hsx⟩ := compS_none ho
  obtain ⟨fx, x0⟩ := kind_fin kx
  obtain ⟨g1, g2, g3, g4, g5, g6⟩ := norm_facts n0 n1 n2
  obtain ⟨a1, a2, a3, a4, a5⟩ := onePlus_ok fx hsx
  exact ⟨a1, ⟨a2, a3⟩, a4, g1, g2, g3, ⟨by show -1100 ≤ (norm n 0).top; omega, by show (norm n 0).top ≤ 1100; omega⟩, Nat.le_refl 1, (by show 1 < W; decide), hk.2, hk.1⟩
theorem l_Do24 {x y : Nat} (hx : x < W) (hy : y < W) {n : Int} (n1 : -9223372036854775808 ≤ n) (n2 : n < 9223372036854775808) (k dir f t : Int) : PC E 31 [opv k x y n, hvv dir f t] (opPV (opO k x y n) dir f t (opA k x y n dir f t)) := by
  have k1 := w_Pow hx hy dir f t
  have k2 := w_Pown hx n1 n2 dir f t
  have k3 := w_Rootn hx n1 n2 dir f t
  have k4 := w_Compound hx n1 n2 dir f t
  obtain ⟨R, hR⟩ : ∃ R, R = opPV (opO k x y n) dir f t (opA k x y n dir f t) := ⟨_, rfl⟩
  rw [← hR]
  unfold opO opA at hR
  unfold opv
  by_cases c0 : k = 0
  · rw [if_pos c0, if_pos c0] at hR
    obtain ⟨a1, a2, a3, a4, a5, ho⟩ := opPV_ex (powS x y) dir f t (askA x (fd y) 1 (fs x && od y) dir f t)
    rw [ho] at k1 hR
    subst hR
    simp only [hvv, u] at k1 ⊢
    refine PC.of_body follows Tryz.func31 (by decide +kernel) rfl (by kernel_rfl) (Nat.le_of_ble_eq_true rfl) (walk ?_)
    simp only [Tryz.f31, go_sem]
    refine qif_dt c0 ?_
    simp only [Tryz.f31, go_sem]
    refine qcall_i (k1) ?_; simp only [Tryz.f31, go_sem]
    try rfl
  rw [if_neg c0, if_neg c0] at hR
  by_cases c1 : k = 1
  · rw [if_pos c1, if_pos c1] at hR
    obtain ⟨a1, a2, a3, a4, a5, ho⟩ := opPV_ex (pownS x n) dir f t (pownA x n dir f t)
    rw [ho] at k2 hR
    subst hR
    simp only [hvv, u] at k2 ⊢
    refine PC.of_body follows Tryz.func31 (by decide +kernel) rfl (by kernel_rfl) (Nat.le_of_ble_eq_true rfl) (walk ?_)
    simp only [Tryz.f31, go_sem]
    refine qif_df c0 ?_
    simp only [Tryz.f31, go_sem]
    refine qif_dt c1 ?_
    simp only [Tryz.f31, go_sem]
    refine qcall_i (k2) ?_; simp only [Tryz.f31, go_sem]
    try rfl
  rw [if_neg c1, if_neg c1] at hR
  by_cases c2 : k = 2
  · rw [if_pos c2, if_pos c2] at hR
    obtain ⟨a1, a2, a3, a4, a5, ho⟩ := opPV_ex (rootnS x n) dir f t (rootA x n dir f t)
    rw [ho] at k3 hR
    subst hR
    simp only [hvv, u] at k3 ⊢
    refine PC.of_body follows Tryz.func31 (by decide +kernel) rfl (by kernel_rfl) (Nat.le_of_ble_eq_true rfl) (walk ?_)
    simp only [Tryz.f31, go_sem]
    refine qif_df c0 ?_
    simp only [Tryz.f31, go_sem]
    refine qif_df c1 ?_
    simp only [Tryz.f31, go_sem]
    refine qif_dt c2 ?_
    simp only [Tryz.f31, go_sem]
    refine qcall_i (k3) ?_; simp only [Tryz.f31, go_sem]
    try rfl
  rw [if_neg c2, if_neg c2] at hR
  obtain ⟨a1, a2, a3, a4, a5, ho⟩ := opPV_ex (compS x n) dir f t (compA x n dir f t)
  rw [ho] at k4 hR
  subst hR
  simp only [hvv, u] at k4 ⊢
  refine PC.of_body follows Tryz.func31 (by decide +kernel) rfl (by kernel_rfl) (Nat.le_of_ble_eq_true rfl) (walk ?_)
  simp only [Tryz.f31, go_sem]
  refine qif_df c0 ?_
  simp only [Tryz.f31, go_sem]
  refine qif_df c1 ?_
  simp only [Tryz.f31, go_sem]
  refine qif_df c2 ?_
  simp only [Tryz.f31, go_sem]
  refine qcall_i (k4) ?_; simp only [Tryz.f31, go_sem]
  try rfl
end
section
open Go PG Go.Proofs Go.RowKit
theorem fields4w {P : Program} {w : World} {l : List Field} {a b c d : TypeId} {A B C D : List PV → Prop} (h : l.map (fun f => (f.type, f.offset)) = [(a, 0), (b, 1), (c, 2), (d, 3)])
    (ca : P.cellsOf a = 1) (cb : P.cellsOf b = 1) (cc : P.cellsOf c = 1) (ra : Rd P w a A) (rb : Rd P w b B) (rc : Rd P w c C) (rd' : Rd P w d D) : FieldsRd P w 0 l [A, B, C, D] := by
  rcases l with _ | ⟨f1, _ | ⟨f2, _ | ⟨f3, _ | ⟨f4, _ | ⟨x, l⟩⟩⟩⟩⟩
  · cases h
  · simp at h
  · simp at h
  · simp at h
  · simp only [List.map_cons, List.map_nil, List.cons.injEq, Prod.mk.injEq, and_true] at h
    obtain ⟨⟨h1, h2⟩, ⟨h3, h4⟩, ⟨h5, h6⟩, h7, h8⟩ := h
    refine ⟨h2, h1 ▸ ra, by rw [h1, ca]; exact h4, h3 ▸ rb, by rw [h1, ca, h3, cb]; exact h6, h5 ▸ rc, by rw [h1, ca, h3, cb, h5, cc]; exact h8, h7 ▸ rd', trivial⟩
  · simp at h
theorem fields3w {P : Program} {w : World} {l : List Field} {a b c : TypeId} {A B C : List PV → Prop} (h : l.map (fun f => (f.type, f.offset)) = [(a, 0), (b, 1), (c, 2)])
    (ca : P.cellsOf a = 1) (cb : P.cellsOf b = 1) (ra : Rd P w a A) (rb : Rd P w b B) (rc : Rd P w c C) : FieldsRd P w 0 l [A, B, C] := by
  rcases l with _ | ⟨f1, _ | ⟨f2, _ | ⟨f3, _ | ⟨x, l⟩⟩⟩⟩
  · cases h
  · simp at h
  · simp at h
  · simp only [List.map_cons, List.map_nil, List.cons.injEq, Prod.mk.injEq, and_true] at h
    obtain ⟨⟨h1, h2⟩, ⟨h3, h4⟩, h5, h6⟩ := h
    refine ⟨h2, h1 ▸ ra, by rw [h1, ca]; exact h4, h3 ▸ rb, by rw [h1, ca, h3, cb]; exact h6, h5 ▸ rc, trivial⟩
  · simp at h
def pI64 (l : List PV) : Prop := ∃ n : Int, l = [.int .i64 n] ∧ IntKind.min .i64 ≤ n ∧ n ≤ IntKind.max .i64
def pU64 (l : List PV) : Prop := ∃ n : Int, l = [.int .u64 n] ∧ IntKind.min .u64 ≤ n ∧ n ≤ IntKind.max .u64
def in64 (n : Int) : Prop := -9223372036854775808 ≤ n ∧ n < 9223372036854775808
def qOp (p : PV) : Prop := ∃ (k : Int) (x y : Nat) (n : Int), p = opv k x y n ∧ in64 k ∧ x < W ∧ y < W ∧ in64 n
def qWay (p : PV) : Prop := ∃ (d f t : Int), p = wayv d f t ∧ in64 d ∧ in64 f ∧ in64 t
theorem a_op {t ti tu tn : TypeId} (w : World) (hd : E.P.underlying t = some (.struct (E.P.fieldsOf t))) (hdf : (E.P.fieldsOf t).toList.map (fun f => (f.type, f.offset)) = [(ti, 0), (tu, 1), (tu, 2), (tn, 3)])
    (hdw : widths E.P 0 (E.P.fieldsOf t).toList = E.P.cellsOf t) (ci : E.P.cellsOf ti = 1) (cu : E.P.cellsOf tu = 1) (hi : E.P.underlying ti = some (.int .i64)) (hu : E.P.underlying tu = some (.int .u64)) (hn : E.P.underlying tn = some (.int .i64)) : ArgRd E.P w t qOp :=
  arg_imp (ArgRd.struct (w := w) hd (fields4w hdf ci cu cu (Rd.int hi) (Rd.int hu) (Rd.int hu) (Rd.int hn)) hdw) fun p ⟨l, h, h1⟩ => by
    obtain ⟨v1, r1, rfl, ⟨k, rfl, o1, o2⟩, v2, r2, rfl, ⟨x, rfl, x1, x2⟩, v3, r3, rfl, ⟨y, rfl, y1, y2⟩, v4, r4, rfl, ⟨n, rfl, n1, n2⟩, rfl⟩ := h1
    have e1 : IntKind.u64.min = 0 := by decide
    have e2 : IntKind.u64.max = 18446744073709551615 := by decide
    have e3 : IntKind.i64.min = -9223372036854775808 := by decide
    have e4 : IntKind.i64.max = 9223372036854775807 := by decide
    have eW : W = 18446744073709551616 := by decide
    rw [e1] at x1 y1
    rw [e2] at x2 y2
    rw [e3] at o1 n1
    rw [e4] at o2 n2
    refine ⟨k, x.toNat, y.toNat, n, ?_, ⟨o1, by omega⟩, by rw [eW]; omega, by rw [eW]; omega, n1, by omega⟩
    rw [h]
    unfold opv
    rw [Int.toNat_of_nonneg x1, Int.toNat_of_nonneg y1]
    rfl
theorem a_way {t ti : TypeId} (w : World) (hd : E.P.underlying t = some (.struct (E.P.fieldsOf t))) (hdf : (E.P.fieldsOf t).toList.map (fun f => (f.type, f.offset)) = [(ti, 0), (ti, 1), (ti, 2)])
    (hdw : widths E.P 0 (E.P.fieldsOf t).toList = E.P.cellsOf t) (ci : E.P.cellsOf ti = 1) (hi : E.P.underlying ti = some (.int .i64)) : ArgRd E.P w t qWay :=
  arg_imp (ArgRd.struct (w := w) hd (fields3w hdf ci ci (Rd.int hi) (Rd.int hi) (Rd.int hi)) hdw) fun p ⟨l, h, h1⟩ => by
    obtain ⟨v1, r1, rfl, ⟨k, rfl, o1, o2⟩, v2, r2, rfl, ⟨f, rfl, f1, f2⟩, v3, r3, rfl, ⟨n, rfl, n1, n2⟩, rfl⟩ := h1
    have e3 : IntKind.i64.min = -9223372036854775808 := by decide
    have e4 : IntKind.i64.max = 9223372036854775807 := by decide
    rw [e3] at o1 n1 f1
    rw [e4] at o2 n2 f2
    exact ⟨k, f, n, by rw [h]; rfl, ⟨o1, by omega⟩, ⟨f1, by omega⟩, n1, by omega⟩
end
end
section
open XX
def flOk (f : Nat) : Prop := f = 0 ∨ f = 1 ∨ f = 3 ∨ f = 5
end
theorem cmp_transR {a b c : Dy} (h1 : cmpD a b ≤ 0) (h2 : cmpD b c ≤ 0) : cmpD a c ≤ 0 := by
  rw [cmp_at (k := min a.e (min b.e c.e)) (.inr (by omega)) (.inr (by omega)), sgn_le] at h1 h2 ⊢
  omega
theorem cmp_mono {a b m : Dy} (h : cmpD a b ≤ 0) : cmpD a m ≤ cmpD b m := by
  have e1 := cmp_at (a := a) (b := m) (k := min a.e (min b.e m.e)) (.inr (by omega)) (.inr (by omega))
  have e2 := cmp_at (a := b) (b := m) (k := min a.e (min b.e m.e)) (.inr (by omega)) (.inr (by omega))
  rw [cmp_at (a := a) (b := b) (k := min a.e (min b.e m.e)) (.inr (by omega)) (.inr (by omega)), sgn_le] at h
  rw [e1, e2]
  unfold sgn
  repeat' split
  all_goals omega
theorem abs_tops {a b : Dy} (ha : a.m ≠ 0) (hb : b.m ≠ 0) (h : cmpD a.abs b.abs ≤ 0) : a.top ≤ b.top := by
  have t1 := top_at ha (k := min a.e b.e) (by omega)
  have t2 := top_at hb (k := min a.e b.e) (by omega)
  rw [cmp_at (k := min a.e b.e) (abs_le (by omega)) (abs_le (by omega)), sgn_le, abs_at, abs_at] at h
  refine Decidable.byContradiction fun hn => ?_
  have : 2 ^ (b.top + 1 - min a.e b.e).toNat ≤ 2 ^ (a.top - min a.e b.e).toNat := Nat.pow_le_pow_right (by decide) (by omega)
  omega
theorem low_mono {a b : Dy} (h : cmpD a.abs b.abs ≤ 0) : low a ≤ low b := by
  refine Decidable.byContradiction fun hn => ?_
  have ha : Bel (low a) a.abs := bel_low
  have hb : Bel (low b) b.abs := bel_low
  have h1 := hb.2.2.resolve_left (by have := ha.1; omega)
  have h2 := fd_le_trans ha.1 (show low b + 1 ≤ low a by omega) ha.2.1
  have h3 := cmp_transR h2 h
  omega
theorem away_mono {a b : Dy} (ha : a.m ≠ 0) (hb : b.m ≠ 0) (ta : a.top ≤ 1023) (tb : b.top ≤ 1023) (hs : a.s = b.s) (h : cmpD a.abs b.abs ≤ 0) (hl : low a = low b) (dir : Int)
    (hw : upM a false dir (unitOf a.top) = true) : upM b false dir (unitOf b.top) = true := by
  obtain ⟨a1, a2⟩ := pos_mid ha ta
  obtain ⟨b1, b2⟩ := pos_mid hb tb
  rw [upM_low ha ta] at hw
  rw [upM_low hb tb]
  rw [← hl, ← hs]
  rw [← hl] at b1 b2
  have hm := cmp_mono (m := mid (low a)) h
  rw [a1, b1] at hm
  have hx : hf b (unitOf b.top) = false ∧ bl b (unitOf b.top) = false → hf a (unitOf a.top) = false ∧ bl a (unitOf a.top) = false := fun hh => by
    rw [← a2]
    have h1 := b2.2 hh
    have h2 : cmpD (fd (low a)) a.abs ≤ 0 := (bel_low (d := a)).2.1
    have h3 : cmpD a.abs (fd (low a)) ≤ 0 := by
      refine cmp_transR h ?_
      rw [cmp_swap, h1]; decide
    rw [cmp_swap] at h3
    omega
  clear a1 a2 b1 b2
  generalize hf a (unitOf a.top) = Ha at *
  generalize bl a (unitOf a.top) = La at *
  generalize hf b (unitOf b.top) = Hb at *
  generalize bl b (unitOf b.top) = Lb at *
  generalize decide (low a % 2 = 1) = o at *
  unfold awayS at *
  generalize upw dir a.s = w at *
  by_cases h0 : dir = 0
  · rw [if_pos h0] at *
    cases Ha <;> cases La <;> cases Hb <;> cases Lb <;> cases o <;> simp_all
  · rw [if_neg h0] at *
    cases Ha <;> cases La <;> cases Hb <;> cases Lb <;> cases w <;> simp_all
theorem mag_no {d : Dy} (ht : d.top ≤ 1023) (more : Bool) (dir : Int) (h0 : d.m ≠ 0) : (magS d more dir).1 = vS d (upM d more dir (unitOf d.top)) := by
  unfold magS
  rw [if_neg (by omega), ← upM_low h0 ht]
  unfold vS
  generalize upM d more dir (unitOf d.top) = a
  by_cases h : (if a = true then low d + 1 else low d) = INF
  · rw [if_pos h, h]
  · rw [if_neg h]
theorem mag_le {d : Dy} (h0 : d.m ≠ 0) (more : Bool) (dir : Int) : (magS d more dir).1 ≤ INF := by
  by_cases ht : 1023 < d.top
  · unfold magS
    rw [if_pos ht]
    dsimp only
    split <;> decide
  · rw [mag_no (by omega) more dir h0]
    exact (vS_fd h0 (by omega) _).1
theorem mag_mono {a b : Dy} (ha : a.m ≠ 0) (hb : b.m ≠ 0) (hs : a.s = b.s) (h : cmpD a.abs b.abs ≤ 0) (dir : Int) : (magS a false dir).1 ≤ (magS b false dir).1 := by
  have htt := abs_tops ha hb h
  have hle := mag_le ha false dir
  have hlm := low_mono h
  by_cases tb : 1023 < b.top
  · have eb : (magS b false dir).1 = if dir = 0 ∨ upw dir b.s = true then INF else MAX := by
      unfold magS; rw [if_pos tb]
    rw [eb]
    by_cases hu : dir = 0 ∨ upw dir b.s = true
    · rw [if_pos hu]; exact hle
    · rw [if_neg hu]
      by_cases ta : 1023 < a.top
      · unfold magS; rw [if_pos ta, hs, if_neg hu]; exact Nat.le_refl _
      · rw [mag_no (by omega) false dir ha, upM_low ha (by omega)]
        have hp := flo_ok ha (show a.top ≤ 1023 by omega)
        have hl : low a = packB (flo a (unitOf a.top)) (unitOf a.top) := if_neg ta
        have hlt := pack_lt_inf hp
        have hn : awayS dir a.s (decide (low a % 2 = 1)) (hf a (unitOf a.top)) (bl a (unitOf a.top) || false) = false := by
          cases hh : awayS dir a.s (decide (low a % 2 = 1)) (hf a (unitOf a.top)) (bl a (unitOf a.top) || false)
          · rfl
          · exact absurd (hs ▸ away_dir hh) hu
        rw [hn]
        show low a ≤ MAX
        have hI : INF = MAX + 1 := rfl
        omega
  · have ta : a.top ≤ 1023 := by omega
    rw [mag_no ta false dir ha, mag_no (by omega) false dir hb]
    unfold vS
    by_cases hl : low a = low b
    · rw [hl]
      cases hw : upM a false dir (unitOf a.top)
      · rw [if_neg (by decide)]; split <;> omega
      · rw [away_mono ha hb ta (by omega) hs h hl dir hw]; exact Nat.le_refl _
    · split <;> split <;> omega
def svb (b : Nat) : Int := if fs b = true then -(fsz b : Int) else fsz b
theorem svb_withS (s : Bool) {v : Nat} (hv : v < 9223372036854775808) : svb (withS s v) = if s = true then -(v : Int) else v := by
  obtain ⟨_, h1, _, _, h2⟩ := withS_fields s hv
  unfold svb; rw [h1, h2]
def mir (k : Nat) : Nat := if k = 2 then 3 else if k = 3 then 2 else k
section
open XX
theorem mk_val (s : Bool) (x : Nat) {e : Int} (h : -2147483648 ≤ e ∧ e ≤ 2147483648) : (mkD s x e).val = (if s = true then -(x : Rat) else (x : Rat)) * (2 : Rat) ^ e := by
  by_cases hx : x = 0
  · subst hx
    have : (mkD s 0 e).m = 0 := rfl
    rw [val_zero this]
    cases s <;> simp <;> grind
  cases s with
  | false =>
    have e1 : mkD false x e = norm (x : Int) e := by unfold norm; rw [decide_eq_false (by omega)]; rfl
    rw [e1, val_norm _ h.1 h.2]; rfl
  | true =>
    have e1 : mkD true x e = norm (-(x : Int)) e := by unfold norm; rw [decide_eq_true (by omega), Int.natAbs_neg]; rfl
    rw [e1, val_norm _ h.1 h.2, if_pos rfl, Rat.intCast_neg]; rfl
theorem z2_sub (x : Rat) (s : Nat) : x * (2 : Rat) ^ (-(s : Int)) = x / ((2 ^ s : Nat) : Rat) := by
  rw [Rat.zpow_neg, z2_nat, Rat.div_def]
def Br (w : Rat) (i : Iv) : Prop := XU i.lo.val w ∧ XL w i.hi.val
theorem Br.pick {w : Rat} (hw : 0 < w) {a b : Dy} (h1 : XU a.val w) (h2 : XL w b.val) : Br w (if 0 < cmpD a b then ⟨b, a⟩ else ⟨a, b⟩) := by
  split
  · rename_i h
    have h := cmp_val_gt.1 h
    exact ⟨h1.mono (Rat.le_of_lt h) Rat.le_refl (Rat.le_of_lt hw), h2.mono (Rat.le_of_lt h) Rat.le_refl (Rat.le_of_lt hw)⟩
  · exact ⟨h1, h2⟩
theorem Br.pick' {w : Rat} (hw : 0 < w) {a b : Dy} (h1 : XU b.val w) (h2 : XL w a.val) : Br w (if 0 < cmpD a b then ⟨b, a⟩ else ⟨a, b⟩) := by
  split
  · exact ⟨h1, h2⟩
  · rename_i h
    have h : a.val ≤ b.val := cmp_val_le.1 (by omega)
    exact ⟨h1.mono h Rat.le_refl (Rat.le_of_lt hw), h2.mono h Rat.le_refl (Rat.le_of_lt hw)⟩
theorem rone_div {w : Rat} (h : 0 < w) : 0 < 1 / w := by
  rw [Rat.div_def, Rat.one_mul]; exact Rat.inv_pos.2 h
theorem Br.within {w : Rat} (hw : 0 < w) {lo hi s : Nat} (hs : s ≤ 100000) (h1 : XU ((lo : Rat) / ((2 ^ s : Nat) : Rat)) w) (h2 : XL w ((hi : Rat) / ((2 ^ s : Nat) : Rat))) (neg : Bool) :
    Br (if neg = true then 1 / w else w) (withinS lo hi s neg) := by
  have r : -2147483648 ≤ -(s : Int) ∧ -(s : Int) ≤ 2147483648 := ⟨by omega, by omega⟩
  unfold withinS
  cases neg with
  | false =>
    refine Br.pick hw ?_ ?_
    · rw [mk_val false lo r, if_neg (by decide), z2_sub]; exact h1
    · rw [mk_val false hi r, if_neg (by decide), z2_sub]; exact h2
  | true =>
    have n1 : ∀ x : Rat, -x / ((2 ^ s : Nat) : Rat) = -(x / ((2 ^ s : Nat) : Rat)) := fun x => by rw [Rat.div_def, Rat.div_def, Rat.neg_mul]
    refine Br.pick' (rone_div hw) ?_ ?_
    · rw [mk_val true hi r, if_pos rfl, z2_sub, n1]; exact h2.inv hw
    · rw [mk_val true lo r, if_pos rfl, z2_sub, n1]; exact h1.inv hw
theorem Br.add {w v : Rat} (hw : 0 < w) (hv : 0 < v) {i k : Iv} {K : Nat} (li : i.lim K) (lk : k.lim K) (hK : K ≤ 1000000) (h1 : Br w i) (h2 : Br v k) : Br (w * v) (addI i k) := by
  constructor
  · show XU (addS i.lo k.lo).val _
    rw [li.1.val_add lk.1 hK]
    exact h1.1.mul h2.1 (Rat.le_of_lt hw) (Rat.le_of_lt hv)
  · show XL _ (addS i.hi k.hi).val
    rw [li.2.val_add lk.2 hK]
    exact h1.2.mul h2.2 (Rat.le_of_lt hw) (Rat.le_of_lt hv)
theorem nc_pos {n : Nat} (h : 0 < n) : (0 : Rat) < (n : Rat) := by
  have := ncast_le (show 1 ≤ n from h)
  have e : ((1 : Nat) : Rat) = 1 := rfl
  grind
theorem z2_inv (n : Nat) : 1 / ((2 : Rat) ^ n) = (2 : Rat) ^ (-(n : Int)) := by
  rw [Rat.zpow_neg, Rat.zpow_natCast, Rat.div_def, Rat.one_mul]
theorem near_val {d : Dy} (hl : LgOk d) : d.val = (if nNeg d.m = true then 1 / gR ((nNum d.m : Rat) / (nDen d.m : Rat)) else gR ((nNum d.m : Rat) / (nDen d.m : Rat))) * (2 : Rat) ^ nE d := by
  obtain ⟨f1, f2⟩ := near_facts hl.m0
  have hv : d.val = (d.m : Rat) * (2 : Rat) ^ d.e := by unfold Dy.val; rw [hl.pos, if_neg (by decide), Int.one_mul]; rfl
  obtain ⟨J, hJ1, hJ2⟩ : ∃ J : Nat, nOne d.m = 2 ^ J ∧ nE d = J + d.e := by
    have ht : d.top = bitLen d.m - 1 + d.e := if_neg hl.m0
    have hb := bitLen_pos hl.m0
    unfold nOne nE
    by_cases hu : nUp d.m = true
    · rw [if_pos hu, if_pos hu]
      exact ⟨bitLen d.m - 1 + 1, by rw [Nat.pow_succ]; omega, by omega⟩
    · rw [if_neg hu, if_neg hu]
      exact ⟨bitLen d.m - 1, rfl, by omega⟩
  rw [hv, hJ2, z2_add, z2_nat, ← hJ1]
  have hm := nc_pos (Nat.pos_of_ne_zero hl.m0)
  have ho : 0 < nOne d.m := by rw [hJ1]; exact Nat.two_pow_pos J
  have hoR := nc_pos ho
  have hd := nc_pos f1
  have key : (d.m : Rat) = (if nNeg d.m = true then 1 / gR ((nNum d.m : Rat) / (nDen d.m : Rat)) else gR ((nNum d.m : Rat) / (nDen d.m : Rat))) * (nOne d.m : Rat) := by
    have hD : (nDen d.m : Rat) = (d.m : Rat) + (nOne d.m : Rat) := by unfold nDen; exact ncast_add _ _
    have hy : ∀ y : Rat, y / (nDen d.m : Rat) * (nDen d.m : Rat) = y := fun y => Rat.div_mul_cancel (by grind)
    unfold gR nNeg
    by_cases hlt : d.m < nOne d.m
    · rw [decide_eq_true hlt, if_pos rfl]
      have hN : (nNum d.m : Rat) + (d.m : Rat) = (nOne d.m : Rat) := by
        unfold nNum; rw [if_pos hlt, ← ncast_add]; congr 1; omega
      have h3 := hy (nNum d.m : Rat)
      generalize (nNum d.m : Rat) / (nDen d.m : Rat) = y at *
      generalize (nNum d.m : Rat) = N at *
      generalize (nDen d.m : Rat) = D at *
      generalize (nOne d.m : Rat) = O at *
      generalize (d.m : Rat) = M at *
      have e1 : (1 + y) * D = O + O := by grind
      have e2 : (1 - y) * D = M + M := by grind
      have p1 : 0 < 1 + y := by
        have : 0 < (1 + y) * D := by grind
        refine Rat.lt_of_mul_lt_mul_right (c := D) ?_ (Rat.le_of_lt hd)
        rwa [Rat.zero_mul]
      have p2 : 0 < 1 - y := by
        have : 0 < (1 - y) * D := by grind
        refine Rat.lt_of_mul_lt_mul_right (c := D) ?_ (Rat.le_of_lt hd)
        rwa [Rat.zero_mul]
      have e3 : 1 / ((1 + y) / (1 - y)) = (1 - y) / (1 + y) := by
        have q1 : 1 + y ≠ 0 := by grind
        have q2 : 1 - y ≠ 0 := by grind
        grind
      rw [e3]
      have e4 : (1 - y) / (1 + y) * (1 + y) = 1 - y := Rat.div_mul_cancel (by grind)
      generalize (1 - y) / (1 + y) = q at *
      have e5 : q * (O + O) = M + M := by rw [← e1, ← e2, ← Rat.mul_assoc, e4]
      grind
    · rw [decide_eq_false hlt, if_neg (by decide)]
      have hN : (nNum d.m : Rat) + (nOne d.m : Rat) = (d.m : Rat) := by
        unfold nNum; rw [if_neg hlt, ← ncast_add]; congr 1; omega
      have h3 := hy (nNum d.m : Rat)
      generalize (nNum d.m : Rat) / (nDen d.m : Rat) = y at *
      generalize (nNum d.m : Rat) = N at *
      generalize (nDen d.m : Rat) = D at *
      generalize (nOne d.m : Rat) = O at *
      generalize (d.m : Rat) = M at *
      have e1 : (1 + y) * D = M + M := by grind
      have e2 : (1 - y) * D = O + O := by grind
      have p2 : 0 < 1 - y := by
        have : 0 < (1 - y) * D := by grind
        refine Rat.lt_of_mul_lt_mul_right (c := D) ?_ (Rat.le_of_lt hd)
        rwa [Rat.zero_mul]
      have e4 : (1 + y) / (1 - y) * (1 - y) = 1 + y := Rat.div_mul_cancel (by grind)
      generalize (1 + y) / (1 - y) = q at *
      have e5 : q * (O + O) = M + M := by rw [← e1, ← e2, ← Rat.mul_assoc, e4]
      grind
  rw [← Rat.mul_assoc, ← key]
theorem gR_pos' {y : Rat} (h0 : 0 ≤ y) (h : y ≤ 1 / 3) : 0 < gR y := by have := gR_pos h0 h; grind
theorem mul_div_r (n a : Nat) (S : Rat) : ((a * n : Nat) : Rat) / S = (n : Rat) * ((a : Rat) / S) := by
  rw [ncast_mul, Rat.div_def, Rat.div_def]; grind
theorem log_br {d : Dy} (hl : LgOk d) {s : Nat} (hs : s ≤ 9000) : 0 < d.val ∧ Br d.val (logS d s) := by
  obtain ⟨f1, f2⟩ := near_facts hl.m0
  obtain ⟨y1, y2⟩ := y_facts f1 f2
  have l1 := log_lo (s := s) f1 f2
  have l2 := log_hi (s := s) f1 f2
  have hg := gR_pos' y1 y2
  have c2 : ((2 : Nat) : Rat) = 2 := rfl
  have hx := Br.within (lo := (atanhS (nNum d.m) (nDen d.m) s).lo * 2) (hi := (atanhS (nNum d.m) (nDen d.m) s).hi * 2) hg (s := s) (by omega)
    (by rw [ncast_mul, c2, Rat.mul_comm]; exact l1) (by rw [ncast_mul, c2, Rat.mul_comm]; exact l2) (nNeg d.m)
  have p2 : (0 : Rat) < 2 := by decide
  have hn2 : (0 : Rat) < 2 ^ (nE d).natAbs := Rat.pow_pos p2
  have k1 := (ln2_lo s).pow (Rat.le_of_lt p2) (nE d).natAbs
  have k2 := (ln2_hi s).pow (Rat.le_of_lt p2) (nE d).natAbs
  have hy := Br.within (lo := (ln2S s).lo * (nE d).natAbs) (hi := (ln2S s).hi * (nE d).natAbs) hn2 (s := s) (by omega)
    (by rw [mul_div_r]; exact k1) (by rw [mul_div_r]; exact k2) (decide (nE d < 0))
  have e2 : (if decide (nE d < 0) = true then 1 / (2 : Rat) ^ (nE d).natAbs else (2 : Rat) ^ (nE d).natAbs) = (2 : Rat) ^ nE d := by
    by_cases h : nE d < 0
    · rw [decide_eq_true h, if_pos rfl, z2_inv]; congr 1; omega
    · rw [decide_eq_false h, if_neg (by decide), ← Rat.zpow_natCast]; congr 1; omega
  rw [e2] at hy
  have hv := near_val hl
  have hw : 0 < (if nNeg d.m = true then 1 / gR ((nNum d.m : Rat) / (nDen d.m : Rat)) else gR ((nNum d.m : Rat) / (nDen d.m : Rat))) := by
    split
    · exact rone_div hg
    · exact hg
  have hz := z2_pos (nE d)
  rw [hv]
  exact ⟨Rat.mul_pos hw hz, Br.add hw hz (logX_lim hl hs) (logY_lim hl hs) (by decide) hx hy⟩
end
section
open XX
theorem ic_neg (n : Nat) : ((-(n : Int) : Int) : Rat) = -(n : Rat) := by rw [Rat.intCast_neg]; rfl
theorem XX.XU.zpow {d t t' u : Rat} (hd : 0 < d) (h1 : XU t d) (h2 : XL d t') (P : Int) (g1 : u ≤ (P : Rat) * t) (g2 : u ≤ (P : Rat) * t') : XU u (d ^ P) := by
  rcases Int.le_total 0 P with h | h
  · obtain ⟨n, rfl⟩ := Int.eq_ofNat_of_zero_le h
    rw [Rat.zpow_natCast]
    exact (h1.pow (Rat.le_of_lt hd) n).mono g1 Rat.le_refl (Rat.le_of_lt (Rat.pow_pos hd))
  · obtain ⟨n, hn⟩ := Int.eq_ofNat_of_zero_le (show 0 ≤ -P by omega)
    obtain rfl : P = -(n : Int) := by omega
    have hp : 0 < d ^ n := Rat.pow_pos hd
    rw [Rat.zpow_neg, Rat.zpow_natCast, ← Rat.one_mul (d ^ n)⁻¹, ← Rat.div_def]
    refine ((h2.pow (Rat.le_of_lt hd) n).inv hp).mono ?_ Rat.le_refl (Rat.le_of_lt (rone_div hp))
    rw [ic_neg] at g2
    grind
theorem XX.XL.zpow {d t t' u : Rat} (hd : 0 < d) (h1 : XU t d) (h2 : XL d t') (P : Int) (g1 : (P : Rat) * t ≤ u) (g2 : (P : Rat) * t' ≤ u) : XL (d ^ P) u := by
  rcases Int.le_total 0 P with h | h
  · obtain ⟨n, rfl⟩ := Int.eq_ofNat_of_zero_le h
    rw [Rat.zpow_natCast]
    exact (h2.pow (Rat.le_of_lt hd) n).mono g2 Rat.le_refl (Rat.le_of_lt (Rat.pow_pos hd))
  · obtain ⟨n, hn⟩ := Int.eq_ofNat_of_zero_le (show 0 ≤ -P by omega)
    obtain rfl : P = -(n : Int) := by omega
    have hp : 0 < d ^ n := Rat.pow_pos hd
    rw [Rat.zpow_neg, Rat.zpow_natCast, ← Rat.one_mul (d ^ n)⁻¹, ← Rat.div_def]
    refine ((h1.pow (Rat.le_of_lt hd) n).inv hp).mono ?_ Rat.le_refl (Rat.le_of_lt (rone_div hp))
    rw [ic_neg] at g1
    grind
theorem minD_val (a b : Dy) : (minD a b).val ≤ a.val ∧ (minD a b).val ≤ b.val := by
  unfold minD
  split
  · rename_i h
    have := cmp_val_lt.1 h
    exact ⟨Rat.le_of_lt this, Rat.le_refl⟩
  · rename_i h
    exact ⟨Rat.le_refl, cmp_val_ge.1 (by omega)⟩
theorem maxD_val (a b : Dy) : a.val ≤ (maxD a b).val ∧ b.val ≤ (maxD a b).val := by
  unfold maxD
  split
  · rename_i h
    have := cmp_val_gt.1 h
    exact ⟨Rat.le_of_lt this, Rat.le_refl⟩
  · rename_i h
    exact ⟨Rat.le_refl, cmp_val_le.1 (by omega)⟩
theorem mul_pt (i : Iv) (y : Dy) : (mulI i ⟨y, y⟩).lo.val ≤ i.lo.val * y.val ∧ (mulI i ⟨y, y⟩).lo.val ≤ i.hi.val * y.val ∧ i.lo.val * y.val ≤ (mulI i ⟨y, y⟩).hi.val ∧ i.hi.val * y.val ≤ (mulI i ⟨y, y⟩).hi.val := by
  show (min4 _ _ _ _).val ≤ _ ∧ (min4 _ _ _ _).val ≤ _ ∧ _ ≤ (max4 _ _ _ _).val ∧ _ ≤ (max4 _ _ _ _).val
  unfold min4 max4
  rw [← val_mul, ← val_mul]
  generalize mulS i.lo y = A
  generalize mulS i.hi y = B
  have a1 := minD_val A A
  have a2 := minD_val (minD A A) B
  have a3 := minD_val (minD (minD A A) B) B
  have b1 := maxD_val A A
  have b2 := maxD_val (maxD A A) B
  have b3 := maxD_val (maxD (maxD A A) B) B
  exact ⟨by grind, by grind, by grind, by grind⟩
theorem un_bound (d : Dy) (s : Nat) : (divM d s false : Rat) ≤ (d.m : Rat) * (2 : Rat) ^ d.e * ((2 ^ s : Nat) : Rat) ∧ (d.m : Rat) * (2 : Rat) ^ d.e * ((2 ^ s : Nat) : Rat) ≤ (divM d s true : Rat) := by
  have e1 : (d.m : Rat) * (2 : Rat) ^ d.e * ((2 ^ s : Nat) : Rat) = (d.m : Rat) * (2 : Rat) ^ (d.e + s) := by rw [← z2_nat, Rat.mul_assoc, ← z2_add]
  rw [e1]
  unfold divM
  by_cases h : 0 ≤ d.e + s
  · rw [if_pos h, if_pos h]
    have e2 : ((d.m * 2 ^ (d.e + s).toNat : Nat) : Rat) = (d.m : Rat) * (2 : Rat) ^ (d.e + s) := by
      rw [ncast_mul, ← z2_nat]; congr 2; omega
    rw [e2]
    exact ⟨Rat.le_refl, Rat.le_refl⟩
  · rw [if_neg h, if_neg h]
    have hp : 0 < 2 ^ (-d.e - s).toNat := Nat.two_pow_pos _
    have e2 : (d.m : Rat) * (2 : Rat) ^ (d.e + s) * ((2 ^ (-d.e - s).toNat : Nat) : Rat) = (d.m : Rat) := by
      rw [← z2_nat, Rat.mul_assoc, ← z2_add, show d.e + s + ((-d.e - s).toNat : Int) = 0 by omega, z2_zero, Rat.mul_one]
    generalize (d.m : Rat) * (2 : Rat) ^ (d.e + s) = v at *
    generalize 2 ^ (-d.e - s).toNat = D at *
    have hD := nc_pos hp
    have h1 := Nat.div_add_mod d.m D
    have h2 := Nat.mod_lt d.m hp
    constructor
    · rw [if_neg (fun h => Bool.false_ne_true h.2), Nat.add_zero]
      refine scale_le hD ?_
      rw [e2, ← ncast_mul]
      exact ncast_le (Nat.div_mul_le_self _ _)
    · refine scale_le hD ?_
      rw [e2, ← ncast_mul]
      refine ncast_le ?_
      by_cases h0 : d.m % D = 0
      · rw [if_neg (fun h => h.1 h0), Nat.add_zero]
        rw [h0] at h1
        rw [Nat.mul_comm]; omega
      · rw [if_pos ⟨h0, rfl⟩, Nat.add_mul, Nat.mul_comm]; omega
theorem divQ_bound (d : Dy) {n : Nat} (hn : 0 < n) (s : Nat) : (divQ d n s false : Rat) * n ≤ (d.m : Rat) * (2 : Rat) ^ d.e * ((2 ^ s : Nat) : Rat) ∧ (d.m : Rat) * (2 : Rat) ^ d.e * ((2 ^ s : Nat) : Rat) ≤ (divQ d n s true : Rat) * n := by
  obtain ⟨h1, h2⟩ := un_bound d s
  unfold divQ
  generalize (d.m : Rat) * (2 : Rat) ^ d.e * ((2 ^ s : Nat) : Rat) = v at *
  constructor
  · rw [if_neg (fun h => Bool.false_ne_true h.2), Nat.add_zero]
    generalize divM d s false = M at *
    have := ncast_le (Nat.div_mul_le_self M n)
    rw [ncast_mul] at this
    exact Rat.le_trans this h1
  · generalize divM d s true = M at *
    refine Rat.le_trans h2 ?_
    rw [← ncast_mul]
    refine ncast_le ?_
    have h1 := Nat.div_add_mod M n
    have h2 := Nat.mod_lt M hn
    by_cases h0 : M % n = 0
    · rw [if_neg (fun h => h.1 h0), Nat.add_zero, Nat.mul_comm]
      omega
    · rw [if_pos ⟨h0, rfl⟩, Nat.add_mul, Nat.mul_comm]; omega
theorem val_form (d : Dy) : d.val = if d.s = true then -((d.m : Rat) * (2 : Rat) ^ d.e) else (d.m : Rat) * (2 : Rat) ^ d.e := by
  unfold Dy.val
  split
  · rw [show (-1 * (d.m : Int)) = -(d.m : Int) by omega, ic_neg, Rat.neg_mul]
  · rw [Int.one_mul]; rfl
theorem divD_bound (d : Dy) {n : Nat} (hn : 0 < n) {s : Nat} (hs : s ≤ 100000) : (divD d n s true).val * n ≤ d.val ∧ d.val ≤ (divD d n s false).val * n := by
  have r : -2147483648 ≤ -(s : Int) ∧ -(s : Int) ≤ 2147483648 := ⟨by omega, by omega⟩
  obtain ⟨h1, h2⟩ := divQ_bound d hn s
  have hS := nc_pos (Nat.two_pow_pos s)
  have hdiv : ∀ x : Rat, x / ((2 ^ s : Nat) : Rat) * ((2 ^ s : Nat) : Rat) = x := fun x => Rat.div_mul_cancel (by grind)
  have hneg : ∀ x : Rat, -x / ((2 ^ s : Nat) : Rat) = -(x / ((2 ^ s : Nat) : Rat)) := fun x => by rw [Rat.div_def, Rat.div_def, Rat.neg_mul]
  rw [val_form d]
  unfold divD awayD
  rw [mk_val _ _ r, mk_val _ _ r, z2_sub, z2_sub]
  cases d.s with
  | false =>
    rw [if_neg (by decide), if_neg (by decide), if_neg (by decide)]
    show (divQ d n s false : Rat) / _ * _ ≤ _ ∧ _ ≤ (divQ d n s true : Rat) / _ * _
    have d1 := hdiv (divQ d n s false : Rat)
    have d2 := hdiv (divQ d n s true : Rat)
    generalize (d.m : Rat) * (2 : Rat) ^ d.e = v at *
    generalize (divQ d n s false : Rat) / ((2 ^ s : Nat) : Rat) = A at *
    generalize (divQ d n s true : Rat) / ((2 ^ s : Nat) : Rat) = B at *
    rw [← d1] at h1
    rw [← d2] at h2
    clear hdiv hneg d1 d2
    generalize ((2 ^ s : Nat) : Rat) = S at *
    generalize (n : Rat) = N at *
    exact ⟨scale_le hS (by grind), scale_le hS (by grind)⟩
  | true =>
    rw [if_pos rfl, if_pos rfl, if_pos rfl, hneg, hneg]
    show -((divQ d n s true : Rat) / _) * _ ≤ _ ∧ _ ≤ -((divQ d n s false : Rat) / _) * _
    have d1 := hdiv (divQ d n s false : Rat)
    have d2 := hdiv (divQ d n s true : Rat)
    generalize (d.m : Rat) * (2 : Rat) ^ d.e = v at *
    generalize (divQ d n s false : Rat) / ((2 ^ s : Nat) : Rat) = A at *
    generalize (divQ d n s true : Rat) / ((2 ^ s : Nat) : Rat) = B at *
    rw [← d1] at h1
    rw [← d2] at h2
    clear hdiv hneg d1 d2
    generalize ((2 ^ s : Nat) : Rat) = S at *
    generalize (n : Rat) = N at *
    exact ⟨scale_le hS (by grind), scale_le hS (by grind)⟩
def askK (a : Ask) : Nat := (-a.y.e).toNat
def askP (a : Ask) : Int := a.y.at (-(askK a : Int))
def askQ (a : Ask) : Nat := a.n * 2 ^ askK a
def askW (a : Ask) : Rat := a.x.val ^ askP a
theorem ask_yv (a : Ask) : a.y.val * ((2 ^ askK a : Nat) : Rat) = (askP a : Rat) := by
  unfold askP
  rw [val_at (d := a.y) (k := -(askK a : Int)) (.inr (by unfold askK; omega)), ← z2_nat, Rat.mul_assoc, ← z2_add, Int.add_left_neg, z2_zero, Rat.mul_one]
theorem askW_pos {a : Ask} (ha : AskOk a) : 0 < askW a := Rat.zpow_pos (log_br ha.x (s := 8) (by decide)).1
theorem zI_br {a : Ask} (ha : AskOk a) {b : Nat} (hb : 32 ≤ b) : XU (((2 ^ askK a : Nat) : Rat) * (zI a b).lo.val) (askW a) ∧ XL (askW a) (((2 ^ askK a : Nat) : Rat) * (zI a b).hi.val) := by
  obtain ⟨s1, s2⟩ := scS_range (y := a.y) hb
  obtain ⟨hd, h1, h2⟩ := log_br ha.x (s := scS a.y b) (by omega)
  obtain ⟨m1, m2, m3, m4⟩ := mul_pt (logS a.x (scS a.y b)) a.y
  have hK := nc_pos (Nat.two_pow_pos (askK a))
  have hy := ask_yv a
  unfold zI askW
  generalize ((2 ^ askK a : Nat) : Rat) = K at *
  generalize (mulI (logS a.x (scS a.y b)) ⟨a.y, a.y⟩).lo.val = A at *
  generalize (mulI (logS a.x (scS a.y b)) ⟨a.y, a.y⟩).hi.val = B at *
  have g1 := Rat.mul_le_mul_of_nonneg_left m1 (Rat.le_of_lt hK)
  have g2 := Rat.mul_le_mul_of_nonneg_left m2 (Rat.le_of_lt hK)
  have g3 := Rat.mul_le_mul_of_nonneg_left m3 (Rat.le_of_lt hK)
  have g4 := Rat.mul_le_mul_of_nonneg_left m4 (Rat.le_of_lt hK)
  exact ⟨XU.zpow hd h1 h2 _ (by rw [← hy]; grind) (by rw [← hy]; grind), XL.zpow hd h1 h2 _ (by rw [← hy]; grind) (by rw [← hy]; grind)⟩
theorem zS_br {a : Ask} (ha : AskOk a) {b : Nat} (hb : 32 ≤ b) : XU ((askQ a : Rat) * (zS a b).lo.val) (askW a) ∧ XL (askW a) ((askQ a : Rat) * (zS a b).hi.val) := by
  obtain ⟨h1, h2⟩ := zI_br ha hb
  obtain ⟨s1, s2⟩ := scS_range (y := a.y) hb
  have hK := nc_pos (Nat.two_pow_pos (askK a))
  have hw := Rat.le_of_lt (askW_pos ha)
  have eQ : (askQ a : Rat) = (a.n : Rat) * ((2 ^ askK a : Nat) : Rat) := ncast_mul _ _
  rw [eQ]
  unfold zS
  by_cases hn : 1 < a.n
  · rw [if_pos hn]
    dsimp only
    have b1 := (divD_bound (zI a b).lo (n := a.n) (by omega) (s := scS a.y b) (by omega)).1
    have b2 := (divD_bound (zI a b).hi (n := a.n) (by omega) (s := scS a.y b) (by omega)).2
    have g1 := Rat.mul_le_mul_of_nonneg_left b1 (Rat.le_of_lt hK)
    have g2 := Rat.mul_le_mul_of_nonneg_left b2 (Rat.le_of_lt hK)
    exact ⟨h1.mono (by grind) Rat.le_refl hw, h2.mono (by grind) Rat.le_refl hw⟩
  · rw [if_neg hn]
    have e1 : a.n = 1 := by have := ha.n1; omega
    have e2 : ((1 : Nat) : Rat) = 1 := rfl
    rw [e1, e2, Rat.one_mul]
    exact ⟨h1, h2⟩
end
section
open XX
def sv (n : Bool × Nat) : Rat := if n.1 = true then -(n.2 : Rat) else (n.2 : Rat)
theorem sv_le (n : Bool × Nat) : sv n ≤ (n.2 : Rat) := by
  unfold sv
  have := natc0 n.2
  split <;> grind
theorem plus_sv (n : Bool × Nat) (m : Nat) : sv (plusS n m) = sv n + (m : Rat) := by
  obtain ⟨ng, n⟩ := n
  unfold sv plusS
  dsimp only
  cases ng with
  | false => simp only [Bool.false_eq_true, if_false]; exact ncast_add n m
  | true =>
    simp only [if_true]
    by_cases h : n ≤ m
    · simp only [if_pos h, Bool.false_eq_true, if_false]
      have : ((m - n : Nat) : Rat) + (n : Rat) = (m : Rat) := by rw [← ncast_add]; congr 1; omega
      grind
    · simp only [if_neg h, if_true]
      have : ((n - m : Nat) : Rat) + (m : Rat) = (n : Rat) := by rw [← ncast_add]; congr 1; omega
      grind
theorem minus_sv (n : Bool × Nat) (m : Nat) : sv (minusS n m) = sv n - (m : Rat) := by
  obtain ⟨ng, n⟩ := n
  unfold sv minusS
  dsimp only
  cases ng with
  | true =>
    simp only [if_true]
    have := ncast_add n m
    grind
  | false =>
    simp only [Bool.false_eq_true, if_false]
    by_cases h : m ≤ n
    · simp only [if_pos h, Bool.false_eq_true, if_false]
      have : ((n - m : Nat) : Rat) + (m : Rat) = (n : Rat) := by rw [← ncast_add]; congr 1; omega
      grind
    · simp only [if_neg h, if_true]
      have : ((m - n : Nat) : Rat) + (n : Rat) = (m : Rat) := by rw [← ncast_add]; congr 1; omega
      grind
theorem fl_bound (d : Dy) (s : Nat) : sv (floorS d s) ≤ d.val * ((2 ^ s : Nat) : Rat) ∧ d.val * ((2 ^ s : Nat) : Rat) ≤ sv (ceilS d s) := by
  obtain ⟨h1, h2⟩ := un_bound d s
  have hv := val_form d
  have e1 : ∀ a, unitsS d s a = divM d s a := fun _ => rfl
  unfold sv floorS ceilS
  dsimp only
  rw [e1, e1]
  by_cases hn : d.sg < 0
  · rw [decide_eq_true hn, if_pos rfl, if_pos rfl]
    have hs : d.s = true := by
      unfold Dy.sg at hn
      split at hn
      · omega
      · split at hn
        · assumption
        · omega
    rw [if_pos hs] at hv
    show -(divM d s true : Rat) ≤ _ ∧ _ ≤ -(divM d s false : Rat)
    rw [hv, Rat.neg_mul]
    grind
  · rw [decide_eq_false hn, if_neg (by decide), if_neg (by decide)]
    have hv2 : d.val = (d.m : Rat) * (2 : Rat) ^ d.e := by
      by_cases h0 : d.m = 0
      · rw [val_zero h0, h0]
        have : ((0 : Nat) : Rat) = 0 := rfl
        rw [this, Rat.zero_mul]
      · rw [hv, if_neg]
        intro hs
        apply hn
        unfold Dy.sg
        rw [if_neg h0, hs]
        decide
    rw [hv2]
    exact ⟨h1, h2⟩
theorem split_br {i : Iv} {s : Nat} (h8 : 8 ≤ s) :
    ∃ u u' : Rat, XL ((2 : Rat) ^ (splitK i s).1) u ∧ XU u' ((2 : Rat) ^ (splitK i s).1) ∧ ((splitK i s).2.1 : Rat) / ((2 ^ s : Nat) : Rat) + u ≤ i.lo.val ∧ i.hi.val ≤ ((splitK i s).2.2 : Rat) / ((2 ^ s : Nat) : Rat) + u' := by
  obtain ⟨b1, b2⟩ := ln2_big h8
  have l1 := ln2_lo s
  have l2 := ln2_hi s
  have hS := nc_pos (Nat.two_pow_pos s)
  have f1 := (fl_bound i.lo s).1
  have f2 := (fl_bound i.hi s).2
  have p2 : (0 : Rat) < 2 := by decide
  have hlo : 0 < (ln2S s).lo := Nat.lt_of_lt_of_le (Nat.two_pow_pos _) b1
  have hle := ncast_le b2
  have z1 := fun (u : Rat) (P : Int) => XL.zpow (u := u) p2 l1 l2 P
  have z2 := fun (u : Rat) (P : Int) => XU.zpow (u := u) p2 l1 l2 P
  have hdiv : ∀ x : Rat, x / ((2 ^ s : Nat) : Rat) * ((2 ^ s : Nat) : Rat) = x := fun x => Rat.div_mul_cancel (by grind)
  have t1 := hdiv ((ln2S s).lo : Rat)
  have t2 := hdiv ((ln2S s).hi : Rat)
  have c0 : ∀ k : Nat, ((k : Int) : Rat) = (k : Rat) := fun _ => rfl
  unfold splitK
  by_cases hn : (floorS i.lo s).1 = true
  · rw [if_pos hn]
    dsimp only
    generalize hq : cD (floorS i.lo s).2 (ln2S s).lo = q
    have g1 := cD_ge (a := (floorS i.lo s).2) hlo
    rw [hq] at g1
    have q1 := plus_sv (floorS i.lo s) (q * (ln2S s).lo)
    have q2 := plus_sv (ceilS i.hi s) (q * (ln2S s).hi)
    have e1 : sv (plusS (floorS i.lo s) (q * (ln2S s).lo)) = ((plusS (floorS i.lo s) (q * (ln2S s).lo)).2 : Rat) := by
      unfold plusS sv
      simp only [if_pos hn, if_pos g1, Bool.false_eq_true, if_false]
    have q3 := sv_le (plusS (ceilS i.hi s) (q * (ln2S s).hi))
    rw [ncast_mul] at q1 q2
    rw [e1] at q1
    generalize ((plusS (floorS i.lo s) (q * (ln2S s).lo)).2 : Rat) = X at *
    generalize ((plusS (ceilS i.hi s) (q * (ln2S s).hi)).2 : Rat) = Y at *
    generalize sv (plusS (ceilS i.hi s) (q * (ln2S s).hi)) = Y' at *
    have d1 := hdiv X
    have d2 := hdiv Y
    have qn := natc0 q
    have s1 : ((ln2S s).lo : Rat) / ((2 ^ s : Nat) : Rat) ≤ ((ln2S s).hi : Rat) / ((2 ^ s : Nat) : Rat) := scale_le hS (by rw [t1, t2]; exact hle)
    generalize ((ln2S s).lo : Rat) / ((2 ^ s : Nat) : Rat) = A at *
    generalize ((ln2S s).hi : Rat) / ((2 ^ s : Nat) : Rat) = B at *
    generalize X / ((2 ^ s : Nat) : Rat) = x at *
    generalize Y / ((2 ^ s : Nat) : Rat) = y at *
    have m1 : (q : Rat) * A ≤ (q : Rat) * B := Rat.mul_le_mul_of_nonneg_left s1 qn
    have e3 : ((-(q : Int) : Int) : Rat) = -(q : Rat) := ic_neg q
    refine ⟨-((q : Rat) * A), -((q : Rat) * B), z1 _ _ (by rw [e3]; grind) (by rw [e3]; grind), z2 _ _ (by rw [e3]; grind) (by rw [e3]; grind), scale_le hS ?_, scale_le hS ?_⟩
    · rw [← d1, ← t1] at q1
      clear z1 z2 l1 l2 hdiv c0
      generalize ((2 ^ s : Nat) : Rat) = S at *
      grind
    · rw [← t2] at q2
      rw [← d2] at q3
      clear z1 z2 l1 l2 hdiv c0
      generalize ((2 ^ s : Nat) : Rat) = S at *
      grind
  · rw [if_neg hn]
    dsimp only
    generalize hq : (floorS i.lo s).2 / (ln2S s).hi = q
    have g1 := Nat.div_add_mod (floorS i.lo s).2 (ln2S s).hi
    rw [hq] at g1
    have q2 := minus_sv (ceilS i.hi s) (q * (ln2S s).lo)
    have e1 : sv (floorS i.lo s) = ((floorS i.lo s).2 : Rat) := by
      unfold sv
      rw [if_neg hn]
    have q3 := sv_le (minusS (ceilS i.hi s) (q * (ln2S s).lo))
    have q1 : ((ln2S s).hi : Rat) * (q : Rat) + ((((floorS i.lo s).2 % (ln2S s).hi : Nat)) : Rat) = ((floorS i.lo s).2 : Rat) := by rw [← ncast_mul, ← ncast_add, g1]
    rw [ncast_mul] at q2
    rw [e1, ← q1] at f1
    generalize (((floorS i.lo s).2 % (ln2S s).hi : Nat) : Rat) = X at *
    generalize ((minusS (ceilS i.hi s) (q * (ln2S s).lo)).2 : Rat) = Y at *
    generalize sv (minusS (ceilS i.hi s) (q * (ln2S s).lo)) = Y' at *
    have d1 := hdiv X
    have d2 := hdiv Y
    have qn := natc0 q
    have s1 : ((ln2S s).lo : Rat) / ((2 ^ s : Nat) : Rat) ≤ ((ln2S s).hi : Rat) / ((2 ^ s : Nat) : Rat) := scale_le hS (by rw [t1, t2]; exact hle)
    generalize ((ln2S s).lo : Rat) / ((2 ^ s : Nat) : Rat) = A at *
    generalize ((ln2S s).hi : Rat) / ((2 ^ s : Nat) : Rat) = B at *
    generalize X / ((2 ^ s : Nat) : Rat) = x at *
    generalize Y / ((2 ^ s : Nat) : Rat) = y at *
    have m1 : (q : Rat) * A ≤ (q : Rat) * B := Rat.mul_le_mul_of_nonneg_left s1 qn
    have e3 : (((q : Nat) : Int) : Rat) = (q : Rat) := rfl
    refine ⟨(q : Rat) * B, (q : Rat) * A, z1 _ _ (by rw [e3]; grind) (by rw [e3]; grind), z2 _ _ (by rw [e3]; grind) (by rw [e3]; grind), scale_le hS ?_, scale_le hS ?_⟩
    · rw [← d1, ← t2] at f1
      clear z1 z2 l1 l2 hdiv c0
      generalize ((2 ^ s : Nat) : Rat) = S at *
      grind
    · rw [← t1] at q2
      rw [← d2] at q3
      clear z1 z2 l1 l2 hdiv c0
      generalize ((2 ^ s : Nat) : Rat) = S at *
      grind
theorem exp_br {i : Iv} {s : Nat} (h8 : 8 ≤ s) (hs : s ≤ 8900) (h : splitOk i s) (hd : decR (expI i s)) :
    0 < (expI i s).lo.val ∧ 0 < (expI i s).hi.val ∧ XL (expI i s).lo.val i.lo.val ∧ XU i.hi.val (expI i s).hi.val := by
  have hK := splitK_range h8 h
  have h0 : 0 < (expI i s).lo.val := sg_val.2.2.1 hd.2
  have hle : (expI i s).lo.val ≤ (expI i s).hi.val := cmp_val_le.1 hd.1.2.2
  have h1 : 0 < (expI i s).hi.val := by grind
  obtain ⟨u, u', z1, z2, z3, z4⟩ := split_br (i := i) h8
  have hz := z2_pos (splitK i s).1
  have r : -2147483648 ≤ -((s : Int) - (splitK i s).1) ∧ -((s : Int) - (splitK i s).1) ≤ 2147483648 := ⟨by omega, by omega⟩
  have ev : ∀ n : Nat, (mkD false n (-((s : Int) - (splitK i s).1))).val = (n : Rat) / ((2 ^ s : Nat) : Rat) * (2 : Rat) ^ (splitK i s).1 := fun n => by
    rw [mk_val _ _ r, if_neg (by decide), show -((s : Int) - (splitK i s).1) = -(s : Int) + (splitK i s).1 by omega, z2_add, ← Rat.mul_assoc, z2_sub]
  have hS := nc_pos (Nat.two_pow_pos s)
  refine ⟨h0, h1, ?_⟩
  by_cases hc : (splitK i s).2.1 ≤ (splitK i s).2.2 ∧ (splitK i s).2.2 ≤ 2 ^ s
  · have e1 : expPN (splitK i s).2.1 (splitK i s).2.2 s = expN (splitK i s).2.1 (splitK i s).2.2 s := if_pos hc
    have x1 := exp_lo (a := (splitK i s).2.1) hc.2
    have x2 := exp_hi (a := (splitK i s).2.1) hc.2
    have n1 := ndiv (natc0 (expN (splitK i s).2.1 (splitK i s).2.2 s).lo) (2 ^ s)
    have n2 := ndiv (natc0 (expN (splitK i s).2.1 (splitK i s).2.2 s).hi) (2 ^ s)
    have y1 := (x1.mul z1 n1 (Rat.le_of_lt hz)).mono z3 Rat.le_refl (Rat.mul_nonneg n1 (Rat.le_of_lt hz))
    have y2 := (x2.mul z2 n2 (Rat.le_of_lt hz)).mono z4 Rat.le_refl (Rat.mul_nonneg n2 (Rat.le_of_lt hz))
    rw [← ev] at y1 y2
    unfold expI at h0 h1 ⊢
    rw [e1] at h0 h1 ⊢
    unfold withinS at h0 h1 ⊢
    by_cases hc2 : 0 < cmpD (mkD false (expN (splitK i s).2.1 (splitK i s).2.2 s).lo (-((s : Int) - (splitK i s).1))) (mkD false (expN (splitK i s).2.1 (splitK i s).2.2 s).hi (-((s : Int) - (splitK i s).1)))
    · have hlt := cmp_val_gt.1 hc2
      rw [if_pos hc2] at h0 h1 ⊢
      exact ⟨y1.mono Rat.le_refl (Rat.le_of_lt hlt) (Rat.le_of_lt h0), y2.mono Rat.le_refl (Rat.le_of_lt hlt) (Rat.le_of_lt h0)⟩
    · rw [if_neg hc2] at h0 h1 ⊢
      exact ⟨y1, y2⟩
  · exfalso
    have e1 : expPN (splitK i s).2.1 (splitK i s).2.2 s = ⟨0, 0⟩ := if_neg hc
    unfold expI withinS at h0
    rw [e1] at h0
    rw [show (if 0 < cmpD (mkD false 0 (-((s : Int) - (splitK i s).1))) (mkD false 0 (-((s : Int) - (splitK i s).1))) then (⟨mkD false 0 (-((s : Int) - (splitK i s).1)), mkD false 0 (-((s : Int) - (splitK i s).1))⟩ : Iv) else ⟨mkD false 0 (-((s : Int) - (splitK i s).1)), mkD false 0 (-((s : Int) - (splitK i s).1))⟩) = ⟨mkD false 0 (-((s : Int) - (splitK i s).1)), mkD false 0 (-((s : Int) - (splitK i s).1))⟩ by split <;> rfl] at h0
    dsimp only at h0
    rw [val_zero (d := mkD false 0 (-((s : Int) - (splitK i s).1))) rfl] at h0
    exact absurd h0 (by decide)
theorem try_br {a : Ask} (ha : AskOk a) {b : Nat} (hb : 32 ≤ b) (h : splitOk (zS a b) (scS a.y b)) (hd : decR (expI (zS a b) (scS a.y b))) :
    0 < (expI (zS a b) (scS a.y b)).lo.val ∧ 0 < (expI (zS a b) (scS a.y b)).hi.val ∧ (expI (zS a b) (scS a.y b)).lo.val ^ askQ a ≤ askW a ∧ askW a ≤ (expI (zS a b) (scS a.y b)).hi.val ^ askQ a := by
  obtain ⟨s1, s2⟩ := scS_range (y := a.y) hb
  obtain ⟨h1, h2, h3, h4⟩ := exp_br (by omega) s2 h hd
  obtain ⟨g1, g2⟩ := zS_br ha hb
  have hw := Rat.le_of_lt (askW_pos ha)
  refine ⟨h1, h2, ?_, ?_⟩
  · exact (h3.pow (Rat.le_of_lt h1) (askQ a)).le g1 (Rat.le_of_lt (Rat.pow_pos h1)) hw
  · exact g2.le (h4.pow (Rat.le_of_lt h2) (askQ a)) hw (Rat.le_of_lt (Rat.pow_pos h2))
theorem askQ_pos {a : Ask} (ha : AskOk a) : 0 < askQ a := Nat.mul_pos ha.n1 (Nat.two_pow_pos _)
end
section
open XX
theorem toS_zero {d : Dy} (h0 : d.m ≠ 0) {more : Bool} {dir : Int} (h : (toS d more dir).2 = 0) : more = false ∧ d.top ≤ 1023 ∧ hf d (unitOf d.top) = false ∧ bl d (unitOf d.top) = false := by
  by_cases ht : 1023 < d.top
  · rw [toS_big h0 ht] at h; cases h
  have ht : d.top ≤ 1023 := by omega
  rw [toS_no h0 ht] at h
  dsimp only at h
  split at h
  · cases h
  · split at h
    · split at h <;> cases h
    · rename_i hh
      refine ⟨?_, ht, ?_, ?_⟩ <;> revert hh <;> cases hf d (unitOf d.top) <;> cases bl d (unitOf d.top) <;> cases more <;> simp
theorem toS_nobrk {d : Dy} (hok : d.ok) (h0 : d.m ≠ 0) (hb : ¬ brkP d) (more : Bool) (dir : Int) : (toS d more dir).2 ≠ 0 := fun h => by
  obtain ⟨-, ht, h1, h2⟩ := toS_zero h0 h
  refine hb (.inr ?_)
  rw [if_neg (by omega)]
  -- the unit divides it: hf and bl are 0
  refine Int.not_lt.1 fun hlt => ?_
  unfold bl at h2
  have h3 := of_decide_eq_false h2
  have h4 : d.m * 2 ^ (d.e - (unitOf d.top - 1)).toNat % 2 ^ (unitOf d.top - 1 - d.e).toNat = 0 := Decidable.byContradiction h3
  have hod := hok.resolve_left (fun h => h0 (by rw [h]; rfl))
  rw [show (d.e - (unitOf d.top - 1)).toNat = 0 by omega, Nat.pow_zero, Nat.mul_one] at h4
  obtain ⟨n, hn⟩ : ∃ n, (unitOf d.top - 1 - d.e).toNat = n + 1 := ⟨(unitOf d.top - 1 - d.e).toNat - 1, by omega⟩
  rw [hn, Nat.pow_succ] at h4
  have h5 := Nat.dvd_of_mod_eq_zero h4
  have h6 : 2 ∣ d.m := Nat.dvd_trans (Nat.dvd_mul_left 2 (2 ^ n)) h5
  omega
theorem toS_more {d : Dy} (h0 : d.m ≠ 0) (dir : Int) : (toS d true dir).2 ≠ 0 := fun h => absurd (toS_zero h0 h).1 (by decide)
theorem goS_found {A : Nat → (Nat × Nat) × Iv} {ok : Nat → Bool} : ∀ (l : List Nat) (v : (Nat × Nat) × Iv) (b t : Nat), (goS A ok l v b t).2 = 0 → ∃ n ∈ l, ok n = true ∧ (goS A ok l v b t).1.1 = A n
  | [], v, b, t, h => by cases h
  | n :: l, v, b, t, h => by
    unfold goS at h ⊢
    split at h
    · rename_i hk
      rw [if_pos hk]
      exact ⟨n, by simp, hk, rfl⟩
    · rename_i hk
      rw [if_neg hk]
      obtain ⟨m, h1, h2, h3⟩ := goS_found l (A n) n (t + 1) h
      exact ⟨m, by simp [h1], h2, h3⟩
end
section
open XX
theorem bfalse {b : Bool} (h : ¬ b = true) : b = false := by
  cases b
  · rfl
  · exact absurd rfl h
def sz (d : Dy) (neg : Bool) : Dy := ⟨neg, d.m, d.e⟩
theorem sgn_sz {d : Dy} (hs : d.s = false) (h0 : d.m ≠ 0) (neg : Bool) : sgnD d neg = sz d neg := by
  obtain ⟨s, m, e⟩ := d
  dsimp only at hs
  subst hs
  unfold sgnD Dy.neg sz
  cases neg with
  | false => rfl
  | true => exact if_neg h0
theorem abs_pos {d : Dy} (hs : d.s = false) : d.abs = d := by
  obtain ⟨s, m, e⟩ := d
  dsimp only at hs
  subst hs
  rfl
theorem toS_sz {d : Dy} (h0 : d.m ≠ 0) (neg more : Bool) (dir : Int) : toS (sz d neg) more dir = (withS neg (magS (sz d neg) more dir).1, (magS (sz d neg) more dir).2) := if_neg h0
theorem mag_flag {d : Dy} (more : Bool) (dir : Int) : (magS d more dir).2 = if 1023 < d.top then 5 else if (magS d more dir).1 = INF then 5 else if (hf d (unitOf d.top) || (bl d (unitOf d.top) || more)) = true then (if d.top < -1022 then 3 else 1) else 0 := by
  unfold magS
  by_cases t : 1023 < d.top
  · rw [if_pos t, if_pos t]
  · rw [if_neg t, if_neg t]
    generalize (if awayS dir d.s (decide (low d % 2 = 1)) (hf d (unitOf d.top)) (bl d (unitOf d.top) || more) = true then low d + 1 else low d) = X
    by_cases e : X = INF
    · rw [if_pos e]; exact (if_pos rfl).symm
    · rw [if_neg e]; exact (if_neg e).symm
theorem mag_mid {a m b : Dy} (ha : a.m ≠ 0) (hm : m.m ≠ 0) (hb : b.m ≠ 0) (s1 : a.s = m.s) (s2 : m.s = b.s) {dir : Int} (h1 : cmpD a.abs m.abs ≤ 0) (h2 : cmpD m.abs b.abs ≤ 0)
    (he : magS a false dir = magS b false dir) (h0 : (magS a false dir).2 ≠ 0) (hmf : (magS m false dir).2 ≠ 0) : magS m false dir = magS a false dir := by
  have b1 := mag_mono ha hm s1 h1 dir
  have b2 := mag_mono hm hb s2 h2 dir
  have t1 := abs_tops ha hm h1
  have t2 := abs_tops hm hb h2
  have fa := mag_flag (d := a) false dir
  have fm := mag_flag (d := m) false dir
  have fb := mag_flag (d := b) false dir
  rw [← he] at b2 fb
  generalize magS a false dir = A at *
  generalize magS m false dir = M at *
  clear he
  have e1 : M.1 = A.1 := by omega
  rw [e1] at fm
  generalize (hf a (unitOf a.top) || (bl a (unitOf a.top) || false)) = x1 at *
  generalize (hf m (unitOf m.top) || (bl m (unitOf m.top) || false)) = x2 at *
  generalize (hf b (unitOf b.top) || (bl b (unitOf b.top) || false)) = x3 at *
  have e2 : M.2 = A.2 := by
    by_cases ta : 1023 < a.top
    · rw [if_pos ta] at fa
      rw [if_pos (by omega)] at fm
      omega
    rw [if_neg ta] at fa
    by_cases iA : A.1 = INF
    · rw [if_pos iA] at fa
      rw [if_pos iA] at fm
      split at fm <;> omega
    rw [if_neg iA] at fa fm fb
    have y1 : A.2 = if a.top < -1022 then 3 else 1 := by
      split at fa
      · exact fa
      · omega
    clear fa
    by_cases tb : 1023 < b.top
    · rw [if_pos tb] at fb
      split at y1 <;> omega
    rw [if_neg tb] at fb
    rw [if_neg (by omega)] at fm
    have y2 : M.2 = if m.top < -1022 then 3 else 1 := by
      split at fm
      · exact fm
      · omega
    have y3 : A.2 = if b.top < -1022 then 3 else 1 := by
      split at fb
      · exact fb
      · omega
    clear fm fb
    split at y1 <;> split at y2 <;> split at y3 <;> omega
  exact Prod.ext e1 e2
theorem toS_mid {a m b : Dy} (pa : a.s = false) (pm : m.s = false) (pb : b.s = false) (ha : a.m ≠ 0) (hm : m.m ≠ 0) (hb : b.m ≠ 0) {neg : Bool} {dir : Int} (h1 : a.val ≤ m.val) (h2 : m.val ≤ b.val)
    (he : toS (sgnD a neg) false dir = toS (sgnD b neg) false dir) (h0 : (toS (sgnD a neg) false dir).2 ≠ 0) (hmf : (toS (sgnD m neg) false dir).2 ≠ 0) : toS (sgnD m neg) false dir = toS (sgnD a neg) false dir := by
  rw [sgn_sz pa ha, toS_sz ha] at he h0 ⊢
  rw [sgn_sz pb hb, toS_sz hb] at he
  rw [sgn_sz pm hm, toS_sz hm] at hmf ⊢
  have c1 : cmpD (sz a neg).abs (sz m neg).abs ≤ 0 := by
    show cmpD a.abs m.abs ≤ 0
    rw [abs_pos pa, abs_pos pm]; exact cmp_val_le.2 h1
  have c2 : cmpD (sz m neg).abs (sz b neg).abs ≤ 0 := by
    show cmpD m.abs b.abs ≤ 0
    rw [abs_pos pm, abs_pos pb]; exact cmp_val_le.2 h2
  have hI := INF_lt
  have l1 := mag_le (d := sz a neg) ha false dir
  have l2 := mag_le (d := sz b neg) hb false dir
  have e1 : (magS (sz a neg) false dir).1 = (magS (sz b neg) false dir).1 := by
    have e := congrArg (fun r : Nat × Nat => svb r.1) he
    dsimp only at e
    rw [svb_withS _ (by omega), svb_withS _ (by omega)] at e
    cases neg <;> simp only [Bool.false_eq_true, if_false, if_true] at e <;> omega
  have e2 := congrArg (fun r : Nat × Nat => r.2) he
  dsimp only at e2
  rw [mag_mid (a := sz a neg) (m := sz m neg) (b := sz b neg) ha hm hb rfl rfl c1 c2 (Prod.ext e1 e2) h0 hmf]
theorem mag_eq {a b : Dy} {x y : Bool} {dir : Int} (hs : a.s = b.s) (ta : a.top ≤ 1023) (tb : b.top ≤ 1023) (hl : low a = low b) (hh : hf a (unitOf a.top) = hf b (unitOf b.top)) (hx : (bl a (unitOf a.top) || x) = (bl b (unitOf b.top) || y)) (ht : a.top < -1022 ↔ b.top < -1022) :
    magS a x dir = magS b y dir := by
  unfold magS
  rw [if_neg (show ¬ 1023 < a.top by omega), if_neg (show ¬ 1023 < b.top by omega), hs, hl, hh, hx]
  have e : (if a.top < -1022 then 3 else 1) = (if b.top < -1022 then 3 else 1) := by
    by_cases h : a.top < -1022
    · rw [if_pos h, if_pos (ht.1 h)]
    · rw [if_neg h, if_neg (fun h2 => h (ht.2 h2))]
  rw [e]
theorem tops_val {a b : Dy} (pa : a.s = false) (pb : b.s = false) (ha : a.m ≠ 0) (hb : b.m ≠ 0) (h : a.val ≤ b.val) : a.top ≤ b.top :=
  abs_tops ha hb (by rw [abs_pos pa, abs_pos pb]; exact cmp_val_le.2 h)
theorem pw_val (e : Int) : (⟨false, 1, e⟩ : Dy).val = (2 : Rat) ^ e := by
  unfold Dy.val
  rw [if_neg Bool.false_ne_true]
  show ((1 : Int) : Rat) * _ = _
  exact Rat.one_mul _
theorem class1 {d : Dy} (pd : d.s = false) (h0 : d.m ≠ 0) (h : (2 : Rat) ^ (1024 : Int) ≤ d.val) (neg : Bool) (dir : Int) : toS (sgnD d neg) false dir = classS 1 neg dir := by
  have ht := tops_val (a := ⟨false, 1, 1024⟩) rfl pd (by decide) h0 (by rw [pw_val]; exact h)
  have e1 : (⟨false, 1, 1024⟩ : Dy).top = 1024 := by decide
  rw [e1] at ht
  rw [sgn_sz pd h0, toS_sz h0]
  have e2 : magS (sz d neg) false dir = ((if dir = 0 ∨ upw dir neg = true then INF else MAX), 5) := if_pos (show 1023 < d.top by omega)
  rw [e2]
  unfold classS
  rw [if_pos rfl]
theorem class2 {d : Dy} (pd : d.s = false) (h0 : d.m ≠ 0) (h : d.val ≤ (2 : Rat) ^ (-1076 : Int)) (neg : Bool) (dir : Int) : toS (sgnD d neg) false dir = classS 2 neg dir := by
  have ht := tops_val (b := ⟨false, 1, -1076⟩) pd rfl h0 (by decide) (by rw [pw_val]; exact h)
  have e1 : (⟨false, 1, -1076⟩ : Dy).top = -1076 := by decide
  rw [e1] at ht
  rw [sgn_sz pd h0, toS_sz h0]
  have hu : unitOf d.top = -1074 := by
    have : unitOf d.top = max (d.top - 52) (-1074) := rfl
    omega
  have f1 : flo d (-1074) = 0 := flo_small h0 (by omega)
  have f2 : flo d (-1074 - 1) = 0 := flo_small h0 (by omega)
  have hl : low (sz d neg) = 0 := by
    show low d = 0
    unfold low
    rw [if_neg (by omega), hu, f1]
    decide
  have hh : hf (sz d neg) (unitOf (sz d neg).top) = false := by
    show hf d (unitOf d.top) = false
    unfold hf
    rw [hu, f2]; rfl
  have hb : bl (sz d neg) (unitOf (sz d neg).top) = true := by
    show bl d (unitOf d.top) = true
    refine Decidable.byContradiction fun hn => ?_
    have hn := bfalse hn
    have := (pos_mid h0 (show d.top ≤ 1023 by omega)).2.2 ⟨hh, hn⟩
    rw [show low d = 0 from hl] at this
    have h3 := cmp_val_eq.1 this
    rw [abs_pos pd, val_zero (d := fd 0) (by decide)] at h3
    exact h0 (val_eq_zero.1 h3.symm)
  have e2 : magS (sz d neg) false dir = (if upw dir neg = true then 1 else 0, 3) := by
    unfold magS
    have htz : (sz d neg).top = d.top := rfl
    rw [if_neg (show ¬ 1023 < (sz d neg).top by omega), hl, hh, hb]
    have ea : awayS dir (sz d neg).s (decide (0 % 2 = 1)) false (true || false) = upw dir neg := by
      unfold awayS
      by_cases hd : dir = 0
      · rw [if_pos hd]; unfold upw; rw [hd]; rfl
      · rw [if_neg hd]; rfl
    rw [ea]
    have ei : ¬ (if upw dir neg = true then 0 + 1 else 0) = INF := by
      unfold INF
      split <;> decide
    rw [if_neg ei, if_pos (show (false || (true || false)) = true by decide), if_pos (show (sz d neg).top < -1022 by omega)]
  rw [e2]
  unfold classS
  rw [if_neg (show ¬ (2 : Int) = 1 by decide), if_pos rfl]
def ONE : Nat := 4607182418800017408
theorem class_near {d : Dy} (pd : d.s = false) (h0 : d.m ≠ 0) {n : Nat} (hn : n < INF) (h1 : (fd n).val ≤ d.val) (h2 : d.val < (fd (n + 1)).val) : low d = n := by
  refine bel_unique (n := d.abs) bel_low ⟨by omega, ?_, .inr ?_⟩
  · rw [abs_pos pd]; exact cmp_val_le.2 h1
  · rw [abs_pos pd]; exact cmp_val_gt.2 h2
theorem class3 {d : Dy} (pd : d.s = false) (h0 : d.m ≠ 0) (h1 : 1 < d.val) (h2 : d.val ≤ 1 + 1 / 576460752303423488) (neg : Bool) (dir : Int) : toS (sgnD d neg) false dir = classS 3 neg dir := by
  have v0 : (fd ONE).val = 1 := by decide +kernel
  have v1 : (1 : Rat) + 1 / 576460752303423488 < (fd (ONE + 1)).val := by decide +kernel
  have v2 : (1 : Rat) + 1 / 576460752303423488 < (mid ONE).val := by decide +kernel
  have hl : low d = ONE := class_near pd h0 (by decide) (by grind) (by grind)
  have t1 := tops_val (a := ⟨false, 1, 0⟩) rfl pd (by decide) h0 (by rw [pw_val, z2_zero]; exact Rat.le_of_lt h1)
  have t2 := tops_val (b := ⟨false, 1, 1⟩) pd rfl h0 (by decide) (by rw [pw_val, z2_one]; grind)
  have e1 : (⟨false, 1, 0⟩ : Dy).top = 0 := by decide
  have e2 : (⟨false, 1, 1⟩ : Dy).top = 1 := by decide
  rw [e1] at t1
  rw [e2] at t2
  obtain ⟨p1, p2⟩ := pos_mid h0 (show d.top ≤ 1023 by omega)
  rw [hl, abs_pos pd] at p1 p2
  have hh : hf d (unitOf d.top) = false := by
    refine bfalse fun hn => ?_
    rw [if_pos hn] at p1
    have : cmpD d (mid ONE) < 0 := cmp_val_lt.2 (by grind)
    split at p1 <;> omega
  have hb : bl d (unitOf d.top) = true := by
    refine Decidable.byContradiction fun hn => ?_
    have := cmp_val_eq.1 (p2.2 ⟨hh, bfalse hn⟩)
    grind
  rw [sgn_sz pd h0, toS_sz h0]
  have ec : classS 3 neg dir = toS (sz ⟨false, 1, 0⟩ neg) true dir := by cases neg <;> rfl
  rw [ec, toS_sz (by decide)]
  have em : magS (sz d neg) false dir = magS (sz ⟨false, 1, 0⟩ neg) true dir := by
    refine mag_eq rfl (show d.top ≤ 1023 by omega) (show (⟨false, 1, 0⟩ : Dy).top ≤ 1023 by decide) ?_ ?_ ?_ ?_
    · show low d = low ⟨false, 1, 0⟩
      rw [hl]; decide +kernel
    · show hf d (unitOf d.top) = hf ⟨false, 1, 0⟩ (unitOf (⟨false, 1, 0⟩ : Dy).top)
      rw [hh]; decide +kernel
    · show (bl d (unitOf d.top) || false) = (bl ⟨false, 1, 0⟩ (unitOf (⟨false, 1, 0⟩ : Dy).top) || true)
      rw [hb, Bool.or_true]; rfl
    · show d.top < -1022 ↔ (⟨false, 1, 0⟩ : Dy).top < -1022
      rw [e1]; omega
  rw [em]
theorem class4 {d : Dy} (pd : d.s = false) (h0 : d.m ≠ 0) (h1 : 1 - 1 / 1152921504606846976 ≤ d.val) (h2 : d.val < 1) (neg : Bool) (dir : Int) : toS (sgnD d neg) false dir = classS 4 neg dir := by
  have v0 : (fd (ONE - 1)).val ≤ 1 - 1 / 1152921504606846976 := by decide +kernel
  have v1 : (1 : Rat) = (fd (ONE - 1 + 1)).val := by decide +kernel
  have v2 : (mid (ONE - 1)).val < 1 - 1 / 1152921504606846976 := by decide +kernel
  have hl : low d = ONE - 1 := class_near pd h0 (by decide) (by grind) (by grind)
  have v3 : (2 : Rat) ^ (-1 : Int) ≤ 1 - 1 / 1152921504606846976 := by decide +kernel
  have t1 := tops_val (a := ⟨false, 1, -1⟩) rfl pd (by decide) h0 (by rw [pw_val]; grind)
  have t2 := tops_val (b := ⟨false, 1, 0⟩) pd rfl h0 (by decide) (by rw [pw_val, z2_zero]; grind)
  have e1 : (⟨false, 1, -1⟩ : Dy).top = -1 := by decide
  have e2 : (⟨false, 1, 0⟩ : Dy).top = 0 := by decide
  rw [e1] at t1
  rw [e2] at t2
  obtain ⟨p1, p2⟩ := pos_mid h0 (show d.top ≤ 1023 by omega)
  rw [hl, abs_pos pd] at p1 p2
  have hc : 0 < cmpD d (mid (ONE - 1)) := cmp_val_gt.2 (by grind)
  have hh : hf d (unitOf d.top) = true := by
    refine Decidable.byContradiction fun hn => ?_
    rw [if_neg hn] at p1
    omega
  have hb : bl d (unitOf d.top) = true := by
    refine Decidable.byContradiction fun hn => ?_
    rw [if_pos hh, if_neg hn] at p1
    omega
  rw [sgn_sz pd h0, toS_sz h0]
  have ec : classS 4 neg dir = toS (sz ⟨false, 18014398509481983, -54⟩ neg) true dir := by
    unfold classS
    rw [if_neg (show ¬ (4 : Int) = 1 by decide), if_neg (show ¬ (4 : Int) = 2 by decide), if_neg (show ¬ (4 : Int) = 3 by decide)]
    have : mkD neg 18014398509481983 (-54) = sz ⟨false, 18014398509481983, -54⟩ neg := by cases neg <;> decide +kernel
    rw [this]
  rw [ec, toS_sz (by decide)]
  have em : magS (sz d neg) false dir = magS (sz ⟨false, 18014398509481983, -54⟩ neg) true dir := by
    have e3 : (⟨false, 18014398509481983, -54⟩ : Dy).top = -1 := by decide +kernel
    refine mag_eq rfl (show d.top ≤ 1023 by omega) (show (⟨false, 18014398509481983, -54⟩ : Dy).top ≤ 1023 by omega) ?_ ?_ ?_ ?_
    · show low d = low ⟨false, 18014398509481983, -54⟩
      rw [hl]; decide +kernel
    · show hf d (unitOf d.top) = hf ⟨false, 18014398509481983, -54⟩ (unitOf (⟨false, 18014398509481983, -54⟩ : Dy).top)
      rw [hh]; decide +kernel
    · show (bl d (unitOf d.top) || false) = (bl ⟨false, 18014398509481983, -54⟩ (unitOf (⟨false, 18014398509481983, -54⟩ : Dy).top) || true)
      rw [hb, Bool.or_true]; rfl
    · show d.top < -1022 ↔ (⟨false, 18014398509481983, -54⟩ : Dy).top < -1022
      rw [e3]; omega
  rw [em]
end
section
open XX
theorem rpow_lt {x y : Rat} (h0 : 0 ≤ x) (h : x < y) {n : Nat} (hn : 0 < n) : x ^ n < y ^ n := by
  obtain ⟨k, rfl⟩ : ∃ k, n = k + 1 := ⟨n - 1, by omega⟩
  rw [Rat.pow_succ, Rat.pow_succ]
  have h1 := rpow_le h0 (Rat.le_of_lt h) k
  have hy : 0 < y := by grind
  have hp : 0 < y ^ k := Rat.pow_pos hy
  have h2 : x ^ k * x ≤ y ^ k * x := Rat.mul_le_mul_of_nonneg_right h1 h0
  have h3 : y ^ k * x < y ^ k * y := Rat.mul_lt_mul_of_pos_left h hp
  grind
theorem rpow_le_iff {x y : Rat} (h0 : 0 ≤ y) {n : Nat} (hn : 0 < n) (h : x ^ n ≤ y ^ n) : x ≤ y := by
  refine Decidable.byContradiction fun hc => ?_
  have := rpow_lt h0 (show y < x by grind) hn
  grind
theorem rinv_lt {x : Rat} (h0 : 0 < x) (h : x < 1) : 1 < x⁻¹ := by
  have hi := Rat.inv_pos.2 h0
  have e : x⁻¹ * x = 1 := Rat.inv_mul_cancel x (by grind)
  have h1 : x⁻¹ * x < x⁻¹ * 1 := Rat.mul_lt_mul_of_pos_left h hi
  grind
theorem rinv_gt {x : Rat} (h : 1 < x) : x⁻¹ < 1 := by
  have hi := Rat.inv_pos.2 (show 0 < x by grind)
  have e : x⁻¹ * x = 1 := Rat.inv_mul_cancel x (by grind)
  have h1 : x⁻¹ * 1 < x⁻¹ * x := Rat.mul_lt_mul_of_pos_left h hi
  grind
theorem zp_pos {x : Rat} (h : 1 < x) {P : Int} (hP : 0 < P) : 1 < x ^ P := by
  obtain ⟨n, rfl⟩ := Int.eq_ofNat_of_zero_le (show 0 ≤ P by omega)
  rw [Rat.zpow_natCast]
  have := rpow_lt (x := 1) (by decide) h (n := n) (by omega)
  rwa [one_pow'] at this
theorem zp_low {x : Rat} (h0 : 0 < x) (h : x < 1) {P : Int} (hP : 0 < P) : x ^ P < 1 := by
  obtain ⟨n, rfl⟩ := Int.eq_ofNat_of_zero_le (show 0 ≤ P by omega)
  rw [Rat.zpow_natCast]
  have := rpow_lt (Rat.le_of_lt h0) h (n := n) (by omega)
  rwa [one_pow'] at this
theorem zp_neg (x : Rat) (P : Int) : x ^ P = (x ^ (-P))⁻¹ := by rw [Rat.zpow_neg, Rat.inv_inv]
theorem sgn_w {a : Ask} (ha : AskOk a) : (sgS a = 1 → 1 < askW a) ∧ (sgS a = -1 → askW a < 1) := by
  have hx := (log_br ha.x (s := 8) (by decide)).1
  have hy := ask_yv a
  have hK := nc_pos (Nat.two_pow_pos (askK a))
  have v1 : (norm 1 0).val = 1 := by decide +kernel
  have ypos : 0 < a.y.sg → 0 < askP a := fun h => by
    have h1 := sg_val.2.2.1 h
    have h2 : (0 : Rat) < (askP a : Rat) := by rw [← hy]; exact Rat.mul_pos h1 hK
    exact Rat.intCast_lt_intCast.1 h2
  have yneg : a.y.sg < 0 → 0 < -askP a := fun h => by
    have h1 := sg_val.2.1.1 h
    have h3 : 0 < -a.y.val * ((2 ^ askK a : Nat) : Rat) := Rat.mul_pos (by grind) hK
    have h2 : (askP a : Rat) < ((0 : Int) : Rat) := by
      rw [← hy]
      show _ < (0 : Rat)
      grind
    have := Rat.intCast_lt_intCast.1 h2
    omega
  have c := cmp_range a.x (norm 1 0)
  have s := sg_in a.y
  have xg : 0 < cmpD a.x (norm 1 0) → 1 < a.x.val := fun h => by have := cmp_val_gt.1 h; rwa [v1] at this
  have xl : cmpD a.x (norm 1 0) < 0 → a.x.val < 1 := fun h => by have := cmp_val_lt.1 h; rwa [v1] at this
  unfold sgS askW
  generalize cmpD a.x (norm 1 0) = C at *
  generalize a.y.sg = Y at *
  have hpos : ∀ P : Int, 0 < a.x.val ^ P := fun P => Rat.zpow_pos hx
  have cy : Y = -1 ∨ Y = 0 ∨ Y = 1 := by omega
  constructor
  · intro h
    rcases cy with rfl | rfl | rfl
    · have h1 := xl (by omega)
      have h2 := yneg (by omega)
      rw [zp_neg]
      exact rinv_lt (hpos _) (zp_low hx h1 h2)
    · omega
    · exact zp_pos (xg (by omega)) (ypos (by omega))
  · intro h
    rcases cy with rfl | rfl | rfl
    · have h1 := xg (by omega)
      have h2 := yneg (by omega)
      rw [zp_neg]
      exact rinv_gt (zp_pos h1 h2)
    · omega
    · exact zp_low hx (xl (by omega)) (ypos (by omega))
theorem big_ln : XL ((2 : Rat) ^ (1024 : Int)) 710 ∧ XU (-746) ((2 : Rat) ^ (-1076 : Int)) := by
  have p2 : (0 : Rat) < 2 := by decide
  have l1 := ln2_lo 20
  have l2 := ln2_hi 20
  constructor
  · exact XL.zpow p2 l1 l2 1024 (by decide +kernel) (by decide +kernel)
  · exact XU.zpow p2 l1 l2 (-1076) (by decide +kernel) (by decide +kernel)
theorem near_ln : XU (1 / 1152921504606846976) (1 + 1 / 576460752303423488) ∧ XL (1 - 1 / 1152921504606846976) (-(1 / 1152921504606846976)) := by
  have h := XU.one_sub (t := 1 / 1152921504606846976) (by decide +kernel) (by decide +kernel)
  constructor
  · exact h.mono Rat.le_refl (by decide +kernel) (by decide +kernel)
  · exact (h.inv (by decide +kernel)).mono Rat.le_refl (by decide +kernel) (by decide +kernel)
theorem bound_w {a : Ask} (ha : AskOk a) {b : Nat} (hb : 32 ≤ b) :
    (boundS (zS a b) (sgS a) = 1 → ((2 : Rat) ^ (1024 : Int)) ^ askQ a ≤ askW a) ∧ (boundS (zS a b) (sgS a) = 2 → askW a ≤ ((2 : Rat) ^ (-1076 : Int)) ^ askQ a) ∧
    (boundS (zS a b) (sgS a) = 3 → 1 < askW a ∧ askW a ≤ (1 + 1 / 576460752303423488) ^ askQ a) ∧ (boundS (zS a b) (sgS a) = 4 → (1 - 1 / 1152921504606846976) ^ askQ a ≤ askW a ∧ askW a < 1) := by
  obtain ⟨g1, g2⟩ := zS_br ha hb
  have hw := askW_pos ha
  obtain ⟨w1, w2⟩ := sgn_w ha
  obtain ⟨b1, b2⟩ := big_ln
  obtain ⟨n1, n2⟩ := near_ln
  have qn := natc0 (askQ a)
  have v1 : (norm 710 0).val = 710 := by decide +kernel
  have v2 : (norm (-746) 0).val = -746 := by decide +kernel
  have v3 : nearD.val = 1 / 1152921504606846976 := by decide +kernel
  have v4 : nearD.neg.val = -(1 / 1152921504606846976) := by rw [val_neg, v3]
  unfold boundS
  by_cases c0 : sgS a = 0 ∨ ¬ (zS a b).right
  · rw [if_pos c0]
    refine ⟨fun h => absurd h (by decide), fun h => absurd h (by decide), fun h => absurd h (by decide), fun h => absurd h (by decide)⟩
  rw [if_neg c0]
  by_cases c1 : 0 ≤ cmpD (zS a b).lo (norm 710 0)
  · rw [if_pos c1]
    refine ⟨fun _ => ?_, fun h => absurd h (by decide), fun h => absurd h (by decide), fun h => absurd h (by decide)⟩
    have h := cmp_val_ge.1 c1
    rw [v1] at h
    have p0 := z2_pos 1024
    have h2 := Rat.mul_le_mul_of_nonneg_left h qn
    exact ((b1.pow (Rat.le_of_lt p0) (askQ a)).mono h2 Rat.le_refl (Rat.le_of_lt (Rat.pow_pos p0))).le g1 (Rat.le_of_lt (Rat.pow_pos p0)) (Rat.le_of_lt hw)
  rw [if_neg c1]
  by_cases c2 : cmpD (zS a b).hi (norm (-746) 0) ≤ 0
  · rw [if_pos c2]
    refine ⟨fun h => absurd h (by decide), fun _ => ?_, fun h => absurd h (by decide), fun h => absurd h (by decide)⟩
    have h := cmp_val_le.1 c2
    rw [v2] at h
    have p0 := z2_pos (-1076)
    have h2 := Rat.mul_le_mul_of_nonneg_left h qn
    exact g2.le ((b2.pow (Rat.le_of_lt p0) (askQ a)).mono h2 Rat.le_refl (Rat.le_of_lt (Rat.pow_pos p0))) (Rat.le_of_lt hw) (Rat.le_of_lt (Rat.pow_pos p0))
  rw [if_neg c2]
  by_cases c3 : sgS a = 1 ∧ cmpD (zS a b).hi nearD < 0
  · rw [if_pos c3]
    refine ⟨fun h => absurd h (by decide), fun h => absurd h (by decide), fun _ => ⟨w1 c3.1, ?_⟩, fun h => absurd h (by decide)⟩
    have h := cmp_val_lt.1 c3.2
    rw [v3] at h
    have p0 : (0 : Rat) < 1 + 1 / 576460752303423488 := by decide +kernel
    have h2 := Rat.mul_le_mul_of_nonneg_left (Rat.le_of_lt h) qn
    exact g2.le ((n1.pow (Rat.le_of_lt p0) (askQ a)).mono h2 Rat.le_refl (Rat.le_of_lt (Rat.pow_pos p0))) (Rat.le_of_lt hw) (Rat.le_of_lt (Rat.pow_pos p0))
  rw [if_neg c3]
  by_cases c4 : sgS a = -1 ∧ 0 < cmpD (zS a b).lo nearD.neg
  · rw [if_pos c4]
    refine ⟨fun h => absurd h (by decide), fun h => absurd h (by decide), fun h => absurd h (by decide), fun _ => ⟨?_, w2 c4.1⟩⟩
    have h := cmp_val_gt.1 c4.2
    rw [v4] at h
    have p0 : (0 : Rat) < 1 - 1 / 1152921504606846976 := by decide +kernel
    have h2 := Rat.mul_le_mul_of_nonneg_left (Rat.le_of_lt h) qn
    exact ((n2.pow (Rat.le_of_lt p0) (askQ a)).mono h2 Rat.le_refl (Rat.le_of_lt (Rat.pow_pos p0))).le g1 (Rat.le_of_lt (Rat.pow_pos p0)) (Rat.le_of_lt hw)
  rw [if_neg c4]
  refine ⟨fun h => absurd h (by decide), fun h => absurd h (by decide), fun h => absurd h (by decide), fun h => absurd h (by decide)⟩
structure En (a : Ask) (neg : Bool) (dir : Int) (r : Nat × Nat) (A B : Dy) : Prop where
  sA : A.s = false
  sB : B.s = false
  mA : A.m ≠ 0
  mB : B.m ≠ 0
  iA : ∀ d, (toS (sgnD A neg) false d).2 ≠ 0
  iB : ∀ d, (toS (sgnD B neg) false d).2 ≠ 0
  lo : A.val ^ askQ a ≤ askW a
  hi : askW a ≤ B.val ^ askQ a
  rA : toS (sgnD A neg) false dir = r
  rB : toS (sgnD B neg) false dir = r
theorem pos_val {d : Dy} (hs : d.s = false) (h0 : d.m ≠ 0) : 0 < d.val := by
  unfold Dy.val
  rw [hs, if_neg Bool.false_ne_true, Int.one_mul]
  exact Rat.mul_pos (nc_pos (Nat.pos_of_ne_zero h0)) (z2_pos _)
theorem two_ge (n : Nat) : n ≤ 2 ^ n := Nat.le_of_lt Nat.lt_two_pow_self
theorem big_two (x : Rat) (k : Nat) : ∃ n : Nat, k ≤ n ∧ x ≤ (2 : Rat) ^ (n : Int) := by
  obtain ⟨j, hj⟩ := arch x
  refine ⟨max j k, by omega, ?_⟩
  rw [z2_nat]
  have := ncast_le (show j ≤ 2 ^ max j k from Nat.le_trans (by omega) (two_ge (max j k)))
  grind
theorem pow_ge_self {x : Rat} (h : 1 ≤ x) {n : Nat} (hn : 0 < n) : x ≤ x ^ n := by
  obtain ⟨k, rfl⟩ : ∃ k, n = k + 1 := ⟨n - 1, by omega⟩
  rw [Rat.pow_succ]
  have h1 := one_le_rpow h k
  have := Rat.mul_le_mul_of_nonneg_right h1 (show 0 ≤ x by grind)
  grind
theorem class_flag {c : Int} (hc : 1 ≤ c ∧ c ≤ 4) (neg : Bool) (dir : Int) : (classS c neg dir).2 ≠ 0 := by
  unfold classS
  split
  · show (5 : Nat) ≠ 0; decide
  split
  · show (3 : Nat) ≠ 0; decide
  split
  · exact toS_more (by cases neg <;> decide) dir
  · exact toS_more (by cases neg <;> decide +kernel) dir
theorem en_class1 {a : Ask} (ha : AskOk a) (h : ((2 : Rat) ^ (1024 : Int)) ^ askQ a ≤ askW a) (neg : Bool) (dir : Int) : ∃ A B, En a neg dir (classS 1 neg dir) A B := by
  obtain ⟨n, hn, hx⟩ := big_two (askW a) 1024
  have hQ := askQ_pos ha
  have h1 : (1 : Rat) ≤ (2 : Rat) ^ (n : Int) := by rw [z2_nat]; exact ncast_le (Nat.two_pow_pos n)
  have h2 : (2 : Rat) ^ (1024 : Int) ≤ (2 : Rat) ^ (n : Int) := by
    rw [show (n : Int) = 1024 + ((n - 1024 : Nat) : Int) by omega, z2_add]
    have := ncast_le (Nat.two_pow_pos (n - 1024))
    have h3 := Rat.mul_le_mul_of_nonneg_left this (Rat.le_of_lt (z2_pos 1024))
    rw [← z2_nat] at h3
    rw [show ((0 + 1 : Nat) : Rat) = 1 from rfl, Rat.mul_one] at h3
    exact h3
  have cA := fun d => class1 (d := ⟨false, 1, 1024⟩) rfl (by decide) (by rw [pw_val]; exact Rat.le_refl) neg d
  have cB := fun d => class1 (d := ⟨false, 1, n⟩) rfl (show (1 : Nat) ≠ 0 by decide) (by rw [pw_val]; exact h2) neg d
  refine ⟨⟨false, 1, 1024⟩, ⟨false, 1, n⟩, ⟨rfl, rfl, by decide, show (1 : Nat) ≠ 0 by decide, fun d => ?_, fun d => ?_, ?_, ?_, cA dir, cB dir⟩⟩
  · rw [cA d]; exact class_flag (by decide) neg d
  · rw [cB d]; exact class_flag (by decide) neg d
  · rw [pw_val]; exact h
  · rw [pw_val]
    exact Rat.le_trans hx (pow_ge_self h1 hQ)
theorem en_class2 {a : Ask} (ha : AskOk a) (h : askW a ≤ ((2 : Rat) ^ (-1076 : Int)) ^ askQ a) (neg : Bool) (dir : Int) : ∃ A B, En a neg dir (classS 2 neg dir) A B := by
  have hw := askW_pos ha
  obtain ⟨n, hn, hx⟩ := big_two ((askW a)⁻¹) 1076
  have hQ := askQ_pos ha
  have h1 : (1 : Rat) ≤ (2 : Rat) ^ (n : Int) := by rw [z2_nat]; exact ncast_le (Nat.two_pow_pos n)
  have hp := z2_pos (n : Int)
  have e0 : (2 : Rat) ^ (-(n : Int)) * (2 : Rat) ^ (n : Int) = 1 := by rw [← z2_add, Int.add_left_neg, z2_zero]
  have h2 : (2 : Rat) ^ (-(n : Int)) ≤ (2 : Rat) ^ (-1076 : Int) := by
    rw [show (-1076 : Int) = -(n : Int) + ((n - 1076 : Nat) : Int) by omega, z2_add]
    have := ncast_le (Nat.two_pow_pos (n - 1076))
    have h3 := Rat.mul_le_mul_of_nonneg_left this (Rat.le_of_lt (z2_pos (-(n : Int))))
    rw [← z2_nat] at h3
    rw [show ((0 + 1 : Nat) : Rat) = 1 from rfl, Rat.mul_one] at h3
    exact h3
  have cA := fun d => class2 (d := ⟨false, 1, -(n : Int)⟩) rfl (show (1 : Nat) ≠ 0 by decide) (by rw [pw_val]; exact h2) neg d
  have cB := fun d => class2 (d := ⟨false, 1, -1076⟩) rfl (by decide) (by rw [pw_val]; exact Rat.le_refl) neg d
  refine ⟨⟨false, 1, -(n : Int)⟩, ⟨false, 1, -1076⟩, ⟨rfl, rfl, show (1 : Nat) ≠ 0 by decide, by decide, fun d => ?_, fun d => ?_, ?_, ?_, cA dir, cB dir⟩⟩
  · rw [cA d]; exact class_flag (by decide) neg d
  · rw [cB d]; exact class_flag (by decide) neg d
  · rw [pw_val]
    have h3 := Rat.le_trans hx (pow_ge_self h1 hQ)
    have e1 : ((2 : Rat) ^ (-(n : Int))) ^ askQ a * ((2 : Rat) ^ (n : Int)) ^ askQ a = 1 := by rw [← rmul_pow, e0, one_pow']
    have hpp : 0 < ((2 : Rat) ^ (-(n : Int))) ^ askQ a := Rat.pow_pos (z2_pos _)
    have h4 := Rat.mul_le_mul_of_nonneg_left h3 (Rat.le_of_lt (Rat.mul_pos hpp hw))
    have e2 : (askW a)⁻¹ * askW a = 1 := Rat.inv_mul_cancel _ (by grind)
    generalize ((2 : Rat) ^ (-(n : Int))) ^ askQ a = X at *
    generalize ((2 : Rat) ^ (n : Int)) ^ askQ a = Y at *
    generalize (askW a)⁻¹ = I at *
    generalize askW a = w at *
    have e3 : X * w * I = X := by grind
    have e4 : X * w * Y = w := by grind
    rw [e3, e4] at h4
    exact h4
  · rw [pw_val]; exact h
end
section
open XX
theorem small_two (Q : Nat) {y : Rat} (hy : 0 < y) (k : Nat) : ∃ n : Nat, k ≤ n ∧ (Q : Rat) * (2 : Rat) ^ (-(n : Int)) ≤ y := by
  obtain ⟨n, hn, hx⟩ := big_two ((Q : Rat) / y) k
  refine ⟨n, hn, ?_⟩
  have hp := z2_pos (n : Int)
  have e0 : (2 : Rat) ^ (-(n : Int)) * (2 : Rat) ^ (n : Int) = 1 := by rw [← z2_add, Int.add_left_neg, z2_zero]
  have h1 := Rat.mul_le_mul_of_nonneg_right hx (Rat.le_of_lt hy)
  rw [Rat.div_mul_cancel (by grind)] at h1
  refine scale_le hp ?_
  generalize (2 : Rat) ^ (-(n : Int)) = X at *
  generalize (2 : Rat) ^ (n : Int) = Y at *
  generalize (Q : Rat) = q at *
  have : q * X * Y = q := by grind
  rw [this]
  grind
theorem z2_low {n k : Nat} (h : k ≤ n) : (2 : Rat) ^ (-(n : Int)) ≤ (2 : Rat) ^ (-(k : Int)) := by
  rw [show (-(k : Int)) = -(n : Int) + ((n - k : Nat) : Int) by omega, z2_add]
  have := ncast_le (Nat.two_pow_pos (n - k))
  have h3 := Rat.mul_le_mul_of_nonneg_left this (Rat.le_of_lt (z2_pos (-(n : Int))))
  rw [← z2_nat] at h3
  rw [show ((0 + 1 : Nat) : Rat) = 1 from rfl, Rat.mul_one] at h3
  exact h3
theorem nat_val (m : Nat) (e : Int) : (⟨false, m, e⟩ : Dy).val = (m : Rat) * (2 : Rat) ^ e := by
  unfold Dy.val
  rw [if_neg Bool.false_ne_true, Int.one_mul]
  rfl
theorem en_class3 {a : Ask} (ha : AskOk a) (h1 : 1 < askW a) (h2 : askW a ≤ (1 + 1 / 576460752303423488) ^ askQ a) (neg : Bool) (dir : Int) : ∃ A B, En a neg dir (classS 3 neg dir) A B := by
  have hw := askW_pos ha
  have hi := rinv_gt h1
  have hi0 := Rat.inv_pos.2 hw
  obtain ⟨n, hn, hx⟩ := small_two (askQ a) (y := 1 - (askW a)⁻¹) (by grind) 59
  have ht0 := z2_pos (-(n : Int))
  have ht := z2_low hn
  rw [show (2 : Rat) ^ (-((59 : Nat) : Int)) = 1 / 576460752303423488 by decide +kernel] at ht
  have e0 : (2 : Rat) ^ (n : Int) * (2 : Rat) ^ (-(n : Int)) = 1 := by rw [← z2_add, Int.add_right_neg, z2_zero]
  have vA : (⟨false, 2 ^ n + 1, -(n : Int)⟩ : Dy).val = 1 + (2 : Rat) ^ (-(n : Int)) := by
    rw [nat_val, ncast_add, ← z2_nat]
    show ((2 : Rat) ^ (n : Int) + 1) * _ = _
    grind
  have vB : (⟨false, 576460752303423489, -59⟩ : Dy).val = 1 + 1 / 576460752303423488 := by decide +kernel
  have cA := fun d => class3 (d := ⟨false, 2 ^ n + 1, -(n : Int)⟩) rfl (Nat.succ_ne_zero _) (by rw [vA]; grind) (by rw [vA]; grind) neg d
  have cB := fun d => class3 (d := ⟨false, 576460752303423489, -59⟩) rfl (by decide) (by rw [vB]; decide +kernel) (by rw [vB]; exact Rat.le_refl) neg d
  refine ⟨⟨false, 2 ^ n + 1, -(n : Int)⟩, ⟨false, 576460752303423489, -59⟩, ⟨rfl, rfl, Nat.succ_ne_zero _, by decide, fun d => ?_, fun d => ?_, ?_, ?_, cA dir, cB dir⟩⟩
  · rw [cA d]; exact class_flag (by decide) neg d
  · rw [cB d]; exact class_flag (by decide) neg d
  · rw [vA]
    have hb := bern_up (Rat.le_of_lt ht0) (n := askQ a) (by grind)
    have hpp : 0 < (1 + (2 : Rat) ^ (-(n : Int))) ^ askQ a := Rat.pow_pos (by grind)
    have e2 : (askW a)⁻¹ * askW a = 1 := Rat.inv_mul_cancel _ (by grind)
    generalize (1 + (2 : Rat) ^ (-(n : Int))) ^ askQ a = X at *
    generalize (askQ a : Rat) * (2 : Rat) ^ (-(n : Int)) = q at *
    have h3 : X * (askW a)⁻¹ ≤ X * (1 - q) := Rat.mul_le_mul_of_nonneg_left (by grind) (Rat.le_of_lt hpp)
    have h4 : X * (askW a)⁻¹ ≤ 1 := Rat.le_trans h3 hb
    have h5 := Rat.mul_le_mul_of_nonneg_right h4 (Rat.le_of_lt hw)
    generalize (askW a)⁻¹ = I at *
    generalize askW a = w at *
    have : X * I * w = X := by grind
    rw [this] at h5
    grind
  · rw [vB]; exact h2
theorem en_class4 {a : Ask} (ha : AskOk a) (h1 : (1 - 1 / 1152921504606846976) ^ askQ a ≤ askW a) (h2 : askW a < 1) (neg : Bool) (dir : Int) : ∃ A B, En a neg dir (classS 4 neg dir) A B := by
  obtain ⟨n, hn, hx⟩ := small_two (askQ a) (y := 1 - askW a) (by grind) 60
  have ht0 := z2_pos (-(n : Int))
  have ht := z2_low hn
  rw [show (2 : Rat) ^ (-((60 : Nat) : Int)) = 1 / 1152921504606846976 by decide +kernel] at ht
  have e0 : (2 : Rat) ^ (n : Int) * (2 : Rat) ^ (-(n : Int)) = 1 := by rw [← z2_add, Int.add_right_neg, z2_zero]
  have hn2 : 2 ≤ 2 ^ n := Nat.le_trans (by omega) (two_ge n)
  have vB : (⟨false, 2 ^ n - 1, -(n : Int)⟩ : Dy).val = 1 - (2 : Rat) ^ (-(n : Int)) := by
    have : ((2 ^ n - 1 : Nat) : Rat) + 1 = ((2 ^ n : Nat) : Rat) := by rw [← natc]; congr 1; omega
    rw [nat_val]
    rw [← z2_nat] at this
    generalize ((2 ^ n - 1 : Nat) : Rat) = M at *
    have e1 : M = (2 : Rat) ^ (n : Int) - 1 := by grind
    rw [e1]
    grind
  have vA : (⟨false, 1152921504606846975, -60⟩ : Dy).val = 1 - 1 / 1152921504606846976 := by decide +kernel
  have cB := fun d => class4 (d := ⟨false, 2 ^ n - 1, -(n : Int)⟩) rfl (show 2 ^ n - 1 ≠ 0 by omega) (by rw [vB]; grind) (by rw [vB]; grind) neg d
  have cA := fun d => class4 (d := ⟨false, 1152921504606846975, -60⟩) rfl (by decide) (by rw [vA]; exact Rat.le_refl) (by rw [vA]; decide +kernel) neg d
  refine ⟨⟨false, 1152921504606846975, -60⟩, ⟨false, 2 ^ n - 1, -(n : Int)⟩, ⟨rfl, rfl, by decide, show 2 ^ n - 1 ≠ 0 by omega, fun d => ?_, fun d => ?_, ?_, ?_, cA dir, cB dir⟩⟩
  · rw [cA d]; exact class_flag (by decide) neg d
  · rw [cB d]; exact class_flag (by decide) neg d
  · rw [vA]; exact h1
  · rw [vB]
    have hb := bern (x := -(2 : Rat) ^ (-(n : Int))) (by have : (1 : Rat) / 1152921504606846976 ≤ 1 := by decide +kernel
                                                         grind) (askQ a)
    have e1 : 1 + -(2 : Rat) ^ (-(n : Int)) = 1 - (2 : Rat) ^ (-(n : Int)) := by grind
    rw [e1] at hb
    grind
theorem sgn_brk {d : Dy} (h0 : d.m ≠ 0) (neg : Bool) (h : brkP (sgnD d neg)) : brkP d := by
  unfold sgnD Dy.neg at h
  cases neg with
  | true => rw [if_pos rfl, if_neg h0] at h; exact h
  | false => rw [if_neg Bool.false_ne_true] at h; exact h
theorem pos_s {d : Dy} (h : 0 < d.sg) : d.s = false := by
  unfold Dy.sg at h
  split at h
  · omega
  · cases hs : d.s with
    | false => rfl
    | true => rw [hs] at h; exact absurd h (by decide)
theorem en_round {a : Ask} (ha : AskOk a) {b : Nat} (hb : 32 ≤ b) (hs : splitOk (zS a b) (scS a.y b)) {neg : Bool} {dir : Int} {r : Nat × Nat} (h : roundS (expI (zS a b) (scS a.y b)) neg dir = some r) : ∃ A B, En a neg dir r A B := by
  obtain ⟨s1, s2⟩ := scS_range (y := a.y) hb
  have hl := expI_lim (by omega) s2 hs
  unfold roundS at h
  split at h
  · rename_i hc
    cases h
    obtain ⟨⟨hd, n1, n2⟩, he⟩ := hc
    obtain ⟨t1, t2, t3, t4⟩ := try_br ha hb hs hd
    have z1 := sg_m0 hd.2
    have z2 := sg_m0 (decR_hi hd)
    have b1 : ¬ brkP (expI (zS a b) (scS a.y b)).lo := fun hb => n1 ⟨hl.1.fits (by omega), hb⟩
    have b2 : ¬ brkP (expI (zS a b) (scS a.y b)).hi := fun hb => n2 ⟨hl.2.fits (by omega), hb⟩
    refine ⟨_, _, ⟨pos_s hd.2, pos_s (decR_hi hd), z1, z2, fun d => ?_, fun d => ?_, t3, t4, rfl, he.symm⟩⟩
    · exact toS_nobrk (sgnD_lim hl.1 neg).ok (by rw [sgnD_m]; exact z1) (fun hb => b1 (sgn_brk z1 neg hb)) _ _
    · exact toS_nobrk (sgnD_lim hl.2 neg).ok (by rw [sgnD_m]; exact z2) (fun hb => b2 (sgn_brk z2 neg hb)) _ _
  · cases h
theorem try_en {a : Ask} (ha : AskOk a) {b : Nat} (hb : 32 ≤ b) (h : (tryS a (sgS a) b).2 = true) : ∃ A B, En a a.neg a.dir (tryS a (sgS a) b).1.1 A B := by
  obtain ⟨c1, c2, c3, c4⟩ := bound_w ha hb
  have hr := boundS_range (zS a b) (sgS a)
  unfold tryS at h ⊢
  generalize hc : boundS (zS a b) (sgS a) = c at *
  by_cases h0 : c ≠ 0
  · rw [if_pos h0] at h ⊢
    have : c = 1 ∨ c = 2 ∨ c = 3 ∨ c = 4 := by omega
    rcases this with rfl | rfl | rfl | rfl
    · exact en_class1 ha (c1 rfl) _ _
    · exact en_class2 ha (c2 rfl) _ _
    · exact en_class3 ha (c3 rfl).1 (c3 rfl).2 _ _
    · exact en_class4 ha (c4 rfl).1 (c4 rfl).2 _ _
  · rw [if_neg h0] at h ⊢
    by_cases hs : splitOk (zS a b) (scS a.y b)
    · rw [if_pos hs] at h ⊢
      cases hR : roundS (expI (zS a b) (scS a.y b)) a.neg a.dir with
      | none => rw [hR] at h; exact absurd h Bool.false_ne_true
      | some r => exact en_round ha hb hs hR
    · rw [if_neg hs] at h
      exact absurd h (by decide)
structure Mt (a : Ask) (neg : Bool) (d : Dy) : Prop where
  s : d.s = false
  m : d.m ≠ 0
  i : ∀ dd, (toS (sgnD d neg) false dd).2 ≠ 0
  lo : d.val ^ askQ a ≤ askW a
theorem meet0 {a : Ask} {neg : Bool} : ∀ L : List (Int × (Nat × Nat)), L ≠ [] → (∀ x ∈ L, ∃ A B, En a neg x.1 x.2 A B) → ∃ d, Mt a neg d ∧ ∀ x ∈ L, ∃ A B, En a neg x.1 x.2 A B ∧ A.val ≤ d.val
  | [], hn, _ => absurd rfl hn
  | [x], _, h => by
    obtain ⟨A, B, e⟩ := h x (List.mem_cons_self ..)
    refine ⟨A, ⟨e.sA, e.mA, e.iA, e.lo⟩, fun y hy => ?_⟩
    rw [List.mem_singleton] at hy
    subst hy
    exact ⟨A, B, e, Rat.le_refl⟩
  | x :: y :: L, _, h => by
    obtain ⟨A, B, e⟩ := h x (List.mem_cons_self ..)
    obtain ⟨d, hd, hL⟩ := meet0 (y :: L) (List.cons_ne_nil _ _) (fun z hz => h z (List.mem_cons_of_mem _ hz))
    by_cases hc : d.val ≤ A.val
    · refine ⟨A, ⟨e.sA, e.mA, e.iA, e.lo⟩, fun z hz => ?_⟩
      rcases List.mem_cons.1 hz with rfl | hz
      · exact ⟨A, B, e, Rat.le_refl⟩
      · obtain ⟨A', B', e', h'⟩ := hL z hz
        exact ⟨A', B', e', Rat.le_trans h' hc⟩
    · refine ⟨d, hd, fun z hz => ?_⟩
      rcases List.mem_cons.1 hz with rfl | hz
      · exact ⟨A, B, e, by grind⟩
      · exact hL z hz
theorem meet {a : Ask} (ha : AskOk a) {neg : Bool} (L : List (Int × (Nat × Nat))) (hn : L ≠ []) (h : ∀ x ∈ L, ∃ A B, En a neg x.1 x.2 A B) : ∃ d, Mt a neg d ∧ ∀ x ∈ L, toS (sgnD d neg) false x.1 = x.2 := by
  obtain ⟨d, hd, hL⟩ := meet0 L hn h
  refine ⟨d, hd, fun x hx => ?_⟩
  obtain ⟨A, B, e, h1⟩ := hL x hx
  have h2 : d.val ≤ B.val := rpow_le_iff (Rat.le_of_lt (pos_val e.sB e.mB)) (askQ_pos ha) (Rat.le_trans hd.lo e.hi)
  rw [toS_mid e.sA hd.s e.sB e.mA hd.m e.mB h1 h2 (e.rA.trans e.rB.symm) (e.iA _) (hd.i _), e.rA]
end
section
open XX
def tFar (k dir f t : Int) : Prop := k < 0 ∨ 3 < k ∨ farW t ∨ ¬ hOk dir f t
instance (k dir f t : Int) : Decidable (tFar k dir f t) := inferInstanceAs (Decidable (_ ∨ _))
theorem t_far (k : Int) (x y : Nat) (n dir f t : Int) : PC E 28 [opv k x y n, wayv dir f t] (.bool (decide (tFar k dir f t))) := by
  have k1 := l_Far dir f t
  have k2 := l_Right24 dir f t
  by_cases c0 : k < 0
  · have h0 := decide_eq_true c0
    rw [decide_eq_true (show tFar k dir f t from .inl c0)]
    simp only [opv, wayv] at k1 k2 ⊢
    refine PC.of_body follows Tryz.func28 (by decide +kernel) rfl (by kernel_rfl) (Nat.le_of_ble_eq_true rfl) (walk ?_)
    simp only [Tryz.f28, h0, go_sem]
    try rfl
  have h0 := decide_eq_false c0
  by_cases c1 : 3 < k
  · have h1 := decide_eq_true c1
    rw [decide_eq_true (show tFar k dir f t from .inr (.inl c1))]
    simp only [opv, wayv] at k1 k2 ⊢
    refine PC.of_body follows Tryz.func28 (by decide +kernel) rfl (by kernel_rfl) (Nat.le_of_ble_eq_true rfl) (walk ?_)
    simp only [Tryz.f28, h0, h1, go_sem]
    try rfl
  have h1 := decide_eq_false c1
  by_cases c2 : farW t
  · rw [decide_eq_true (show tFar k dir f t from .inr (.inr (.inl c2)))]
    rw [decide_eq_true c2] at k1
    simp only [opv, wayv] at k1 k2 ⊢
    refine PC.of_body follows Tryz.func28 (by decide +kernel) rfl (by kernel_rfl) (Nat.le_of_ble_eq_true rfl) (walk ?_)
    simp only [Tryz.f28, h0, h1, go_sem]
    refine qcall_i (k1) ?_; simp only [Tryz.f28, go_sem]
    try rfl
  rw [decide_eq_false c2] at k1
  by_cases c3 : hOk dir f t
  · rw [decide_eq_false (show ¬ tFar k dir f t from fun h => by
      rcases h with h | h | h | h
      · exact c0 h
      · exact c1 h
      · exact c2 h
      · exact h c3)]
    rw [decide_eq_true c3] at k2
    simp only [opv, wayv] at k1 k2 ⊢
    refine PC.of_body follows Tryz.func28 (by decide +kernel) rfl (by kernel_rfl) (Nat.le_of_ble_eq_true rfl) (walk ?_)
    simp only [Tryz.f28, h0, h1, go_sem]
    refine qcall_i (k1) ?_; simp only [Tryz.f28, go_sem]
    refine qcall_i (k2) ?_; simp only [Tryz.f28, go_sem]
    try rfl
  · rw [decide_eq_true (show tFar k dir f t from .inr (.inr (.inr c3)))]
    rw [decide_eq_false c3] at k2
    simp only [opv, wayv] at k1 k2 ⊢
    refine PC.of_body follows Tryz.func28 (by decide +kernel) rfl (by kernel_rfl) (Nat.le_of_ble_eq_true rfl) (walk ?_)
    simp only [Tryz.f28, h0, h1, go_sem]
    refine qcall_i (k1) ?_; simp only [Tryz.f28, go_sem]
    refine qcall_i (k2) ?_; simp only [Tryz.f28, go_sem]
    try rfl
def opR (k : Int) (x y : Nat) (n dir f t : Int) : Nat × Nat × Nat :=
  match opO k x y n with
  | some r => (r.1, r.2, 0)
  | none => ((doS (opA k x y n dir f t)).1, (doS (opA k x y n dir f t)).2.1, (doS (opA k x y n dir f t)).2.2.1)
def rPV (r : Nat × Nat × Nat) : PV := .agg [.int .u64 (r.1 : Nat), .int .u8 (r.2.1 : Nat), .int .i64 (r.2.2 : Nat)]
theorem opPV_R {k : Int} {x y : Nat} {n dir f t : Int} (h : hOk dir f t) : ∃ tr, opPV (opO k x y n) dir f t (opA k x y n dir f t) = .tuple [rPV (opR k x y n dir f t), .int .i64 tr, .int .i64 0] := by
  unfold opPV opR
  rw [if_pos h]
  cases opO k x y n with
  | some r => exact ⟨_, rfl⟩
  | none => exact ⟨_, rfl⟩
theorem t_do {x y : Nat} (hx : x < W) (hy : y < W) {n : Int} (n1 : -9223372036854775808 ≤ n) (n2 : n < 9223372036854775808) (k : Int) {dir f t : Int} (h : hOk dir f t) : PC E 29 [opv k x y n, wayv dir f t] (rPV (opR k x y n dir f t)) := by
  have k1 := l_How dir f t
  have k2 := l_Do24 hx hy n1 n2 k dir f t
  obtain ⟨tr, e⟩ := opPV_R (k := k) (x := x) (y := y) (n := n) h
  rw [e] at k2
  generalize opR k x y n dir f t = R at *
  simp only [opv, wayv, hvv, rPV] at k1 k2 ⊢
  refine PC.of_body follows Tryz.func29 (by decide +kernel) rfl (by kernel_rfl) (Nat.le_of_ble_eq_true rfl) (walk ?_)
  simp only [Tryz.f29, go_sem]
  refine qcall_i (k1) ?_; simp only [Tryz.f29, go_sem]
  refine qcall_i (k2) ?_; simp only [Tryz.f29, go_sem]
  try rfl
theorem run_found {a : Ask} (ha : AskOk a) (h : (runS a).2 = 0) : ∃ b, 32 ≤ b ∧ (tryS a (sgS a) b).2 = true ∧ (runS a).1.1 = (tryS a (sgS a) b).1 := by
  obtain ⟨n, h1, h2, h3⟩ := goS_found _ _ _ _ h
  exact ⟨n, (planS_range ha.plan h1).1, h2, h3⟩
end
section
open XX
def powD (d : Dy) (k : Nat) : Dy := ⟨false, d.m ^ k, d.e * k⟩
theorem one_dy : norm 1 0 = ⟨false, 1, 0⟩ := by decide
end
section
open XX
theorem exactO_form {a : Ask} (ha : AskOk a) {d : Dy} (h : exactO a = some d) : d.ok ∧ d.m ≠ 0 ∧ d.s = false := by
  unfold exactO at h
  split at h
  · cases h
    rw [one_dy]
    exact ⟨.inr rfl, by decide, rfl⟩
  split at h
  · rename_i hw
    have hod := ha.y.resolve_left (fun h => ha.y0 (by rw [h]; rfl))
    obtain ⟨f1, f2, f3, f4, f5, f6, f7⟩ := low_facts ha.y0 hod ha.n1 ha.nW
    have hK := exK_range hw.1.1
    have hp1 : 1 ≤ exK (lowD a.y a.n) * lowQ a.y a.n := Nat.mul_pos hK.1 f5
    generalize exK (lowD a.y a.n) * lowQ a.y a.n = KN at *
    have hg0 : 0 < Nat.gcd (exM (lowD a.y a.n)).natAbs KN := Nat.gcd_pos_of_pos_right _ (by omega)
    have hgK : Nat.gcd (exM (lowD a.y a.n)).natAbs KN ≤ KN := Nat.gcd_le_right _ (by omega)
    have hkq : 1 ≤ KN / Nat.gcd (exM (lowD a.y a.n)).natAbs KN := Nat.div_pos hgK hg0
    unfold powO at h
    split at h
    · cases h
      rw [one_dy]
      exact ⟨.inr rfl, by decide, rfl⟩
    · split at h
      · cases h
      · rename_i r hr
        obtain ⟨g1, g2, g3, g4, g5⟩ := rootO_facts ha.x hkq hr
        split at h
        · cases h
        · rename_i p hp
          obtain ⟨q1, q2, q3, q4, q5⟩ := raisO_facts g1 hp
          split at h
          · cases h
            exact ⟨.inr q1, by omega, q5⟩
          · cases h
  · cases h
end
section
open XX
theorem away_none {dir : Int} (h : 0 ≤ dir) (s o : Bool) : awayS dir s o false false = false := by
  unfold awayS
  split <;> rfl
theorem away_dirs (s o H L : Bool) (hi : (H || L) = true) : awayS 1 s o H L = false ∧ awayS 2 s o H L = !s ∧ awayS 3 s o H L = s := by
  cases s <;> cases o <;> cases H <;> cases L <;> simp_all [awayS, upw]
theorem dirs_law {D : Dy} (h0 : D.m ≠ 0) :
    svb (toS D false 3).1 ≤ svb (toS D false 0).1 ∧ svb (toS D false 0).1 ≤ svb (toS D false 2).1 ∧ ((toS D false 1).1 = (toS D false 3).1 ∨ (toS D false 1).1 = (toS D false 2).1) ∧
    ((toS D false 0).2 = 0 → toS D false 1 = toS D false 0 ∧ toS D false 2 = toS D false 0 ∧ toS D false 3 = toS D false 0) ∧
    ((toS D false 0).2 ≠ 0 → (toS D false 1).2 ≠ 0 ∧ (toS D false 2).2 ≠ 0 ∧ (toS D false 3).2 ≠ 0 ∧ svb (toS D false 2).1 - svb (toS D false 3).1 = 1) := by
  have hI := INF_lt
  have hI2 : INF = 9218868437227405312 := rfl
  have hM : MAX = 9218868437227405311 := rfl
  have eT : ∀ d, toS D false d = (withS D.s (magS D false d).1, (magS D false d).2) := fun d => if_neg h0
  by_cases ht : 1023 < D.top
  · have em : ∀ d, magS D false d = ((if d = 0 ∨ upw d D.s = true then INF else MAX), 5) := fun d => by unfold magS; rw [if_pos ht]
    have e1 : ¬ ((1 : Int) = 0 ∨ upw 1 D.s = true) := by cases D.s <;> decide
    have e0 : (0 : Int) = 0 ∨ upw 0 D.s = true := .inl rfl
    rw [eT, eT, eT, eT, em, em, em, em, if_pos e0, if_neg e1]
    cases hs : D.s with
    | false =>
      rw [if_pos (show (2 : Int) = 0 ∨ upw 2 false = true by decide), if_neg (show ¬ ((3 : Int) = 0 ∨ upw 3 false = true) by decide)]
      dsimp only
      rw [svb_withS _ (by omega), svb_withS _ (by omega)]
      simp only [Bool.false_eq_true, if_false]
      refine ⟨by omega, by omega, by simp, fun h => absurd h (by decide), fun _ => ⟨by decide, by decide, by decide, by omega⟩⟩
    | true =>
      rw [if_neg (show ¬ ((2 : Int) = 0 ∨ upw 2 true = true) by decide), if_pos (show (3 : Int) = 0 ∨ upw 3 true = true by decide)]
      dsimp only
      rw [svb_withS _ (by omega), svb_withS _ (by omega)]
      simp only [if_true]
      refine ⟨by omega, by omega, by simp, fun h => absurd h (by decide), fun _ => ⟨by decide, by decide, by decide, by omega⟩⟩
  have hlt : low D < INF := by
    have hl : low D = packB (flo D (unitOf D.top)) (unitOf D.top) := if_neg (by omega)
    rw [hl]; exact pack_lt_inf (flo_ok h0 (by omega))
  have em : ∀ d, magS D false d = if (if awayS d D.s (decide (low D % 2 = 1)) (hf D (unitOf D.top)) (bl D (unitOf D.top)) = true then low D + 1 else low D) = INF then (INF, 5)
      else ((if awayS d D.s (decide (low D % 2 = 1)) (hf D (unitOf D.top)) (bl D (unitOf D.top)) = true then low D + 1 else low D), if (hf D (unitOf D.top) || bl D (unitOf D.top)) = true then (if D.top < -1022 then 3 else 1) else 0) := fun d => by
    unfold magS
    rw [if_neg ht, Bool.or_false]
  rw [eT, eT, eT, eT, em, em, em, em]
  generalize hf D (unitOf D.top) = H at *
  generalize bl D (unitOf D.top) = L at *
  generalize low D = B at *
  generalize decide (B % 2 = 1) = o at *
  clear eT em
  have hfl : (if D.top < -1022 then 3 else 1 : Nat) ≠ 0 := by split <;> decide
  generalize (if D.top < -1022 then 3 else 1 : Nat) = F at *
  by_cases hi : (H || L) = true
  · obtain ⟨a1, a2, a3⟩ := away_dirs D.s o H L hi
    rw [a1, a2, a3, if_pos hi]
    generalize awayS 0 D.s o H L = A0
    cases D.s <;> cases A0 <;> simp only [Bool.not_false, Bool.not_true, Bool.false_eq_true, if_false, if_true] <;> (by_cases hB : B + 1 = INF) <;>
      simp only [hB, if_true, if_neg (show ¬ B = INF by omega), if_false] <;> rw [svb_withS _ (by omega), svb_withS _ (by omega)] <;> simp only [Bool.false_eq_true, if_false, if_true] <;>
      refine ⟨by omega, by omega, by simp, fun h => ?_, fun _ => ⟨by first | exact hfl | decide, by first | exact hfl | decide, by first | exact hfl | decide, by omega⟩⟩ <;> (first | exact absurd h hfl | exact absurd h (by decide))
  · have hH : H = false := by cases H; rfl; exact absurd rfl hi
    have hL : L = false := by cases L; rfl; exact absurd (Bool.or_true H) hi
    subst hH hL
    rw [away_none (by decide), away_none (by decide), away_none (by decide), away_none (by decide)]
    rw [if_neg Bool.false_ne_true, if_neg (show ¬ B = INF by omega)]
    exact ⟨Int.le_refl _, Int.le_refl _, .inl rfl, fun _ => ⟨rfl, rfl, rfl⟩, fun h => absurd rfl h⟩
theorem t_order {b : Nat} (hb : b < W) : PC E 17 [u b] (.int .i64 (svb b)) := by
  have e1 := n63 hb
  have hW : b < 18446744073709551616 := hb
  have hl := fsz_lt b
  unfold svb
  simp only [u]
  refine PC.of_body follows Tryz.func17 (by decide +kernel) rfl (by kernel_rfl) (Nat.le_of_ble_eq_true rfl) (walk ?_)
  simp only [Tryz.f17, go_sem]
  refine qif_d (fun h => ?_) (fun h => ?_)
  · have hs : fs b = true := by unfold fs; exact decide_eq_true (by omega)
    rw [if_pos hs]
    have w1 : IntKind.wrap .i64 (fsz b : Int) = fsz b := wrap64 (by omega) (by omega)
    have w2 : IntKind.wrap .i64 (0 - (fsz b : Int)) = -(fsz b : Int) := by rw [wrap64 (by omega) (by omega)]; omega
    simp only [Tryz.f17, e1, w1, w2, go_sem]
    try rfl
  · have hs : fs b = false := by unfold fs; exact decide_eq_false (by omega)
    rw [hs, if_neg Bool.false_ne_true]
    have hz : fsz b = b := Nat.mod_eq_of_lt (by omega)
    have w1 : IntKind.wrap .i64 (b : Int) = b := wrap64 (by omega) (by omega)
    rw [hz]
    simp only [Tryz.f17, w1, go_sem]
    try rfl
theorem c_24Special {x y : Nat} (hx : x < W) (hy : y < W) (k n : Int) : PC E 38 [opv k x y n] (ansPV (opO k x y n)) := by
  have k1 := c_rPow x y hx hy
  have k2 := c_rPown x hx n
  have k3 := c_rRootn x hx n
  have k4 := c_rCompound x hx n
  obtain ⟨R, hR⟩ : ∃ R, R = ansPV (opO k x y n) := ⟨_, rfl⟩
  rw [← hR]
  unfold opO at hR
  unfold opv
  have ex : ∀ o, ∃ a b c, ansPV o = .agg [.int .u64 a, .int .i64 b, .bool c] := fun o => by
    cases o <;> exact ⟨_, _, _, rfl⟩
  by_cases c0 : k = 0
  · rw [if_pos c0] at hR
    obtain ⟨a, b, c, ho⟩ := ex (powS x y)
    rw [ho] at k1 hR
    subst hR
    simp only [u] at k1 ⊢
    refine PC.of_body follows Tryz.func38 (by decide +kernel) rfl (by kernel_rfl) (Nat.le_of_ble_eq_true rfl) (walk ?_)
    simp only [Tryz.f38, go_sem]
    refine qif_dt c0 ?_
    simp only [Tryz.f38, go_sem]
    refine qcall_i (k1) ?_; simp only [Tryz.f38, go_sem]
    try rfl
  rw [if_neg c0] at hR
  by_cases c1 : k = 1
  · rw [if_pos c1] at hR
    obtain ⟨a, b, c, ho⟩ := ex (pownS x n)
    rw [ho] at k2 hR
    subst hR
    simp only [u] at k2 ⊢
    refine PC.of_body follows Tryz.func38 (by decide +kernel) rfl (by kernel_rfl) (Nat.le_of_ble_eq_true rfl) (walk ?_)
    simp only [Tryz.f38, go_sem]
    refine qif_df c0 ?_
    simp only [Tryz.f38, go_sem]
    refine qif_dt c1 ?_
    simp only [Tryz.f38, go_sem]
    refine qcall_i (k2) ?_; simp only [Tryz.f38, go_sem]
    try rfl
  rw [if_neg c1] at hR
  by_cases c2 : k = 2
  · rw [if_pos c2] at hR
    obtain ⟨a, b, c, ho⟩ := ex (rootnS x n)
    rw [ho] at k3 hR
    subst hR
    simp only [u] at k3 ⊢
    refine PC.of_body follows Tryz.func38 (by decide +kernel) rfl (by kernel_rfl) (Nat.le_of_ble_eq_true rfl) (walk ?_)
    simp only [Tryz.f38, go_sem]
    refine qif_df c0 ?_
    simp only [Tryz.f38, go_sem]
    refine qif_df c1 ?_
    simp only [Tryz.f38, go_sem]
    refine qif_dt c2 ?_
    simp only [Tryz.f38, go_sem]
    refine qcall_i (k3) ?_; simp only [Tryz.f38, go_sem]
    try rfl
  rw [if_neg c2] at hR
  obtain ⟨a, b, c, ho⟩ := ex (compS x n)
  rw [ho] at k4 hR
  subst hR
  simp only [u] at k4 ⊢
  refine PC.of_body follows Tryz.func38 (by decide +kernel) rfl (by kernel_rfl) (Nat.le_of_ble_eq_true rfl) (walk ?_)
  simp only [Tryz.f38, go_sem]
  refine qif_df c0 ?_
  simp only [Tryz.f38, go_sem]
  refine qif_df c1 ?_
  simp only [Tryz.f38, go_sem]
  refine qif_df c2 ?_
  simp only [Tryz.f38, go_sem]
  refine qcall_i (k4) ?_; simp only [Tryz.f38, go_sem]
  try rfl
end
section
open XX
theorem opA_dir (k : Int) (x y : Nat) (n d dir f t : Int) : opA k x y n d f t = { opA k x y n dir f t with dir := d } := by
  unfold opA
  split
  · rfl
  split
  · rfl
  split
  · rfl
  · rfl
theorem dirs_do {a : Ask} (h : ∀ d : Int, 0 ≤ d → d ≤ 3 → AskOk { a with dir := d }) (hc : ∀ d : Int, 0 ≤ d → d ≤ 3 → (doS { a with dir := d }).2.2.1 = 0) :
    ∃ D : Dy, D.m ≠ 0 ∧ ∀ d : Int, 0 ≤ d → d ≤ 3 → toS D false d = ((doS { a with dir := d }).1, (doS { a with dir := d }).2.1) := by
  have ex : ∀ d, exactO { a with dir := d } = exactO a := fun _ => rfl
  have es : ∀ d, sgS { a with dir := d } = sgS a := fun _ => rfl
  cases hx : exactO a with
  | some e =>
    obtain ⟨-, m0, -⟩ := exactO_form (h 0 (by decide) (by decide)) ((ex 0).trans hx)
    refine ⟨sgnD e a.neg, by rw [sgnD_m]; exact m0, fun d h1 h2 => ?_⟩
    unfold doS
    rw [ex, hx]
  | none =>
    have key : ∀ d : Int, 0 ≤ d → d ≤ 3 → ∃ r : Nat × Nat, r = ((doS { a with dir := d }).1, (doS { a with dir := d }).2.1) ∧ ∃ A B, En a a.neg d r A B := fun d h1 h2 => by
      have hcd := hc d h1 h2
      unfold doS at hcd ⊢
      rw [ex, hx] at hcd ⊢
      dsimp only at hcd ⊢
      by_cases hr : (runS { a with dir := d }).2 = 0
      · obtain ⟨b, b1, b2, b3⟩ := run_found (h d h1 h2) hr
        rw [if_pos hr, b3]
        obtain ⟨A, B, e⟩ := try_en (h d h1 h2) b1 b2
        exact ⟨_, rfl, A, B, e.sA, e.sB, e.mA, e.mB, e.iA, e.iB, e.lo, e.hi, e.rA, e.rB⟩
      · rw [if_neg hr] at hcd
        cases hl : looseS (runS { a with dir := d }).1.1.2 a.neg d with
        | some r => rw [hl] at hcd; exact absurd (show (1 : Nat) = 0 from hcd) (by decide)
        | none => rw [hl] at hcd; exact absurd (show (1 : Nat) = 0 from hcd) (by decide)
    obtain ⟨r0, e0, k0⟩ := key 0 (by decide) (by decide)
    obtain ⟨r1, e1, k1⟩ := key 1 (by decide) (by decide)
    obtain ⟨r2, e2, k2⟩ := key 2 (by decide) (by decide)
    obtain ⟨r3, e3, k3⟩ := key 3 (by decide) (by decide)
    have ha := h a.dir
    have hA := h 0 (by decide) (by decide)
    obtain ⟨D, hD, hL⟩ := meet (a := { a with dir := 0 }) hA (neg := a.neg) [(0, r0), (1, r1), (2, r2), (3, r3)] (List.cons_ne_nil _ _) (fun x hx => by
      have up : ∀ {dd r}, (∃ A B, En a a.neg dd r A B) → ∃ A B, En { a with dir := 0 } a.neg dd r A B := fun ⟨A, B, e⟩ => ⟨A, B, e.sA, e.sB, e.mA, e.mB, e.iA, e.iB, e.lo, e.hi, e.rA, e.rB⟩
      simp only [List.mem_cons, List.not_mem_nil, or_false] at hx
      rcases hx with rfl | rfl | rfl | rfl
      · exact up k0
      · exact up k1
      · exact up k2
      · exact up k3)
    refine ⟨sgnD D a.neg, by rw [sgnD_m]; exact hD.m, fun d h1 h2 => ?_⟩
    have c : d = 0 ∨ d = 1 ∨ d = 2 ∨ d = 3 := by omega
    rcases c with rfl | rfl | rfl | rfl
    · rw [← e0]; exact hL (0, r0) (by simp)
    · rw [← e1]; exact hL (1, r1) (by simp)
    · rw [← e2]; exact hL (2, r2) (by simp)
    · rw [← e3]; exact hL (3, r3) (by simp)
theorem fl_and {f : Nat} (h : flOk f) : bits .and .u8 (f : Int) 1 = if f = 0 then 0 else 1 := by
  rcases h with rfl | rfl | rfl | rfl <;> decide
theorem dirs_op {k : Int} {x y : Nat} (hx : x < W) (hy : y < W) {n : Int} (n1 : -9223372036854775808 ≤ n) (n2 : n < 9223372036854775808) {f t : Int} (h : planOk f t) (ho : opO k x y n = none)
    (hc : ∀ d : Int, 0 ≤ d → d ≤ 3 → (opR k x y n d f t).2.2 = 0) : ∃ D : Dy, D.m ≠ 0 ∧ ∀ d : Int, 0 ≤ d → d ≤ 3 → toS D false d = ((opR k x y n d f t).1, (opR k x y n d f t).2.1) := by
  have e : ∀ d, opR k x y n d f t = ((doS { opA k x y n 0 f t with dir := d }).1, (doS { opA k x y n 0 f t with dir := d }).2.1, (doS { opA k x y n 0 f t with dir := d }).2.2.1) := fun d => by
    unfold opR
    rw [ho, ← opA_dir k x y n d 0 f t]
  obtain ⟨D, h0, hD⟩ := dirs_do (a := opA k x y n 0 f t) (fun d h1 h2 => by rw [← opA_dir k x y n d 0 f t]; exact opA_ok hx hy n1 n2 ho ⟨h, h1, h2⟩) (fun d h1 h2 => by
    have := hc d h1 h2
    rwa [e] at this)
  refine ⟨D, h0, fun d h1 h2 => ?_⟩
  rw [hD d h1 h2, e]
theorem toS_W {D : Dy} (h0 : D.m ≠ 0) (d : Int) : (toS D false d).1 < W := by
  have h := mag_le h0 false d
  have hI : INF = 9218868437227405312 := rfl
  have hW : W = 18446744073709551616 := rfl
  rw [show toS D false d = (withS D.s (magS D false d).1, (magS D false d).2) from if_neg h0]
  unfold withS
  dsimp only
  split <;> omega
set_option maxHeartbeats 8000000 in
theorem law_WholeDirs (pvs : List PV) (h : Fits [qOp, qWay] pvs) : PC E 9 pvs (.bool true) := by
  obtain ⟨_, _, rfl, ⟨k, x, y, n, rfl, hk, hx, hy, hn⟩, ⟨dir, f, t, rfl, hd, hf, ht⟩⟩ := fits2 h
  have k0 := l_alive
  have k1 := t_far k x y n dir f t
  have kS := c_24Special hx hy k n
  by_cases c1 : tFar k dir f t
  · rw [decide_eq_true c1] at k1
    simp only [opv, wayv] at k1 ⊢
    refine PC.of_body follows Tryz.func9 (by decide +kernel) rfl (by kernel_rfl) (Nat.le_of_ble_eq_true rfl) (walk ?_)
    simp only [Tryz.f9, go_sem]
    refine qcall_i (k0) ?_; simp only [Tryz.f9, go_sem]
    refine qcall_i (k1) ?_; simp only [Tryz.f9, go_sem]
    try rfl
  rw [decide_eq_false c1] at k1
  have c2 : hOk dir f t := Decidable.byContradiction fun h => c1 (.inr (.inr (.inr h)))
  cases ho : opO k x y n with
  | some r =>
    rw [ho] at kS
    unfold ansPV at kS
    simp only [opv, wayv] at k1 kS ⊢
    refine PC.of_body follows Tryz.func9 (by decide +kernel) rfl (by kernel_rfl) (Nat.le_of_ble_eq_true rfl) (walk ?_)
    simp only [Tryz.f9, go_sem]
    refine qcall_i (k0) ?_; simp only [Tryz.f9, go_sem]
    refine qcall_i (k1) ?_; simp only [Tryz.f9, go_sem]
    refine qcall_i (kS) ?_; simp only [Tryz.f9, go_sem]
    try rfl
  | none =>
    rw [ho] at kS
    unfold ansPV at kS
    have kd : ∀ d : Int, 0 ≤ d → d ≤ 3 → PC E 29 [opv k x y n, wayv d f t] (rPV (opR k x y n d f t)) := fun d h1 h2 => t_do hx hy hn.1 hn.2 k ⟨c2.1, h1, h2⟩
    have d0 := kd 0 (by decide) (by decide)
    have d1 := kd 1 (by decide) (by decide)
    have d2 := kd 2 (by decide) (by decide)
    have d3 := kd 3 (by decide) (by decide)
    have main := dirs_op (k := k) hx hy hn.1 hn.2 c2.1 ho
    have hW : ∀ d : Int, 0 ≤ d → d ≤ 3 → (∀ d : Int, 0 ≤ d → d ≤ 3 → (opR k x y n d f t).2.2 = 0) → (opR k x y n d f t).1 < W := fun d h1 h2 hc => by
      obtain ⟨D, h0, hD⟩ := main hc
      have := toS_W h0 d
      rwa [hD d h1 h2] at this
    have all : ∀ s0 s1 s2 s3 : Nat, (opR k x y n 0 f t).2.2 = s0 → (opR k x y n 1 f t).2.2 = s1 → (opR k x y n 2 f t).2.2 = s2 → (opR k x y n 3 f t).2.2 = s3 → s0 = 0 → s1 = 0 → s2 = 0 → s3 = 0 → ∀ d : Int, 0 ≤ d → d ≤ 3 → (opR k x y n d f t).2.2 = 0 := fun s0 s1 s2 s3 g0 g1 g2 g3 z0 z1 z2 z3 d h1 h2 => by
      have c : d = 0 ∨ d = 1 ∨ d = 2 ∨ d = 3 := by omega
      rcases c with rfl | rfl | rfl | rfl
      · rw [g0, z0]
      · rw [g1, z1]
      · rw [g2, z2]
      · rw [g3, z3]
    generalize e0 : opR k x y n 0 f t = R0 at *
    generalize e1 : opR k x y n 1 f t = R1 at *
    generalize e2 : opR k x y n 2 f t = R2 at *
    generalize e3 : opR k x y n 3 f t = R3 at *
    obtain ⟨b0, f0, s0⟩ := R0
    obtain ⟨b1, f1, s1⟩ := R1
    obtain ⟨b2, f2, s2⟩ := R2
    obtain ⟨b3, f3, s3⟩ := R3
    have v1 : IntKind.wrap .i64 1 = 1 := by decide
    have v2 : IntKind.wrap .i64 2 = 2 := by decide
    have v3 : IntKind.wrap .i64 3 = 3 := by decide
    have v4 : IntKind.wrap .i64 4 = 4 := by decide
    simp only [opv, wayv, rPV] at k1 kS d0 d1 d2 d3 ⊢
    refine PC.of_body follows Tryz.func9 (by decide +kernel) rfl (by kernel_rfl) (Nat.le_of_ble_eq_true rfl) (walk ?_)
    simp only [Tryz.f9, go_sem]
    refine qcall_i (k0) ?_; simp only [Tryz.f9, go_sem]
    refine qcall_i (k1) ?_; simp only [Tryz.f9, go_sem]
    refine qcall_i (kS) ?_; simp only [Tryz.f9, go_sem]
    refine qloop_u 5 ?_
    simp only [Tryz.f9, qunr_succ, Int.cast_ofNat_Int, v1, v2, v3, v4, go_sem]
    refine qcall_i (d0) ?_; simp only [Tryz.f9, qunr_succ, Int.cast_ofNat_Int, v1, v2, v3, v4, go_sem]
    by_cases z0 : s0 = 0
    case neg =>
      refine qif_dt (by omega) ?_
      simp only [Tryz.f9, go_sem]
      try rfl
    refine qif_df (by omega) ?_
    simp only [Tryz.f9, qunr_succ, Int.cast_ofNat_Int, v1, v2, v3, v4, go_sem]
    refine qcall_i (d1) ?_; simp only [Tryz.f9, qunr_succ, Int.cast_ofNat_Int, v1, v2, v3, v4, go_sem]
    by_cases z1 : s1 = 0
    case neg =>
      refine qif_dt (by omega) ?_
      simp only [Tryz.f9, go_sem]
      try rfl
    refine qif_df (by omega) ?_
    simp only [Tryz.f9, qunr_succ, Int.cast_ofNat_Int, v1, v2, v3, v4, go_sem]
    refine qcall_i (d2) ?_; simp only [Tryz.f9, qunr_succ, Int.cast_ofNat_Int, v1, v2, v3, v4, go_sem]
    by_cases z2 : s2 = 0
    case neg =>
      refine qif_dt (by omega) ?_
      simp only [Tryz.f9, go_sem]
      try rfl
    refine qif_df (by omega) ?_
    simp only [Tryz.f9, qunr_succ, Int.cast_ofNat_Int, v1, v2, v3, v4, go_sem]
    refine qcall_i (d3) ?_; simp only [Tryz.f9, qunr_succ, Int.cast_ofNat_Int, v1, v2, v3, v4, go_sem]
    by_cases z3 : s3 = 0
    case neg =>
      refine qif_dt (by omega) ?_
      simp only [Tryz.f9, go_sem]
      try rfl
    refine qif_df (by omega) ?_
    simp only [Tryz.f9, qunr_succ, Int.cast_ofNat_Int, v1, v2, v3, v4, go_sem]
    have hall := all s0 s1 s2 s3 rfl rfl rfl rfl z0 z1 z2 z3
    obtain ⟨D, h0, hD⟩ := main hall
    have L := dirs_law h0
    have D0 := hD 0 (by decide) (by decide)
    have D1 := hD 1 (by decide) (by decide)
    have D2 := hD 2 (by decide) (by decide)
    have D3 := hD 3 (by decide) (by decide)
    rw [e0] at D0
    rw [e1] at D1
    rw [e2] at D2
    rw [e3] at D3
    have W0 := toS_W h0 0
    have W1 := toS_W h0 1
    have W2 := toS_W h0 2
    have W3 := toS_W h0 3
    have F0 : flOk (toS D false 0).2 := toS_flags D false 0
    have F1 : flOk (toS D false 1).2 := toS_flags D false 1
    have F2 : flOk (toS D false 2).2 := toS_flags D false 2
    have F3 : flOk (toS D false 3).2 := toS_flags D false 3
    rw [D0] at W0 F0
    rw [D1] at W1 F1
    rw [D2] at W2 F2
    rw [D3] at W3 F3
    rw [D0, D1, D2, D3] at L
    dsimp only at W0 W1 W2 W3 F0 F1 F2 F3 L
    have A0 := fl_and F0
    have A1 := fl_and F1
    have A2 := fl_and F2
    have A3 := fl_and F3
    have o0 := t_order W0
    have o2 := t_order W2
    have o3 := t_order W3
    generalize svb b0 = q0 at *
    generalize svb b2 = q2 at *
    generalize svb b3 = q3 at *
    obtain ⟨L1, L2, L3, L4, L5⟩ := L
    have g1 : decide (q3 > q0) = false := decide_eq_false (by omega)
    have g2 : decide (q0 > q2) = false := decide_eq_false (by omega)
    simp only [u] at o0 o2 o3
    refine qcall_i (o3) ?_; simp only [Tryz.f9, g1, g2, go_sem]
    refine qcall_i (o0) ?_; simp only [Tryz.f9, g1, g2, go_sem]
    refine qcall_i (o0) ?_; simp only [Tryz.f9, g1, g2, go_sem]
    refine qcall_i (o2) ?_; simp only [Tryz.f9, g1, g2, go_sem]
    by_cases zf : f0 = 0
    · obtain ⟨m1, m2, m3⟩ := L4 zf
      simp only [Prod.mk.injEq] at m1 m2 m3
      obtain ⟨p1, p2⟩ := m1
      obtain ⟨p3, p4⟩ := m2
      obtain ⟨p5, p6⟩ := m3
      rw [if_pos zf] at A0
      have E1 : (b1 : Int) = b0 := by omega
      have E2 : (b2 : Int) = b0 := by omega
      have E3 : (b3 : Int) = b0 := by omega
      have E4 : (f1 : Int) = 0 := by omega
      have E5 : (f2 : Int) = 0 := by omega
      have E6 : (f3 : Int) = 0 := by omega
      have E7 : (f0 : Int) = 0 := by omega
      have T1 : (decide ((b0 : Int) = b1) && (decide ((f0 : Int) = f1) && (decide ((s0 : Int) = s1) && true))) = true := by simp; omega
      have T2 : (decide ((b1 : Int) = b2) && (decide ((f1 : Int) = f2) && (decide ((s1 : Int) = s2) && true))) = true := by simp; omega
      have T3 : (decide ((b2 : Int) = b3) && (decide ((f2 : Int) = f3) && (decide ((s2 : Int) = s3) && true))) = true := by simp; omega
      have T4 : decide ((f0 : Int) = 0) = true := decide_eq_true E7
      refine qif_df (by omega) ?_
      simp only [Tryz.f9, A0, T1, T2, T3, T4, go_sem]
      try rfl
    · obtain ⟨n1, n2, n3, n4⟩ := L5 zf
      rw [if_neg zf] at A0
      rw [if_neg n1] at A1
      rw [if_neg n2] at A2
      rw [if_neg n3] at A3
      have w1 : IntKind.wrap .i64 (q2 - q3) = 1 := by rw [n4]; decide
      by_cases c3 : b1 = b3
      · refine qif_df (by omega) ?_
        simp only [Tryz.f9, A0, A1, A2, A3, w1, go_sem]
        refine qcall_i (o2) ?_; simp only [Tryz.f9, A0, A1, A2, A3, w1, go_sem]
        refine qcall_i (o3) ?_; simp only [Tryz.f9, A0, A1, A2, A3, w1, go_sem]
        try rfl
      · refine qif_dt (by omega) ?_
        simp only [Tryz.f9, A0, A1, A2, A3, w1, go_sem]
        refine qif_df (by omega) ?_
        simp only [Tryz.f9, A0, A1, A2, A3, w1, go_sem]
        refine qcall_i (o2) ?_; simp only [Tryz.f9, A0, A1, A2, A3, w1, go_sem]
        refine qcall_i (o3) ?_; simp only [Tryz.f9, A0, A1, A2, A3, w1, go_sem]
        try rfl
end
end Go.Proofs.YtfkgaldbcngliaaGreatDoor
