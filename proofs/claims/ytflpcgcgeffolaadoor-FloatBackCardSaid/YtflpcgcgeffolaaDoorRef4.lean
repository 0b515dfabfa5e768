/- What planimeterref01's Shl hands back; digits and limbs of one number; the laws' helpers of layer 1. -/
import Derived.Test.YtflpcgcgeffolaaDoorRef3
open Go PG Go.Proofs
set_option maxRecDepth 100000
set_option linter.unusedSimpArgs false
set_option linter.unusedVariables false
namespace Go.Proofs.YtflpcgcgeffolaaDoor
attribute [local go_sem] Lay2 Lay3 Lay4 Lay5 Lay6 Lay7 Lay8 Lay9 Lay10 Lay11 Lay12 Lay13 Lay14 Lay21 Lay22 Lay24 Lay25 Lay26 Lay27 Lay36 Lay37 Lay38 Lay39 Lay40 Lay41 Lay43 Lay46 Lay47 Lay66 Lay103 Lay105 Lay159 Lay164 Lay165 Lay166 Lay168 Lay169 Lay172 Lay173 qexec_seq qexec_skip qexec_exit qexec_ret qexec_block qexec_loop qexec_range qexec_cond qexec_region qops_nil qops_none qops_some put_some put_none pblk_exit pblk_other newDsts_nil sget_cons qval_some qbool_some qgs_bool qgs_und qfree_some qgrd_true qgrd_false qif_true qif_false qval_ite qval_itn qand_true map_ite map_some' map_none' qdo_move qdo_assign qdo_binOp qdo_pick qdo_unOp qdo_convert qdo_extract qdo_field qdo_fieldAddr qdo_alloc qdo_box qdo_build qdo_buildSlice qdo_load qdo_store qdo_nilCheck qdo_makeFunc qdo_makeSlice qdo_slice qdo_indexAddr qdo_call qcont_val qcont_new qcont_st qcont_app0 qcont_app qcont_inl qcont_call njSV_val njSV_nil njSV_row njSV_ptr njSV_sub binV_val binV_nil binV_nn nilCmp bin_add bin_sub bin_mul bin_quo bin_rem bin_and bin_or bin_xor bin_andNot bin_eql bin_neq bin_lss bin_leq bin_gtr bin_geq bin_shl bin_shr bin_seql bin_sneq bin_sadd bin_beql bin_aeql bin_aneq eqAnd_some eqCells_nil eqCells_cons fieldTypes isStruct eqCell bin_bneq un_not un_neg nj_ite Nat.beq stepA stepR isNew opSV constSV RV.sv allSome E_mu Bool.or_false Bool.false_or Bool.or_true Bool.true_or cst setB res resSV pstart startL killL kill1 eraL frzL svPV rvPV rvInt rvSlice frzOf close closeL pconv pbuiltin pmax2 partPV setCells fillPV zrow bound newSV PV.cells Bk.cells Bk.with SV.key pres presL_nil presL_tmp presL_cell presC2_some cellPV_ptr presC List.toList_toArray List.size_toArray List.getElem?_drop Nat.mul_one Int.toNat_natCast Nat.not_lt_zero Nat.lt_irrefl decide_true decide_false Nat.not_lt Option.some.injEq PV.lst.injEq PV.int.injEq PV.bool.injEq PV.tuple.injEq List.cons.injEq Option.map_some Option.map_none Option.bind_some Option.toList List.map_cons List.map_nil List.nil_append List.cons_append List.append_nil List.zip_cons_cons List.zip_nil_left List.zip_nil_right List.getElem?_cons_zero List.getElem?_cons_succ List.drop_zero List.drop_succ_cons List.take_succ_cons List.take_zero List.set_cons_zero List.set_cons_succ List.length_cons List.length_nil List.length_set List.replicate_one List.replicate_zero bne_self_eq_false beq_self_eq_true Nat.zero_add Nat.add_zero Nat.zero_mul Bool.false_eq_true Bool.true_eq_false Bool.not_true Bool.not_false and_true true_and false_and and_false or_false false_or or_true true_or not_true_eq_false not_false_eq_true ne_eq gt_iff_lt List.mem_cons List.not_mem_nil
attribute [local go_sem ↓] pseq_normal pseq_ret pseq_exit pblk_normal pblk_ret newDsts_cons gdst_zero gdst_succ retQ_normal retQ_ret retM_normal retM_ret endR_normal endR_ret endR_exit

theorem dg_shift {b : Nat} (hb : 2 ≤ b) {x : Nat} (hx : x ≠ 0) : ∀ k, dg b (x * b ^ k) = List.replicate k 0 ++ dg b x
  | 0 => by simp
  | k + 1 => by
    have h1 : x * b ^ (k + 1) = b * (x * b ^ k) := by rw [Nat.pow_succ, ← Nat.mul_assoc, Nat.mul_comm]
    have h2 : x * b ^ (k + 1) ≠ 0 := by
      rw [h1]
      exact Nat.mul_ne_zero (by omega) (Nat.mul_ne_zero hx (Nat.pos_iff_ne_zero.1 (Nat.pow_pos (by omega))))
    rw [dg_pos hb h2, h1, Nat.mul_mod_right, Nat.mul_div_cancel_left _ (by omega), dg_shift hb hx k, List.replicate_succ]
    rfl

theorem dg_len_W (x : Nat) : (dg W x).length = ((dg B x).length + 3) / 4 := by
  have h : ∀ k, (dg W x).length ≤ k ↔ (dg B x).length ≤ 4 * k := fun k => by
    rw [dg_length_le W2, dg_length_le B2, Nat.pow_mul, ← W_B]
  have h1 := h ((dg W x).length)
  have h2 := h (((dg B x).length + 3) / 4)
  omega

theorem n_rOf (x : Nat) (hx : (dg B x).length ≤ 4194304) : PC E 111 [VN x] (NN x) :=
  PC.cast (c_rOf x hx) (by rw [← dg_len_W, tab_dg W2]; rfl)

theorem dgB_le_of_bits {x n : Nat} (h : bitLen x ≤ 16 * n) : (dg B x).length ≤ n := by
  rw [dg_length_le B2, B_pow]
  exact (bitLen_le _ _).1 h

theorem bits_of_dgB {x n : Nat} (h : (dg B x).length ≤ n) : bitLen x ≤ 16 * n := Nat.le_trans (bitLen_digits x) (by omega)

theorem bitLen_shl (x n : Nat) (hx : x ≠ 0) : bitLen (x * 2 ^ n) = bitLen x + n := by
  have h : ∀ k, bitLen (x * 2 ^ n) ≤ k ↔ bitLen x + n ≤ k := fun k => by
    rw [bitLen_le]
    constructor
    · intro h
      have hn : n ≤ k := by
        refine Nat.le_of_not_lt fun hlt => ?_
        have h1 : 2 ^ k ≤ 2 ^ n := Nat.pow_le_pow_right (by decide) (by omega)
        have h2 : 2 ^ n ≤ x * 2 ^ n := Nat.le_mul_of_pos_left _ (by omega)
        omega
      have : x < 2 ^ (k - n) := by
        rw [show 2 ^ k = 2 ^ (k - n) * 2 ^ n by rw [← Nat.pow_add]; congr 1; omega] at h
        exact Nat.lt_of_mul_lt_mul_right h
      have := (bitLen_le x (k - n)).2 this
      omega
    · intro h
      have : x < 2 ^ (k - n) := (bitLen_le x (k - n)).1 (by omega)
      rw [show 2 ^ k = 2 ^ (k - n) * 2 ^ n by rw [← Nat.pow_add]; congr 1; omega]
      exact Nat.mul_lt_mul_of_pos_right this (Nat.two_pow_pos n)
  have h1 := h (bitLen (x * 2 ^ n))
  have h2 := h (bitLen x + n)
  omega

theorem c_rShl (x n : Nat) (hx : (dg B x).length ≤ 1048576) (hn : n ≤ 16777216) : PC E 135 [VN x, .int .i64 n] (VN (x * 2 ^ n)) := by
  refine PC.of_body follows Tryd.func135 (by decide +kernel) rfl (by kernel_rfl) (Nat.le_of_ble_eq_true rfl) (walk ?_)
  have hbx : bitLen x ≤ 16777216 := Nat.le_trans (bits_of_dgB hx) (by decide)
  have hsmall : ∀ z, bitLen z ≤ 67108864 → (dg B z).length ≤ 4194304 := fun z hz => dgB_le_of_bits (by omega)
  simp only [VN, VL]
  generalize hl : (dg B x).length = l at *
  simp only [Tryd.f135, go_sem, Int.reduceToNat, Int.reduceEq, Int.reduceNe, Int.reduceLT, Int.reduceLE, Int.reduceNeg, Int.reduceAdd, ↓reduceIte, ↓reduceCtorEq, Nat.reduceEqDiff, Nat.reduceAdd, Nat.reduceSub, Nat.reduceMul, Nat.reduceLeDiff, Nat.reduceLT]
  refine qif_d (fun h => ?_) (fun h => ?_)
  · simp only [Tryd.f135, go_sem, Int.reduceToNat, Int.reduceEq, Int.reduceNe, Int.reduceLT, Int.reduceLE, Int.reduceNeg, Int.reduceAdd, ↓reduceIte, ↓reduceCtorEq, Nat.reduceEqDiff, Nat.reduceAdd, Nat.reduceSub, Nat.reduceMul, Nat.reduceLeDiff, Nat.reduceLT]
    have h0 : x = 0 := by
      have := lt_of_dg (x := x) (i := 0) (by omega)
      rw [Nat.pow_zero] at this
      omega
    subst h0
    rw [Nat.zero_mul]
    rfl
  · have h0 : x ≠ 0 := fun e => by subst e; simp [dg_zero] at hl; omega
    have e1 : IntKind.wrap .i64 ((n : Int).tdiv 16) = ((n / 16 : Nat) : Int) := by
      rw [show (n : Int).tdiv 16 = ((n / 16 : Nat) : Int) from n_tdiv _ 16, wrap64 (by omega) (by omega)]
    have e2 : (n : Int).tmod 16 = ((n % 16 : Nat) : Int) := n_tmod _ 16
    have hsh := dg_shift B2 h0 (n / 16)
    have hlen : (List.replicate (n / 16) (PV.int .u32 0) ++ V (dg B x)) = V (dg B (x * B ^ (n / 16))) := by
      rw [hsh, ← V_append]
      congr 1
      simp [V, e32]
    have hlen2 : (dg B (x * B ^ (n / 16))).length = n / 16 + l := by rw [hsh]; simp [hl]
    have hpow : x * B ^ (n / 16) * 2 ^ (n % 16) = x * 2 ^ n := by
      rw [Nat.mul_assoc, B_pow, ← Nat.pow_add, Nat.div_add_mod]
    have hb2 : bitLen (x * B ^ (n / 16)) ≤ 33554432 := by
      rw [B_pow, bitLen_shl _ _ h0]; omega
    simp only [Tryd.f135, e1, go_sem, Int.reduceToNat, Int.reduceEq, Int.reduceNe, Int.reduceLT, Int.reduceLE, Int.reduceNeg, Int.reduceAdd, ↓reduceIte, ↓reduceCtorEq, Nat.reduceEqDiff, Nat.reduceAdd, Nat.reduceSub, Nat.reduceMul, Nat.reduceLeDiff, Nat.reduceLT]
    refine qand_i (by first | omega | (simp [V_length, U_length, tab_length, maxLen]; done) | (simp [V_length, U_length, tab_length, maxLen]; omega) | (refine ⟨?_, ?_⟩ <;> first | omega | (simp [V_length, U_length, tab_length, maxLen]; done) | (simp [V_length, U_length, tab_length, maxLen]; omega))) ?_; simp only [Tryd.f135, go_sem, Int.reduceToNat, Int.reduceEq, Int.reduceNe, Int.reduceLT, Int.reduceLE, Int.reduceNeg, Int.reduceAdd, ↓reduceIte, ↓reduceCtorEq, Nat.reduceEqDiff, Nat.reduceAdd, Nat.reduceSub, Nat.reduceMul, Nat.reduceLeDiff, Nat.reduceLT]
    refine qand_i (by first | omega | (simp [V_length, U_length, tab_length, maxLen]; done) | (simp [V_length, U_length, tab_length, maxLen]; omega) | (refine ⟨?_, ?_⟩ <;> first | omega | (simp [V_length, U_length, tab_length, maxLen]; done) | (simp [V_length, U_length, tab_length, maxLen]; omega))) ?_; simp only [Tryd.f135, go_sem, Int.reduceToNat, Int.reduceEq, Int.reduceNe, Int.reduceLT, Int.reduceLE, Int.reduceNeg, Int.reduceAdd, ↓reduceIte, ↓reduceCtorEq, Nat.reduceEqDiff, Nat.reduceAdd, Nat.reduceSub, Nat.reduceMul, Nat.reduceLeDiff, Nat.reduceLT]
    refine qand_i ⟨by simp only [maxLen]; omega, by omega⟩ ?_
    simp only [Tryd.f135, hlen, go_sem, Int.reduceToNat, Int.reduceEq, Int.reduceNe, Int.reduceLT, Int.reduceLE, Int.reduceNeg, Int.reduceAdd, ↓reduceIte, ↓reduceCtorEq, Nat.reduceEqDiff, Nat.reduceAdd, Nat.reduceSub, Nat.reduceMul, Nat.reduceLeDiff, Nat.reduceLT]
    refine PLoop.frz 5 14 rfl rfl ?_
    refine PLoop.intro (fun i : Nat => ⟨[(1, .val (.int .i64 n)), (5, .val (VN (x * B ^ (n / 16) * 2 ^ i))), (6, .val (.int .i64 i))], []⟩) (fun i => i ≤ n % 16) (fun i => n % 16 - i) 0 (Nat.zero_le _) ?_ fun i hi => walk ?_
    · simp [Wk, sget, killL, kill1, SV.key, NL, VL, u, e32, VN, ← hlen2]
    have e3 : IntKind.wrap .i64 ((i : Int) + 1) = ((i + 1 : Nat) : Int) := by rw [wrap64 (by omega) (by omega)]; omega
    simp only [Tryd.f135, e2, go_sem, Int.reduceToNat, Int.reduceEq, Int.reduceNe, Int.reduceLT, Int.reduceLE, Int.reduceNeg, Int.reduceAdd, ↓reduceIte, ↓reduceCtorEq, Nat.reduceEqDiff, Nat.reduceAdd, Nat.reduceSub, Nat.reduceMul, Nat.reduceLeDiff, Nat.reduceLT]
    refine qif_d (fun h2 => ?_) (fun h2 => ?_)
    · have hd := c_Double (x * B ^ (n / 16) * 2 ^ i) 0 (by omega) (hsmall _ (by
        rw [Nat.mul_assoc, B_pow, ← Nat.pow_add, bitLen_shl _ _ h0]; omega))
      rw [show 2 * (x * B ^ (n / 16) * 2 ^ i) + 0 = x * B ^ (n / 16) * 2 ^ (i + 1) by rw [Nat.pow_succ, Nat.add_zero, ← Nat.mul_assoc (x * B ^ (n / 16)), Nat.mul_comm 2]] at hd
      simp only [Tryd.f135, go_sem, Int.reduceToNat, Int.reduceEq, Int.reduceNe, Int.reduceLT, Int.reduceLE, Int.reduceNeg, Int.reduceAdd, ↓reduceIte, ↓reduceCtorEq, Nat.reduceEqDiff, Nat.reduceAdd, Nat.reduceSub, Nat.reduceMul, Nat.reduceLeDiff, Nat.reduceLT]
      refine qcall_i hd ?_
      simp only [Tryd.f135, e3, go_sem, Int.reduceToNat, Int.reduceEq, Int.reduceNe, Int.reduceLT, Int.reduceLE, Int.reduceNeg, Int.reduceAdd, ↓reduceIte, ↓reduceCtorEq, Nat.reduceEqDiff, Nat.reduceAdd, Nat.reduceSub, Nat.reduceMul, Nat.reduceLeDiff, Nat.reduceLT]
      refine ⟨i + 1, by omega, by omega, ?_⟩
      simp [Wk, sget, killL, kill1, SV.key, NL, VL, u, e32]
    · simp only [Tryd.f135, go_sem, Int.reduceToNat, Int.reduceEq, Int.reduceNe, Int.reduceLT, Int.reduceLE, Int.reduceNeg, Int.reduceAdd, ↓reduceIte, ↓reduceCtorEq, Nat.reduceEqDiff, Nat.reduceAdd, Nat.reduceSub, Nat.reduceMul, Nat.reduceLeDiff, Nat.reduceLT]
      rw [show i = n % 16 by omega, hpow]

theorem n_To (a : List Nat) (ha : a.length ≤ 1048576) (oa : Ok W a) : PC E 80 [NL a] (VN (vl a)) := c_To a ha oa

theorem dgB_of_vl {a : List Nat} (oa : Ok W a) : (dg B (vl a)).length ≤ 4 * a.length := by
  rw [dg_length_le B2, Nat.pow_mul, ← W_B]
  exact dv_lt a oa

theorem n_Same (x y : Nat) (hx : (dg W x).length ≤ 4194304) : PC E 113 [NN x, NN y] (.bool (decide (x = y))) :=
  PC.cast (c_Same _ _ hx) (by
    rw [PV.bool.injEq, decide_eq_decide]
    constructor
    · intro h; rw [← dv_dg W2 x, ← dv_dg W2 y, h]
    · rintro rfl; rfl)
end Go.Proofs.YtflpcgcgeffolaaDoor
