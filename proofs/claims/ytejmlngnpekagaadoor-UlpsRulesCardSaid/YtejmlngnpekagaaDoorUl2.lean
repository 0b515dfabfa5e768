/- How far a number is from a dyad, and within so many halves: ulps' functions and the reference's. -/
import Derived.Test.YtejmlngnpekagaaDoorUl1
import Derived.Test.YtejmlngnpekagaaDoorLimN
import Derived.Test.YtejmlngnpekagaaDoorFd0
open Go PG Go.Proofs
set_option maxRecDepth 100000
set_option linter.unusedSimpArgs false
set_option linter.unusedVariables false
namespace Go.Proofs.YtejmlngnpekagaaDoor
attribute [local go_sem] Lay2 Lay3 Lay4 Lay5 Lay6 Lay7 Lay8 Lay9 Lay10 Lay11 Lay12 Lay13 Lay14 Lay15 Lay16 Lay17 Lay18 Lay19 Lay21 Lay22 Lay23 Lay24 Lay25 Lay30 Lay33 Lay36 Lay37 Lay46 Lay47 Lay48 Lay53 Lay54 Lay55 Lay59 Lay100 Lay101 Lay127 Lay146 Lay162 Lay168 Lay169 Lay173 qexec_seq qexec_skip qexec_exit qexec_ret qexec_block qexec_loop qexec_range qexec_cond qexec_region qexec_drawn qops_nil qops_none qops_some put_some put_none pblk_exit pblk_other newDsts_nil sget_cons sget_nil qval_some qbool_some qgs_bool qgs_und qfree_some qgrd_true qgrd_false qif_true qif_false qval_ite qval_itn qand_true map_ite map_some' map_none' qdo_move qdo_assign qdo_binOp qdo_pick qdo_unOp qdo_convert qdo_extract qdo_field qdo_fieldAddr qdo_alloc qdo_box qdo_build qdo_buildSlice qdo_load qdo_store qdo_nilCheck qdo_makeFunc qdo_makeSlice qdo_slice qdo_indexAddr qdo_call qcont_val qcont_new qcont_st qcont_app0 qcont_app qcont_inl qcont_call njSV_val njSV_nil njSV_row njSV_ptr njSV_sub binV_val binV_nil binV_nn binV_ptr bin_np bin_nnp nilCmp bin_add bin_sub bin_mul bin_quo bin_rem bin_and bin_or bin_xor bin_andNot bin_eql bin_neq bin_lss bin_leq bin_gtr bin_geq bin_shl bin_shr bin_seql bin_sneq bin_sadd bin_beql bin_aeql bin_aneq eqAnd_some eqCells_nil eqCells_cons fieldTypes isStruct eqCell bin_bneq un_not un_neg nj_ite Nat.beq stepA stepR isNew opSV constSV RV.sv allSome E_mu E_own qkeyIn_none qkeyIn_some qkeyAt_none qkeyAt_some Bool.or_false Bool.false_or Bool.or_true Bool.true_or cst setB res resSV pstart startL killL kill1 eraL frzL svPV rvPV rvInt rvSlice frzOf close closeL pconv pbuiltin pmax2 partPV setCells fillPV zrow bound newSV PV.cells Bk.cells Bk.with SV.key pres presL_nil presL_tmp presL_cell presC2_some cellPV_ptr presC List.toList_toArray List.size_toArray List.getElem?_drop Nat.mul_one Int.toNat_natCast Nat.not_lt_zero Nat.lt_irrefl decide_true decide_false Nat.not_lt Option.some.injEq PV.lst.injEq PV.int.injEq PV.bool.injEq PV.tuple.injEq List.cons.injEq Option.map_some Option.map_none Option.bind_some Option.toList List.map_cons List.map_nil List.nil_append List.cons_append List.append_nil List.zip_cons_cons List.zip_nil_left List.zip_nil_right List.getElem?_cons_zero List.getElem?_cons_succ List.drop_zero List.drop_succ_cons List.take_succ_cons List.take_zero List.set_cons_zero List.set_cons_succ List.length_cons List.length_nil List.length_set List.replicate_one List.replicate_zero bne_self_eq_false beq_self_eq_true Nat.zero_add Nat.add_zero Nat.zero_mul Bool.false_eq_true Bool.true_eq_false Bool.not_true Bool.not_false and_true true_and false_and and_false or_false false_or or_true true_or not_true_eq_false not_false_eq_true ne_eq gt_iff_lt List.mem_cons List.not_mem_nil
attribute [local go_sem ↓] pseq_normal pseq_ret pseq_exit pblk_normal pblk_ret newDsts_cons gdst_zero gdst_succ retQ_normal retQ_ret qneed_nil qneed_cons retM_normal retM_ret endR_normal endR_ret endR_exit

theorem c_Num (k : Nat) (hk : k < W) : PC E 138 [u k] (VN k) := by
  have k1 := k_To (num_one hk)
  refine PC.of_body follows Tryd.func138 (by decide +kernel) rfl (by kernel_rfl) (Nat.le_of_ble_eq_true rfl) (walk ?_)
  simp only [u] at k1 ⊢
  simp only [Tryd.f138, go_sem, Int.reduceToNat, Int.reduceEq, Int.reduceNe, Int.reduceLT, Int.reduceLE, Int.reduceNeg, Int.reduceAdd, ↓reduceIte, ↓reduceCtorEq, Nat.reduceEqDiff, Nat.reduceAdd, Nat.reduceSub, Nat.reduceMul, Nat.reduceLeDiff, Nat.reduceLT]
  refine qcall_i (k1) ?_; simp only [Tryd.f138, go_sem, Int.reduceToNat, Int.reduceEq, Int.reduceNe, Int.reduceLT, Int.reduceLE, Int.reduceNeg, Int.reduceAdd, ↓reduceIte, ↓reduceCtorEq, Nat.reduceEqDiff, Nat.reduceAdd, Nat.reduceSub, Nat.reduceMul, Nat.reduceLeDiff, Nat.reduceLT]
theorem mid_lim (b : Nat) : Lim 1154 (mid b) := by
  have h1 := fm_lt b
  have h2 := fe_lt b
  have h := Lim.mk (s := false) (x := 2 * fm b + 1) (e := max (fe b : Int) 1 - 1076) (n := 54) (J := 1100) ((bitLen_le _ _).2 (by show 2 * fm b + 1 < 18014398509481984; omega)) (by omega) (by decide)
  rw [mkD_odd (by omega) (by omega) (by omega)] at h
  exact h
theorem mid7_lim {b : Nat} (hb : b < INF) : LimN 1154 (mid7 b) := by
  have h := (mid_lim b).N
  have he := mid7_e b
  refine ⟨(mid7_ge b).mono (by omega), ?_, by omega, by omega⟩
  have h2 := h.2.1
  rw [at_shift' (d := mid b) (k := -((1154 : Nat) : Int)) (k' := -1075) (by omega) (mid_ge b), ← mid7_at hb, ← at_shift' (d := mid7 b) (by omega) (mid7_ge b)] at h2
  exact h2
theorem mid7_bare {b : Nat} (hb : b < INF) : (mid7 b).bare = mid b := by
  refine eq_of_at (k := -((1154 : Nat) : Int)) (mkD_ok _ _ _) (mid_ok b) ((mid7_lim hb).bare (by decide)).ge (mid_lim b).ge ?_
  rw [(mid7_lim hb).bare_at (by decide), at_shift' (d := mid b) (k' := -1075) (by omega) (mid_ge b), ← mid7_at hb, ← at_shift' (d := mid7 b) (by omega) (mid7_ge b)]
/-- The step, as the reference makes it. -/
def ulpX (b : Nat) : Dy := addD (mid7 (fsz b)) ⟨true, (fd (fsz b)).m, (fd (fsz b)).e⟩
def ulpN (b : Nat) : Dy := ⟨false, (ulpX b).m, (ulpX b).e + 1⟩
theorem neg_pos {b : Nat} : LimN 1154 (⟨true, (fd (fsz b)).m, (fd (fsz b)).e⟩ : Dy) ∧ (⟨true, (fd (fsz b)).m, (fd (fsz b)).e⟩ : Dy).bare = (fd (fsz b)).neg := by
  have h := (fd_lim (fsz b)).N.mono (J := 1154) (by decide)
  have hs : (fd (fsz b)).m ≠ 0 → (fd (fsz b)).s = false := fun h0 => by rw [fd_s h0, fs_small (fsz_lt b)]
  have hat : ∀ k, (⟨true, (fd (fsz b)).m, (fd (fsz b)).e⟩ : Dy).at k = -(fd (fsz b)).at k := fun k => by
    by_cases h0 : (fd (fsz b)).m = 0
    · rw [at_zero h0, at_zero (d := ⟨true, _, _⟩) h0]; rfl
    · unfold Dy.at
      rw [hs h0]
      simp
  have hl : LimN 1154 (⟨true, (fd (fsz b)).m, (fd (fsz b)).e⟩ : Dy) := ⟨h.1, by rw [hat, Int.natAbs_neg]; exact h.2.1, h.2.2⟩
  refine ⟨hl, eq_of_at (k := -((1154 : Nat) : Int)) (mkD_ok _ _ _) (neg_ok (fd_ok' _)) (hl.bare (by decide)).ge (neg_ge h.1) ?_⟩
  rw [hl.bare_at (by decide), hat, neg_at]
theorem ulpX_lim {b : Nat} (hf : fe b < 2047) : LimN 1155 (ulpX b) := (mid7_lim (fsz_INF.1 hf)).add neg_pos.1
theorem ulpX_bare {b : Nat} (hf : fe b < 2047) : (ulpX b).bare = ⟨false, 1, max (fe b : Int) 1 - 1076⟩ := by
  unfold ulpX
  rw [addD_bare (mid7_lim (fsz_INF.1 hf)) neg_pos.1 (by decide), mid7_bare (fsz_INF.1 hf), neg_pos.2]
  exact mid_sub b hf
theorem ulpN_at {b : Nat} (hf : fe b < 2047) : (ulpN b).at (-((1154 : Nat) : Int)) = (ulpS b).at (-((1154 : Nat) : Int)) ∧ (ulpN b).ge (-((1154 : Nat) : Int)) := by
  have hl := ulpX_lim hf
  have h1 := hl.bare_at (by decide)
  rw [ulpX_bare hf] at h1
  have h2 := hl.1
  unfold ulpN ulpS
  generalize ulpX b = x at *
  constructor
  · have e1 : (Dy.mk false x.m (x.e + 1)).at (-((1154 : Nat) : Int)) = ((x.at (-((1155 : Nat) : Int))).natAbs : Int) := by
      rw [natAbs_at']
      unfold Dy.at
      simp only [Bool.false_eq_true, if_false, Int.one_mul]
      rw [show x.e + 1 - -((1154 : Nat) : Int) = x.e - -((1155 : Nat) : Int) by omega]
    rw [e1, ← h1, natAbs_at']
    unfold Dy.at
    simp only [Bool.false_eq_true, if_false, Int.one_mul]
    rw [show max (fe b : Int) 1 - 1076 - -((1155 : Nat) : Int) = max (fe b : Int) 1 - 1075 - -((1154 : Nat) : Int) by omega]
  · rcases h2 with h | h
    · exact .inl h
    · right; show _ ≤ x.e + 1; omega
theorem ulpS_lim (b : Nat) : Lim 1154 (ulpS b) := by
  have h2 := fe_lt b
  have h := Lim.mk (s := false) (x := 1) (e := max (fe b : Int) 1 - 1075) (n := 1) (J := 1153) (by decide) (by omega) (by decide)
  rw [mkD_odd (by decide) (by omega) (by omega)] at h
  exact h
theorem LimN.of {K J : Nat} {d : Dy} (hg : d.ge (-(K : Int))) (hl : (d.at (-(K : Int))).natAbs < 2 ^ (2 * K)) (hK : K ≤ J) (he : -(J : Int) ≤ d.e ∧ d.e ≤ J) : LimN J d := by
  refine ⟨hg.mono (by omega), ?_, he⟩
  rw [at_shift' (d := d) (k := -(J : Int)) (k' := -(K : Int)) (by omega) hg, Int.natAbs_mul, Int.natAbs_natCast, show (-(K : Int) - -(J : Int)).toNat = J - K by omega]
  refine Nat.lt_of_lt_of_le (Nat.mul_lt_mul_of_pos_right hl (Nat.two_pow_pos _)) ?_
  rw [← Nat.pow_add]
  exact Nat.pow_le_pow_right (by decide) (by omega)
theorem LimN.half {K : Nat} {d : Dy} (h : LimN K d) (hs : d.s = false) : LimN (K + 1) ⟨false, d.m, d.e - 1⟩ := by
  have he := h.2.2
  have hat : (⟨false, d.m, d.e - 1⟩ : Dy).at (-((K + 1 : Nat) : Int)) = d.at (-(K : Int)) := by
    unfold Dy.at
    rw [hs]
    simp only [Bool.false_eq_true, if_false]
    rw [show d.e - 1 - -((K + 1 : Nat) : Int) = d.e - -(K : Int) by omega]
  refine ⟨.inr (by show _ ≤ d.e - 1; omega), ?_, by show _ ≤ d.e - 1; omega, by show d.e - 1 ≤ _; omega⟩
  rw [hat]
  exact Nat.lt_of_lt_of_le h.2.1 (Nat.pow_le_pow_right (by decide) (by omega))
theorem ulpN_lim {b : Nat} (hf : fe b < 2047) : LimN 1156 (ulpN b) := by
  obtain ⟨h1, h2⟩ := ulpN_at hf
  have hl := (ulpX_lim hf).2.2
  have hs := (ulpS_lim b).lt
  rw [← h1] at hs
  exact LimN.of h2 hs (by decide) ⟨by show _ ≤ (ulpX b).e + 1; omega, by show (ulpX b).e + 1 ≤ _; omega⟩
theorem ulpN_bare {b : Nat} (hf : fe b < 2047) : (ulpN b).bare = ulpS b := by
  obtain ⟨h1, h2⟩ := ulpN_at hf
  have hl := ulpN_lim hf
  refine eq_of_at (k := -((1156 : Nat) : Int)) (mkD_ok _ _ _) (ulpS_ok b) (hl.bare (by decide)).ge ((ulpS_lim b).ge.mono (by decide)) ?_
  rw [hl.bare_at (by decide), at_shift' (d := ulpN b) (k' := -((1154 : Nat) : Int)) (by decide) h2, h1, ← at_shift' (by decide) (ulpS_lim b).ge]
/-- So many halves, bit by bit. -/
def hvN (p : Dy) (k : Nat) : Nat → Dy
  | 0 => .zero
  | i + 1 => if k / 2 ^ i % 2 = 1 then addD (hvN p k i) ⟨false, p.m, p.e + i⟩ else hvN p k i
theorem hvN_succ (p : Dy) (k i : Nat) : hvN p k (i + 1) = if k / 2 ^ i % 2 = 1 then addD (hvN p k i) ⟨false, p.m, p.e + i⟩ else hvN p k i := rfl
theorem hv_step {p : Dy} (hs : p.s = false) {L : Int} (i : Nat) : (Dy.mk false p.m (p.e + i)).at L = p.at L * ((2 ^ i : Nat) : Int) ∨ p.e < L := by
  by_cases h : p.e < L
  · exact .inr h
  · left
    unfold Dy.at
    rw [hs]
    simp only [Bool.false_eq_true, if_false, Int.one_mul]
    rw [show (p.e + (i : Int) - L).toNat = (p.e - L).toNat + i by omega, Nat.pow_add, ← Nat.mul_assoc, Int.natCast_mul]
theorem hv_spec {p : Dy} (hs : p.s = false) {K : Nat} (hp : LimN K p) (k : Nat) : ∀ i, i ≤ 17 → (hvN p k i).ge (-((K + 40 : Nat) : Int)) ∧ (hvN p k i).at (-((K + 40 : Nat) : Int)) = p.at (-((K + 40 : Nat) : Int)) * ((k % 2 ^ i : Nat) : Int) ∧ LimN (K + 40) (hvN p k i) := by
  intro i
  induction i with
  | zero =>
    intro _
    have e : hvN p k 0 = .zero := rfl
    rw [e]
    refine ⟨.inl rfl, ?_, (Lim.zero (K + 40)).N⟩
    rw [Nat.pow_zero, Nat.mod_one, at_zero (d := .zero) rfl]
    exact (Int.mul_zero _).symm
  | succ i ih =>
    intro hi
    obtain ⟨h1, h2, h3⟩ := ih (by omega)
    clear ih
    have hge : (Dy.mk false p.m (p.e + i)).ge (-((K + 40 : Nat) : Int)) := .inr (by show _ ≤ p.e + (i : Int); have := hp.2.2; omega)
    have hm : k % 2 ^ (i + 1) = k % 2 ^ i + 2 ^ i * (k / 2 ^ i % 2) := by rw [Nat.pow_succ, Nat.mod_mul]
    have hat : (Dy.mk false p.m (p.e + i)).at (-((K + 40 : Nat) : Int)) = p.at (-((K + 40 : Nat) : Int)) * ((2 ^ i : Nat) : Int) := (hv_step hs i).resolve_right (by have := hp.2.2; omega)
    have key : (hvN p k (i + 1)).ge (-((K + 40 : Nat) : Int)) ∧ (hvN p k (i + 1)).at (-((K + 40 : Nat) : Int)) = p.at (-((K + 40 : Nat) : Int)) * ((k % 2 ^ (i + 1) : Nat) : Int) ∧ (-((K + 40 : Nat) : Int) ≤ (hvN p k (i + 1)).e ∧ (hvN p k (i + 1)).e ≤ ((K + 40 : Nat) : Int)) := by
      rw [hvN_succ, hm]
      have hpe := hp.2.2
      have he3 := h3.2.2
      by_cases hb : k / 2 ^ i % 2 = 1
      · rw [if_pos hb, hb, Nat.mul_one, show ((k % 2 ^ i + 2 ^ i : Nat) : Int) = ((k % 2 ^ i : Nat) : Int) + ((2 ^ i : Nat) : Int) from Int.natCast_add _ _, Int.mul_add]
        have hE : -((K + 40 : Nat) : Int) ≤ (Dy.mk false p.m (p.e + i)).e ∧ (Dy.mk false p.m (p.e + i)).e ≤ ((K + 40 : Nat) : Int) := by
          show _ ≤ p.e + (i : Int) ∧ p.e + (i : Int) ≤ _
          omega
        refine ⟨addD_ge h1 hge, ?_, addD_e he3 hE⟩
        rw [addD_at h1 hge, h2, hat]
      · rw [if_neg hb, show k / 2 ^ i % 2 = 0 by omega, Nat.mul_zero, Nat.add_zero]
        exact ⟨h1, h2, he3⟩
    clear h1 h2 h3 hge hm hat
    generalize hvN p k (i + 1) = hv at *
    refine ⟨key.1, key.2.1, ⟨key.1, ?_, key.2.2⟩⟩
    rw [key.2.1, Int.natAbs_mul, Int.natAbs_natCast]
    have h5 : (p.at (-((K + 40 : Nat) : Int))).natAbs < 2 ^ (2 * K + 40) := by
      have hQ := Nat.two_pow_pos 40
      rw [at_shift' (d := p) (k' := -(K : Int)) (by omega) hp.1, Int.natAbs_mul, Int.natAbs_natCast, show (-(K : Int) - -((K + 40 : Nat) : Int)).toNat = 40 by omega, Nat.pow_add]
      generalize 2 ^ 40 = Q at *
      exact Nat.mul_lt_mul_of_pos_right hp.2.1 hQ
    have h6 : k % 2 ^ (i + 1) < 2 ^ 40 := Nat.lt_of_lt_of_le (Nat.mod_lt _ (Nat.two_pow_pos _)) (Nat.pow_le_pow_right (by decide) (by omega))
    rw [show 2 * (K + 40) = 2 * K + 40 + 40 by omega, Nat.pow_add 2 (2 * K + 40) 40]
    generalize 2 ^ (2 * K + 40) = R at *
    generalize 2 ^ 40 = Q at *
    exact Nat.mul_lt_mul'' h5 h6
end Go.Proofs.YtejmlngnpekagaaDoor
