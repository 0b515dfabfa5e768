/- The reference's product (planimeterref02.Mul). -/
import Derived.Test.YtejmlngnpekagaaGreatDoorRm0
open Go PG Go.Proofs
set_option maxRecDepth 100000
set_option linter.unusedSimpArgs false
set_option linter.unusedVariables false
namespace Go.Proofs.YtejmlngnpekagaaGreatDoor
attribute [local go_sem] Lay2 Lay3 Lay4 Lay5 Lay6 Lay7 Lay8 Lay9 Lay10 Lay11 Lay12 Lay13 Lay14 Lay15 Lay16 Lay17 Lay18 Lay19 Lay21 Lay22 Lay23 Lay25 Lay26 Lay27 Lay30 Lay31 Lay32 Lay33 Lay36 Lay37 Lay41 Lay42 Lay43 Lay47 Lay56 Lay57 Lay59 Lay60 Lay65 Lay66 Lay74 Lay75 Lay105 Lay114 Lay145 Lay146 Lay149 Lay150 Lay151 Lay173 Lay185 Lay189 Lay204 Lay205 Lay208 Lay214 Lay215 Lay216 Lay217 Lay218 Lay220 Lay221 Lay223 Lay224 Lay225 Lay228 qexec_seq qexec_skip qexec_exit qexec_ret qexec_block qexec_loop qexec_range qexec_cond qexec_region qexec_drawn qops_nil qops_none qops_some put_some put_none pblk_exit pblk_other newDsts_nil inlDsts_nil isInl sget_cons sget_nil qval_some qbool_some qgs_bool qgs_und qfree_some qgrd_true qgrd_false qif_true qif_false qval_ite qval_itn qand_true map_ite map_some' map_none' qdo_move qdo_assign qdo_binOp qdo_pick qdo_unOp qdo_convert qdo_extract qdo_field qdo_fieldAddr qdo_alloc qdo_box qdo_build qdo_buildSlice qdo_load qdo_store qdo_nilCheck qdo_makeFunc qdo_makeSlice qdo_slice qdo_indexAddr qdo_call qcont_val qcont_new qcont_st qcont_app0 qcont_app qcont_inl qcont_call njSV_val njSV_nil njSV_row njSV_ptr njSV_sub binV_val binV_nil binV_nn binV_ptr bin_np bin_nnp nilCmp bin_add bin_sub bin_mul bin_quo bin_rem bin_and bin_or bin_xor bin_andNot bin_eql bin_neq bin_lss bin_leq bin_gtr bin_geq bin_shl bin_shr bin_seql bin_sneq bin_sadd bin_beql bin_aeql bin_aneq eqAnd_some eqCells_nil eqCells_cons fieldTypes isStruct eqCell bin_bneq un_not un_neg nj_ite Nat.beq stepA stepR isNew opSV constSV RV.sv allSome E_mu E_own qkeyIn_none qkeyIn_some qkeyAt_none qkeyAt_some Bool.or_false Bool.false_or Bool.or_true Bool.true_or cst setB res resSV pstart startL killL kill1 eraL frzL svPV rvPV rvInt rvSlice frzOf close closeL pconv pbuiltin pmax2 partPV setCells fillPV zrow bound newSV PV.cells Bk.cells Bk.with SV.key pres presL_nil presL_tmp presL_cell presC2_some cellPV_ptr presC List.toList_toArray List.size_toArray List.getElem?_drop Nat.mul_one Int.toNat_natCast Nat.not_lt_zero Nat.lt_irrefl decide_true decide_false Nat.not_lt Option.some.injEq PV.lst.injEq PV.int.injEq PV.bool.injEq PV.tuple.injEq List.cons.injEq Option.map_some Option.map_none Option.bind_some Option.toList List.map_cons List.map_nil List.nil_append List.cons_append List.append_nil List.zip_cons_cons List.zip_nil_left List.zip_nil_right List.getElem?_cons_zero List.getElem?_cons_succ List.drop_zero List.drop_succ_cons List.take_succ_cons List.take_zero List.set_cons_zero List.set_cons_succ List.length_cons List.length_nil List.length_set List.replicate_one List.replicate_zero bne_self_eq_false beq_self_eq_true Nat.zero_add Nat.add_zero Nat.zero_mul Bool.false_eq_true Bool.true_eq_false Bool.not_true Bool.not_false and_true true_and false_and and_false or_false false_or or_true true_or not_true_eq_false not_false_eq_true ne_eq gt_iff_lt List.mem_cons List.not_mem_nil
attribute [local go_sem ↓] pseq_normal pseq_ret pseq_exit pblk_normal pblk_ret newDsts_cons inlDsts_cons gdst_zero gdst_succ retQ_normal retQ_ret qneed_nil qneed_cons retM_normal retM_ret endR_normal endR_ret endR_exit
attribute [local go_sem] Int.reduceToNat Int.reduceEq Int.reduceNe Int.reduceLT Int.reduceLE Int.reduceNeg Int.reduceAdd Nat.reduceEqDiff Nat.reduceAdd Nat.reduceSub Nat.reduceMul Nat.reduceLeDiff Nat.reduceLT
attribute [local go_sem ↓] reduceIte reduceCtorEq

theorem top_mul {Q b : Nat} (h1 : 0 < Q) (h2 : 0 < b) : (Q - 1) * (b - 1) + (Q - 1) + 1 = Q * b - b + 1 := by
  obtain ⟨q, rfl⟩ : ∃ q, Q = q + 1 := ⟨Q - 1, by omega⟩
  obtain ⟨w, rfl⟩ : ∃ w, b = w + 1 := ⟨b - 1, by omega⟩
  simp only [Nat.add_sub_cancel, Nat.add_mul, Nat.mul_add, Nat.mul_one, Nat.one_mul]
  omega
theorem c_2Mul (x y : Nat) (hx : (dg B x).length ≤ 1000000) (hy : (dg B y).length ≤ 1000000) : PC E 66 [VN x, VN y] (VN (x * y)) := by
  refine PC.of_body follows Tryz.func66 (by decide +kernel) rfl (by kernel_rfl) (Nat.le_of_ble_eq_true rfl) (walk ?_)
  have hxl : x < B ^ (dg B x).length := (dg_length_le B2 _ x).1 (Nat.le_refl _)
  have hyl : y < B ^ (dg B y).length := (dg_length_le B2 _ y).1 (Nat.le_refl _)
  have hdx : ∀ i, i < (dg B x).length → (V (dg B x))[i]? = some (.int .u32 ((x / B ^ i % B : Nat) : Int)) := fun i h => vn_at h
  have hdy : ∀ i, i < (dg B y).length → (V (dg B y))[i]? = some (.int .u32 ((y / B ^ i % B : Nat) : Int)) := fun i h => vn_at h
  simp only [VN, VL]
  generalize hn1 : (dg B x).length = n1 at *
  generalize hn2 : (dg B y).length = n2 at *
  generalize hDX : V (dg B x) = DX at *
  generalize hDY : V (dg B y) = DY at *
  have w1 : IntKind.wrap .i64 ((n1 : Int) + (n2 : Int)) = ((n1 + n2 : Nat) : Int) := by rw [wrap64 (by omega) (by omega)]; omega
  have w2 : IntKind.wrap .i64 (((n1 + n2 : Nat) : Int) + 1) = ((n1 + n2 + 1 : Nat) : Int) := by rw [wrap64 (by omega) (by omega)]; omega
  obtain ⟨m, hm⟩ : ∃ m, m = n1 + n2 + 1 := ⟨_, rfl⟩
  rw [← hm] at w2
  simp only [Tryz.f66, w1, w2, go_sem]
  refine qand_i (by omega) ?_
  simp only [Tryz.f66, w1, w2, go_sem]
  refine PLoop.intro (fun i : Nat => ⟨[(0, .val (.lst n1 DX)), (1, .val (.lst n2 DY)), (5, .row 16), (6, .val (.int .i64 i))],
    [(16, (.row 105 1 m (V (tab B (x % B ^ i * y) m)), false))]⟩) (fun i => i ≤ n1) (fun i => n1 - i) 0 (Nat.zero_le _) ?_ fun i hi => walk ?_
  · rw [Nat.pow_zero, Nat.mod_one, Nat.zero_mul]
    have e0 : V (tab B 0 m) = List.replicate m (.int .u32 0) := by
      unfold tab V
      simp [List.map_const', e32]
    rw [e0]
    simp [Wk, sget, killL, kill1, SV.key]
  have wi : IntKind.wrap .i64 ((i : Int) + 1) = ((i + 1 : Nat) : Int) := by rw [wrap64 (by omega) (by omega)]; omega
  have hPlt : x % B ^ i * y / B ^ i < B ^ n2 := by
    rw [Nat.div_lt_iff_lt_mul (vn_pow i), Nat.mul_comm (B ^ n2)]
    exact Nat.mul_lt_mul'' (Nat.mod_lt _ (vn_pow i)) hyl
  have hnext : x % B ^ i * y + B ^ i * (y * (x / B ^ i % B)) = x % B ^ (i + 1) * y := by
    rw [Nat.pow_succ, Nat.mod_mul, Nat.add_mul, Nat.mul_assoc, Nat.mul_comm y]
  have hend : i = n1 → x % B ^ i * y = x * y := fun h => by rw [h, Nat.mod_eq_of_lt hxl]
  have hdxi := hdx i
  have hd : x / B ^ i % B < B := Nat.mod_lt _ B0
  have hS : ∀ s', Wk s' (⟨[(0, .val (.lst n1 DX)), (1, .val (.lst n2 DY)), (5, .row 16), (6, .val (.int .i64 ((i + 1 : Nat) : Int)))],
    [(16, (.row 105 1 m (V (tab B (x % B ^ i * y + B ^ i * (y * (x / B ^ i % B))) m)), false))]⟩ : ES) → Wk s' (⟨[(0, .val (.lst n1 DX)), (1, .val (.lst n2 DY)), (5, .row 16), (6, .val (.int .i64 ((i + 1 : Nat) : Int)))],
    [(16, (.row 105 1 m (V (tab B (x % B ^ (i + 1) * y) m)), false))]⟩ : ES) := fun s' h => by rw [← hnext]; exact h
  generalize x % B ^ i * y = P at *
  generalize x / B ^ i % B = d at *
  simp only [Tryz.f66, go_sem]
  refine qif_d (fun h1 => ?_) (fun h1 => ?_)
  · have hdxi := hdxi (by omega)
    obtain ⟨c, hc⟩ : ∃ c : Nat → Nat, ∀ k, c k = (P / B ^ i % B ^ k + y % B ^ k * d) / B ^ k := ⟨_, fun _ => rfl⟩
    obtain ⟨T, hT⟩ : ∃ T, T = P + B ^ i * (y * d) := ⟨_, rfl⟩
    rw [← hT] at hS
    have hstart : mixL B T P (i + 0) m = tab B P m := by rw [hT, Nat.add_zero]; exact mixL_start B2
    have hc0 : c 0 = 0 := by rw [hc]; simp [Nat.mod_one]
    have hcend : ∀ k, n2 + 1 ≤ k → c k = 0 := fun k hk => by
      rw [hc]
      refine Nat.div_eq_of_lt ?_
      have h2 : B ^ (n2 + 1) ≤ B ^ k := Nat.pow_le_pow_right B0 hk
      have h3 : P / B ^ i % B ^ k ≤ P / B ^ i := Nat.mod_le _ _
      have h4 : y % B ^ k * d ≤ y * d := Nat.mul_le_mul_right _ (Nat.mod_le _ _)
      have h5 : y * d ≤ (B ^ n2 - 1) * (B - 1) := Nat.mul_le_mul (by omega) (by omega)
      have h6 := top_mul (Q := B ^ n2) (b := B) (vn_pow n2) B0
      have h7 : B ^ (n2 + 1) = B ^ n2 * B := Nat.pow_succ ..
      have h8 := vn_pow n2
      have h9 : B ≤ B ^ n2 * B := Nat.le_mul_of_pos_left _ h8
      have h10 := B2
      omega
    have hdone : ∀ k, k = n2 ∨ n2 < k → c k = 0 → mixL B T P (i + k) m = tab B T m := fun k hk h0 => by
      refine mixL_end B2 ?_
      obtain ⟨-, -, -, h4⟩ := mix_step (b := B) (A := y) (n := d) (i := i) (k := k) (P := P) B2 hd
      rw [hT, h4, ← hc, h0, Nat.div_eq_of_lt (Nat.lt_of_lt_of_le hyl (Nat.pow_le_pow_right B0 (by omega))), Nat.zero_mul]
      rfl
    simp only [Tryz.f66, go_sem]
    refine PLoop.intro (fun k : Nat => ⟨[(0, .val (.lst n1 DX)), (1, .val (.lst n2 DY)), (5, .row 16), (6, .val (.int .i64 i)), (7, .val (.int .u32 (c k))), (8, .val (.int .i64 k))],
      [(16, (.row 105 1 m (V (mixL B T P (i + k) m)), false))]⟩) (fun k => k ≤ n2 + 1) (fun k => n2 + 1 - k) 0 (Nat.zero_le _) ?_ fun k hk => walk ?_
    · rw [hstart, hc0]
      simp [Wk, sget, killL, kill1, SV.key]
    have wk : IntKind.wrap .i64 ((k : Int) + 1) = ((k + 1 : Nat) : Int) := by rw [wrap64 (by omega) (by omega)]; omega
    have wik : IntKind.wrap .i64 ((i : Int) + (k : Int)) = ((i + k : Nat) : Int) := by rw [wrap64 (by omega) (by omega)]; omega
    obtain ⟨m1, m2, m3, -⟩ := mix_step (b := B) (A := y) (n := d) (i := i) (k := k) (P := P) B2 hd
    rw [← hT] at m2
    rw [← hc] at m1 m2 m3
    rw [← hc] at m3
    have hcend := hcend k
    have hdone := hdone k
    have hget : i + k < m → (V (mixL B T P (i + k) m))[i + k]? = some (.int .u32 ((P / B ^ (i + k) % B : Nat) : Int)) := fun h => by
      rw [V_get, mixL_get h]; rfl
    have hset : i + k < m → (V (mixL B T P (i + k) m)).set (i + k) (.int .u32 ((T / B ^ (i + k) % B : Nat) : Int)) = V (mixL B T P (i + (k + 1)) m) := fun h => by
      have := V_set (mixL B T P (i + k) m) (i + k) (T / B ^ (i + k) % B)
      rw [mixL_set h] at this
      exact this
    have hdyk := hdy k
    have hp : P / B ^ (i + k) % B < B := Nat.mod_lt _ B0
    have hyk : y / B ^ k % B < B := Nat.mod_lt _ B0
    have hyk0 : ¬ k < n2 → y / B ^ k % B = 0 := fun h => by
      rw [Nat.div_eq_of_lt (Nat.lt_of_lt_of_le hyl (Nat.pow_le_pow_right B0 (by omega))), Nat.zero_mod]
    generalize P / B ^ (i + k) % B = p at *
    generalize y / B ^ k % B = q at *
    generalize T / B ^ (i + k) % B = t at *
    generalize hck1 : c (k + 1) = c1 at *
    generalize hck : c k = ck at *
    have hB : (B : Nat) = 65536 := rfl
    have hdq : d * q ≤ 65535 * 65535 := Nat.mul_le_mul (by omega) (by omega)
    generalize hM : d * q = M at *
    have v1 : IntKind.wrap .u32 ((p : Int) + (ck : Int)) = ((p + ck : Nat) : Int) := by rw [show (p : Int) + (ck : Int) = ((p + ck : Nat) : Int) by omega]; exact wrap32 (by omega)
    have v2 : IntKind.wrap .u32 ((d : Int) * (q : Int)) = (M : Int) := by rw [← Int.natCast_mul, hM]; exact wrap32 (by omega)
    have v3 : IntKind.wrap .u32 (((p + ck : Nat) : Int) + (M : Int)) = ((p + ck + M : Nat) : Int) := by rw [show ((p + ck : Nat) : Int) + (M : Int) = ((p + ck + M : Nat) : Int) by omega]; exact wrap32 (by omega)
    have v4 : ((p + ck + M : Nat) : Int).tmod 65536 = (t : Int) := by rw [← m2]; exact n_tmod _ 65536
    have v5 : IntKind.wrap .u32 (((p + ck + M : Nat) : Int).tdiv 65536) = (c1 : Int) := by
      rw [show ((p + ck + M : Nat) : Int).tdiv 65536 = (((p + ck + M) / B : Nat) : Int) from n_tdiv _ 65536, m3]
      refine wrap32 ?_
      rw [← m3]
      show (p + ck + M) / 65536 < 4294967296
      omega
    have hlen : (V (mixL B T P (i + k) m)).length = m := by rw [V_length, mixL_length]
    simp only [Tryz.f66, go_sem]
    refine qif_d (fun h2 => ?_) (fun h2 => ?_)
    · have hg := hget (by omega)
      have hs := hset (by omega)
      have hyy := hdyk (by omega)
      simp only [Tryz.f66, wik, v1, go_sem]
      refine qand_i (by omega) ?_
      simp only [Tryz.f66, wik, v1, go_sem]
      refine qval_i (congrArg (Option.map _) hg) ?_
      simp only [Tryz.f66, wik, v1, v2, v3, go_sem]
      refine qif_dt (by omega) ?_
      simp only [Tryz.f66, wik, v1, v2, v3, go_sem]
      refine qand_i (by omega) ?_
      simp only [Tryz.f66, wik, v1, v2, v3, go_sem]
      refine qval_i (congrArg (Option.map _) hdxi) ?_
      simp only [Tryz.f66, wik, v1, v2, v3, go_sem]
      refine qand_i (by omega) ?_
      simp only [Tryz.f66, wik, v1, v2, v3, go_sem]
      refine qval_i (congrArg (Option.map _) hyy) ?_
      simp only [Tryz.f66, wik, v1, v2, v3, v4, v5, go_sem]
      refine qand_i (by omega) ?_
      simp only [Tryz.f66, wik, v1, v2, v3, v4, v5, wk, go_sem]
      refine qand_i (by rw [hlen]; omega) ?_
      simp only [Tryz.f66, wik, v1, v2, v3, v4, v5, wk, go_sem]
      refine ⟨k + 1, by omega, by omega, ?_⟩
      rw [hck1, ← hs]
      simp [Wk, sget, killL, kill1, SV.key, setCells]
    · simp only [Tryz.f66, go_sem]
      refine qif_d (fun h3 => ?_) (fun h3 => ?_)
      · have hk2 : k ≤ n2 := Nat.le_of_not_lt fun hh => by have := hcend (by omega); omega
        have hg := hget (by omega)
        have hs := hset (by omega)
        have hq0 : q = 0 := hyk0 (by omega)
        have hM0 : M = 0 := by rw [← hM, hq0, Nat.mul_zero]
        rw [hM0, Nat.add_zero] at v4 v5
        simp only [Tryz.f66, wik, v1, go_sem]
        refine qand_i (by omega) ?_
        simp only [Tryz.f66, wik, v1, go_sem]
        refine qval_i (congrArg (Option.map _) hg) ?_
        simp only [Tryz.f66, wik, v1, v4, v5, go_sem]
        refine qif_df (by omega) ?_
        simp only [Tryz.f66, wik, v1, v4, v5, go_sem]
        refine qand_i (by omega) ?_
        simp only [Tryz.f66, wik, v1, v4, v5, wk, go_sem]
        refine qand_i (by rw [hlen]; omega) ?_
        simp only [Tryz.f66, wik, v1, v4, v5, wk, go_sem]
        refine ⟨k + 1, by omega, by omega, ?_⟩
        rw [hck1, ← hs]
        simp [Wk, sget, killL, kill1, SV.key, setCells]
      · have hd := hdone (by omega) (by omega)
        rw [hd]
        simp only [Tryz.f66, wi, go_sem]
        refine ⟨i + 1, by omega, by omega, hS _ ?_⟩
        simp [Wk, sget, killL, kill1, SV.key]
  · have he := hend (by omega)
    have hPm : P < B ^ m := by
      rw [he, hm]
      refine Nat.lt_of_lt_of_le ?_ (Nat.pow_le_pow_right B0 (Nat.le_succ _))
      rw [Nat.pow_add]
      exact Nat.mul_lt_mul'' hxl hyl
    have kn := PC.at_vlist (n_Norm (tab B P m) (by rw [tab_length]; omega) (ok_tab B0 _ _)) (tab_length _ _ _) ((dv_tab _ _).trans (Nat.mod_eq_of_lt hPm))
    simp only [Tryz.f66, go_sem]
    refine qcall_i kn ?_
    rw [he]
    simp only [Tryz.f66, VN, VL, go_sem]
    try rfl
end Go.Proofs.YtejmlngnpekagaaGreatDoor
