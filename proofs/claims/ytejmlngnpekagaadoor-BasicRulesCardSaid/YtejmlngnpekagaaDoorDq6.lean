/- Division: long division, and division by any number. -/
import Derived.Test.YtejmlngnpekagaaDoorDq5
open Go PG Go.Proofs
set_option maxRecDepth 100000
set_option linter.unusedSimpArgs false
set_option linter.unusedVariables false
namespace Go.Proofs.YtejmlngnpekagaaDoor
attribute [local go_sem] Lay2 Lay3 Lay4 Lay5 Lay6 Lay7 Lay8 Lay9 Lay10 Lay11 Lay12 Lay13 Lay14 Lay15 Lay16 Lay17 Lay18 Lay19 Lay21 Lay22 Lay23 Lay24 Lay25 Lay30 Lay33 Lay36 Lay37 Lay46 Lay47 Lay48 Lay53 Lay54 Lay55 Lay59 Lay100 Lay101 Lay127 Lay146 Lay162 Lay168 Lay169 Lay173 Lay185 Lay186 Lay187 Lay188 Lay189 Lay191 Lay192 Lay194 Lay195 Lay196 Lay199 qexec_seq qexec_skip qexec_exit qexec_ret qexec_block qexec_loop qexec_range qexec_cond qexec_region qexec_drawn qops_nil qops_none qops_some put_some put_none pblk_exit pblk_other newDsts_nil inlDsts_nil isInl sget_cons sget_nil qval_some qbool_some qgs_bool qgs_und qfree_some qgrd_true qgrd_false qif_true qif_false qval_ite qval_itn qand_true map_ite map_some' map_none' qdo_move qdo_assign qdo_binOp qdo_pick qdo_unOp qdo_convert qdo_extract qdo_field qdo_fieldAddr qdo_alloc qdo_box qdo_build qdo_buildSlice qdo_load qdo_store qdo_nilCheck qdo_makeFunc qdo_makeSlice qdo_slice qdo_indexAddr qdo_call qcont_val qcont_new qcont_st qcont_app0 qcont_app qcont_inl qcont_call njSV_val njSV_nil njSV_row njSV_ptr njSV_sub binV_val binV_nil binV_nn binV_ptr bin_np bin_nnp nilCmp bin_add bin_sub bin_mul bin_quo bin_rem bin_and bin_or bin_xor bin_andNot bin_eql bin_neq bin_lss bin_leq bin_gtr bin_geq bin_shl bin_shr bin_seql bin_sneq bin_sadd bin_beql bin_aeql bin_aneq eqAnd_some eqCells_nil eqCells_cons fieldTypes isStruct eqCell bin_bneq un_not un_neg nj_ite Nat.beq stepA stepR isNew opSV constSV RV.sv allSome E_mu E_own qkeyIn_none qkeyIn_some qkeyAt_none qkeyAt_some Bool.or_false Bool.false_or Bool.or_true Bool.true_or cst setB res resSV pstart startL killL kill1 eraL frzL svPV rvPV rvInt rvSlice frzOf close closeL pconv pbuiltin pmax2 partPV setCells fillPV zrow bound newSV PV.cells Bk.cells Bk.with SV.key pres presL_nil presL_tmp presL_cell presC2_some cellPV_ptr presC List.toList_toArray List.size_toArray List.getElem?_drop Nat.mul_one Int.toNat_natCast Nat.not_lt_zero Nat.lt_irrefl decide_true decide_false Nat.not_lt Option.some.injEq PV.lst.injEq PV.int.injEq PV.bool.injEq PV.tuple.injEq List.cons.injEq Option.map_some Option.map_none Option.bind_some Option.toList List.map_cons List.map_nil List.nil_append List.cons_append List.append_nil List.zip_cons_cons List.zip_nil_left List.zip_nil_right List.getElem?_cons_zero List.getElem?_cons_succ List.drop_zero List.drop_succ_cons List.take_succ_cons List.take_zero List.set_cons_zero List.set_cons_succ List.length_cons List.length_nil List.length_set List.replicate_one List.replicate_zero bne_self_eq_false beq_self_eq_true Nat.zero_add Nat.add_zero Nat.zero_mul Bool.false_eq_true Bool.true_eq_false Bool.not_true Bool.not_false and_true true_and false_and and_false or_false false_or or_true true_or not_true_eq_false not_false_eq_true ne_eq gt_iff_lt List.mem_cons List.not_mem_nil
attribute [local go_sem ↓] pseq_normal pseq_ret pseq_exit pblk_normal pblk_ret newDsts_cons inlDsts_cons gdst_zero gdst_succ retQ_normal retQ_ret qneed_nil qneed_cons retM_normal retM_ret endR_normal endR_ret endR_exit
attribute [local go_sem] Int.reduceToNat Int.reduceEq Int.reduceNe Int.reduceLT Int.reduceLE Int.reduceNeg Int.reduceAdd Nat.reduceEqDiff Nat.reduceAdd Nat.reduceSub Nat.reduceMul Nat.reduceLeDiff Nat.reduceLT
attribute [local go_sem ↓] reduceIte reduceCtorEq

theorem long_step {A V n m k : Nat} (hV0 : 0 < V) (hVn : V < W ^ n) (hn : 2 ≤ n) (hk : k + n + 1 ≤ m) (hm : m ≤ 200000) : ∃ (F : Nat → List PV) (d0 : Nat), A / V / W ^ k % W ≤ d0 ∧ d0 < W ∧ F (A / V / W ^ k % W) = U (tab W (remK A V k) m) ∧
    PCM E 159 [.sub 0 k (n + 1), .val (.int .u64 ((V / W ^ (n - 1) % W : Nat) : Int)), .val (.int .u64 ((V / W ^ (n - 2) % W : Nat) : Int))] [.row 22 1 m (U (tab W (remK A V (k + 1)) m))] (.val (.int .u64 d0)) [.row 22 1 m (U (tab W (remK A V (k + 1)) m))] ∧
    PCM E 160 [.sub 0 k (n + 1), .sub 1 0 n, .val (.int .u64 d0)] [.row 22 1 m (U (tab W (remK A V (k + 1)) m)), .row 22 1 (n + 1) (U (tab W V (n + 1)))] (.val (.bool (decide (A / V / W ^ k % W < d0)))) [.row 22 1 m (F d0), .row 22 1 (n + 1) (U (tab W V (n + 1)))] ∧
    ∀ d, A / V / W ^ k % W < d → d < W → PCM E 161 [.sub 0 k (n + 1), .sub 1 0 n] [.row 22 1 m (F d), .row 22 1 (n + 1) (U (tab W V (n + 1)))] (.val (.bool (decide (d - 1 = A / V / W ^ k % W)))) [.row 22 1 m (F (d - 1)), .row 22 1 (n + 1) (U (tab W V (n + 1)))] := by
  obtain ⟨s1, s2, s3, s4⟩ := remK_step (A := A) (k := k) hV0 hVn
  have hkW := Nat.pow_pos (n := k) W0
  have hnW := Nat.pow_pos (n := n + 1) W0
  obtain ⟨X, hX⟩ : ∃ X, X = remK A V (k + 1) := ⟨_, rfl⟩
  rw [← hX] at s1 s2 s3 s4 ⊢
  have hXe : X = X % W ^ k + W ^ k * (X / W ^ k) := by have := Nat.mod_add_div X (W ^ k); omega
  have hY : X % W ^ k < W ^ k := Nat.mod_lt _ hkW
  obtain ⟨Y, hYd⟩ : ∃ Y, Y = X % W ^ k := ⟨_, rfl⟩
  obtain ⟨Z, hZd⟩ : ∃ Z, Z = X / W ^ k := ⟨_, rfl⟩
  rw [← hYd, ← hZd] at hXe
  rw [← hYd] at hY s3
  rw [← hZd] at s1 s2 s3
  have hZl : Z < W ^ (n + 1) := by
    refine Nat.lt_of_lt_of_le s1 ?_
    rw [Nat.pow_succ]; exact Nat.mul_le_mul_right _ (Nat.le_of_lt hVn)
  rw [← s2, s3, hXe]
  have hZdiv := Nat.div_add_mod Z V
  have hVl : (tab W V (n + 1)).length = n + 1 := tab_length _ _ _
  have okV := ok_tab W0 V (n + 1)
  have hVt : dv W ((tab W V (n + 1)).take n) = V := by
    have hV1 : V < W ^ (n + 1) := Nat.lt_of_lt_of_le hVn (Nat.pow_le_pow_right W0 (Nat.le_succ _))
    rw [(dv_take _ okV _).1, dv_tab, Nat.mod_eq_of_lt hV1, Nat.mod_eq_of_lt hVn]
  have hlenX : ∀ P, (tab W P m).length = m := fun P => tab_length _ _ _
  have hVdig : V / W ^ (n - 1) % W = V / W ^ (n - 1) := Nat.mod_eq_of_lt (by
    rw [Nat.div_lt_iff_lt_mul (Nat.pow_pos W0), Nat.mul_comm, ← Nat.pow_succ, show (n - 1).succ = n by omega]; exact hVn)
  rw [hVdig]
  obtain ⟨d0, g1, g2, kg⟩ := d_guess (out := tab W (Y + W ^ k * Z) m) (o := k) (n := n) (top := V / W ^ (n - 1)) (next := V / W ^ (n - 2) % W) (ok_tab W0 _ _) (by rw [hlenX]; exact hk) (by rw [hlenX]; exact hm) hn (put_num hY hZl hk 0).1 hVn s1 rfl rfl
  rw [hlenX] at kg
  have kt := fun q (hq : q < W) => d_takeOff (out := tab W (Y + W ^ k * Z) m) (vv := tab W V (n + 1)) (o := k) (n := n) (q := q) (ok_tab W0 _ _) okV hq (by rw [hlenX]; exact hk) (by rw [hlenX]; exact hm) (by rw [hVl]; omega) (by rw [hVl]; omega) (put_num hY hZl hk 0).1 hVt
  simp only [hlenX, hVl, (put_num hY hZl hk _).2] at kt
  refine ⟨fun q => U (tab W (Y + W ^ k * ((Z + W ^ (n + 1) - V * q) % W ^ (n + 1))) m), d0, g1, g2, ?_, kg, ?_, fun d h1 h2 => ?_⟩
  · dsimp only
    have e : (Z + W ^ (n + 1) - V * (Z / V)) % W ^ (n + 1) = Z % V := by
      have e1 : Z + W ^ (n + 1) - V * (Z / V) = Z % V + W ^ (n + 1) := by omega
      rw [e1, Nat.add_mod_right, Nat.mod_eq_of_lt (Nat.lt_of_le_of_lt (Nat.mod_le _ _) hZl)]
    rw [e]
  · have := kt d0 g2
    have e : decide (Z < V * d0) = decide (Z / V < d0) := decide_eq_decide.2 (by rw [Nat.div_lt_iff_lt_mul hV0, Nat.mul_comm])
    rw [e] at this
    exact this
  · have hlt : Z < V * d := by rw [Nat.mul_comm]; exact (Nat.div_lt_iff_lt_mul hV0).1 h1
    have hVd : V * d < W ^ (n + 1) := by rw [Nat.pow_succ]; exact Nat.mul_lt_mul'' hVn h2
    have hd1 : V * d = V * (d - 1) + V := by
      obtain ⟨p, rfl⟩ : ∃ p, d = p + 1 := ⟨d - 1, by omega⟩
      rw [Nat.add_sub_cancel, Nat.mul_succ]
    have hZ' : Z + W ^ (n + 1) - V * d < W ^ (n + 1) := by omega
    dsimp only
    rw [Nat.mod_eq_of_lt hZ']
    have kp := d_putBack (out := tab W (Y + W ^ k * (Z + W ^ (n + 1) - V * d)) m) (vv := tab W V (n + 1)) (o := k) (n := n) (ok_tab W0 _ _) okV (by rw [hlenX]; exact hk) (by rw [hlenX]; exact hm) (by rw [hVl]; omega) (by rw [hVl]; omega) (put_num hY hZ' hk 0).1 hVt
    simp only [hlenX, hVl, (put_num hY hZ' hk _).2] at kp
    have e1 : Z + W ^ (n + 1) - V * d + V = Z + W ^ (n + 1) - V * (d - 1) := by omega
    have e2 : decide (W ^ (n + 1) ≤ Z + W ^ (n + 1) - V * d + V) = decide (d - 1 = Z / V) := decide_eq_decide.2 (by
      have h3 : d - 1 ≤ Z / V ↔ (d - 1) * V ≤ Z := Nat.le_div_iff_mul_le hV0
      rw [Nat.mul_comm (d - 1)] at h3
      constructor
      · intro h
        have := h3.2 (by omega)
        omega
      · intro h
        have := h3.1 (by omega)
        omega)
    rw [e2, e1] at kp
    exact kp
set_option maxHeartbeats 4000000 in
theorem d_long {a b : List Nat} (oa : Ok W a) (ob : Ok W b) (la : a.length ≤ 100000) (hn : 2 ≤ b.length) (hba : b.length ≤ a.length) (hb : W ^ (b.length - 1) ≤ vl b) : PC E 148 [NL a, NL b] (.tuple [NN (vl a / vl b), NN (vl a % vl b)]) := by
  have hA : vl a < W ^ a.length := dv_lt a oa
  have hB : vl b < W ^ b.length := dv_lt b ob
  obtain ⟨n, hnd⟩ : ∃ n, n = b.length := ⟨_, rfl⟩
  obtain ⟨m, hmd⟩ : ∃ m, m = a.length := ⟨_, rfl⟩
  have hg := digit_at ob (i := n - 1) (by omega)
  rw [← hnd] at hn hba hb hB
  rw [← hmd] at hA la hba
  have hn1 := Nat.pow_pos (n := n - 1) W0
  have hB2 : vl b / W ^ (n - 1) < W := by
    rw [Nat.div_lt_iff_lt_mul hn1, Nat.mul_comm, ← Nat.pow_succ, show (n - 1).succ = n by omega]; exact hB
  rw [Nat.mod_eq_of_lt hB2] at hg
  have htop0 : vl b / W ^ (n - 1) ≠ 0 := by have := Nat.div_pos hb hn1; omega
  obtain ⟨nb1, nb2, nb3⟩ := norm_top htop0 hB2
  have hbp := bitLen_pos htop0
  have klz := c_Lead (vl b / W ^ (n - 1)) hB2
  obtain ⟨s, hs⟩ : ∃ s, s = 64 - bitLen (vl b / W ^ (n - 1)) := ⟨_, rfl⟩
  rw [show (64 : Int) - (bitLen (vl b / W ^ (n - 1)) : Int) = (s : Int) by omega] at klz
  have hs63 : s ≤ 63 := by omega
  have hp := Nat.two_pow_pos s
  have hVn : vl b * 2 ^ s < W ^ n := by
    have h1 := (bitLen_le (vl b / W ^ (n - 1)) (bitLen (vl b / W ^ (n - 1)))).1 (Nat.le_refl _)
    have h2 : vl b < (vl b / W ^ (n - 1) + 1) * W ^ (n - 1) := by
      have := Nat.div_add_mod (vl b) (W ^ (n - 1))
      have h3 := Nat.mod_lt (vl b) hn1
      rw [Nat.add_mul, Nat.one_mul, Nat.mul_comm]
      omega
    have h4 : (vl b / W ^ (n - 1) + 1) * 2 ^ s ≤ W := by
      have e : 2 ^ bitLen (vl b / W ^ (n - 1)) * 2 ^ s = W := by
        rw [← Nat.pow_add, show bitLen (vl b / W ^ (n - 1)) + s = 64 by omega]
      have h8 := Nat.mul_le_mul_right (2 ^ s) (Nat.succ_le_of_lt h1)
      rw [e] at h8
      exact h8
    have h5 : vl b * 2 ^ s < (vl b / W ^ (n - 1) + 1) * W ^ (n - 1) * 2 ^ s := Nat.mul_lt_mul_of_pos_right h2 hp
    have h6 : (vl b / W ^ (n - 1) + 1) * W ^ (n - 1) * 2 ^ s ≤ W * W ^ (n - 1) := by
      rw [Nat.mul_right_comm]; exact Nat.mul_le_mul_right _ h4
    have h7 : W * W ^ (n - 1) = W ^ n := by rw [Nat.mul_comm, ← Nat.pow_succ]; congr 1; omega
    omega
  have hV0 : 0 < vl b * 2 ^ s := Nat.mul_pos (by omega) hp
  have kl1 := d_left oa (by omega) hs63
  have kl2 := d_left ob (by omega) hs63
  rw [← hmd] at kl1
  rw [← hnd] at kl2
  have hstart : vl a * 2 ^ s / W ^ (m - n + 1) < vl b * 2 ^ s := by
    rw [Nat.div_lt_iff_lt_mul (Nat.pow_pos W0)]
    have h1 : vl a * 2 ^ s < W ^ m * 2 ^ s := Nat.mul_lt_mul_of_pos_right hA hp
    have h2 : W ^ (n - 1) * 2 ^ s * W ^ (m - n + 1) ≤ vl b * 2 ^ s * W ^ (m - n + 1) := Nat.mul_le_mul_right _ (Nat.mul_le_mul_right _ hb)
    have h3 : W ^ (n - 1) * 2 ^ s * W ^ (m - n + 1) = W ^ m * 2 ^ s := by
      rw [Nat.mul_right_comm, ← Nat.pow_add]; congr 2; omega
    omega
  have hst := fun k (hk : k < m - n + 1) => long_step (A := vl a * 2 ^ s) (V := vl b * 2 ^ s) (n := n) (m := m + 1) (k := k) hV0 hVn hn (by omega) (by omega)
  have hQ : vl a * 2 ^ s / (vl b * 2 ^ s) = vl a / vl b := Nat.mul_div_mul_right _ _ hp
  have hR : vl a * 2 ^ s % (vl b * 2 ^ s) = vl a % vl b * 2 ^ s := Nat.mul_mod_mul_right ..
  rw [hQ] at hst
  have h0r : tab W (remK (vl a * 2 ^ s) (vl b * 2 ^ s) (m - n + 1)) (m + 1) = tab W (vl a * 2 ^ s) (m + 1) := by rw [remK_top hstart]
  have hQl : vl a / vl b < W ^ (m - n + 1) := by
    rw [Nat.div_lt_iff_lt_mul (by omega)]
    have h1 : W ^ (m - n + 1) * W ^ (n - 1) ≤ W ^ (m - n + 1) * vl b := Nat.mul_le_mul_left _ hb
    rw [← Nat.pow_add, show m - n + 1 + (n - 1) = m by omega] at h1
    omega
  have hRl : vl a % vl b * 2 ^ s < W ^ (m + 1) := by
    refine Nat.lt_of_lt_of_le (Nat.lt_trans (Nat.mul_lt_mul_of_pos_right (Nat.mod_lt _ (by omega)) hp) hVn) (Nat.pow_le_pow_right W0 (by omega))
  have ksh : PC E 119 [.lst (m + 1) (U (tab W (remK (vl a * 2 ^ s) (vl b * 2 ^ s) 0) (m + 1))), .int .i64 s] (.tuple [NN (vl a % vl b), .bool false]) := by
    have hnum : Num (NL (tab W (vl a % vl b * 2 ^ s) (m + 1))) (vl a % vl b * 2 ^ s) := ⟨_, rfl, ok_tab W0 _ _, (dv_tab _ _).trans (Nat.mod_eq_of_lt hRl), by rw [tab_length]; omega⟩
    have := k_Shrn hnum s
    rw [Nat.mul_div_cancel _ hp, Nat.mul_mod_left] at this
    rw [remK_zero, hR]
    unfold NL at this
    rw [tab_length] at this
    exact this
  have kba : PC E 76 [.lst (m - n + 1) (U (outL (vl a / vl b) (m - n + 1) 0))] (NN (vl a / vl b)) := by
    rw [outL_zero]
    exact PC.at_list (n_Bare (tab W (vl a / vl b) (m - n + 1)) (by rw [tab_length]; omega) (ok_tab W0 _ _)) (tab_length _ _ _) ((dv_tab _ _).trans (Nat.mod_eq_of_lt hQl))
  have hout0 : U (outL (vl a / vl b) (m - n + 1) (m - n + 1)) = List.replicate (m - n + 1) (.int .u64 0) := by rw [outL_all, U_replicate]
  have hset := fun i (hi : i < m - n + 1) => outL_set (X := vl a / vl b) hi
  have hlenU : ∀ i, (U (outL (vl a / vl b) (m - n + 1) i)).length = m - n + 1 := fun i => by unfold U; rw [List.length_map, outL_len]
  have hvd : ∀ i, i < n + 1 → (U (tab W (vl b * 2 ^ s) (n + 1)))[i]? = some (.int .u64 ((vl b * 2 ^ s / W ^ i % W : Nat) : Int)) := fun i hi => tab_getU hi
  rw [← h0r] at kl1
  clear h0r hQ hR hQl hRl hstart hV0 hVn nb1 nb2 nb3 hbp hB2 htop0 hA hB hb oa ob hs hp hn1
  obtain ⟨RU, hRU⟩ : ∃ RU : Nat → List PV, ∀ k, U (tab W (remK (vl a * 2 ^ s) (vl b * 2 ^ s) k) (m + 1)) = RU k := ⟨_, fun _ => rfl⟩
  obtain ⟨RV, hRV⟩ : ∃ RV : List PV, U (tab W (vl b * 2 ^ s) (n + 1)) = RV := ⟨_, rfl⟩
  obtain ⟨G, hG⟩ : ∃ G : Nat → Nat, ∀ i, vl a / vl b / W ^ i % W = G i := ⟨_, fun _ => rfl⟩
  obtain ⟨VD, hVD⟩ : ∃ VD : Nat → Nat, ∀ i, vl b * 2 ^ s / W ^ i % W = VD i := ⟨_, fun _ => rfl⟩
  obtain ⟨O, hO⟩ : ∃ O : Nat → List PV, ∀ i, U (outL (vl a / vl b) (m - n + 1) i) = O i := ⟨_, fun _ => rfl⟩
  simp only [hRU, hRV, hG, hVD, hO] at kl1 kl2 hst ksh kba hout0 hset hlenU hvd
  clear hRU hRV hG hVD hO
  obtain ⟨B1, hB1⟩ : ∃ x, x = vl b / W ^ (n - 1) := ⟨_, rfl⟩
  obtain ⟨Qf, hQf⟩ : ∃ x, x = NN (vl a / vl b) := ⟨_, rfl⟩
  obtain ⟨Rf, hRf⟩ : ∃ x, x = NN (vl a % vl b) := ⟨_, rfl⟩
  rw [← hB1] at hg klz
  rw [← hQf] at kba ⊢
  rw [← hRf] at ksh ⊢
  clear hB1 hQf hRf
  have w1 : IntKind.wrap .i64 ((n : Int) - 1) = ((n - 1 : Nat) : Int) := by rw [wrap64 (by omega) (by omega)]; omega
  have w2 : IntKind.wrap .i64 ((m : Int) - (n : Int)) = ((m - n : Nat) : Int) := by rw [wrap64 (by omega) (by omega)]; omega
  have w3 : IntKind.wrap .i64 (((m - n : Nat) : Int) + 1) = ((m - n + 1 : Nat) : Int) := by rw [wrap64 (by omega) (by omega)]; omega
  have w4 : IntKind.wrap .i64 (((m - n + 1 : Nat) : Int) - 1) = ((m - n + 1 : Nat) : Int) - 1 := wrap64 (by omega) (by omega)
  have w5 : IntKind.wrap .i64 ((n : Int) - 2) = ((n - 2 : Nat) : Int) := by rw [wrap64 (by omega) (by omega)]; omega
  simp only [NL, u, ← hnd, ← hmd] at kl1 kl2 klz ⊢
  generalize U a = UA at *
  generalize U b = UB at *
  refine PC.of_body follows Tryd.func148 (by decide +kernel) rfl (by kernel_rfl) (Nat.le_of_ble_eq_true rfl) (walk ?_)
  simp only [Tryd.f148, w1, go_sem]
  refine qand_i (by omega) ?_
  simp only [Tryd.f148, w1, go_sem]
  refine qval_i (congrArg (Option.map _) hg) ?_
  simp only [Tryd.f148, w1, go_sem]
  refine qcall_i (klz) ?_; simp only [Tryd.f148, w1, go_sem]
  refine qinl_i [] kl1 rfl (by decide) rfl (fun i b k hb => by simp at hb) (by intro d h; simp) (by intro h; cases h) ?_
  simp only [Tryd.f148, ren, eraO, eraL, List.getD_cons_zero, List.filter_cons, List.filter_nil, go_sem]
  refine qinl_i [] kl2 rfl (by decide) rfl (fun i b k hb => by simp at hb) (by intro d h; simp) (by intro h; cases h) ?_
  simp only [Tryd.f148, ren, eraO, eraL, List.getD_cons_zero, List.filter_cons, List.filter_nil, w2, w3, w4, go_sem]
  repeat' ((with_reducible refine qand_i (by omega) ?_); simp only [Tryd.f148, w2, w3, w4, go_sem])
  refine PLoop.intro (fun i : Nat => ⟨[(6, .val (.int .i64 n)), (7, .val (.int .i64 s)), (8, .row 27), (9, .sub 30 0 n), (10, .row 38), (11, .val (.int .i64 ((i : Int) - 1)))],
    [(27, (.row 22 1 (m + 1) (RU i), false)), (30, (.row 22 1 (n + 1) RV, false)), (38, (.row 22 1 (m - n + 1) (O i), false))]⟩) (fun i => i ≤ m - n + 1) (fun i => i) (m - n + 1) (Nat.le_refl _) ?_ fun i hi => walk ?_
  · rw [hout0]
    simp [Wk, sget, killL, kill1, SV.key]
  rcases i with _ | k
  · simp only [Tryd.f148, go_sem]
    refine qif_df (by omega) ?_
    simp only [Tryd.f148, go_sem]
    refine qcall_i (ksh) ?_; simp only [Tryd.f148, go_sem]
    refine qcall_i (kba) ?_; simp only [Tryd.f148, go_sem]
    try rfl
  have we : ((k + 1 : Nat) : Int) - 1 = (k : Int) := by omega
  have wi : IntKind.wrap .i64 ((k : Int) - 1) = (k : Int) - 1 := wrap64 (by omega) (by omega)
  have wa : IntKind.wrap .i64 ((k : Int) + (n : Int)) = ((k + n : Nat) : Int) := by rw [wrap64 (by omega) (by omega)]; omega
  have wb : IntKind.wrap .i64 (((k + n : Nat) : Int) + 1) = ((k + n + 1 : Nat) : Int) := by rw [wrap64 (by omega) (by omega)]; omega
  have wc : k + n + 1 - k = n + 1 := by omega
  obtain ⟨F, d0, g1, g2, g3, kg, kt, kp⟩ := hst k (by omega)
  have v1 := hvd (n - 1) (by omega)
  have v2 := hvd (n - 2) (by omega)
  have x2 := hset k (by omega)
  have x3 := hlenU (k + 1)
  clear hst kl1 kl2 klz hg hvd hset hlenU
  simp only [Tryd.f148, we, wa, wb, go_sem]
  refine qif_dt (by omega) ?_
  simp only [Tryd.f148, we, wa, wb, go_sem]
  repeat' ((with_reducible refine qand_i (by omega) ?_); simp only [Tryd.f148, we, wa, wb, wc, w1, w5, go_sem])
  refine qval_i (congrArg (Option.map _) v1) ?_
  simp only [Tryd.f148, we, wa, wb, wc, w1, w5, go_sem]
  repeat' ((with_reducible refine qand_i (by omega) ?_); simp only [Tryd.f148, we, wa, wb, wc, w1, w5, go_sem])
  refine qval_i (congrArg (Option.map _) v2) ?_
  simp only [Tryd.f148, we, wa, wb, wc, w1, w5, go_sem]
  refine qinl_i [27] (kg) rfl (by decide) rfl (one_blk rfl) (by intro d h; first | (cases h; decide) | cases h) (by intro h; first | rfl | cases h) ?_; simp only [Tryd.f148, ren, eraO, eraL, List.getD_cons_zero, List.getD_cons_succ, List.filter_cons, List.filter_nil, go_sem]
  refine qinl_i [27,30] (kt) rfl (by decide) rfl (two_blk ⟨rfl, rfl⟩) (by intro d h; first | (cases h; decide) | cases h) (by intro h; first | rfl | cases h) ?_; simp only [Tryd.f148, ren, eraO, eraL, List.getD_cons_zero, List.getD_cons_succ, List.filter_cons, List.filter_nil, go_sem]
  refine PLoop.intro (fun d : Nat => ⟨[(6, .val (.int .i64 n)), (7, .val (.int .i64 s)), (8, .row 27), (9, .sub 30 0 n), (10, .row 38), (11, .val (.int .i64 k)), (12, .sub 27 k (n + 1)), (13, .val (.int .u64 d)), (14, .val (.bool (decide (G k < d))))],
    [(27, (.row 22 1 (m + 1) (F d), false)), (30, (.row 22 1 (n + 1) RV, false)), (38, (.row 22 1 (m - n + 1) (O (k + 1)), false))]⟩) (fun d => G k ≤ d ∧ d < W) (fun d => d) d0 ⟨g1, g2⟩ ?_ fun d hd => walk ?_
  · simp [Wk, sget, killL, kill1, SV.key]
  obtain ⟨j1, j2⟩ := hd
  by_cases hlt : G k < d
  · have kp := kp d hlt j2
    have e : (!decide (d - 1 = G k)) = decide (G k < d - 1) := by
      by_cases h : d - 1 = G k
      · rw [decide_eq_true h, decide_eq_false (by omega)]; rfl
      · rw [decide_eq_false h, decide_eq_true (by omega)]; rfl
    have wd : IntKind.wrap .u64 ((d : Int) - 1) = ((d - 1 : Nat) : Int) := by rw [IntKind.wrap_u64]; have : d < 18446744073709551616 := j2; omega
    rw [decide_eq_true hlt]
    simp only [Tryd.f148, wd, go_sem]
    refine qinl_i [27,30] (kp) rfl (by decide) rfl (two_blk ⟨rfl, rfl⟩) (by intro d h; first | (cases h; decide) | cases h) (by intro h; first | rfl | cases h) ?_; simp only [Tryd.f148, e, ren, eraO, eraL, List.getD_cons_zero, List.getD_cons_succ, List.filter_cons, List.filter_nil, go_sem]
    refine ⟨d - 1, ⟨by omega, by omega⟩, by omega, ?_⟩
    simp [Wk, sget, killL, kill1, SV.key, e]
  · have hde : d = G k := by omega
    subst hde
    rw [decide_eq_false hlt, g3]
    simp only [Tryd.f148, go_sem]
    repeat' ((with_reducible refine qand_i (by first | omega | (rw [x3]; omega)) ?_); simp only [Tryd.f148, wi, go_sem])
    refine ⟨k, by omega, by omega, ?_⟩
    simp [Wk, sget, killL, kill1, SV.key, x2]
/-- Division by any number but 0. -/
theorem k_Div {p q : PV} {x y : Nat} (h : Num p x) (h' : Num q y) (hx : bitLen x ≤ 1000000) (hy : bitLen y ≤ 1000000) (h0 : y ≠ 0) : PC E 123 [p, q] (.tuple [NN (x / y), NN (x % y), .int .i64 0]) := by
  have k1 := k_Bare h
  have k2 := k_Bare h'
  have k3 := k_Cmp (num_bits hx) (num_bits hy)
  have lx : (dg W x).length ≤ 15625 := w_of_bits (n := 15625) (by omega)
  have ly : (dg W y).length ≤ 15625 := w_of_bits (n := 15625) (by omega)
  have ox := ok_dg W2 x
  have oy := ok_dg W2 y
  have vx : vl (dg W x) = x := dv_dg W2 x
  have vy : vl (dg W y) = y := dv_dg W2 y
  have hylen : (dg W y).length ≠ 0 := fun h => h0 (by rw [← vy, List.eq_nil_of_length_eq_zero h]; rfl)
  by_cases hlt : x < y
  · have hs : sgn (x : Int) (y : Int) = -1 := by unfold sgn; rw [if_pos (by omega)]
    rw [hs] at k3
    rw [Nat.div_eq_of_lt hlt, Nat.mod_eq_of_lt hlt]
    have hz : NN 0 = .lst 0 [] := rfl
    rw [hz]
    simp only [NN, NL] at k1 k2 k3 ⊢
    refine PC.of_body follows Tryd.func123 (by decide +kernel) rfl (by kernel_rfl) (Nat.le_of_ble_eq_true rfl) (walk ?_)
    simp only [Tryd.f123, go_sem]
    refine qcall_i (k1) ?_; simp only [Tryd.f123, go_sem]
    refine qcall_i (k2) ?_; simp only [Tryd.f123, go_sem]
    refine qif_df (by omega) ?_
    simp only [Tryd.f123, go_sem]
    refine qcall_i (k3) ?_; simp only [Tryd.f123, go_sem]
    try rfl
  have hs : ¬ sgn (x : Int) (y : Int) < 0 := by
    unfold sgn
    rw [if_neg (by omega)]
    split <;> decide
  by_cases h1 : (dg W y).length = 1
  · obtain ⟨d, hd⟩ : ∃ d, dg W y = [d] := by
      match hh : dg W y, h1 with
      | [d], _ => exact ⟨d, rfl⟩
    have hdy : d = y := by rw [hd] at vy; simpa [vl, dv] using vy
    subst hdy
    have hdW : d < W := oy d (by rw [hd]; simp)
    have k4 := d_Small ox (by omega) hdW h0
    rw [vx] at k4
    have hm : x % d < W := Nat.lt_trans (Nat.mod_lt _ (by omega)) hdW
    have k5 := c_Of (x % d) hm
    simp only [NN, NL, hd, U, List.map_cons, List.map_nil, List.length_cons, List.length_nil, Nat.reduceAdd, u] at k1 k2 k3 k4 k5 ⊢
    refine PC.of_body follows Tryd.func123 (by decide +kernel) rfl (by kernel_rfl) (Nat.le_of_ble_eq_true rfl) (walk ?_)
    simp only [Tryd.f123, Int.cast_ofNat_Int, go_sem]
    refine qcall_i (k1) ?_; simp only [Tryd.f123, Int.cast_ofNat_Int, go_sem]
    refine qcall_i (k2) ?_; simp only [Tryd.f123, Int.cast_ofNat_Int, go_sem]
    refine qcall_i (k3) ?_; simp only [Tryd.f123, Int.cast_ofNat_Int, go_sem]
    refine qif_df hs ?_
    simp only [Tryd.f123, Int.cast_ofNat_Int, go_sem]
    refine qcall_i (k4) ?_; simp only [Tryd.f123, Int.cast_ofNat_Int, go_sem]
    refine qcall_i (k5) ?_; simp only [Tryd.f123, Int.cast_ofNat_Int, go_sem]
    try rfl
  have hlen : (dg W y).length ≤ (dg W x).length := by
    refine (dg_length_le W2 _ y).2 (Nat.lt_of_le_of_lt (Nat.not_lt.1 hlt) ?_)
    have := dv_lt (dg W x) ox
    rwa [show dv W (dg W x) = x from vx] at this
  have hbig : W ^ ((dg W y).length - 1) ≤ y := Nat.not_lt.1 fun h => by
    have := (dg_length_le W2 ((dg W y).length - 1) y).2 h
    omega
  have k4 := d_long ox oy (by omega) (by omega) hlen (by rw [vy]; exact hbig)
  rw [vx, vy] at k4
  simp only [NN, NL] at k1 k2 k3 k4 ⊢
  refine PC.of_body follows Tryd.func123 (by decide +kernel) rfl (by kernel_rfl) (Nat.le_of_ble_eq_true rfl) (walk ?_)
  simp only [Tryd.f123, go_sem]
  refine qcall_i (k1) ?_; simp only [Tryd.f123, go_sem]
  refine qcall_i (k2) ?_; simp only [Tryd.f123, go_sem]
  refine qif_df (by omega) ?_
  simp only [Tryd.f123, go_sem]
  refine qcall_i (k3) ?_; simp only [Tryd.f123, go_sem]
  refine qif_df hs ?_
  simp only [Tryd.f123, go_sem]
  refine qif_df (by omega) ?_
  simp only [Tryd.f123, go_sem]
  refine qcall_i (k4) ?_; simp only [Tryd.f123, go_sem]
  try rfl
end Go.Proofs.YtejmlngnpekagaaDoor
