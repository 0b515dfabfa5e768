/- The document's rounding: planimeterref07's functions. -/
import Derived.Test.YtejmlngnpekagaaGreatDoorG8
open Go PG Go.Proofs
set_option maxRecDepth 100000
set_option linter.unusedSimpArgs false
set_option linter.unusedVariables false
namespace Go.Proofs.YtejmlngnpekagaaGreatDoor
attribute [local go_sem] Lay2 Lay3 Lay4 Lay5 Lay6 Lay7 Lay8 Lay9 Lay10 Lay11 Lay12 Lay13 Lay14 Lay15 Lay16 Lay17 Lay18 Lay19 Lay21 Lay22 Lay23 Lay25 Lay26 Lay27 Lay30 Lay31 Lay32 Lay33 Lay36 Lay37 Lay41 Lay42 Lay43 Lay47 Lay56 Lay57 Lay59 Lay60 Lay65 Lay66 Lay74 Lay75 Lay105 Lay114 Lay145 Lay146 Lay149 Lay150 Lay151 Lay173 Lay185 Lay189 Lay204 Lay205 Lay208 Lay214 Lay215 Lay216 Lay217 Lay218 Lay220 Lay221 Lay223 Lay224 Lay225 Lay228 qexec_seq qexec_skip qexec_exit qexec_ret qexec_block qexec_loop qexec_range qexec_cond qexec_region qexec_drawn qops_nil qops_none qops_some put_some put_none pblk_exit pblk_other newDsts_nil inlDsts_nil isInl sget_cons sget_nil qval_some qbool_some qgs_bool qgs_und qfree_some qgrd_true qgrd_false qif_true qif_false qval_ite qval_itn qand_true map_ite map_some' map_none' qdo_move qdo_assign qdo_binOp qdo_pick qdo_unOp qdo_convert qdo_extract qdo_field qdo_fieldAddr qdo_alloc qdo_box qdo_build qdo_buildSlice qdo_load qdo_store qdo_nilCheck qdo_makeFunc qdo_makeSlice qdo_slice qdo_indexAddr qdo_call qcont_val qcont_new qcont_st qcont_app0 qcont_app qcont_inl qcont_call njSV_val njSV_nil njSV_row njSV_ptr njSV_sub binV_val binV_nil binV_nn binV_ptr bin_np bin_nnp nilCmp bin_add bin_sub bin_mul bin_quo bin_rem bin_and bin_or bin_xor bin_andNot bin_eql bin_neq bin_lss bin_leq bin_gtr bin_geq bin_shl bin_shr bin_seql bin_sneq bin_sadd bin_beql bin_aeql bin_aneq eqAnd_some eqCells_nil eqCells_cons fieldTypes isStruct eqCell bin_bneq un_not un_neg nj_ite Nat.beq stepA stepR isNew opSV constSV RV.sv allSome E_mu E_own qkeyIn_none qkeyIn_some qkeyAt_none qkeyAt_some Bool.or_false Bool.false_or Bool.or_true Bool.true_or cst setB res resSV pstart startL killL kill1 eraL frzL svPV rvPV rvInt rvSlice frzOf close closeL pconv pbuiltin pmax2 partPV setCells fillPV zrow bound newSV PV.cells Bk.cells Bk.with SV.key pres presL_nil presL_tmp presL_cell presC2_some cellPV_ptr presC List.toList_toArray List.size_toArray List.getElem?_drop Nat.mul_one Int.toNat_natCast Nat.not_lt_zero Nat.lt_irrefl decide_true decide_false Nat.not_lt Option.some.injEq PV.lst.injEq PV.int.injEq PV.bool.injEq PV.tuple.injEq List.cons.injEq Option.map_some Option.map_none Option.bind_some Option.toList List.map_cons List.map_nil List.nil_append List.cons_append List.append_nil List.zip_cons_cons List.zip_nil_left List.zip_nil_right List.getElem?_cons_zero List.getElem?_cons_succ List.drop_zero List.drop_succ_cons List.take_succ_cons List.take_zero List.set_cons_zero List.set_cons_succ List.length_cons List.length_nil List.length_set List.replicate_one List.replicate_zero bne_self_eq_false beq_self_eq_true Nat.zero_add Nat.add_zero Nat.zero_mul Bool.false_eq_true Bool.true_eq_false Bool.not_true Bool.not_false and_true true_and false_and and_false or_false false_or or_true true_or not_true_eq_false not_false_eq_true ne_eq gt_iff_lt List.mem_cons List.not_mem_nil
attribute [local go_sem ↓] pseq_normal pseq_ret pseq_exit pblk_normal pblk_ret newDsts_cons inlDsts_cons gdst_zero gdst_succ retQ_normal retQ_ret qneed_nil qneed_cons retM_normal retM_ret endR_normal endR_ret endR_exit
attribute [local go_sem] Int.reduceToNat Int.reduceEq Int.reduceNe Int.reduceLT Int.reduceLE Int.reduceNeg Int.reduceAdd Nat.reduceEqDiff Nat.reduceAdd Nat.reduceSub Nat.reduceMul Nat.reduceLeDiff Nat.reduceLT
attribute [local go_sem ↓] reduceIte reduceCtorEq

theorem dgB_one {x : Nat} (h0 : x ≠ 0) (h : x < B) : dg B x = [x] := by
  rw [dg_eq B2, if_neg h0, Nat.div_eq_of_lt h, Nat.mod_eq_of_lt h, dg_eq B2, if_pos rfl]
theorem VN_one : VN 1 = .lst 1 [.int .u32 1] := by unfold VN VL V; rw [dgB_one (by decide) (by decide)]; rfl
theorem k_5Cmp {a b : Dy} (ha : bitLen a.m ≤ 1000000) (hb : bitLen b.m ≤ 1000000) (h1 : -10000000000 ≤ a.e ∧ a.e ≤ 10000000000) (h2 : -10000000000 ≤ b.e ∧ b.e ≤ 10000000000) :
    PC E 33 [a.nv, b.nv] (.int .i64 (cmpD a b)) :=
  c_5Cmp a b ha hb (by omega) (by omega) fun h0 h0' ht => by
    rw [top_of h0, top_of h0'] at ht
    omega

theorem c_Limit : PC E 140 [] (fd INF).nv := by
  have e : (fd INF).nv = .agg [.bool false, .lst 1 [.int .u32 1], .int .i64 1024] := by rw [fd_INF, ← VN_one]; rfl
  rw [e]
  refine PC.of_body follows Tryz.func140 (by decide +kernel) rfl (by kernel_rfl) (Nat.le_of_ble_eq_true rfl) (walk ?_)
  simp only [Tryz.f140, go_sem]
theorem INF_W {b : Nat} (h : b ≤ INF) : b < W := Nat.lt_of_le_of_lt h (by decide)
theorem c_7value (b : Nat) (hb : b ≤ INF) : PC E 76 [u b] (fd b).nv := by
  refine PC.of_body follows Tryz.func76 (by decide +kernel) rfl (by kernel_rfl) (Nat.le_of_ble_eq_true rfl) (walk ?_)
  have k1 := c_Limit
  have k2 := c_Worth b (INF_W hb)
  have hI : INF = 9218868437227405312 := rfl
  by_cases h : b = INF
  · subst h
    generalize fd INF = d at *
    simp only [u, Dy.nv, DP, VN, VL] at k1 k2 ⊢
    simp only [Tryz.f76, go_sem]
    refine qif_dt (by rw [hI]; rfl) ?_
    simp only [Tryz.f76, go_sem]
    refine qcall_i (k1) ?_; simp only [Tryz.f76, go_sem]
    rfl
  · generalize fd b = d at *
    simp only [u, Dy.nv, DP, VN, VL] at k1 k2 ⊢
    simp only [Tryz.f76, go_sem]
    refine qif_df (by omega) ?_
    simp only [Tryz.f76, go_sem]
    refine qcall_i (k2) ?_; simp only [Tryz.f76, go_sem]
    rfl

theorem c_Below {n : Dy} {b : Nat} (hb : Bel b n) (hn : bitLen n.m ≤ 1000000) (he : -10000000000 ≤ n.e ∧ n.e ≤ 10000000000) : PC E 75 [n.nv] (u b) := by
  refine PC.of_body follows Tryz.func75 (by decide +kernel) rfl (by kernel_rfl) (Nat.le_of_ble_eq_true rfl) (walk ?_)
  have hI : INF = 9218868437227405312 := rfl
  have kc : ∀ c, PC E 33 [(fd c).nv, n.nv] (.int .i64 (cmpD (fd c) n)) := fun c => by
    have := fd_e c
    exact k_5Cmp (by have := fd_bits c; omega) hn (by omega) he
  have k1 := c_Limit
  have k2 := kc INF
  have h0 : cmpD (fd 0) n ≤ 0 := fd_le_trans hb.1 (Nat.zero_le _) hb.2.1
  have hun : ∀ c, Bel c n → c = b := fun c hc => bel_unique hc hb
  have kv := c_7value
  simp only [u, Dy.nv, DP, VN, VL] at k1 k2 kc kv ⊢
  simp only [Tryz.f75, go_sem]
  refine qcall_i (k1) ?_; simp only [Tryz.f75, go_sem]
  refine qcall_i (k2) ?_; simp only [Tryz.f75, go_sem]
  refine qif_d (fun h => ?_) (fun h => ?_)
  · simp only [Tryz.f75, go_sem]
    rw [← hun INF ⟨Nat.le_refl _, h, .inl rfl⟩]
    rfl
  simp only [Tryz.f75, go_sem]
  refine PLoop.intro (fun i : Nat × Nat => ⟨[(1, .ptr 1 0), (3, .val (.int .u64 i.1)), (4, .val (.int .u64 i.2))], [(1, (.box [.bool n.s, .lst (dg B n.m).length (V (dg B n.m)), .int .i64 n.e], false))]⟩)
    (fun i => i.1 < i.2 ∧ i.2 ≤ INF ∧ cmpD (fd i.1) n ≤ 0 ∧ 0 < cmpD (fd i.2) n) (fun i => i.2 - i.1) (0, INF) ⟨by decide, Nat.le_refl _, h0, by dsimp only; omega⟩ ?_ fun i hi => walk ?_
  · simp [Wk, sget, killL, kill1, SV.key, NL, VL, u, e32]
    rfl
  obtain ⟨lo, hi'⟩ := i
  obtain ⟨h1, h2, h3, h4⟩ := hi
  simp only at h1 h2 h3 h4
  have e1 : IntKind.wrap .u64 ((hi' : Int) - (lo : Int)) = ((hi' - lo : Nat) : Int) := by
    rw [show (hi' : Int) - lo = ((hi' - lo : Nat) : Int) by omega]; exact wrap_nat64 (INF_W (by omega))
  have e2 : IntKind.wrap .u64 (((hi' - lo : Nat) : Int).tdiv 2) = (((hi' - lo) / 2 : Nat) : Int) := by
    rw [show (((hi' - lo : Nat) : Int).tdiv 2) = (((hi' - lo) / 2 : Nat) : Int) from n_tdiv _ 2]; exact wrap_nat64 (INF_W (by omega))
  have e3 : IntKind.wrap .u64 ((lo : Int) + (((hi' - lo) / 2 : Nat) : Int)) = ((lo + (hi' - lo) / 2 : Nat) : Int) := by
    rw [show (lo : Int) + (((hi' - lo) / 2 : Nat) : Int) = ((lo + (hi' - lo) / 2 : Nat) : Int) by omega]; exact wrap_nat64 (INF_W (by omega))
  have k3 := kv (lo + (hi' - lo) / 2) (by omega)
  have k4 := kc (lo + (hi' - lo) / 2)
  simp only [Tryz.f75, e1, go_sem]
  refine qif_d (fun h5 => ?_) (fun h5 => ?_)
  · simp only [Tryz.f75, e1, e2, e3, go_sem]
    refine qcall_i (k3) ?_; simp only [Tryz.f75, go_sem]
    refine qcall_i (k4) ?_; simp only [Tryz.f75, go_sem]
    refine qif_d (fun h6 => ?_) (fun h6 => ?_)
    · simp only [Tryz.f75, go_sem]
      refine ⟨(lo + (hi' - lo) / 2, hi'), ⟨by dsimp only; omega, h2, h6, h4⟩, by dsimp only; omega, ?_⟩
      simp [Wk, sget, killL, kill1, SV.key, NL, VL, u, e32]
    · simp only [Tryz.f75, go_sem]
      refine ⟨(lo, lo + (hi' - lo) / 2), ⟨by dsimp only; omega, by dsimp only; omega, h3, by dsimp only; omega⟩, by dsimp only; omega, ?_⟩
      simp [Wk, sget, killL, kill1, SV.key, NL, VL, u, e32]
  · simp only [Tryz.f75, go_sem]
    have e4 : hi' = lo + 1 := by omega
    subst e4
    rw [← hun lo ⟨by omega, h3, .inr h4⟩]
    rfl

/-- The document's sum is worth the sum. -/
theorem addD_ge {a b : Dy} {k : Int} (ha : a.ge k) (hb : b.ge k) : (addD a b).ge k := by
  unfold addD
  by_cases za : a.m = 0
  · rw [if_pos za]; exact hb
  by_cases zb : b.m = 0
  · rw [if_neg za, if_pos zb]; exact ha
  have g1 := ha.resolve_left za
  have g2 := hb.resolve_left zb
  rw [if_neg za, if_neg zb]
  split
  · exact .inr (show k ≤ min a.e b.e by omega)
  · split <;> exact .inr (show k ≤ min a.e b.e by omega)
theorem addD_at {a b : Dy} {k : Int} (ha : a.ge k) (hb : b.ge k) : (addD a b).at k = a.at k + b.at k := by
  by_cases za : a.m = 0
  · rw [at_zero za, Int.zero_add]; unfold addD; rw [if_pos za]
  by_cases zb : b.m = 0
  · rw [at_zero zb, Int.add_zero]; unfold addD; rw [if_neg za, if_pos zb]
  have g1 := ha.resolve_left za
  have g2 := hb.resolve_left zb
  have hge := addD_ge (a := a) (b := b) (k := min a.e b.e) (.inr (by omega)) (.inr (by omega))
  rw [at_shift' (d := addD a b) (k' := min a.e b.e) (by omega) hge, at_shift' (d := a) (k' := min a.e b.e) (by omega) (.inr (by omega)), at_shift' (d := b) (k' := min a.e b.e) (by omega) (.inr (by omega)), ← Int.add_mul]
  congr 1
  unfold addD
  rw [if_neg za, if_neg zb]
  unfold Dy.at
  generalize hk : min a.e b.e = k' at *
  generalize a.m * 2 ^ (a.e - k').toNat = x
  generalize b.m * 2 ^ (b.e - k').toNat = y
  by_cases hs : a.s = b.s
  · rw [if_pos hs, hs]
    dsimp only
    rw [Int.sub_self, show (0 : Int).toNat = 0 from rfl, Nat.pow_zero, Nat.mul_one]
    cases b.s <;> simp <;> omega
  · rw [if_neg hs]
    by_cases hxy : y ≤ x
    · rw [if_pos hxy]
      dsimp only
      rw [Int.sub_self, show (0 : Int).toNat = 0 from rfl, Nat.pow_zero, Nat.mul_one]
      revert hs
      cases a.s <;> cases b.s <;> simp <;> omega
    · rw [if_neg hxy]
      dsimp only
      rw [Int.sub_self, show (0 : Int).toNat = 0 from rfl, Nat.pow_zero, Nat.mul_one]
      revert hs
      cases a.s <;> cases b.s <;> simp <;> omega
theorem addD_bits {a b : Dy} {N : Nat} (h1 : bitLen a.m + (a.e - min a.e b.e).toNat ≤ N) (h2 : bitLen b.m + (b.e - min a.e b.e).toNat ≤ N) : bitLen (addD a b).m ≤ N + 1 := by
  have s1 := bitLen_shl_le a.m (a.e - min a.e b.e).toNat
  have s2 := bitLen_shl_le b.m (b.e - min a.e b.e).toNat
  unfold addD
  generalize a.m * 2 ^ (a.e - min a.e b.e).toNat = x at *
  generalize b.m * 2 ^ (b.e - min a.e b.e).toNat = y at *
  have h3 := bitLen_add (x := x) (y := y) (n := N) (by omega) (by omega)
  have h4 := bitLen_mono (Nat.sub_le x y)
  have h5 := bitLen_mono (Nat.sub_le y x)
  split
  · omega
  · split
    · omega
    · split
      · exact h3
      · split
        · show bitLen (x - y) ≤ _; omega
        · show bitLen (y - x) ≤ _; omega
/-- The middle, as the document makes it: not bare. -/
def mid7 (b : Nat) : Dy := ⟨(addD (fd b) (fd (b + 1))).s, (addD (fd b) (fd (b + 1))).m, (addD (fd b) (fd (b + 1))).e - 1⟩
theorem mid7_ge (b : Nat) : (mid7 b).ge (-1075) := by
  rcases addD_ge (fd_ge b) (fd_ge (b + 1)) with h | h
  · exact .inl h
  · exact .inr (show -1075 ≤ (addD (fd b) (fd (b + 1))).e - 1 by omega)
theorem mid7_at {b : Nat} (hb : b < INF) : (mid7 b).at (-1075) = (mid b).at (-1075) := by
  have hI := INF_lt
  have h := addD_at (fd_ge b) (fd_ge (b + 1))
  rw [fd_at, fd_at, fs_small (by omega), fs_small (by omega)] at h
  rw [mid_sum hb]
  have e : (mid7 b).at (-1075) = (addD (fd b) (fd (b + 1))).at (-1074) := by
    unfold mid7 Dy.at
    dsimp only
    rw [show (addD (fd b) (fd (b + 1))).e - 1 - -1075 = (addD (fd b) (fd (b + 1))).e - -1074 by omega]
  rw [e, h]
  simp
theorem mid7_bits (b : Nat) : bitLen (mid7 b).m ≤ 3001 := by
  have e1 := fd_e b
  have e2 := fd_e (b + 1)
  have b1 := fd_bits b
  have b2 := fd_bits (b + 1)
  exact addD_bits (N := 3000) (by omega) (by omega)
theorem addD_e {a b : Dy} {l h : Int} (ha : l ≤ a.e ∧ a.e ≤ h) (hb : l ≤ b.e ∧ b.e ≤ h) : l ≤ (addD a b).e ∧ (addD a b).e ≤ h := by
  unfold addD
  split
  · exact hb
  · split
    · exact ha
    · split
      · exact ⟨show l ≤ min a.e b.e by omega, show min a.e b.e ≤ h by omega⟩
      · split <;> exact ⟨show l ≤ min a.e b.e by omega, show min a.e b.e ≤ h by omega⟩
theorem mid7_e (b : Nat) : -1075 ≤ (mid7 b).e ∧ (mid7 b).e ≤ 1025 := by
  have := addD_e (fd_e b) (fd_e (b + 1))
  exact ⟨show -1075 ≤ (addD (fd b) (fd (b + 1))).e - 1 by omega, show (addD (fd b) (fd (b + 1))).e - 1 ≤ 1025 by omega⟩
theorem cmp_mid7 {b : Nat} (hb : b < INF) (n : Dy) : cmpD n (mid7 b) = cmpD n (mid b) := by
  have h1 : (mid7 b).ge (min n.e (-1075)) := (mid7_ge b).mono (by omega)
  have h2 : (mid b).ge (min n.e (-1075)) := (mid_ge b).mono (by omega)
  have h3 : n.ge (min n.e (-1075)) := .inr (by omega)
  rw [cmp_at h3 h1, cmp_at h3 h2, at_shift' (d := mid7 b) (k' := -1075) (by omega) (mid7_ge b), at_shift' (d := mid b) (k' := -1075) (by omega) (mid_ge b), mid7_at hb]
theorem c_7Middle (b : Nat) (hb : b < INF) : PC E 77 [u b] (mid7 b).nv := by
  refine PC.of_body follows Tryz.func77 (by decide +kernel) rfl (by kernel_rfl) (Nat.le_of_ble_eq_true rfl) (walk ?_)
  have hI : INF = 9218868437227405312 := rfl
  have k1 := c_7value b (by omega)
  have k2 := c_7value (b + 1) (by omega)
  have e1 := fd_e b
  have e2 := fd_e (b + 1)
  have b1 := fd_bits b
  have b2 := fd_bits (b + 1)
  have e3 := addD_e e1 e2
  have k3 := c_5Add (fd b) (fd (b + 1)) (by omega) (by omega) (by omega) (by omega) (fun _ _ => by omega)
  have w1 : IntKind.wrap .u64 ((b : Int) + 1) = ((b + 1 : Nat) : Int) := by
    rw [show (b : Int) + 1 = ((b + 1 : Nat) : Int) by omega]; exact wrap_nat64 (INF_W (by omega))
  unfold mid7
  have w2 : IntKind.wrap .i64 ((addD (fd b) (fd (b + 1))).e - 1) = (addD (fd b) (fd (b + 1))).e - 1 := wrap64 (by omega) (by omega)
  generalize addD (fd b) (fd (b + 1)) = s at *
  generalize fd b = d1 at *
  generalize fd (b + 1) = d2 at *
  simp only [u, Dy.nv, DP, VN, VL] at k1 k2 k3 ⊢
  simp only [Tryz.f77, go_sem]
  refine qcall_i (k1) ?_; simp only [Tryz.f77, w1, go_sem]
  refine qcall_i (k2) ?_; simp only [Tryz.f77, go_sem]
  refine qcall_i (k3) ?_; simp only [Tryz.f77, w2, go_sem]
  rfl
end Go.Proofs.YtejmlngnpekagaaGreatDoor
