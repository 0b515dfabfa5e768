/- Several parts in one text. -/
import Derived.Test.YtmnojbkakgfinaaGreatDoorG8
open Go PG Go.Proofs
namespace Go.Proofs.YtmnojbkakgfinaaGreatDoor
attribute [local go_sem] Lay2 Lay3 Lay4 Lay5 Lay6 Lay7 Lay8 Lay9 Lay10 Lay11 Lay12 Lay13 Lay14 Lay15 Lay16 Lay17 Lay18 Lay19 Lay21 Lay23 Lay24 Lay25 Lay26 Lay27 Lay28 Lay31 Lay32 Lay33 Lay40 Lay43 Lay44 Lay49 Lay50 Lay57 Lay58 Lay61 Lay68 Lay69 Lay72 Lay77 Lay125 Lay133 Lay134 Lay150 Lay167 Lay168 Lay169 Lay170 Lay180 Lay181 Lay185 Lay186 Lay189 Lay205 Lay208 Lay223 Lay227 Lay228 Lay231 Lay232 Lay233 Lay234 Lay235 Lay236 Lay237 Lay238 Lay240 Lay241 Lay242 Lay243 Lay244 Lay245 Lay246 Lay247 Lay249 Lay250 qexec_seq qexec_skip qexec_exit qexec_ret qexec_block qexec_loop qexec_range qexec_cond qexec_region qexec_drawn qops_nil qops_none qops_some put_some put_none pblk_exit pblk_other newDsts_nil inlDsts_nil isInl sget_cons sget_nil qval_some qbool_some qgs_bool qgs_und qfree_some qgrd_true qgrd_false qif_true qif_false qval_ite qval_itn qand_true map_ite map_some' map_none' qdo_move qdo_assign qdo_binOp qdo_pick qdo_unOp qdo_convert qdo_extract qdo_field qdo_fieldAddr qdo_alloc qdo_box qdo_build qdo_buildSlice qdo_load qdo_store qdo_nilCheck qdo_makeFunc qdo_makeSlice qdo_slice qdo_indexAddr qdo_call qcont_val qcont_new qcont_st qcont_app0 qcont_app qcont_inl qcont_call njSV_val njSV_nil njSV_row njSV_ptr njSV_sub binV_val binV_nil binV_nn binV_ptr bin_np bin_nnp nilCmp bin_add bin_sub bin_mul bin_quo bin_rem bin_and bin_or bin_xor bin_andNot bin_eql bin_neq bin_lss bin_leq bin_gtr bin_geq bin_shl bin_shr bin_seql bin_sneq bin_sadd bin_beql bin_aeql bin_aneq eqAnd_some eqCells_nil eqCells_cons fieldTypes isStruct eqCell bin_bneq un_not un_neg nj_ite Nat.beq stepA stepR isNew opSV constSV RV.sv allSome E_mu E_own qkeyIn_none qkeyIn_some qkeyAt_none qkeyAt_some Bool.or_false Bool.false_or Bool.or_true Bool.true_or cst setB res resSV pstart startL killL kill1 eraL frzL svPV rvPV rvInt rvSlice rvBytes frzOf close closeL pconv pbuiltin pmax2 partPV setCells fillPV zrow bound newSV PV.cells Bk.cells Bk.with SV.key pres presL_nil presL_tmp presL_cell presC2_some cellPV_ptr presC List.toList_toArray List.size_toArray List.getElem?_drop Nat.mul_one Int.toNat_natCast Nat.not_lt_zero Nat.lt_irrefl decide_true decide_false Nat.not_lt Option.some.injEq PV.lst.injEq PV.int.injEq PV.bool.injEq PV.tuple.injEq List.cons.injEq Option.map_some Option.map_none Option.bind_some Option.toList List.map_cons List.map_nil List.nil_append List.cons_append List.append_nil List.zip_cons_cons List.zip_nil_left List.zip_nil_right List.getElem?_cons_zero List.getElem?_cons_succ List.drop_zero List.drop_succ_cons List.take_succ_cons List.take_zero List.set_cons_zero List.set_cons_succ List.length_cons List.length_nil List.length_set List.replicate_one List.replicate_zero bne_self_eq_false beq_self_eq_true Nat.zero_add Nat.add_zero Nat.zero_mul Bool.false_eq_true Bool.true_eq_false Bool.not_true Bool.not_false and_true true_and false_and and_false or_false false_or or_true true_or not_true_eq_false not_false_eq_true ne_eq gt_iff_lt List.mem_cons List.not_mem_nil
attribute [local go_sem ↓] pseq_normal pseq_ret pseq_exit pblk_normal pblk_ret newDsts_cons inlDsts_cons gdst_zero gdst_succ retQ_normal retQ_ret qneed_nil qneed_cons retM_normal retM_ret endR_normal endR_ret endR_exit
attribute [local go_sem] Int.reduceToNat Int.reduceEq Int.reduceNe Int.reduceLT Int.reduceLE Int.reduceNeg Int.reduceAdd Nat.reduceEqDiff Nat.reduceAdd Nat.reduceSub Nat.reduceMul Nat.reduceLeDiff Nat.reduceLT
attribute [local go_sem ↓] reduceIte reduceCtorEq
/- The document's rounding: planimeterref07's functions. -/
section
open Go PG Go.Proofs
set_option maxRecDepth 100000
set_option linter.unusedSimpArgs false
set_option linter.unusedVariables false

theorem dgB_one {x : Nat} (h0 : x ≠ 0) (h : x < B) : dg B x = [x] := by
  rw [dg_eq B2, if_neg h0, Nat.div_eq_of_lt h, Nat.mod_eq_of_lt h, dg_eq B2, if_pos rfl]
theorem VN_one : VN 1 = .lst 1 [.int .u32 1] := by unfold VN VL V; rw [dgB_one (by decide) (by decide)]; rfl
theorem k_5Cmp {a b : Dy} (ha : bitLen a.m ≤ 1000000) (hb : bitLen b.m ≤ 1000000) (h1 : -10000000000 ≤ a.e ∧ a.e ≤ 10000000000) (h2 : -10000000000 ≤ b.e ∧ b.e ≤ 10000000000) :
    PC E 73 [a.nv, b.nv] (.int .i64 (cmpD a b)) :=
  c_5Cmp a b ha hb (by omega) (by omega) fun h0 h0' ht => by
    rw [top_of h0, top_of h0'] at ht
    omega

theorem c_Limit : PC E 112 [] (fd INF).nv := by
  have e : (fd INF).nv = .agg [.bool false, .lst 1 [.int .u32 1], .int .i64 1024] := by rw [fd_INF, ← VN_one]; rfl
  rw [e]
  refine PC.of_body follows Tryz.func112 (by decide +kernel) rfl (by kernel_rfl) (Nat.le_of_ble_eq_true rfl) (walk ?_)
  simp only [Tryz.f112, go_sem]
theorem INF_W {b : Nat} (h : b ≤ INF) : b < W := Nat.lt_of_le_of_lt h (by decide)
theorem c_7value (b : Nat) (hb : b ≤ INF) : PC E 74 [u b] (fd b).nv := by
  refine PC.of_body follows Tryz.func74 (by decide +kernel) rfl (by kernel_rfl) (Nat.le_of_ble_eq_true rfl) (walk ?_)
  have k1 := c_Limit
  have k2 := c_Worth b (INF_W hb)
  have hI : INF = 9218868437227405312 := rfl
  by_cases h : b = INF
  · subst h
    generalize fd INF = d at *
    simp only [u, Dy.nv, DP, VN, VL] at k1 k2 ⊢
    simp only [Tryz.f74, go_sem]
    refine qif_dt (by rw [hI]; rfl) ?_
    simp only [Tryz.f74, go_sem]
    refine qcall_i (k1) ?_; simp only [Tryz.f74, go_sem]
    rfl
  · generalize fd b = d at *
    simp only [u, Dy.nv, DP, VN, VL] at k1 k2 ⊢
    simp only [Tryz.f74, go_sem]
    refine qif_df (by omega) ?_
    simp only [Tryz.f74, go_sem]
    refine qcall_i (k2) ?_; simp only [Tryz.f74, go_sem]
    rfl

theorem c_Below {n : Dy} {b : Nat} (hb : Bel b n) (hn : bitLen n.m ≤ 1000000) (he : -10000000000 ≤ n.e ∧ n.e ≤ 10000000000) : PC E 72 [n.nv] (u b) := by
  refine PC.of_body follows Tryz.func72 (by decide +kernel) rfl (by kernel_rfl) (Nat.le_of_ble_eq_true rfl) (walk ?_)
  have hI : INF = 9218868437227405312 := rfl
  have kc : ∀ c, PC E 73 [(fd c).nv, n.nv] (.int .i64 (cmpD (fd c) n)) := fun c => by
    have := fd_e c
    exact k_5Cmp (by have := fd_bits c; omega) hn (by omega) he
  have k1 := c_Limit
  have k2 := kc INF
  have h0 : cmpD (fd 0) n ≤ 0 := fd_le_trans hb.1 (Nat.zero_le _) hb.2.1
  have hun : ∀ c, Bel c n → c = b := fun c hc => bel_unique hc hb
  have kv := c_7value
  simp only [u, Dy.nv, DP, VN, VL] at k1 k2 kc kv ⊢
  simp only [Tryz.f72, go_sem]
  refine qcall_i (k1) ?_; simp only [Tryz.f72, go_sem]
  refine qcall_i (k2) ?_; simp only [Tryz.f72, go_sem]
  refine qif_d (fun h => ?_) (fun h => ?_)
  · simp only [Tryz.f72, go_sem]
    rw [← hun INF ⟨Nat.le_refl _, h, .inl rfl⟩]
    rfl
  simp only [Tryz.f72, go_sem]
  refine PLoop.intro (fun i : Nat × Nat => ⟨[(1, .ptr 1 0), (3, .val (.int .u64 i.1)), (4, .val (.int .u64 i.2))], [(1, (.box [.bool n.s, .lst (dg B n.m).length (V (dg B n.m)), .int .i64 n.e], false))]⟩)
    (fun i => i.1 < i.2 ∧ i.2 ≤ INF ∧ cmpD (fd i.1) n ≤ 0 ∧ 0 < cmpD (fd i.2) n) (fun i => i.2 - i.1) (0, INF) ⟨by decide, Nat.le_refl _, h0, by dsimp only; omega⟩ ?_ fun i hi => walk ?_
  · simp [Wk, sget, killL, kill1, SV.key, NL, VL, u, e32]
    rfl
  obtain ⟨lo, hi'⟩ := i
  obtain ⟨h1, h2, h3, h4⟩ := hi
  simp only at h1 h2 h3 h4
  have e1 : IntKind.wrap .u64 ((hi' : Int) - (lo : Int)) = ((hi' - lo : Nat) : Int) := by
    rw [show (hi' : Int) - lo = ((hi' - lo : Nat) : Int) by omega]; exact wrap_nat64 (INF_W (by omega))
  have e2 : IntKind.wrap .u64 (((hi' - lo : Nat) : Int).tdiv 2) = (((hi' - lo) / 2 : Nat) : Int) := by
    rw [show (((hi' - lo : Nat) : Int).tdiv 2) = (((hi' - lo) / 2 : Nat) : Int) from n_tdiv _ 2]; exact wrap_nat64 (INF_W (by omega))
  have e3 : IntKind.wrap .u64 ((lo : Int) + (((hi' - lo) / 2 : Nat) : Int)) = ((lo + (hi' - lo) / 2 : Nat) : Int) := by
    rw [show (lo : Int) + (((hi' - lo) / 2 : Nat) : Int) = ((lo + (hi' - lo) / 2 : Nat) : Int) by omega]; exact wrap_nat64 (INF_W (by omega))
  have k3 := kv (lo + (hi' - lo) / 2) (by omega)
  have k4 := kc (lo + (hi' - lo) / 2)
  simp only [Tryz.f72, e1, go_sem]
  refine qif_d (fun h5 => ?_) (fun h5 => ?_)
  · simp only [Tryz.f72, e1, e2, e3, go_sem]
    refine qcall_i (k3) ?_; simp only [Tryz.f72, go_sem]
    refine qcall_i (k4) ?_; simp only [Tryz.f72, go_sem]
    refine qif_d (fun h6 => ?_) (fun h6 => ?_)
    · simp only [Tryz.f72, go_sem]
      refine ⟨(lo + (hi' - lo) / 2, hi'), ⟨by dsimp only; omega, h2, h6, h4⟩, by dsimp only; omega, ?_⟩
      simp [Wk, sget, killL, kill1, SV.key, NL, VL, u, e32]
    · simp only [Tryz.f72, go_sem]
      refine ⟨(lo, lo + (hi' - lo) / 2), ⟨by dsimp only; omega, by dsimp only; omega, h3, by dsimp only; omega⟩, by dsimp only; omega, ?_⟩
      simp [Wk, sget, killL, kill1, SV.key, NL, VL, u, e32]
  · simp only [Tryz.f72, go_sem]
    have e4 : hi' = lo + 1 := by omega
    subst e4
    rw [← hun lo ⟨by omega, h3, .inr h4⟩]
    rfl

/-- The document's sum is worth the sum. -/
theorem addD_ge {a b : Dy} {k : Int} (ha : a.ge k) (hb : b.ge k) : (addD a b).ge k := by
  unfold addD
  by_cases za : a.m = 0
  · rw [if_pos za]; exact hb
  by_cases zb : b.m = 0
  · rw [if_neg za, if_pos zb]; exact ha
  have g1 := ha.resolve_left za
  have g2 := hb.resolve_left zb
  rw [if_neg za, if_neg zb]
  split
  · exact .inr (show k ≤ min a.e b.e by omega)
  · split <;> exact .inr (show k ≤ min a.e b.e by omega)
theorem addD_at {a b : Dy} {k : Int} (ha : a.ge k) (hb : b.ge k) : (addD a b).at k = a.at k + b.at k := by
  by_cases za : a.m = 0
  · rw [at_zero za, Int.zero_add]; unfold addD; rw [if_pos za]
  by_cases zb : b.m = 0
  · rw [at_zero zb, Int.add_zero]; unfold addD; rw [if_neg za, if_pos zb]
  have g1 := ha.resolve_left za
  have g2 := hb.resolve_left zb
  have hge := addD_ge (a := a) (b := b) (k := min a.e b.e) (.inr (by omega)) (.inr (by omega))
  rw [at_shift' (d := addD a b) (k' := min a.e b.e) (by omega) hge, at_shift' (d := a) (k' := min a.e b.e) (by omega) (.inr (by omega)), at_shift' (d := b) (k' := min a.e b.e) (by omega) (.inr (by omega)), ← Int.add_mul]
  congr 1
  unfold addD
  rw [if_neg za, if_neg zb]
  unfold Dy.at
  generalize hk : min a.e b.e = k' at *
  generalize a.m * 2 ^ (a.e - k').toNat = x
  generalize b.m * 2 ^ (b.e - k').toNat = y
  by_cases hs : a.s = b.s
  · rw [if_pos hs, hs]
    dsimp only
    rw [Int.sub_self, show (0 : Int).toNat = 0 from rfl, Nat.pow_zero, Nat.mul_one]
    cases b.s <;> simp <;> omega
  · rw [if_neg hs]
    by_cases hxy : y ≤ x
    · rw [if_pos hxy]
      dsimp only
      rw [Int.sub_self, show (0 : Int).toNat = 0 from rfl, Nat.pow_zero, Nat.mul_one]
      revert hs
      cases a.s <;> cases b.s <;> simp <;> omega
    · rw [if_neg hxy]
      dsimp only
      rw [Int.sub_self, show (0 : Int).toNat = 0 from rfl, Nat.pow_zero, Nat.mul_one]
      revert hs
      cases a.s <;> cases b.s <;> simp <;> omega
theorem addD_bits {a b : Dy} {N : Nat} (h1 : bitLen a.m + (a.e - min a.e b.e).toNat ≤ N) (h2 : bitLen b.m + (b.e - min a.e b.e).toNat ≤ N) : bitLen (addD a b).m ≤ N + 1 := by
  have s1 := bitLen_shl_le a.m (a.e - min a.e b.e).toNat
  have s2 := bitLen_shl_le b.m (b.e - min a.e b.e).toNat
  unfold addD
  generalize a.m * 2 ^ (a.e - min a.e b.e).toNat = x at *
  generalize b.m * 2 ^ (b.e - min a.e b.e).toNat = y at *
  have h3 := bitLen_add (x := x) (y := y) (n := N) (by omega) (by omega)
  have h4 := bitLen_mono (Nat.sub_le x y)
  have h5 := bitLen_mono (Nat.sub_le y x)
  split
  · omega
  · split
    · omega
    · split
      · exact h3
      · split
        · show bitLen (x - y) ≤ _; omega
        · show bitLen (y - x) ≤ _; omega
/-- The middle, as the document makes it: not bare. -/
def mid7 (b : Nat) : Dy := ⟨(addD (fd b) (fd (b + 1))).s, (addD (fd b) (fd (b + 1))).m, (addD (fd b) (fd (b + 1))).e - 1⟩
theorem mid7_ge (b : Nat) : (mid7 b).ge (-1075) := by
  rcases addD_ge (fd_ge b) (fd_ge (b + 1)) with h | h
  · exact .inl h
  · exact .inr (show -1075 ≤ (addD (fd b) (fd (b + 1))).e - 1 by omega)
theorem mid7_at {b : Nat} (hb : b < INF) : (mid7 b).at (-1075) = (mid b).at (-1075) := by
  have hI := INF_lt
  have h := addD_at (fd_ge b) (fd_ge (b + 1))
  rw [fd_at, fd_at, fs_small (by omega), fs_small (by omega)] at h
  rw [mid_sum hb]
  have e : (mid7 b).at (-1075) = (addD (fd b) (fd (b + 1))).at (-1074) := by
    unfold mid7 Dy.at
    dsimp only
    rw [show (addD (fd b) (fd (b + 1))).e - 1 - -1075 = (addD (fd b) (fd (b + 1))).e - -1074 by omega]
  rw [e, h]
  simp
theorem mid7_bits (b : Nat) : bitLen (mid7 b).m ≤ 3001 := by
  have e1 := fd_e b
  have e2 := fd_e (b + 1)
  have b1 := fd_bits b
  have b2 := fd_bits (b + 1)
  exact addD_bits (N := 3000) (by omega) (by omega)
theorem addD_e {a b : Dy} {l h : Int} (ha : l ≤ a.e ∧ a.e ≤ h) (hb : l ≤ b.e ∧ b.e ≤ h) : l ≤ (addD a b).e ∧ (addD a b).e ≤ h := by
  unfold addD
  split
  · exact hb
  · split
    · exact ha
    · split
      · exact ⟨show l ≤ min a.e b.e by omega, show min a.e b.e ≤ h by omega⟩
      · split <;> exact ⟨show l ≤ min a.e b.e by omega, show min a.e b.e ≤ h by omega⟩
theorem mid7_e (b : Nat) : -1075 ≤ (mid7 b).e ∧ (mid7 b).e ≤ 1025 := by
  have := addD_e (fd_e b) (fd_e (b + 1))
  exact ⟨show -1075 ≤ (addD (fd b) (fd (b + 1))).e - 1 by omega, show (addD (fd b) (fd (b + 1))).e - 1 ≤ 1025 by omega⟩
theorem cmp_mid7 {b : Nat} (hb : b < INF) (n : Dy) : cmpD n (mid7 b) = cmpD n (mid b) := by
  have h1 : (mid7 b).ge (min n.e (-1075)) := (mid7_ge b).mono (by omega)
  have h2 : (mid b).ge (min n.e (-1075)) := (mid_ge b).mono (by omega)
  have h3 : n.ge (min n.e (-1075)) := .inr (by omega)
  rw [cmp_at h3 h1, cmp_at h3 h2, at_shift' (d := mid7 b) (k' := -1075) (by omega) (mid7_ge b), at_shift' (d := mid b) (k' := -1075) (by omega) (mid_ge b), mid7_at hb]
theorem c_7Middle (b : Nat) (hb : b < INF) : PC E 75 [u b] (mid7 b).nv := by
  refine PC.of_body follows Tryz.func75 (by decide +kernel) rfl (by kernel_rfl) (Nat.le_of_ble_eq_true rfl) (walk ?_)
  have hI : INF = 9218868437227405312 := rfl
  have k1 := c_7value b (by omega)
  have k2 := c_7value (b + 1) (by omega)
  have e1 := fd_e b
  have e2 := fd_e (b + 1)
  have b1 := fd_bits b
  have b2 := fd_bits (b + 1)
  have e3 := addD_e e1 e2
  have k3 := c_5Add (fd b) (fd (b + 1)) (by omega) (by omega) (by omega) (by omega) (fun _ _ => by omega)
  have w1 : IntKind.wrap .u64 ((b : Int) + 1) = ((b + 1 : Nat) : Int) := by
    rw [show (b : Int) + 1 = ((b + 1 : Nat) : Int) by omega]; exact wrap_nat64 (INF_W (by omega))
  unfold mid7
  have w2 : IntKind.wrap .i64 ((addD (fd b) (fd (b + 1))).e - 1) = (addD (fd b) (fd (b + 1))).e - 1 := wrap64 (by omega) (by omega)
  generalize addD (fd b) (fd (b + 1)) = s at *
  generalize fd b = d1 at *
  generalize fd (b + 1) = d2 at *
  simp only [u, Dy.nv, DP, VN, VL] at k1 k2 k3 ⊢
  simp only [Tryz.f75, go_sem]
  refine qcall_i (k1) ?_; simp only [Tryz.f75, w1, go_sem]
  refine qcall_i (k2) ?_; simp only [Tryz.f75, go_sem]
  refine qcall_i (k3) ?_; simp only [Tryz.f75, w2, go_sem]
  rfl
end

/- Neighbours, middles and breakpoints: next's functions. -/
section
open Go PG Go.Proofs
set_option maxRecDepth 100000
set_option linter.unusedSimpArgs false
set_option linter.unusedVariables false

def upS (b : Nat) : Nat := if fe b < 2047 then (if b = 9223372036854775808 then 1 else if fs b = true then b - 1 else b + 1) else 0
def downS (b : Nat) : Nat := if fe b < 2047 then (if b = 0 then 9223372036854775809 else if fs b = true then b + 1 else b - 1) else 0
theorem b_lt {b : Nat} (hb : b < W) : b < 18446744073709551616 := hb
theorem wrapu {x : Int} {n : Nat} (h : x = (n : Int)) (hn : n < W) : IntKind.wrap .u64 x = (n : Int) := by rw [h]; exact wrap_nat64 hn
theorem fe_top {b : Nat} (hb : b < W) (hf : fe b < 2047) : b + 1 < W := by
  have := b_lt hb
  show _ < 18446744073709551616
  unfold fe at hf; omega
theorem one_top (s : Bool) (e : Int) : Dy.top ⟨s, 1, e⟩ = e := by
  unfold Dy.top
  dsimp only
  rw [if_neg (by decide), show bitLen 1 = 1 by decide]
  omega
theorem one_bits (s : Bool) (e : Int) : bitLen (Dy.mk s 1 e).m ≤ 1000000 := by show bitLen 1 ≤ 1000000; decide
/-- The middle, with the bits' sign. -/
def mdS (b : Nat) : Dy := ⟨fs b, (mid b).m, (mid b).e⟩
theorem mid_add (b : Nat) (hf : fe b < 2047) : addV (fd (fsz b)) ⟨false, 1, max (fe b : Int) 1 - 1075 - 1⟩ = .tuple [(mid b).pv, .int .i64 0] := by
  have hfe := fe_lt b
  have he := fd_e (fsz b)
  have hb := fd_bits (fsz b)
  have ok1 := fd_ok' (fsz b)
  have f1 := fd_fits (fsz b)
  have ok2 : Dy.ok ⟨false, 1, max (fe b : Int) 1 - 1075 - 1⟩ := .inr rfl
  have f2 : Dy.fits ⟨false, 1, max (fe b : Int) 1 - 1075 - 1⟩ := by constructor <;> dsimp only <;> omega
  have g1 : (fd (fsz b)).ge (-1075) := .inr (by omega)
  have g2 : Dy.ge ⟨false, 1, max (fe b : Int) 1 - 1075 - 1⟩ (-1075) := .inr (by dsimp only; omega)
  have e : addS (fd (fsz b)) ⟨false, 1, max (fe b : Int) 1 - 1075 - 1⟩ = mid b := by
    refine eq_of_at (k := -1075) (addS_ok _ _) (mid_ok b) (addS_ge ok1 ok2 f1 f2 g1 g2) (mid_ge b) ?_
    rw [addS_at ok1 ok2 f1 f2 g1 g2, mid_at, fd_at' (fsz_lt b) (by omega), nat_at rfl]
    unfold fv
    rw [(fm_fsz b).1, (fm_fsz b).2]
    dsimp only
    rw [show (-1074 - -1075 : Int).toNat = 1 by decide, show (max (fe b : Int) 1 - 1075 - 1 - -1075).toNat = max (fe b) 1 - 1 by omega]
    generalize 2 ^ (max (fe b) 1 - 1) = P
    rw [Nat.add_mul, Nat.mul_comm 2 (fm b), Nat.mul_assoc, Nat.mul_assoc, Nat.mul_comm P, Nat.pow_one]
    omega
  unfold addV
  rw [e]
  refine if_pos ⟨f1, f2, fun h _ => ?_, by rw [e]; exact mid_fits b⟩
  rw [top_of h]
  rw [one_top]
  dsimp only
  omega
end

/- Breakpoints: next.Break, next.Beside, next.Between, and the document's answers for them. -/
section
open Go PG Go.Proofs
set_option maxRecDepth 100000
set_option linter.unusedSimpArgs false
set_option linter.unusedVariables false

/-- Is it a breakpoint? -/
def brkP (d : Dy) : Prop := d.m = 0 ∨ (if 1023 < d.top then d.e = 1024 ∧ d.m = 1 else unitOf d.top - 1 ≤ d.e)
instance (d : Dy) : Decidable (brkP d) := inferInstanceAs (Decidable (_ ∨ _))
theorem bits_one (x : Nat) : bitLen x = 1 ↔ x = 1 := by
  constructor
  · intro h
    have h1 := (bitLen_le x 1).1 (by omega)
    have h2 : ¬ x < 2 ^ 0 := fun h2 => by have := (bitLen_le x 0).2 h2; omega
    omega
  · rintro rfl; decide
/-- The size above a number, if it isn't one. -/
def high (d : Dy) : Nat := if d.m = 0 ∨ 1023 < d.top ∨ unitOf d.top ≤ d.e then low d else low d + 1
theorem low_zero {d : Dy} (h : d.m = 0) : low d = 0 := by
  have e1 : d.top = 0 := if_pos h
  have e2 : flo d (unitOf d.top) = 0 := by unfold flo; rw [h, Nat.zero_mul, Nat.zero_div]
  unfold low
  rw [if_neg (by omega), e2, e1]
  decide
theorem flo_small {d : Dy} (h0 : d.m ≠ 0) {t : Int} (h : d.top < t) : flo d t = 0 := by
  have hs := flo_spec d t (k := min d.e t) (by omega) (by omega)
  have ht := top_at h0 (k := min d.e t) (by omega)
  have h2 : 2 ^ (d.top + 1 - min d.e t).toNat ≤ 2 ^ (t - min d.e t).toNat := Nat.pow_le_pow_right (by decide) (by omega)
  have h3 : flo d t < 1 := Nat.lt_of_mul_lt_mul_right (a := 2 ^ (t - min d.e t).toNat) (by omega)
  omega
theorem exact_low {d : Dy} (h0 : d.m ≠ 0) (ht : d.top ≤ 1023) : (if (mkD false (flo d (unitOf d.top)) (unitOf d.top)).fits then exactS (mkD false (flo d (unitOf d.top)) (unitOf d.top)) else none) = some (low d) := by
  have hp := flo_ok h0 ht
  have hl : low d = packB (flo d (unitOf d.top)) (unitOf d.top) := if_neg (by omega)
  have hI := pack_lt_inf hp
  rw [exact_pack false (by omega) (pack_fd hp), hl]
  by_cases hM : flo d (unitOf d.top) = 0
  · rw [if_pos hM, hM]; rfl
  · rw [if_neg hM, if_neg (by omega)]; rfl
theorem low_le (d : Dy) : low d ≤ INF := bel_low.1
end

/- Rounding by the program: round's functions. -/
section
open Go PG Go.Proofs
set_option maxRecDepth 100000
set_option linter.unusedSimpArgs false
set_option linter.unusedVariables false

theorem c_up (dir : Int) (s : Bool) : PC E 103 [.int .i64 dir, .bool s] (.bool (upw dir s)) := by
  refine PC.of_body follows Tryz.func103 (by decide +kernel) rfl (by kernel_rfl) (Nat.le_of_ble_eq_true rfl) (walk ?_)
  unfold upw
  by_cases h2 : dir = 2
  · subst h2
    cases s
    · simp only [Tryz.f103, go_sem]
      rfl
    · simp only [Tryz.f103, go_sem]
      rfl
  · by_cases h3 : dir = 3
    · subst h3
      cases s
      · simp only [Tryz.f103, go_sem]
        rfl
      · simp only [Tryz.f103, go_sem]
        rfl
    · rw [decide_eq_false h2, decide_eq_false h3]
      cases s
      all_goals
        simp only [Tryz.f103, go_sem]
        refine qif_df h2 ?_
        simp only [Tryz.f103, go_sem]
        refine qif_df h3 ?_
        simp only [Tryz.f103, go_sem]
        rfl
theorem c_away (dir : Int) (s odd half below : Bool) : PC E 105 [.int .i64 dir, .bool s, .bool odd, .bool half, .bool below] (.bool (awayS dir s odd half below)) := by
  refine PC.of_body follows Tryz.func105 (by decide +kernel) rfl (by kernel_rfl) (Nat.le_of_ble_eq_true rfl) (walk ?_)
  have k := c_up dir s
  unfold awayS
  generalize upw dir s = v at *
  by_cases h0 : dir = 0
  · rw [if_pos h0]
    simp only [Tryz.f105, go_sem]
    refine qif_dt h0 ?_
    simp only [Tryz.f105, go_sem]
    cases half <;> cases below <;> (try simp only [Tryz.f105, go_sem]) <;> rfl
  · rw [if_neg h0]
    simp only [Tryz.f105, go_sem]
    refine qif_df h0 ?_
    simp only [Tryz.f105, go_sem]
    cases half <;> cases below <;> (try simp only [Tryz.f105, go_sem]) <;> (try (refine qcall_i (k) ?_; simp only [Tryz.f105, go_sem])) <;> (try rfl)

theorem bl_n {d : Dy} {t : Int} (h : d.e < t) : bl d t = decide (d.m % 2 ^ ((t - d.e).toNat - 1) ≠ 0) ∧ flo d (t - 1) = d.m / 2 ^ ((t - d.e).toNat - 1) ∧ flo d t = d.m / 2 ^ (t - d.e).toNat := by
  unfold bl flo
  rw [show (d.e - (t - 1)).toNat = 0 by omega, show (d.e - t).toNat = 0 by omega, Nat.pow_zero, Nat.mul_one, show (t - 1 - d.e).toNat = (t - d.e).toNat - 1 by omega]
  exact ⟨rfl, rfl, rfl⟩
theorem bl_p {d : Dy} {t : Int} (h : t ≤ d.e) : bl d t = false ∧ hf d t = false ∧ flo d t = d.m * 2 ^ (d.e - t).toNat := by
  unfold bl hf flo
  rw [show (t - 1 - d.e).toNat = 0 by omega, show (t - d.e).toNat = 0 by omega, Nat.pow_zero, Nat.mod_one, Nat.div_one, Nat.div_one, show (d.e - (t - 1)).toNat = (d.e - t).toNat + 1 by omega, Nat.pow_succ, ← Nat.mul_assoc, Nat.mul_mod_left]
  exact ⟨rfl, rfl, rfl⟩
theorem c_parts {d : Dy} (hb : bitLen d.m ≤ 1000000) (h1 : -3000000000 ≤ d.e ∧ d.e ≤ 3000000000) {t : Int} (h2 : -3000000000 ≤ t ∧ t ≤ 3000000000) (h3 : t ≤ d.e → bitLen d.m + (d.e - t).toNat ≤ 65536) :
    PC E 104 [d.pv, .int .i64 t] (.tuple [NN (flo d t), .bool (hf d t), .bool (bl d t)]) := by
  refine PC.of_body follows Tryz.func104 (by decide +kernel) rfl (by kernel_rfl) (Nat.le_of_ble_eq_true rfl) (walk ?_)
  have w1 : IntKind.wrap .i64 (t - d.e) = t - d.e := wrap64 (by omega) (by omega)
  have w2 : IntKind.wrap .i64 (0 - (t - d.e)) = d.e - t := by rw [wrap64 (by omega) (by omega)]; omega
  have w3 : IntKind.wrap .i64 (t - d.e - 1) = t - d.e - 1 := wrap64 (by omega) (by omega)
  by_cases h : t ≤ d.e
  · obtain ⟨e1, e2, e3⟩ := bl_p h
    have k1 := k_Shln (num_bits hb) (d.e - t).toNat (h3 h)
    rw [e1, e2, e3]
    rw [show ((d.e - t).toNat : Int) = d.e - t by omega] at k1
    simp only [Dy.pv, DP, NN, NL] at k1 ⊢
    simp only [Tryz.f104, w1, go_sem]
    refine qif_dt (by omega) ?_
    simp only [Tryz.f104, w1, w2, go_sem]
    refine qcall_i (k1) ?_; simp only [Tryz.f104, go_sem]
    rfl
  · obtain ⟨e1, e2, e3⟩ := bl_n (d := d) (t := t) (by omega)
    have k1 := k_Shrn (num_bits hb) (t - d.e).toNat
    have k2 := k_Shrn (num_bits hb) ((t - d.e).toNat - 1)
    rw [← e3, show ((t - d.e).toNat : Int) = t - d.e by omega] at k1
    rw [← e2, ← e1, show (((t - d.e).toNat - 1 : Nat) : Int) = t - d.e - 1 by omega] at k2
    have hbl := bitLen_mono (show flo d (t - 1) ≤ d.m by rw [e2]; exact Nat.div_le_self _ _)
    have k3 := k_Odd (num_bits (x := flo d (t - 1)) (by omega))
    rw [show decide (flo d (t - 1) % 2 = 1) = hf d t from rfl] at k3
    simp only [Dy.pv, DP, NN, NL] at k1 k2 k3 ⊢
    simp only [Tryz.f104, w1, go_sem]
    refine qif_df (by omega) ?_
    simp only [Tryz.f104, w1, w3, go_sem]
    refine qcall_i (k1) ?_; simp only [Tryz.f104, w3, go_sem]
    refine qcall_i (k2) ?_; simp only [Tryz.f104, go_sem]
    refine qcall_i (k3) ?_; simp only [Tryz.f104, go_sem]
    rfl
theorem flo_le (d : Dy) (t : Int) (h : t ≤ d.e → bitLen d.m + (d.e - t).toNat ≤ 65536) (hb : bitLen d.m ≤ 1000000) : bitLen (flo d t) ≤ 1000000 := by
  by_cases h1 : t ≤ d.e
  · rw [(bl_p h1).2.2]
    have := bitLen_shl_le d.m (d.e - t).toNat
    have := h h1
    omega
  · rw [(bl_n (by omega)).2.2]
    have := bitLen_mono (Nat.div_le_self d.m (2 ^ (t - d.e).toNat))
    omega
def upM (d : Dy) (more : Bool) (dir t : Int) : Bool := awayS dir d.s (decide (flo d t % 2 = 1)) (hf d t) (bl d t || more)
theorem c_whole07 {d : Dy} (hb : bitLen d.m ≤ 900000) (h1 : -3000000000 ≤ d.e ∧ d.e ≤ 3000000000) {t : Int} (h2 : -3000000000 ≤ t ∧ t ≤ 3000000000) (h3 : t ≤ d.e → bitLen d.m + (d.e - t).toNat ≤ 65536) (more : Bool) (dir : Int) :
    PC E 61 [d.pv, .bool more, .int .i64 dir, .int .i64 t] (.tuple [NN (if upM d more dir t = true then flo d t + 1 else flo d t), .bool (hf d t || (bl d t || more))]) := by
  refine PC.of_body follows Tryz.func61 (by decide +kernel) rfl (by kernel_rfl) (Nat.le_of_ble_eq_true rfl) (walk ?_)
  have hfl := flo_le d t h3 (by omega)
  have k1 := c_parts (by omega) h1 h2 h3
  have k2 := k_Odd (num_bits hfl)
  have k3 := c_away dir d.s (decide (flo d t % 2 = 1)) (hf d t) (bl d t || more)
  have k4 := c_Of 1 (by decide)
  have k5 := k_Add (num_bits hfl) (num_bits (x := 1) (by decide))
  rw [show awayS dir d.s (decide (flo d t % 2 = 1)) (hf d t) (bl d t || more) = upM d more dir t from rfl] at k3
  generalize upM d more dir t = a at *
  generalize decide (flo d t % 2 = 1) = odd at *
  generalize flo d t = M at *
  generalize hf d t = H at *
  generalize bl d t = L at *
  have d1 := dg_one (x := 1) (by decide) (by decide)
  simp only [u, Dy.pv, DP, NN, NL] at k1 k2 k3 k4 k5 ⊢
  simp only [Tryz.f61, go_sem]
  refine qcall_i (k1) ?_; simp only [Tryz.f61, go_sem]
  cases L <;> cases a <;> cases H
  all_goals
    (try simp only [Tryz.f61, go_sem])
    refine qcall_i (k2) ?_; simp only [Tryz.f61, go_sem]
    refine qcall_i (k3) ?_; simp only [Tryz.f61, go_sem]
    (try (refine qcall_i (k4) ?_; simp only [Tryz.f61, go_sem]))
    (try (refine qcall_i (k5) ?_; simp only [Tryz.f61, go_sem]))
    (try rfl)
end

/- Rounding by the program: round.To. -/
section
open Go PG Go.Proofs
set_option maxRecDepth 100000
set_option linter.unusedSimpArgs false
set_option linter.unusedVariables false

theorem or63 {b : Nat} (hb : b < W) : bits .or .u64 (b : Int) 9223372036854775808 = ((fsz b + 9223372036854775808 : Nat) : Int) := by
  have hb' := b_lt hb
  by_cases h : b < 9223372036854775808
  · rw [show fsz b = b from Nat.mod_eq_of_lt h]; exact o63 h
  · have h1 := b_or (a := b) (b := 9223372036854775808) hb (by decide)
    refine h1.trans ?_
    have e : b = fsz b ||| 9223372036854775808 := by
      have := Nat.two_pow_add_eq_or_of_lt (i := 63) (b := fsz b) (fsz_lt b) 1
      rw [Nat.mul_one] at this
      rw [Nat.or_comm, show (9223372036854775808 : Nat) = 2 ^ 63 by decide, ← this]
      unfold fsz; omega
    rw [show b ||| 9223372036854775808 = b by
      conv => lhs; rw [e]
      rw [Nat.or_assoc, Nat.or_self, ← e]]
    congr 1
    unfold fsz; omega
theorem c_signed07 (b : Nat) (hb : b < W) (s : Bool) : PC E 64 [u b, .bool s] (u (if s = true then fsz b + 9223372036854775808 else b)) := by
  refine PC.of_body follows Tryz.func64 (by decide +kernel) rfl (by kernel_rfl) (Nat.le_of_ble_eq_true rfl) (walk ?_)
  have e1 := or63 hb
  cases s
  · simp only [Tryz.f64, u, go_sem]
    try rfl
  · simp only [Tryz.f64, u, e1, go_sem]
    try rfl
theorem signed_withS (s : Bool) {v : Nat} (hv : v < 9223372036854775808) : (if s = true then fsz (withS s v) + 9223372036854775808 else withS s v) = withS s v := by
  rw [(withS_fields s hv).2.2.2.2]
  cases s <;> rfl
theorem signed_small (s : Bool) {v : Nat} (hv : v < 9223372036854775808) : (if s = true then fsz v + 9223372036854775808 else v) = withS s v := by
  rw [show fsz v = v from Nat.mod_eq_of_lt hv]
  rfl
theorem c_Over (s : Bool) (dir : Int) : PC E 59 [.bool s, .int .i64 dir] (.tuple [u (withS s (if dir = 0 ∨ upw dir s = true then INF else MAX)), .int .u8 5]) := by
  refine PC.of_body follows Tryz.func59 (by decide +kernel) rfl (by kernel_rfl) (Nat.le_of_ble_eq_true rfl) (walk ?_)
  have k := c_up dir s
  have k1 := c_signed07 INF (by decide) s
  have k2 := c_signed07 MAX (by decide) s
  rw [signed_small s (by decide)] at k1 k2
  replace k1 : PC E 64 [.int .u64 9218868437227405312, .bool s] (.int .u64 (withS s INF : Nat)) := k1
  replace k2 : PC E 64 [.int .u64 9218868437227405311, .bool s] (.int .u64 (withS s MAX : Nat)) := k2
  by_cases h0 : dir = 0
  · rw [if_pos (.inl h0)]
    simp only [Tryz.f59, go_sem]
    refine qif_dt h0 ?_
    simp only [Tryz.f59, go_sem]
    refine qcall_i (k1) ?_; simp only [Tryz.f59, u, go_sem]
  · generalize upw dir s = v at *
    simp only [Tryz.f59, go_sem]
    refine qif_df h0 ?_
    cases v
    · rw [if_neg (fun h => h.elim h0 (fun h => by cases h))]
      simp only [Tryz.f59, go_sem]
      refine qcall_i (k) ?_; simp only [Tryz.f59, go_sem]
      refine qcall_i (k2) ?_; simp only [Tryz.f59, u, go_sem]
    · rw [if_pos (.inr rfl)]
      simp only [Tryz.f59, go_sem]
      refine qcall_i (k) ?_; simp only [Tryz.f59, go_sem]
      refine qcall_i (k1) ?_; simp only [Tryz.f59, u, go_sem]
theorem c_Under (s : Bool) (dir : Int) : PC E 60 [.bool s, .int .i64 dir] (.tuple [u (withS s (if upw dir s = true then 1 else 0)), .int .u8 3]) := by
  refine PC.of_body follows Tryz.func60 (by decide +kernel) rfl (by kernel_rfl) (Nat.le_of_ble_eq_true rfl) (walk ?_)
  have k := c_up dir s
  have k1 := c_signed07 1 (by decide) s
  have k2 := c_signed07 0 (by decide) s
  rw [signed_small s (by decide)] at k1 k2
  replace k1 : PC E 64 [.int .u64 1, .bool s] (.int .u64 (withS s 1 : Nat)) := k1
  replace k2 : PC E 64 [.int .u64 0, .bool s] (.int .u64 (withS s 0 : Nat)) := k2
  generalize upw dir s = v at *
  cases v
  · simp only [Tryz.f60, go_sem]
    refine qcall_i (k) ?_; simp only [Tryz.f60, go_sem]
    refine qcall_i (k2) ?_; simp only [Tryz.f60, u, go_sem]
    try rfl
  · simp only [Tryz.f60, go_sem]
    refine qcall_i (k) ?_; simp only [Tryz.f60, go_sem]
    refine qcall_i (k1) ?_; simp only [Tryz.f60, u, go_sem]
    try rfl
/-- May it be rounded? -/
def toE (d : Dy) (more : Bool) (dir : Int) : Prop := d.fits ∧ 0 ≤ dir ∧ dir ≤ 3 ∧ ¬ (more = true ∧ d.m = 0)
instance (d : Dy) (more : Bool) (dir : Int) : Decidable (toE d more dir) := inferInstanceAs (Decidable (_ ∧ _))
theorem c_right {p : PV} {d : Dy} (h : RD p d) (more : Bool) (dir : Int) : PC E 57 [p, .bool more, .int .i64 dir] (.tuple [(if d.fits then d else .zero).pv, .bool (decide (toE d more dir))]) := by
  have k1 := r_Bare h
  obtain ⟨s, q, x, e, rfl, -⟩ := h
  refine PC.of_body follows Tryz.func57 (by decide +kernel) rfl (by kernel_rfl) (Nat.le_of_ble_eq_true rfl) (walk ?_)
  unfold okD at k1
  by_cases hf : d.fits
  · rw [if_pos hf] at k1 ⊢
    simp only [Dy.pv, DP, NN, NL] at k1 ⊢
    simp only [Tryz.f57, go_sem]
    refine qcall_i (k1) ?_; simp only [Tryz.f57, go_sem]
    by_cases h1 : dir ≥ 0
    · refine qif_dt h1 ?_
      simp only [Tryz.f57, go_sem]
      by_cases h2 : dir ≤ 3
      · refine qif_dt h2 ?_
        simp only [Tryz.f57, go_sem]
        cases more
        · simp only [Tryz.f57, go_sem]
          refine ⟨rfl, (decide_eq_true ?_).symm⟩
          exact ⟨hf, h1, h2, fun h => by cases h.1⟩
        · simp only [Tryz.f57, go_sem]
          refine ⟨rfl, ?_⟩
          by_cases h0 : d.m = 0
          · rw [decide_eq_false (fun h : toE d true dir => h.2.2.2 ⟨rfl, h0⟩), h0]
            rfl
          · rw [decide_eq_true (show toE d true dir from ⟨hf, h1, h2, fun h => h0 h.2⟩)]
            rw [decide_eq_false (fun h => h0 (dg_nil (by omega)))]
            rfl
      · refine qif_df h2 ?_
        simp only [Tryz.f57, go_sem]
        refine ⟨rfl, (decide_eq_false fun h => ?_).symm⟩
        exact h2 h.2.2.1
    · refine qif_df h1 ?_
      simp only [Tryz.f57, go_sem]
      refine ⟨rfl, (decide_eq_false fun h => ?_).symm⟩
      exact h1 h.2.1
  · rw [if_neg hf] at k1 ⊢
    rw [decide_eq_false (fun h : toE d more dir => hf h.1)]
    simp only [Dy.pv, Dy.zero, DP, NN, NL] at k1 ⊢
    simp only [Tryz.f57, go_sem]
    refine qcall_i (k1) ?_; simp only [Tryz.f57, go_sem]
    try rfl
theorem upM_low {d : Dy} (h0 : d.m ≠ 0) (ht : d.top ≤ 1023) (more : Bool) (dir : Int) : upM d more dir (unitOf d.top) = awayS dir d.s (decide (low d % 2 = 1)) (hf d (unitOf d.top)) (bl d (unitOf d.top) || more) := by
  have hp := flo_ok h0 ht
  have hl : low d = packB (flo d (unitOf d.top)) (unitOf d.top) := if_neg (by omega)
  unfold upM
  rw [hl, odd_pack hp]
theorem away_dir {dir : Int} {s odd half below : Bool} (h : awayS dir s odd half below = true) : dir = 0 ∨ upw dir s = true := by
  unfold awayS at h
  split at h
  · exact .inl (by assumption)
  · right
    revert h
    cases half <;> cases below <;> cases upw dir s <;> simp
theorem small_parts {d : Dy} (h0 : d.m ≠ 0) (ht : d.top < -1075) : hf d (unitOf d.top) = false ∧ bl d (unitOf d.top) = true ∧ low d = 0 := by
  have hu : unitOf d.top = -1074 := by unfold unitOf; omega
  have e1 := flo_small h0 (t := -1074) (by omega)
  have e2 := flo_small h0 (t := -1074 - 1) (by omega)
  rw [hu]
  have h1 : hf d (-1074) = false := by unfold hf; rw [e2]; decide
  refine ⟨h1, ?_, ?_⟩
  · obtain ⟨r, h2, h3, h4⟩ := parts_at d (-1074) (k := min d.e (-1075)) (by omega) (by omega)
    rw [e1, h1] at h2
    cases hb : bl d (-1074)
    · have h5 := h4.2 hb
      have h6 := top_at h0 (k := min d.e (-1075)) (by omega)
      have := Nat.two_pow_pos (d.top - min d.e (-1075)).toNat
      rw [h2, h5] at h6
      simp at h6
    · rfl
  · unfold low
    rw [if_neg (by omega), hu, e1]
    decide
end

/- Rounding by the program: round.To, whole. -/
section
open Go PG Go.Proofs
set_option maxRecDepth 100000
set_option linter.unusedSimpArgs false
set_option linter.unusedVariables false

theorem mkD_fits {s : Bool} {x : Nat} {e : Int} (hb : bitLen x ≤ 100000) (h1 : -1000000000 ≤ e) (h2 : e ≤ 1000000000) : (mkD s x e).fits := by
  unfold mkD
  split
  · decide
  · rename_i h
    have := tz_bits h
    constructor
    · show (-1073741824 : Int) ≤ cut e + tz x
      rw [cut_id (by omega) (by omega)]; omega
    · show cut e + tz x ≤ 1073741824
      rw [cut_id (by omega) (by omega)]; omega
theorem toS_big {d : Dy} (h0 : d.m ≠ 0) (ht : 1023 < d.top) (more : Bool) (dir : Int) : toS d more dir = (withS d.s (if dir = 0 ∨ upw dir d.s = true then INF else MAX), 5) := by
  unfold toS magS
  rw [if_neg h0, if_pos ht]
/-- A size between two, the next one if it goes away. -/
def vS (d : Dy) (a : Bool) : Nat := if a = true then low d + 1 else low d
theorem toS_no {d : Dy} (h0 : d.m ≠ 0) (ht : d.top ≤ 1023) (more : Bool) (dir : Int) :
    toS d more dir = (withS d.s (vS d (upM d more dir (unitOf d.top))), if vS d (upM d more dir (unitOf d.top)) = INF then 5 else if (hf d (unitOf d.top) || (bl d (unitOf d.top) || more)) = true then (if d.top < -1022 then 3 else 1) else 0) := by
  unfold toS magS
  rw [if_neg h0, if_neg (by omega), ← upM_low h0 ht]
  unfold vS
  generalize upM d more dir (unitOf d.top) = a
  by_cases h : (if a = true then low d + 1 else low d) = INF
  · rw [if_pos h, if_pos h, h]
  · rw [if_neg h, if_neg h]
theorem toS_small {d : Dy} (h0 : d.m ≠ 0) (ht : d.top < -1075) (more : Bool) (dir : Int) : toS d more dir = (withS d.s (if upw dir d.s = true then 1 else 0), 3) := by
  obtain ⟨e1, e2, e3⟩ := small_parts h0 ht
  rw [toS_no h0 (by omega), upM_low h0 (by omega), e1, e2]
  unfold vS awayS
  rw [e3]
  have h00 : dir = 0 → upw dir d.s = false := by rintro rfl; unfold upw; cases d.s <;> rfl
  have h1 : (if dir = 0 then false && ((true || more) || decide (0 % 2 = 1)) else (false || (true || more)) && upw dir d.s) = upw dir d.s := by
    by_cases h : dir = 0
    · rw [if_pos h, h00 h]; rfl
    · rw [if_neg h]; simp
  rw [h1]
  cases upw dir d.s
  · simp only [Bool.false_eq_true, if_false, Bool.or_true, Bool.true_or, Bool.false_or, if_true]
    rw [if_neg (by decide), if_pos (by omega)]
  · simp only [if_true, Bool.or_true, Bool.true_or, Bool.false_or, Nat.zero_add]
    rw [if_neg (by decide), if_pos (by omega)]
theorem vS_fd {d : Dy} (h0 : d.m ≠ 0) (ht : d.top ≤ 1023) (a : Bool) : vS d a ≤ INF ∧ fd (vS d a) = mkD false (if a = true then flo d (unitOf d.top) + 1 else flo d (unitOf d.top)) (unitOf d.top) := by
  have hp := flo_ok h0 ht
  have hl : low d = packB (flo d (unitOf d.top)) (unitOf d.top) := if_neg (by omega)
  have hlt := pack_lt_inf hp
  unfold vS
  rw [hl]
  cases a
  · exact ⟨by simp only [Bool.false_eq_true, if_false]; omega, pack_fd hp⟩
  · exact ⟨by simp only [if_true]; omega, pack_fd1 hp⟩

theorem r_To {p : PV} {d : Dy} (h : RD p d) (hb9 : bitLen d.m ≤ 900000) (more : Bool) (dir : Int) :
    PC E 23 [p, .bool more, .int .i64 dir] (if toE d more dir then .tuple [u (toS d more dir).1, .int .u8 (toS d more dir).2, .int .i64 0] else .tuple [u 0, .int .u8 0, .int .i64 1]) := by
  have k1 := c_right h more dir
  have hok := h.ok
  have hbits := h.bits
  obtain ⟨s, q, x, e, rfl, -⟩ := h
  refine PC.of_body follows Tryz.func23 (by decide +kernel) rfl (by kernel_rfl) (Nat.le_of_ble_eq_true rfl) (walk ?_)
  by_cases hE : toE d more dir
  case neg =>
    rw [if_neg hE]
    rw [decide_eq_false hE] at k1
    generalize (if d.fits then d else Dy.zero) = d' at *
    simp only [u, Dy.pv, DP, NN, NL] at k1 ⊢
    simp only [Tryz.f23, go_sem]
    refine qcall_i (k1) ?_; simp only [Tryz.f23, go_sem]
    rfl
  obtain ⟨hfi, -⟩ := id hE
  rw [if_pos hE]
  rw [if_pos hfi, decide_eq_true hE] at k1
  have k2 := r_Top (RD.fit hok hbits hfi)
  by_cases h0 : d.m = 0
  · have e1 : toS d more dir = (0, 0) := if_pos h0
    rw [e1]
    rw [decide_eq_false (by simpa using h0)] at k2
    simp only [u, Dy.pv, DP, NN, NL] at k1 k2 ⊢
    simp only [Tryz.f23, go_sem]
    refine qcall_i (k1) ?_; simp only [Tryz.f23, go_sem]
    refine qcall_i (k2) ?_; simp only [Tryz.f23, go_sem]
    exact ⟨rfl, rfl⟩
  rw [decide_eq_true h0] at k2
  have f1 := hfi.1
  have f2 := hfi.2
  have ht := top_of h0
  have hbp := bitLen_pos h0
  by_cases ht1 : 1023 < d.top
  · rw [toS_big h0 ht1]
    have k3 := c_Over d.s dir
    generalize withS d.s (if dir = 0 ∨ upw dir d.s = true then INF else MAX) = R at *
    simp only [u, Dy.pv, DP, NN, NL] at k1 k2 k3 ⊢
    simp only [Tryz.f23, go_sem]
    refine qcall_i (k1) ?_; simp only [Tryz.f23, go_sem]
    refine qcall_i (k2) ?_; simp only [Tryz.f23, go_sem]
    refine qif_dt ht1 ?_
    simp only [Tryz.f23, go_sem]
    refine qcall_i (k3) ?_; simp only [Tryz.f23, go_sem]
    exact ⟨rfl, rfl⟩
  by_cases ht2 : d.top < -1075
  · rw [toS_small h0 ht2]
    have k3 := c_Under d.s dir
    generalize withS d.s (if upw dir d.s = true then 1 else 0) = R at *
    simp only [u, Dy.pv, DP, NN, NL] at k1 k2 k3 ⊢
    simp only [Tryz.f23, go_sem]
    refine qcall_i (k1) ?_; simp only [Tryz.f23, go_sem]
    refine qcall_i (k2) ?_; simp only [Tryz.f23, go_sem]
    refine qif_df ht1 ?_
    simp only [Tryz.f23, go_sem]
    refine qif_dt ht2 ?_
    simp only [Tryz.f23, go_sem]
    refine qcall_i (k3) ?_; simp only [Tryz.f23, go_sem]
    exact ⟨rfl, rfl⟩
  have htle : d.top ≤ 1023 := by omega
  rw [toS_no h0 htle]
  have hu : unitOf d.top = max (d.top - 52) (-1074) := rfl
  have hur := unit_range htle
  have hp := flo_ok h0 htle
  have k5 := c_whole07 (d := d) hb9 (by omega) (t := unitOf d.top) (by omega) (fun _ => by omega) more dir
  have had := away_dir (dir := dir) (s := d.s) (odd := decide (flo d (unitOf d.top) % 2 = 1)) (half := hf d (unitOf d.top)) (below := bl d (unitOf d.top) || more)
  rw [show awayS dir d.s (decide (flo d (unitOf d.top) % 2 = 1)) (hf d (unitOf d.top)) (bl d (unitOf d.top) || more) = upM d more dir (unitOf d.top) from rfl] at had
  have hlI : low d < INF := by
    have := pack_lt_inf hp
    have hl : low d = packB (flo d (unitOf d.top)) (unitOf d.top) := if_neg (by omega)
    omega
  generalize upM d more dir (unitOf d.top) = a at *
  obtain ⟨hv1, hv2⟩ := vS_fd h0 htle a
  have hvI : vS d a = INF → a = true := fun h => by
    unfold vS at h
    cases a
    · simp only [Bool.false_eq_true, if_false] at h; omega
    · rfl
  have hM' : (if a = true then flo d (unitOf d.top) + 1 else flo d (unitOf d.top)) ≤ 9007199254740992 := by
    have := hp.lt
    split <;> omega
  generalize (hf d (unitOf d.top) || (bl d (unitOf d.top) || more)) = ine at *
  have w1 : IntKind.wrap .i64 (d.top - 52) = d.top - 52 := wrap64 (by omega) (by omega)
  rw [hu] at k5 hv2 hM' hur
  clear hu hp
  generalize hT : max (d.top - 52) (-1074) = t at *
  generalize (if a = true then flo d t + 1 else flo d t) = M at *
  have hMb : bitLen M ≤ 54 := (bitLen_le M 54).2 (by omega)
  have hfit : (mkD d.s M t).fits := mkD_fits (by omega) (by omega) (by omega)
  have k6 := r_Make (num_bits (x := M) (by omega)) (by omega) d.s t
  unfold okD at k6
  rw [if_pos hfit] at k6
  have k7 := r_Exact (RD.fit (mkD_ok d.s M t) (Nat.le_trans (mkD_bits _ _ _) (by omega)) hfit)
  rw [exact_pack d.s hv1 hv2] at k7
  have hIl := INF_lt
  have k8 := c_signed07 (withS d.s (vS d a)) (withS_fields d.s (by omega)).1 d.s
  rw [signed_withS d.s (by omega)] at k8
  have k9 := c_signed07 0 (by decide) d.s
  rw [signed_small d.s (by decide)] at k9
  have k10 := c_Over d.s dir
  have hz : M = 0 → vS d a = 0 := fun h => by
    subst h
    have hI : INF = 9218868437227405312 := rfl
    have h1 : (fd (vS d a)).m = 0 := by rw [hv2]; rfl
    have h2 : fm (vS d a) = 0 := by unfold fd at h1; exact mkD_m0.1 h1
    unfold fm at h2
    unfold ff fe at h2
    split at h2 <;> omega
  have hor : bits .or .u8 1 2 = 3 := by decide
  generalize mkD d.s M t = dd at *
  generalize vS d a = v at *
  simp only [u, exPV, Dy.pv, DP, NN, NL] at k1 k2 k5 k6 k7 k8 k9 k10 ⊢
  by_cases hM0 : M = 0
  · rw [if_pos hM0] at k7
    rw [hz hM0, if_neg (by decide)]
    simp only at k7
    cases ine
    · simp only [Tryz.f23, go_sem]
      refine qcall_i (k1) ?_; simp only [Tryz.f23, go_sem]
      refine qcall_i (k2) ?_; simp only [Tryz.f23, go_sem]
      refine qif_df ht1 ?_
      simp only [Tryz.f23, go_sem]
      refine qif_df ht2 ?_
      simp only [Tryz.f23, w1, hT, go_sem]
      refine qcall_i (k5) ?_; simp only [Tryz.f23, go_sem]
      refine qcall_i (k6) ?_; simp only [Tryz.f23, go_sem]
      refine qcall_i (k7) ?_; simp only [Tryz.f23, go_sem]
      refine qcall_i k9 ?_
      simp only [Tryz.f23, go_sem]
      try (exact ⟨rfl, rfl⟩)
    · simp only [Tryz.f23, go_sem]
      refine qcall_i (k1) ?_; simp only [Tryz.f23, go_sem]
      refine qcall_i (k2) ?_; simp only [Tryz.f23, go_sem]
      refine qif_df ht1 ?_
      simp only [Tryz.f23, go_sem]
      refine qif_df ht2 ?_
      simp only [Tryz.f23, w1, hT, go_sem]
      refine qcall_i (k5) ?_; simp only [Tryz.f23, go_sem]
      refine qcall_i (k6) ?_; simp only [Tryz.f23, go_sem]
      refine qcall_i (k7) ?_; simp only [Tryz.f23, go_sem]
      refine qif_d (fun h => ?_) (fun h => ?_)
      · simp only [Tryz.f23, hor, go_sem]
        refine qcall_i k9 ?_
        simp only [Tryz.f23, go_sem]
        rw [if_pos h]
        try (exact ⟨rfl, rfl⟩)
      · simp only [Tryz.f23, hor, go_sem]
        refine qcall_i k9 ?_
        simp only [Tryz.f23, go_sem]
        rw [if_neg h]
        try (exact ⟨rfl, rfl⟩)
  · rw [if_neg hM0] at k7
    by_cases hvv : v = INF
    · rw [if_pos hvv] at k7
      rw [if_pos (had (hvI hvv))] at k10
      rw [if_pos hvv, hvv]
      simp only at k7
      simp only [Tryz.f23, go_sem]
      refine qcall_i (k1) ?_; simp only [Tryz.f23, go_sem]
      refine qcall_i (k2) ?_; simp only [Tryz.f23, go_sem]
      refine qif_df ht1 ?_
      simp only [Tryz.f23, go_sem]
      refine qif_df ht2 ?_
      simp only [Tryz.f23, w1, hT, go_sem]
      refine qcall_i (k5) ?_; simp only [Tryz.f23, go_sem]
      refine qcall_i (k6) ?_; simp only [Tryz.f23, go_sem]
      refine qcall_i (k7) ?_; simp only [Tryz.f23, go_sem]
      refine qcall_i (k10) ?_; simp only [Tryz.f23, go_sem]
      try (exact ⟨rfl, rfl⟩)
    · rw [if_neg hvv] at k7 ⊢
      simp only at k7
      cases ine
      · simp only [Tryz.f23, go_sem]
        refine qcall_i (k1) ?_; simp only [Tryz.f23, go_sem]
        refine qcall_i (k2) ?_; simp only [Tryz.f23, go_sem]
        refine qif_df ht1 ?_
        simp only [Tryz.f23, go_sem]
        refine qif_df ht2 ?_
        simp only [Tryz.f23, w1, hT, go_sem]
        refine qcall_i (k5) ?_; simp only [Tryz.f23, go_sem]
        refine qcall_i (k6) ?_; simp only [Tryz.f23, go_sem]
        refine qcall_i (k7) ?_; simp only [Tryz.f23, go_sem]
        refine qcall_i (k8) ?_; simp only [Tryz.f23, go_sem]
        try (exact ⟨rfl, rfl⟩)
      · simp only [Tryz.f23, go_sem]
        refine qcall_i (k1) ?_; simp only [Tryz.f23, go_sem]
        refine qcall_i (k2) ?_; simp only [Tryz.f23, go_sem]
        refine qif_df ht1 ?_
        simp only [Tryz.f23, go_sem]
        refine qif_df ht2 ?_
        simp only [Tryz.f23, w1, hT, go_sem]
        refine qcall_i (k5) ?_; simp only [Tryz.f23, go_sem]
        refine qcall_i (k6) ?_; simp only [Tryz.f23, go_sem]
        refine qcall_i (k7) ?_; simp only [Tryz.f23, go_sem]
        refine qif_d (fun h => ?_) (fun h => ?_)
        · simp only [Tryz.f23, hor, go_sem]
          refine qcall_i (k8) ?_; simp only [Tryz.f23, go_sem]
          rw [if_pos h]
          try (exact ⟨rfl, rfl⟩)
        · simp only [Tryz.f23, hor, go_sem]
          refine qcall_i (k8) ?_; simp only [Tryz.f23, go_sem]
          rw [if_neg h]
          try (exact ⟨rfl, rfl⟩)
end
end Go.Proofs.YtmnojbkakgfinaaGreatDoor
