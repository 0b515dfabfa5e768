/- Several parts in one text. -/
import Derived.Test.YtmnojbkakgfinaaGreatDoorBq3
import Derived.Test.YtmnojbkakgfinaaGreatDoorK9
import Derived.Test.YtmnojbkakgfinaaGreatDoorH8
open Go PG Go.Proofs
namespace Go.Proofs.YtmnojbkakgfinaaGreatDoor
attribute [local go_sem] Lay2 Lay3 Lay4 Lay5 Lay6 Lay7 Lay8 Lay9 Lay10 Lay11 Lay12 Lay13 Lay14 Lay15 Lay16 Lay17 Lay18 Lay19 Lay21 Lay23 Lay24 Lay25 Lay26 Lay27 Lay28 Lay31 Lay32 Lay33 Lay40 Lay43 Lay44 Lay49 Lay50 Lay57 Lay58 Lay61 Lay68 Lay69 Lay72 Lay77 Lay125 Lay133 Lay134 Lay150 Lay167 Lay168 Lay169 Lay170 Lay180 Lay181 Lay185 Lay186 Lay189 Lay205 Lay208 Lay223 Lay227 Lay228 Lay231 Lay232 Lay233 Lay234 Lay235 Lay236 Lay237 Lay238 Lay240 Lay241 Lay242 Lay243 Lay244 Lay245 Lay246 Lay247 Lay249 Lay250 qexec_seq qexec_skip qexec_exit qexec_ret qexec_block qexec_loop qexec_range qexec_cond qexec_region qexec_drawn qops_nil qops_none qops_some put_some put_none pblk_exit pblk_other newDsts_nil inlDsts_nil isInl sget_cons sget_nil qval_some qbool_some qgs_bool qgs_und qfree_some qgrd_true qgrd_false qif_true qif_false qval_ite qval_itn qand_true map_ite map_some' map_none' qdo_move qdo_assign qdo_binOp qdo_pick qdo_unOp qdo_convert qdo_extract qdo_field qdo_fieldAddr qdo_alloc qdo_box qdo_build qdo_buildSlice qdo_load qdo_store qdo_nilCheck qdo_makeFunc qdo_makeSlice qdo_slice qdo_indexAddr qdo_call qcont_val qcont_new qcont_st qcont_app0 qcont_app qcont_inl qcont_call njSV_val njSV_nil njSV_row njSV_ptr njSV_sub binV_val binV_nil binV_nn binV_ptr bin_np bin_nnp nilCmp bin_add bin_sub bin_mul bin_quo bin_rem bin_and bin_or bin_xor bin_andNot bin_eql bin_neq bin_lss bin_leq bin_gtr bin_geq bin_shl bin_shr bin_seql bin_sneq bin_sadd bin_beql bin_aeql bin_aneq eqAnd_some eqCells_nil eqCells_cons fieldTypes isStruct eqCell bin_bneq un_not un_neg nj_ite Nat.beq stepA stepR isNew opSV constSV RV.sv allSome E_mu E_own qkeyIn_none qkeyIn_some qkeyAt_none qkeyAt_some Bool.or_false Bool.false_or Bool.or_true Bool.true_or cst setB res resSV pstart startL killL kill1 eraL frzL svPV rvPV rvInt rvSlice rvBytes frzOf close closeL pconv pbuiltin pmax2 partPV setCells fillPV zrow bound newSV PV.cells Bk.cells Bk.with SV.key pres presL_nil presL_tmp presL_cell presC2_some cellPV_ptr presC List.toList_toArray List.size_toArray List.getElem?_drop Nat.mul_one Int.toNat_natCast Nat.not_lt_zero Nat.lt_irrefl decide_true decide_false Nat.not_lt Option.some.injEq PV.lst.injEq PV.int.injEq PV.bool.injEq PV.tuple.injEq List.cons.injEq Option.map_some Option.map_none Option.bind_some Option.toList List.map_cons List.map_nil List.nil_append List.cons_append List.append_nil List.zip_cons_cons List.zip_nil_left List.zip_nil_right List.getElem?_cons_zero List.getElem?_cons_succ List.drop_zero List.drop_succ_cons List.take_succ_cons List.take_zero List.set_cons_zero List.set_cons_succ List.length_cons List.length_nil List.length_set List.replicate_one List.replicate_zero bne_self_eq_false beq_self_eq_true Nat.zero_add Nat.add_zero Nat.zero_mul Bool.false_eq_true Bool.true_eq_false Bool.not_true Bool.not_false and_true true_and false_and and_false or_false false_or or_true true_or not_true_eq_false not_false_eq_true ne_eq gt_iff_lt List.mem_cons List.not_mem_nil
attribute [local go_sem ↓] pseq_normal pseq_ret pseq_exit pblk_normal pblk_ret newDsts_cons inlDsts_cons gdst_zero gdst_succ retQ_normal retQ_ret qneed_nil qneed_cons retM_normal retM_ret endR_normal endR_ret endR_exit
attribute [local go_sem] Int.reduceToNat Int.reduceEq Int.reduceNe Int.reduceLT Int.reduceLE Int.reduceNeg Int.reduceAdd Nat.reduceEqDiff Nat.reduceAdd Nat.reduceSub Nat.reduceMul Nat.reduceLeDiff Nat.reduceLT
attribute [local go_sem ↓] reduceIte reduceCtorEq
/- The document's quotients and roots: planimeterref28.By. -/
section
open Go PG Go.Proofs
set_option maxRecDepth 100000
set_option linter.unusedSimpArgs false
set_option linter.unusedVariables false

theorem c_28value (b : Nat) (hb : b ≤ INF) : PC E 117 [u b] (fd b).nv := by
  refine PC.of_body follows Tryz.func117 (by decide +kernel) rfl (by kernel_rfl) (Nat.le_of_ble_eq_true rfl) (walk ?_)
  have k1 := c_Limit
  have k2 := c_Worth b (INF_W hb)
  have hI : INF = 9218868437227405312 := rfl
  by_cases h : b = INF
  · subst h
    generalize fd INF = d at *
    simp only [u, Dy.nv, DP, VN, VL] at k1 k2 ⊢
    simp only [Tryz.f117, go_sem]
    refine qif_dt (by rw [hI]; rfl) ?_
    simp only [Tryz.f117, go_sem]
    refine qcall_i (k1) ?_; simp only [Tryz.f117, go_sem]
    rfl
  · generalize fd b = d at *
    simp only [u, Dy.nv, DP, VN, VL] at k1 k2 ⊢
    simp only [Tryz.f117, go_sem]
    refine qif_df (by omega) ?_
    simp only [Tryz.f117, go_sem]
    refine qcall_i (k2) ?_; simp only [Tryz.f117, go_sem]
    rfl
set_option maxHeartbeats 4000000 in
theorem c_28By {d : Dy} (h0 : d.m ≠ 0) {tc : Dy → Int} {more : Bool} {s1 s2 rt : Bool} {n1 n2 : Nat} {l1 l2 : List PV} {e1 e2 : Int}
    (hT : ∀ n, probe n → PC E 116 [.agg [.bool s1, .lst n1 l1, .int .i64 e1, .bool s2, .lst n2 l2, .int .i64 e2, .bool rt], n.nv] (.int .i64 (tc n)))
    (ht : tcOk tc d more) {dir : Int} (hd : 0 ≤ dir ∧ dir ≤ 3) :
    PC E 77 [.bool d.s, .int .i64 dir, .agg [.bool s1, .lst n1 l1, .int .i64 e1, .bool s2, .lst n2 l2, .int .i64 e2, .bool rt]] (ansB (toS d more dir)) := by
  have hI : INF = 9218868437227405312 := rfl
  have k1 := c_Limit
  have k2 := hT (fd INF) (probe_fd (Nat.le_refl _))
  have t2 := ht (fd INF) (probe_fd (Nat.le_refl _))
  have hbl := bel_low (d := d)
  unfold ansB
  refine PC.of_body follows Tryz.func77 (by decide +kernel) rfl (by kernel_rfl) (Nat.le_of_ble_eq_true rfl) (walk ?_)
  by_cases ht1 : 1023 < d.top
  · rw [toS_big h0 ht1]
    have hl : low d = 9218868437227405312 := if_pos ht1
    rw [hl] at hbl
    have hle : tc (fd INF) ≤ 0 := by
      have := hbl.2.1
      rw [← hI] at this
      omega
    have w1 : IntKind.wrap .u64 (9218868437227405312 + 9223372036854775808) = 18442240474082181120 := by decide
    have w2 : IntKind.wrap .u64 (9218868437227405311 + 9223372036854775808) = 18442240474082181119 := by decide
    have w3 : IntKind.wrap .u64 (9218868437227405312 + 0) = 9218868437227405312 := by decide
    have w4 : IntKind.wrap .u64 (9218868437227405311 + 0) = 9218868437227405311 := by decide
    clear hbl t2 ht hT hl
    generalize tc (fd INF) = tl at *
    generalize fd INF = q at *
    simp only [u, Dy.nv, DP, VN, VL] at k1 k2 ⊢
    obtain ⟨s, m, e⟩ := d
    dsimp only
    simp only [Tryz.f77, go_sem]
    refine qcall_i (k1) ?_; simp only [Tryz.f77, go_sem]
    refine qcall_i (k2) ?_; simp only [Tryz.f77, go_sem]
    refine qif_dt hle ?_
    simp only [Tryz.f77, go_sem]
    refine PLoop.intro (fun _ : Unit => ⟨[(0, .val (.bool s)), (1, .val (.int .i64 dir)), (5, .ptr 5 0), (6, .ptr 6 0), (7, .val (.int .u64 9218868437227405312)), (8, .val (.int .u64 9218868437227405312)), (9, .val (.bool true))], [(5, (.box [.bool s1, .lst n1 l1, .int .i64 e1, .bool s2, .lst n2 l2, .int .i64 e2, .bool rt], false)), (6, (.box [.int .u64 0, .int .i64 0], false))]⟩) (fun _ => True) (fun _ => 0) () trivial ?_ fun i hj => walk ?_
    · simp [Wk, sget, killL, kill1, SV.key, hle]
    simp only [Tryz.f77, go_sem]
    cases s <;> rcases dir4 hd.1 hd.2 with rfl | rfl | rfl | rfl
    all_goals
      simp only [Tryz.f77, w1, w2, w3, w4, go_sem]
    all_goals first | rfl | skip
  have htle : d.top ≤ 1023 := by omega
  have hp := flo_ok h0 htle
  have hl : low d = packB (flo d (unitOf d.top)) (unitOf d.top) := if_neg (by omega)
  have hlI : low d < INF := by have := pack_lt_inf hp; omega
  obtain ⟨m1, m2⟩ := pos_mid h0 htle
  have hTc : ∀ c, c ≤ INF → PC E 116 [.agg [.bool s1, .lst n1 l1, .int .i64 e1, .bool s2, .lst n2 l2, .int .i64 e2, .bool rt], (fd c).nv] (.int .i64 (tc (fd c))) := fun c hc => hT _ (probe_fd hc)
  have htc : ∀ c, c ≤ INF → (tc (fd c) < 0 ↔ cmpD (fd c) d.abs < 0 ∨ (cmpD (fd c) d.abs = 0 ∧ more = true)) ∧ (0 < tc (fd c) ↔ 0 < cmpD (fd c) d.abs) := fun c hc => ht _ (probe_fd hc)
  have kM := c_7Middle (low d) hlI
  have kTM := hT _ (probe_mid7 hlI)
  have tM := ht _ (probe_mid7 hlI)
  rw [cmp_swap d.abs, cmp_mid7 hlI, m1] at tM
  have kN := c_Num 1 (by decide)
  have kTU := hT _ (probe_one (e := -1022) (by decide))
  have tU := ht _ (probe_one (e := -1022) (by decide))
  rw [cmp_swap d.abs] at tU
  have hsm := one_cmp h0 (-1022)
  have hkv := c_28value
  have hb0 : cmpD (fd 0) d.abs ≤ 0 := fd_le_trans hbl.1 (Nat.zero_le _) hbl.2.1
  have hun : ∀ c, Bel c d.abs → c = low d := fun c hc => bel_unique hc hbl
  have hz : low d = 0 → ¬ (hf d (unitOf d.top) = false ∧ bl d (unitOf d.top) = false) := fun h hh => by
    have h1 := m2.2 hh
    rw [h] at h1
    have h2 : (fd 0).ok := fd_ok' 0
    have h3 := cmp_val_eq.1 h1
    have h4 : (fd 0).val = 0 := val_zero (by decide +kernel)
    rw [h4] at h3
    exact h0 ((val_eq_zero (d := d.abs)).1 h3.symm)
  have hle0 := hbl.2.1
  rw [toS_no h0 htle, upM_low h0 htle]
  have hvS : ∀ a, vS d a = if a = true then low d + 1 else low d := fun _ => rfl
  have ws1 : IntKind.wrap .u64 ((low d : Int) + 0) = (low d : Int) := wrapu (by omega) (by show _ < 18446744073709551616; omega)
  have ws2 : IntKind.wrap .u64 ((low d : Int) + 1) = ((low d + 1 : Nat) : Int) := wrapu (by omega) (by show _ < 18446744073709551616; omega)
  have ws3 : IntKind.wrap .u64 ((low d : Int) + 9223372036854775808) = ((low d + 9223372036854775808 : Nat) : Int) := wrapu (by omega) (by show _ < 18446744073709551616; omega)
  have ws4 : IntKind.wrap .u64 (((low d + 1 : Nat) : Int) + 0) = ((low d + 1 : Nat) : Int) := wrapu (by omega) (by show _ < 18446744073709551616; omega)
  have ws5 : IntKind.wrap .u64 (((low d + 1 : Nat) : Int) + 9223372036854775808) = ((low d + 1 + 9223372036854775808 : Nat) : Int) := wrapu (by omega) (by show _ < 18446744073709551616; omega)
  have ws6 : ((low d : Int)).tmod 2 = ((low d % 2 : Nat) : Int) := n_tmod (low d) 2
  have e6 : Dy.nv ⟨false, 1, -1022⟩ = .agg [.bool false, .lst 1 [.int .u32 1], .int .i64 (-1022)] := by rw [← VN_one]; rfl
  rw [e6] at kTU
  rw [VN_one] at kN
  have hgt : 0 < tc (fd INF) := Decidable.byContradiction fun h => by
    refine h (t2.2.2 (Int.not_le.1 fun h3 => ?_))
    have := hun INF ⟨Nat.le_refl _, h3, .inl rfl⟩
    omega
  have h0I : 0 < cmpD (fd INF) d.abs := t2.2.1 hgt
  generalize mid7 (low d) = y at *
  generalize tc y = cM at *
  generalize tc ⟨false, 1, -1022⟩ = cU at *
  generalize hf d (unitOf d.top) = H at *
  generalize bl d (unitOf d.top) = L at *
  generalize cmpD d.abs ⟨false, 1, -1022⟩ = cs at *
  simp only [u, Dy.nv, DP, VN, VL] at k1 k2 hTc kM kTM kN kTU hkv ⊢
  simp only [Tryz.f77, go_sem]
  refine qcall_i (k1) ?_; simp only [Tryz.f77, go_sem]
  refine qcall_i (k2) ?_; simp only [Tryz.f77, go_sem]
  refine qif_df (by omega) ?_
  simp only [Tryz.f77, go_sem]
  refine PLoop.intro (fun i : Nat × Nat => ⟨[(0, .val (.bool d.s)), (1, .val (.int .i64 dir)), (5, .ptr 5 0), (6, .ptr 6 0), (7, .val (.int .u64 i.1)), (8, .val (.int .u64 i.2)), (9, .val (.bool false))], [(5, (.box [.bool s1, .lst n1 l1, .int .i64 e1, .bool s2, .lst n2 l2, .int .i64 e2, .bool rt], false)), (6, (.box [.int .u64 0, .int .i64 0], false))]⟩)
    (fun i => i.1 < i.2 ∧ i.2 ≤ INF ∧ cmpD (fd i.1) d.abs ≤ 0 ∧ 0 < cmpD (fd i.2) d.abs) (fun i => i.2 - i.1) (0, INF) ⟨by decide, Nat.le_refl _, hb0, h0I⟩ ?_ fun i hi => walk ?_
  · have hn : ¬ tc (fd INF) ≤ 0 := by omega
    simp [Wk, sget, killL, kill1, SV.key, hn]
    try rfl
  obtain ⟨lo, hi'⟩ := i
  obtain ⟨g1, g2, g3, g4⟩ := hi
  simp only at g1 g2 g3 g4
  have x1 : IntKind.wrap .u64 ((hi' : Int) - (lo : Int)) = ((hi' - lo : Nat) : Int) := by
    rw [show (hi' : Int) - lo = ((hi' - lo : Nat) : Int) by omega]; exact wrap_nat64 (INF_W (by omega))
  have x2 : IntKind.wrap .u64 (((hi' - lo : Nat) : Int).tdiv 2) = (((hi' - lo) / 2 : Nat) : Int) := by
    rw [show (((hi' - lo : Nat) : Int).tdiv 2) = (((hi' - lo) / 2 : Nat) : Int) from n_tdiv _ 2]; exact wrap_nat64 (INF_W (by omega))
  have x3 : IntKind.wrap .u64 ((lo : Int) + (((hi' - lo) / 2 : Nat) : Int)) = ((lo + (hi' - lo) / 2 : Nat) : Int) := by
    rw [show (lo : Int) + (((hi' - lo) / 2 : Nat) : Int) = ((lo + (hi' - lo) / 2 : Nat) : Int) by omega]; exact wrap_nat64 (INF_W (by omega))
  simp only [Tryz.f77, x1, go_sem]
  refine qif_d (fun h5 => ?_) (fun h5 => ?_)
  · have k3 := hkv (lo + (hi' - lo) / 2) (by omega)
    have k4 := hTc (lo + (hi' - lo) / 2) (by omega)
    have t4 := (htc (lo + (hi' - lo) / 2) (by omega)).2
    simp only [Tryz.f77, x1, x2, x3, go_sem]
    refine qcall_i (k3) ?_; simp only [Tryz.f77, go_sem]
    refine qcall_i (k4) ?_; simp only [Tryz.f77, go_sem]
    refine qif_d (fun h6 => ?_) (fun h6 => ?_)
    · simp only [Tryz.f77, go_sem]
      refine ⟨(lo + (hi' - lo) / 2, hi'), ⟨by dsimp only; omega, g2, by dsimp only; omega, g4⟩, by dsimp only; omega, ?_⟩
      simp [Wk, sget, killL, kill1, SV.key, NL, VL, u, e32]
    · simp only [Tryz.f77, go_sem]
      refine ⟨(lo, lo + (hi' - lo) / 2), ⟨by dsimp only; omega, by dsimp only; omega, g3, by dsimp only; omega⟩, by dsimp only; omega, ?_⟩
      simp [Wk, sget, killL, kill1, SV.key, NL, VL, u, e32]
  have e4 : hi' = lo + 1 := by omega
  subst e4
  have elo : lo = low d := hun lo ⟨by omega, g3, .inr g4⟩
  clear g1 g3 g4 x1 x2 x3 h5 g2
  simp only [Tryz.f77, go_sem]
  subst elo
  have k3 := hkv (low d) (by omega)
  have k4 := hTc (low d) (by omega)
  have t4 := htc (low d) (by omega)
  rw [show ((1 : Nat) : Int) = 1 from rfl] at kN
  clear hkv hTc htc hT ht k1 k2 t2 hbl hun hp hl hb0 hgt h0I
  obtain ⟨R, hR⟩ : ∃ R : PV, R = .agg [.int .u64 ((withS d.s (vS d (awayS dir d.s (decide (low d % 2 = 1)) H (L || more))) : Nat) : Int), .int .i64 ((if vS d (awayS dir d.s (decide (low d % 2 = 1)) H (L || more)) = INF then 5 else if (H || (L || more)) = true then (if d.top < -1022 then 3 else 1) else 0 : Nat) : Int)] := ⟨_, rfl⟩
  rw [← hR]
  rw [hvS] at hR
  clear hvS
  generalize tc (fd (low d)) = c0 at *
  generalize cmpD (fd (low d)) d.abs = q0 at *
  generalize fd (low d) = x at *
  have hlwI : low d < 9218868437227405312 := by omega
  generalize low d = lw at *
  generalize d.top = dt at *
  generalize d.s = ds at *
  have hnl : ((lw : Int) = 9218868437227405312) = False := eq_false (by omega)
  have F1 : c0 = 0 ↔ H = false ∧ L = false ∧ more = false := by
    cases H <;> cases L <;> cases more <;> simp at m2 t4 ⊢ <;> omega
  have F2 : (cM < 0 ↔ H = true ∧ (L = true ∨ more = true)) ∧ (cM = 0 ↔ H = true ∧ L = false ∧ more = false) := by
    cases H <;> cases L <;> cases more <;> simp at tM ⊢ <;> omega
  have F3 : 0 < cU ↔ dt < -1022 := by omega
  have F4 : lw = 0 → ¬ (H = false ∧ L = false) := hz
  have F5 : c0 ≤ 0 := by
    cases H <;> cases L <;> cases more <;> simp at m2 t4 ⊢ <;> omega
  clear m1 m2 tM t4 tU hz hle0 hsm
  have bnt : (!true) = false := rfl
  have bnf : (!false) = true := rfl
  cases ds <;> rcases dir4 hd.1 hd.2 with rfl | rfl | rfl | rfl
  all_goals
    simp only [Tryz.f77, ws1, ws2, ws3, ws4, ws5, ws6, hnl, go_sem]
    repeat' first
      | (with_reducible refine qcall_i k3 ?_; simp only [Tryz.f77, ws1, ws2, ws3, ws4, ws5, ws6, hnl, go_sem])
      | (with_reducible refine qcall_i k4 ?_; simp only [Tryz.f77, ws1, ws2, ws3, ws4, ws5, ws6, hnl, go_sem])
      | (with_reducible refine qcall_i kM ?_; simp only [Tryz.f77, ws1, ws2, ws3, ws4, ws5, ws6, hnl, go_sem])
      | (with_reducible refine qcall_i kTM ?_; simp only [Tryz.f77, ws1, ws2, ws3, ws4, ws5, ws6, hnl, go_sem])
      | (with_reducible refine qcall_i kN ?_; simp only [Tryz.f77, ws1, ws2, ws3, ws4, ws5, ws6, hnl, go_sem])
      | (with_reducible refine qcall_i kTU ?_; simp only [Tryz.f77, ws1, ws2, ws3, ws4, ws5, ws6, hnl, go_sem])
      | ((with_reducible refine qif_d (fun h => ?_) (fun h => ?_)) <;> simp only [Tryz.f77, ws1, ws2, ws3, ws4, ws5, ws6, hnl, go_sem])
  all_goals
    refine Eq.trans ?_ hR.symm
    clear hR k3 k4 kM kTM kN kTU ws1 ws2 ws3 ws4 ws5 ws6 hd bnt bnf hnl e6 h0 htle ht1
    cases H <;> cases L <;> cases more <;> simp_all [awayS, upw, withS] <;> (repeat' split) <;> omega
end

/- The document's quotients and roots. -/
section
open Go PG Go.Proofs
set_option maxRecDepth 100000
set_option linter.unusedSimpArgs false
set_option linter.unusedVariables false

theorem mulS_rng {K J : Nat} {a b : Dy} (ha : LimN K a) (hb : LimN J b) : bitLen (mulS a b).m ≤ 2 * K + 2 * J ∧ -((K + J : Nat) : Int) ≤ (mulS a b).e ∧ (mulS a b).e ≤ ((K + J : Nat) : Int) := by
  have h1 := ha.bits
  have h2 := hb.bits
  have h3 := ha.2.2
  have h4 := hb.2.2
  have h5 := bitLen_mul_le a.m b.m
  unfold mulS
  split
  · have : bitLen Dy.zero.m = 0 := by decide
    have e0 : Dy.zero.e = 0 := rfl
    omega
  · dsimp only
    omega
theorem c_TCmpQ {K J : Nat} {a b n : Dy} (ha : LimN K a) (hb : LimN J b) (hn : probe n) (hK : K ≤ 100000) (hJ : J ≤ 100000) : PC E 116 [.agg [.bool a.s, .lst (dg B a.m).length (V (dg B a.m)), .int .i64 a.e, .bool b.s, .lst (dg B b.m).length (V (dg B b.m)), .int .i64 b.e, .bool false], n.nv] (.int .i64 (cmpD (mulS n b) a)) := by
  have km := l_28Mul hn.1 hb (by omega)
  have h1 := mulS_rng hn.1 hb
  have h2 := ha.bits
  have h3 := ha.2.2
  have kc := k_5Cmp (a := mulS n b) (b := a) (by omega) (by omega) (by omega) (by omega)
  generalize mulS n b = p at *
  simp only [Dy.nv, DP, VN, VL] at km kc ⊢
  refine PC.of_body follows Tryz.func116 (by decide +kernel) rfl (by kernel_rfl) (Nat.le_of_ble_eq_true rfl) (walk ?_)
  simp only [Tryz.f116, go_sem]
  refine qcall_i (km) ?_; simp only [Tryz.f116, go_sem]
  refine qcall_i (kc) ?_; simp only [Tryz.f116, go_sem]
  try rfl
theorem c_TCmpR {K : Nat} {a n : Dy} {s2 : Bool} {n2 : Nat} {l2 : List PV} {e2 : Int} (ha : LimN K a) (hn : probe n) (hK : K ≤ 100000) : PC E 116 [.agg [.bool a.s, .lst (dg B a.m).length (V (dg B a.m)), .int .i64 a.e, .bool s2, .lst n2 l2, .int .i64 e2, .bool true], n.nv] (.int .i64 (cmpD (mulS n n) a)) := by
  have km := l_28Mul hn.1 hn.1 (by omega)
  have h1 := mulS_rng hn.1 hn.1
  have h2 := ha.bits
  have h3 := ha.2.2
  have kc := k_5Cmp (a := mulS n n) (b := a) (by omega) (by omega) (by omega) (by omega)
  generalize mulS n n = p at *
  simp only [Dy.nv, DP, VN, VL] at km kc ⊢
  refine PC.of_body follows Tryz.func116 (by decide +kernel) rfl (by kernel_rfl) (Nat.le_of_ble_eq_true rfl) (walk ?_)
  simp only [Tryz.f116, go_sem]
  refine qcall_i (km) ?_; simp only [Tryz.f116, go_sem]
  refine qcall_i (kc) ?_; simp only [Tryz.f116, go_sem]
  try rfl
theorem c_28test {s1 s2 rt : Bool} {n1 n2 : Nat} {l1 l2 : List PV} {e1 e2 : Int} : PC E 78 [.agg [.bool s1, .lst n1 l1, .int .i64 e1], .agg [.bool s2, .lst n2 l2, .int .i64 e2], .bool rt] (.agg [.bool s1, .lst n1 l1, .int .i64 e1, .bool s2, .lst n2 l2, .int .i64 e2, .bool rt]) := by
  refine PC.of_body follows Tryz.func78 (by decide +kernel) rfl (by kernel_rfl) (Nat.le_of_ble_eq_true rfl) (walk ?_)
  simp only [Tryz.f78, go_sem]
  try rfl
theorem partD_m0 {a b : Dy} (ha : a.m ≠ 0) (hb : b.m ≠ 0) : (partD a b).m ≠ 0 ∧ (partD a b).s = (a.s != b.s) := by
  have hq := (part_pos (b := b) ha).resolve_right hb
  have h0 : a.m * 2 ^ partN a b / b.m ≠ 0 := fun h => by rw [h] at hq; exact absurd hq (by decide)
  exact ⟨fun h => h0 (mkD_m0.1 h), mkD_s h0⟩
theorem c_28Quotient {a b : Dy} (ha : a.m ≠ 0) (hb : b.m ≠ 0) (ba : bitLen a.m ≤ 4400) (bb : bitLen b.m ≤ 4400) (ea : -20000 ≤ a.e ∧ a.e ≤ 20000) (eb : -20000 ≤ b.e ∧ b.e ≤ 20000) {dir : Int} (hd : 0 ≤ dir ∧ dir ≤ 3) :
    PC E 31 [a.nv, b.nv, .int .i64 dir] (ansB (toS (partD a b) (partR a b) dir)) := by
  have hla : LimN 30000 a.abs := LimN.mk (n := 4400) (J := 20000) ba ea (by decide)
  have hlb : LimN 30000 b.abs := LimN.mk (n := 4400) (J := 20000) bb eb (by decide)
  obtain ⟨h1, h2⟩ := partD_m0 ha hb
  have kb := c_28By h1 (tc := fun n => cmpD (mulS n b.abs) a.abs) (fun n hn => c_TCmpQ hla hlb hn (by decide) (by decide)) (tc_quo ha hb ba bb ea eb) hd
  rw [h2] at kb
  have kt := @c_28test false false false
  unfold ansB at kb ⊢
  generalize toS (partD a b) (partR a b) dir = T at *
  simp only [Dy.abs, Dy.nv, DP, VN, VL] at kb ⊢
  refine PC.of_body follows Tryz.func31 (by decide +kernel) rfl (by kernel_rfl) (Nat.le_of_ble_eq_true rfl) (walk ?_)
  simp only [Tryz.f31, go_sem]
  refine qcall_i (kt) ?_; simp only [Tryz.f31, go_sem]
  refine qcall_i (kb) ?_; simp only [Tryz.f31, go_sem]
  try rfl
end
end Go.Proofs.YtmnojbkakgfinaaGreatDoor
