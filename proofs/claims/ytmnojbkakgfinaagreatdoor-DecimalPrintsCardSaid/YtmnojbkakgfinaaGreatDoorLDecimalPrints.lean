/- The contract of the law DecimalPrints: at whatever reads as its arguments it returns true. -/
import Derived.Test.YtmnojbkakgfinaaGreatDoorKB
import Derived.Test.YtmnojbkakgfinaaGreatDoorK6
import Derived.Test.YtmnojbkakgfinaaGreatDoorK3
import Derived.Test.YtmnojbkakgfinaaGreatDoorG7
open Go PG Go.Proofs
set_option maxRecDepth 100000
set_option linter.unusedSimpArgs false
set_option linter.unusedVariables false
namespace Go.Proofs.YtmnojbkakgfinaaGreatDoor
attribute [local go_sem] Lay2 Lay3 Lay4 Lay5 Lay6 Lay7 Lay8 Lay9 Lay10 Lay11 Lay12 Lay13 Lay14 Lay15 Lay16 Lay17 Lay18 Lay19 Lay21 Lay23 Lay24 Lay25 Lay26 Lay27 Lay28 Lay31 Lay32 Lay33 Lay40 Lay43 Lay44 Lay49 Lay50 Lay57 Lay58 Lay61 Lay68 Lay69 Lay72 Lay77 Lay125 Lay133 Lay134 Lay150 Lay167 Lay168 Lay169 Lay170 Lay180 Lay181 Lay185 Lay186 Lay189 Lay205 Lay208 Lay223 Lay227 Lay228 Lay231 Lay232 Lay233 Lay234 Lay235 Lay236 Lay237 Lay238 Lay240 Lay241 Lay242 Lay243 Lay244 Lay245 Lay246 Lay247 Lay249 Lay250 qexec_seq qexec_skip qexec_exit qexec_ret qexec_block qexec_loop qexec_range qexec_cond qexec_region qexec_drawn qops_nil qops_none qops_some put_some put_none pblk_exit pblk_other newDsts_nil inlDsts_nil isInl sget_cons sget_nil qval_some qbool_some qgs_bool qgs_und qfree_some qgrd_true qgrd_false qif_true qif_false qval_ite qval_itn qand_true map_ite map_some' map_none' qdo_move qdo_assign qdo_binOp qdo_pick qdo_unOp qdo_convert qdo_extract qdo_field qdo_fieldAddr qdo_alloc qdo_box qdo_build qdo_buildSlice qdo_load qdo_store qdo_nilCheck qdo_makeFunc qdo_makeSlice qdo_slice qdo_indexAddr qdo_call qcont_val qcont_new qcont_st qcont_app0 qcont_app qcont_inl qcont_call njSV_val njSV_nil njSV_row njSV_ptr njSV_sub binV_val binV_nil binV_nn binV_ptr bin_np bin_nnp nilCmp bin_add bin_sub bin_mul bin_quo bin_rem bin_and bin_or bin_xor bin_andNot bin_eql bin_neq bin_lss bin_leq bin_gtr bin_geq bin_shl bin_shr bin_seql bin_sneq bin_sadd bin_beql bin_aeql bin_aneq eqAnd_some eqCells_nil eqCells_cons fieldTypes isStruct eqCell bin_bneq un_not un_neg nj_ite Nat.beq stepA stepR isNew opSV constSV RV.sv allSome E_mu E_own qkeyIn_none qkeyIn_some qkeyAt_none qkeyAt_some Bool.or_false Bool.false_or Bool.or_true Bool.true_or cst setB res resSV pstart startL killL kill1 eraL frzL svPV rvPV rvInt rvSlice rvBytes frzOf close closeL pconv pbuiltin pmax2 partPV setCells fillPV zrow bound newSV PV.cells Bk.cells Bk.with SV.key pres presL_nil presL_tmp presL_cell presC2_some cellPV_ptr presC List.toList_toArray List.size_toArray List.getElem?_drop Nat.mul_one Int.toNat_natCast Nat.not_lt_zero Nat.lt_irrefl decide_true decide_false Nat.not_lt Option.some.injEq PV.lst.injEq PV.int.injEq PV.bool.injEq PV.tuple.injEq List.cons.injEq Option.map_some Option.map_none Option.bind_some Option.toList List.map_cons List.map_nil List.nil_append List.cons_append List.append_nil List.zip_cons_cons List.zip_nil_left List.zip_nil_right List.getElem?_cons_zero List.getElem?_cons_succ List.drop_zero List.drop_succ_cons List.take_succ_cons List.take_zero List.set_cons_zero List.set_cons_succ List.length_cons List.length_nil List.length_set List.replicate_one List.replicate_zero bne_self_eq_false beq_self_eq_true Nat.zero_add Nat.add_zero Nat.zero_mul Bool.false_eq_true Bool.true_eq_false Bool.not_true Bool.not_false and_true true_and false_and and_false or_false false_or or_true true_or not_true_eq_false not_false_eq_true ne_eq gt_iff_lt List.mem_cons List.not_mem_nil
attribute [local go_sem ↓] pseq_normal pseq_ret pseq_exit pblk_normal pblk_ret newDsts_cons inlDsts_cons gdst_zero gdst_succ retQ_normal retQ_ret qneed_nil qneed_cons retM_normal retM_ret endR_normal endR_ret endR_exit
attribute [local go_sem] Int.reduceToNat Int.reduceEq Int.reduceNe Int.reduceLT Int.reduceLE Int.reduceNeg Int.reduceAdd Nat.reduceEqDiff Nat.reduceAdd Nat.reduceSub Nat.reduceMul Nat.reduceLeDiff Nat.reduceLT
attribute [local go_sem ↓] reduceIte reduceCtorEq

theorem sgT_len (sg : Bool) : (sgT sg).length ≤ 1 := by cases sg <;> decide
set_option maxHeartbeats 4000000 in
theorem law_DecimalPrints (pvs : List PV) (h : Fits [qU64, qInt] pvs) : PC E 4 pvs (.bool true) := by
  obtain ⟨_, _, rfl, ⟨b, rfl, hb⟩, ⟨n, rfl, hn1, hn2⟩⟩ := fits2 h
  have kA : ∀ s : List UInt8, s.length ≤ 1000 → PC E 49 [TX s] (.tuple [.int .i64 (atoiV s), .any]) := fun s hs => s_AtoiAny hs
  have k0 := c_alive32 kA
  by_cases hbig : 60 < n ∧ n ≤ 800
  · simp only [TX, u]
    refine PC.of_body follows Tryz.func4 (by decide +kernel) rfl (by kernel_rfl) (Nat.le_of_ble_eq_true rfl) (walk ?_)
    simp only [Tryz.f4, B8_size, B8_cut, B8_eq, B8_mk, B8_app, Int.toNat_natCast, go_sem]
    refine qcall_i (k0) ?_; simp only [Tryz.f4, B8_size, B8_cut, B8_eq, B8_mk, B8_app, Int.toNat_natCast, go_sem]
    refine qif_dt (by omega) ?_
    simp only [Tryz.f4, B8_size, B8_cut, B8_eq, B8_mk, B8_app, Int.toNat_natCast, go_sem]
    try (refine qif_dt (by omega) ?_; simp only [Tryz.f4, B8_size, B8_cut, B8_eq, B8_mk, B8_app, Int.toNat_natCast, go_sem])
    try rfl
  by_cases hout : ¬ (1 ≤ n ∧ n ≤ 800)
  · have k1 := d_PrintX hb hout
    simp only [TX, u] at k1 ⊢
    refine PC.of_body follows Tryz.func4 (by decide +kernel) rfl (by kernel_rfl) (Nat.le_of_ble_eq_true rfl) (walk ?_)
    simp only [Tryz.f4, B8_size, B8_cut, B8_eq, B8_mk, B8_app, Int.toNat_natCast, go_sem]
    refine qcall_i (k0) ?_; simp only [Tryz.f4, B8_size, B8_cut, B8_eq, B8_mk, B8_app, Int.toNat_natCast, go_sem]
    repeat' first
      | ((with_reducible refine qcall_i k1 ?_); simp only [Tryz.f4, B8_size, B8_cut, B8_eq, B8_mk, B8_app, Int.toNat_natCast, go_sem])
      | ((with_reducible refine qif_d (fun h => ?_) (fun h => ?_)) <;> first | (exfalso; omega) | simp only [Tryz.f4, B8_size, B8_cut, B8_eq, B8_mk, B8_app, Int.toNat_natCast, go_sem])
      | rfl
  have hrng : 1 ≤ n ∧ n ≤ 60 := by omega
  obtain ⟨N, rfl⟩ : ∃ N : Nat, n = N := ⟨n.toNat, by omega⟩
  have kk := c_rKind b hb
  have kk2 : PC E 11 [u b] (.int .i64 (kind b)) := by
    simp only [u] at kk ⊢
    refine PC.of_body follows Tryz.func11 (by decide +kernel) rfl (by kernel_rfl) (Nat.le_of_ble_eq_true rfl) (walk ?_)
    simp only [Tryz.f11, go_sem]
    refine qcall_i (kk) ?_; simp only [Tryz.f11, go_sem]
    try rfl
  have hsg : (b : Int) ≥ 9223372036854775808 ↔ fs b = true := by unfold fs; rw [decide_eq_true_eq]; omega
  have hmx : maxLen = 9223372036854775807 := rfl
  have hk5 : kind b ≤ 5 := by unfold kind; split <;> (try split) <;> (try split) <;> (try split) <;> (try split) <;> omega
  by_cases hw : kind b = 0 ∨ 3 ≤ kind b
  · have k1 := d_PrintW hb hw (n := (N : Int)) (by omega)
    have hp : prW b = if 3 < kind b then wNaN else sgT (fs b) ++ (if kind b = 3 then wInf else [48]) := rfl
    rw [hp] at k1
    clear hp
    have hkd : kind b = 0 ∨ kind b = 3 ∨ kind b = 4 ∨ kind b = 5 := by omega
    generalize fs b = sg at *
    generalize kind b = kd at *
    unfold sgT wNaN wInf at k1
    simp only [TX, u] at k1 kk2 ⊢
    rcases hkd with rfl | rfl | rfl | rfl <;> cases sg
    all_goals
      simp only [Int.cast_ofNat_Int] at kk2
      have hsg2 := hsg
      refine PC.of_body follows Tryz.func4 (by decide +kernel) rfl (by kernel_rfl) (Nat.le_of_ble_eq_true rfl) (walk ?_)
      simp only [Tryz.f4, B8_size, B8_cut, B8_eq, B8_mk, B8_app, Int.toNat_natCast, go_sem]
      refine qcall_i (k0) ?_; simp only [Tryz.f4, B8_size, B8_cut, B8_eq, B8_mk, B8_app, Int.toNat_natCast, go_sem]
      repeat' first
        | ((with_reducible refine qcall_i k1 ?_); simp only [Tryz.f4, B8_size, B8_cut, B8_eq, B8_mk, B8_app, Int.toNat_natCast, go_sem])
        | ((with_reducible refine qcall_i kk2 ?_); simp only [Tryz.f4, B8_size, B8_cut, B8_eq, B8_mk, B8_app, Int.toNat_natCast, go_sem])
        | ((with_reducible refine qif_dt (hsg.2 rfl) ?_); simp only [Tryz.f4, B8_size, B8_cut, B8_eq, B8_mk, B8_app, Int.toNat_natCast, go_sem])
        | ((with_reducible refine qif_df (fun h => by cases hsg.1 h) ?_); simp only [Tryz.f4, B8_size, B8_cut, B8_eq, B8_mk, B8_app, Int.toNat_natCast, go_sem])
        | ((with_reducible refine qif_dt (by omega) ?_); simp only [Tryz.f4, B8_size, B8_cut, B8_eq, B8_mk, B8_app, Int.toNat_natCast, go_sem])
        | ((with_reducible refine qif_df (by omega) ?_); simp only [Tryz.f4, B8_size, B8_cut, B8_eq, B8_mk, B8_app, Int.toNat_natCast, go_sem])
        | ((refine qand_i (by (try rw [hmx]); (try simp only [List.length_cons, List.length_nil]); omega) ?_); simp only [Tryz.f4, B8_size, B8_cut, B8_eq, B8_mk, B8_app, Int.toNat_natCast, go_sem])
        | rfl
        | (decide)
  · have hk : kind b = 1 ∨ kind b = 2 := by omega
    obtain ⟨z1, z2, z3⟩ := kind_fz hk
    obtain ⟨d1, d2, d3, d4, d5, d6⟩ := fd_facts z2 z3
    obtain ⟨x, M, hN, hx1, hx2, k1⟩ := d_PrintG hb hk (n := N) (by omega)
    have hM0 : M ≠ 0 := by have := hN.lo; have := p10_pos (N - 1); omega
    have hlen := dec_len_eq (by omega) hN.lo hN.hi
    have kT := c_Told (n := N) (x := x) (M := M) (by omega) (by omega) (by omega) hM0 hlen
    have hMb : bitLen M ≤ 1000 := by
      have h1 := ten_bits N
      have h2 := bitLen_mono (Nat.le_of_lt hN.hi)
      omega
    have kN := c_Nearest (d := fd (fsz b)) hN.up hN.dn hN.ev1 hN.ev2 (by have := fd_bits (fsz b); omega) hMb (by omega) (by omega)
    have kz := c_rSize b hb
    have kw := c_Worth (fsz b) (Nat.lt_trans (fsz_lt b) (by decide))
    have hsp : prD (fs b) N x M = sgT (fs b) ++ prD false N x M := by unfold prD; simp [sgT]
    rw [hsp] at k1
    have hpl := prD_len (sg := false) (n := N) (x := x) (M := M) (by omega) (by omega) hlen
    have hsl := sgT_len (fs b)
    clear hsp hN d1 d2 d3 d4 d5 d6 hlen hMb z1 z2 z3
    generalize fsz b = z at *
    generalize fd z = dz at *
    obtain ⟨ds, dm, de⟩ := dz
    generalize prD false N x M = t at *
    generalize fs b = sg at *
    generalize kind b = kd at *
    simp only [TX, u, VN, VL, Dy.nv, DP] at *
    rcases hk with rfl | rfl <;> cases sg
    all_goals
      simp only [Int.cast_ofNat_Int] at kk2
      simp only [sgT, Bool.false_eq_true, if_false, if_true, List.nil_append, List.cons_append] at k1
      refine PC.of_body follows Tryz.func4 (by decide +kernel) rfl (by kernel_rfl) (Nat.le_of_ble_eq_true rfl) (walk ?_)
      simp only [Tryz.f4, B8_size, B8_cut, B8_eq, B8_mk, B8_app, Int.toNat_natCast, go_sem]
      refine qcall_i (k0) ?_; simp only [Tryz.f4, B8_size, B8_cut, B8_eq, B8_mk, B8_app, Int.toNat_natCast, go_sem]
      repeat' first
        | ((with_reducible refine qcall_i k1 ?_); simp only [Tryz.f4, B8_size, B8_cut, B8_eq, B8_mk, B8_app, Int.toNat_natCast, List.take_length, go_sem])
        | ((with_reducible refine qcall_i kk2 ?_); simp only [Tryz.f4, B8_size, B8_cut, B8_eq, B8_mk, B8_app, Int.toNat_natCast, List.take_length, go_sem])
        | ((with_reducible refine qcall_i kT ?_); simp only [Tryz.f4, B8_size, B8_cut, B8_eq, B8_mk, B8_app, Int.toNat_natCast, List.take_length, go_sem])
        | ((with_reducible refine qcall_i kz ?_); simp only [Tryz.f4, B8_size, B8_cut, B8_eq, B8_mk, B8_app, Int.toNat_natCast, List.take_length, go_sem])
        | ((with_reducible refine qcall_i kw ?_); simp only [Tryz.f4, B8_size, B8_cut, B8_eq, B8_mk, B8_app, Int.toNat_natCast, List.take_length, go_sem])
        | ((with_reducible refine qcall_i kN ?_); simp only [Tryz.f4, B8_size, B8_cut, B8_eq, B8_mk, B8_app, Int.toNat_natCast, List.take_length, go_sem])
        | ((with_reducible refine qif_dt (hsg.2 rfl) ?_); simp only [Tryz.f4, B8_size, B8_cut, B8_eq, B8_mk, B8_app, Int.toNat_natCast, List.take_length, go_sem])
        | ((with_reducible refine qif_df (fun h => by cases hsg.1 h) ?_); simp only [Tryz.f4, B8_size, B8_cut, B8_eq, B8_mk, B8_app, Int.toNat_natCast, List.take_length, go_sem])
        | ((with_reducible refine qif_dt (by omega) ?_); simp only [Tryz.f4, B8_size, B8_cut, B8_eq, B8_mk, B8_app, Int.toNat_natCast, List.take_length, go_sem])
        | ((with_reducible refine qif_df (by (try simp only [List.length_cons]); omega) ?_); simp only [Tryz.f4, B8_size, B8_cut, B8_eq, B8_mk, B8_app, Int.toNat_natCast, List.take_length, go_sem])
        | ((refine qand_i (by (try rw [hmx]); (try simp only [List.length_cons, List.length_nil]); omega) ?_); simp only [Tryz.f4, B8_size, B8_cut, B8_eq, B8_mk, B8_app, Int.toNat_natCast, List.take_length, List.drop_zero, List.drop_succ_cons, List.take_succ_cons, List.take_zero, go_sem])
        | rfl
      skip
end Go.Proofs.YtmnojbkakgfinaaGreatDoor
