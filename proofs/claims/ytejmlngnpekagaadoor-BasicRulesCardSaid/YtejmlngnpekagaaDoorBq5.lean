/- basic: roots. -/
import Derived.Test.YtejmlngnpekagaaDoorBq1
import Derived.Test.YtejmlngnpekagaaDoorRt3
open Go PG Go.Proofs
set_option maxRecDepth 100000
set_option linter.unusedSimpArgs false
set_option linter.unusedVariables false
namespace Go.Proofs.YtejmlngnpekagaaDoor
attribute [local go_sem] Lay2 Lay3 Lay4 Lay5 Lay6 Lay7 Lay8 Lay9 Lay10 Lay11 Lay12 Lay13 Lay14 Lay15 Lay16 Lay17 Lay18 Lay19 Lay21 Lay22 Lay23 Lay24 Lay25 Lay30 Lay33 Lay36 Lay37 Lay46 Lay47 Lay48 Lay53 Lay54 Lay55 Lay59 Lay100 Lay101 Lay127 Lay146 Lay162 Lay168 Lay169 Lay173 Lay185 Lay186 Lay187 Lay188 Lay189 Lay191 Lay192 Lay194 Lay195 Lay196 Lay199 qexec_seq qexec_skip qexec_exit qexec_ret qexec_block qexec_loop qexec_range qexec_cond qexec_region qexec_drawn qops_nil qops_none qops_some put_some put_none pblk_exit pblk_other newDsts_nil inlDsts_nil isInl sget_cons sget_nil qval_some qbool_some qgs_bool qgs_und qfree_some qgrd_true qgrd_false qif_true qif_false qval_ite qval_itn qand_true map_ite map_some' map_none' qdo_move qdo_assign qdo_binOp qdo_pick qdo_unOp qdo_convert qdo_extract qdo_field qdo_fieldAddr qdo_alloc qdo_box qdo_build qdo_buildSlice qdo_load qdo_store qdo_nilCheck qdo_makeFunc qdo_makeSlice qdo_slice qdo_indexAddr qdo_call qcont_val qcont_new qcont_st qcont_app0 qcont_app qcont_inl qcont_call njSV_val njSV_nil njSV_row njSV_ptr njSV_sub binV_val binV_nil binV_nn binV_ptr bin_np bin_nnp nilCmp bin_add bin_sub bin_mul bin_quo bin_rem bin_and bin_or bin_xor bin_andNot bin_eql bin_neq bin_lss bin_leq bin_gtr bin_geq bin_shl bin_shr bin_seql bin_sneq bin_sadd bin_beql bin_aeql bin_aneq eqAnd_some eqCells_nil eqCells_cons fieldTypes isStruct eqCell bin_bneq un_not un_neg nj_ite Nat.beq stepA stepR isNew opSV constSV RV.sv allSome E_mu E_own qkeyIn_none qkeyIn_some qkeyAt_none qkeyAt_some Bool.or_false Bool.false_or Bool.or_true Bool.true_or cst setB res resSV pstart startL killL kill1 eraL frzL svPV rvPV rvInt rvSlice frzOf close closeL pconv pbuiltin pmax2 partPV setCells fillPV zrow bound newSV PV.cells Bk.cells Bk.with SV.key pres presL_nil presL_tmp presL_cell presC2_some cellPV_ptr presC List.toList_toArray List.size_toArray List.getElem?_drop Nat.mul_one Int.toNat_natCast Nat.not_lt_zero Nat.lt_irrefl decide_true decide_false Nat.not_lt Option.some.injEq PV.lst.injEq PV.int.injEq PV.bool.injEq PV.tuple.injEq List.cons.injEq Option.map_some Option.map_none Option.bind_some Option.toList List.map_cons List.map_nil List.nil_append List.cons_append List.append_nil List.zip_cons_cons List.zip_nil_left List.zip_nil_right List.getElem?_cons_zero List.getElem?_cons_succ List.drop_zero List.drop_succ_cons List.take_succ_cons List.take_zero List.set_cons_zero List.set_cons_succ List.length_cons List.length_nil List.length_set List.replicate_one List.replicate_zero bne_self_eq_false beq_self_eq_true Nat.zero_add Nat.add_zero Nat.zero_mul Bool.false_eq_true Bool.true_eq_false Bool.not_true Bool.not_false and_true true_and false_and and_false or_false false_or or_true true_or not_true_eq_false not_false_eq_true ne_eq gt_iff_lt List.mem_cons List.not_mem_nil
attribute [local go_sem ↓] pseq_normal pseq_ret pseq_exit pblk_normal pblk_ret newDsts_cons inlDsts_cons gdst_zero gdst_succ retQ_normal retQ_ret qneed_nil qneed_cons retM_normal retM_ret endR_normal endR_ret endR_exit
attribute [local go_sem] Int.reduceToNat Int.reduceEq Int.reduceNe Int.reduceLT Int.reduceLE Int.reduceNeg Int.reduceAdd Nat.reduceEqDiff Nat.reduceAdd Nat.reduceSub Nat.reduceMul Nat.reduceLeDiff Nat.reduceLT
attribute [local go_sem ↓] reduceIte reduceCtorEq

/-- How far the number is shifted. -/
def rootN (d : Dy) : Nat := if (d.e - ((140 - bitLen d.m : Nat) : Int)) % 2 = 0 then 140 - bitLen d.m else 140 - bitLen d.m + 1
def rootM (d : Dy) : Nat := d.m * 2 ^ rootN d
def rootD (d : Dy) (r : Nat) : Dy := mkD false r ((d.e - rootN d) / 2)
theorem rootN_even (d : Dy) : (d.e - rootN d) % 2 = 0 := by
  unfold rootN; split <;> omega
theorem rootN_le (d : Dy) : rootN d ≤ 141 := by unfold rootN; split <;> omega
theorem rootM_bits {d : Dy} (h : bitLen d.m ≤ 4400) : bitLen (rootM d) ≤ 4541 := by
  have h1 := bitLen_shl_le d.m (rootN d)
  have h2 := rootN_le d
  unfold rootM
  omega
theorem rootM_pos {d : Dy} (h : d.m ≠ 0) : rootM d ≠ 0 := Nat.mul_ne_zero h (Nat.pos_iff_ne_zero.1 (Nat.two_pow_pos _))
/-- The number that is rooted has 140 bits or more: the root 70 or more. -/
theorem rootM_big {d : Dy} (h : d.m ≠ 0) : 2 ^ 139 ≤ rootM d := by
  unfold rootM
  have h1 : 2 ^ (bitLen d.m - 1) ≤ d.m := Nat.not_lt.1 fun h' => by
    have := (bitLen_le d.m (bitLen d.m - 1)).2 h'
    have := bitLen_pos h
    omega
  have h2 : 2 ^ 139 ≤ 2 ^ (bitLen d.m - 1) * 2 ^ rootN d := by
    rw [← Nat.pow_add]
    refine Nat.pow_le_pow_right (by decide) ?_
    have := bitLen_pos h
    unfold rootN
    split <;> omega
  exact Nat.le_trans h2 (Nat.mul_le_mul_right _ h1)
theorem tmod2 (x : Int) : x.tmod 2 = 0 ↔ x % 2 = 0 := ⟨fun h => Int.emod_eq_zero_of_dvd (Int.dvd_of_tmod_eq_zero h), fun h => Int.tmod_eq_zero_of_dvd (Int.dvd_of_emod_eq_zero h)⟩
theorem tdiv2 {x : Int} (h : x % 2 = 0) : x.tdiv 2 = x / 2 := Int.tdiv_eq_ediv_of_dvd (Int.dvd_of_emod_eq_zero h)
theorem rootD_fits {d : Dy} {r : Nat} (hf : d.fits) (hr : bitLen r ≤ 8192) : (rootD d r).fits := by
  have := rootN_le d
  have h1 := hf.1
  have h2 := hf.2
  exact mkD_fits (by omega) (by omega) (by omega)
def rootB (d : Dy) (r : Nat) (dir : Int) : PV := if mayP d ∧ d.s = false ∧ (0 ≤ dir ∧ dir ≤ 3) then .tuple [.int .u64 ((toS (rootD d r) (decide (r * r ≠ rootM d)) dir).1 : Nat), .int .u8 ((toS (rootD d r) (decide (r * r ≠ rootM d)) dir).2 : Nat), .int .i64 0] else .tuple [.int .u64 0, .int .u8 0, .int .i64 1]
set_option maxHeartbeats 4000000 in
theorem b_Root {p : PV} {d : Dy} (h : RD p d) {r : Nat} (hr : Isq (rootM d) r) (dir : Int) : PC E 78 [p, .int .i64 dir] (rootB d r dir) := by
  have k1 := b_may h
  have k3 := b_right dir
  obtain ⟨s1, P1, x1, e1, rfl, -⟩ := h
  unfold rootB
  by_cases ha : mayP d
  case neg =>
    rw [if_neg (fun h => ha h.1)]
    rw [decide_eq_false ha] at k1
    generalize (if d.fits then d else Dy.zero) = a' at *
    simp only [Dy.pv, DP] at k1 ⊢
    refine PC.of_body follows Tryd.func78 (by decide +kernel) rfl (by kernel_rfl) (Nat.le_of_ble_eq_true rfl) (walk ?_)
    simp only [Tryd.f78, go_sem]
    refine qcall_i (k1) ?_; simp only [Tryd.f78, go_sem]
    try rfl
  rw [decide_eq_true ha, if_pos ha.1] at k1
  by_cases hs : d.s = false
  case neg =>
    have hs : d.s = true := by simpa using hs
    rw [if_neg (fun h => by rw [hs] at h; exact absurd h.2.1 (by decide))]
    simp only [Dy.pv, DP] at k1 ⊢
    rw [hs] at k1
    refine PC.of_body follows Tryd.func78 (by decide +kernel) rfl (by kernel_rfl) (Nat.le_of_ble_eq_true rfl) (walk ?_)
    simp only [Tryd.f78, go_sem]
    refine qcall_i (k1) ?_; simp only [Tryd.f78, go_sem]
    try rfl
  by_cases hd : 0 ≤ dir ∧ dir ≤ 3
  case neg =>
    rw [if_neg (fun h => hd h.2.2)]
    rw [decide_eq_false hd] at k3
    simp only [Dy.pv, DP] at k1 ⊢
    rw [hs] at k1
    refine PC.of_body follows Tryd.func78 (by decide +kernel) rfl (by kernel_rfl) (Nat.le_of_ble_eq_true rfl) (walk ?_)
    simp only [Tryd.f78, go_sem]
    refine qcall_i (k1) ?_; simp only [Tryd.f78, go_sem]
    refine qcall_i (k3) ?_; simp only [Tryd.f78, go_sem]
    try rfl
  rw [decide_eq_true hd] at k3
  rw [if_pos ⟨ha, hs, hd⟩]
  have hN := rootN_even d
  have hNl := rootN_le d
  have hbm := rootM_bits ha.2.2
  have hm0 := rootM_pos ha.2.1
  have hr1 := isq_pos hr hm0
  have hrb : bitLen r ≤ 8192 := Nat.le_trans (bitLen_mono (Nat.le_trans (by
    have h4 := Nat.mul_le_mul_right r hr1
    omega) hr.1)) (Nat.le_trans hbm (by decide))
  have kb := k_Bits (num_bits (x := d.m) (by have := ha.2.2; omega))
  have ks := k_Shln (num_bits (x := d.m) (by have := ha.2.2; omega)) (rootN d) (by have := ha.2.2; omega)
  rw [show d.m * 2 ^ rootN d = rootM d from rfl] at ks
  have kr := k_Root hr hm0 (by omega)
  have km := r_Make (num_bits (x := r) (by omega)) (by omega) false ((d.e - rootN d) / 2)
  rw [show mkD false r ((d.e - rootN d) / 2) = rootD d r from rfl] at km
  have hf : (rootD d r).fits := rootD_fits ha.1 hrb
  unfold okD at km
  rw [if_pos hf] at km
  have hb9 : bitLen (rootD d r).m ≤ 8192 := Nat.le_trans (mkD_bits _ _ _) hrb
  have hx0 : (rootD d r).m ≠ 0 := fun h => by have := mkD_m0.1 h; omega
  have kt := r_To (d := rootD d r) (RD.fit (mkD_ok _ _ _) (Nat.le_trans hb9 (by decide)) hf) (Nat.le_trans hb9 (by decide)) (decide (r * r ≠ rootM d)) dir
  rw [if_pos (show toE (rootD d r) (decide (r * r ≠ rootM d)) dir from ⟨hf, hd.1, hd.2, fun h => hx0 h.2⟩)] at kt
  have hnot : (!decide (r * r = rootM d)) = decide (r * r ≠ rootM d) := by simp
  have hN2 : (d.e - ((140 - bitLen d.m : Nat) : Int)) % 2 = 0 ∧ rootN d = 140 - bitLen d.m ∨ (d.e - ((140 - bitLen d.m : Nat) : Int)) % 2 ≠ 0 ∧ rootN d = 140 - bitLen d.m + 1 := by
    unfold rootN
    by_cases h : (d.e - ((140 - bitLen d.m : Nat) : Int)) % 2 = 0
    · exact .inl ⟨h, if_pos h⟩
    · exact .inr ⟨h, if_neg h⟩
  have hbl := ha.2.2
  have hfe := ha.1
  generalize toS (rootD d r) (decide (r * r ≠ rootM d)) dir = To at *
  generalize decide (r * r ≠ rootM d) = mo at *
  generalize decide (r * r = rootM d) = ex at *
  generalize rootD d r = rd at *
  generalize rootM d = M at *
  obtain ⟨n0, hn0⟩ : ∃ n0, n0 = 140 - bitLen d.m := ⟨_, rfl⟩
  rw [← hn0] at hN2
  have w1 : IntKind.wrap .i64 (140 - (bitLen d.m : Int)) = 140 - (bitLen d.m : Int) := wrap64 (by omega) (by omega)
  have w2 : max (140 - (bitLen d.m : Int)) 0 = (n0 : Int) := by omega
  have w3 : IntKind.wrap .i64 (d.e - (n0 : Int)) = d.e - (n0 : Int) := wrap64 (by have := hfe.1; omega) (by have := hfe.2; omega)
  have w4 : IntKind.wrap .i64 (d.e - (rootN d : Int)) = d.e - (rootN d : Int) := wrap64 (by have := hfe.1; omega) (by have := hfe.2; omega)
  have w5 : (d.e - (rootN d : Int)).tdiv 2 = (d.e - (rootN d : Int)) / 2 := tdiv2 hN
  have w6 : IntKind.wrap .i64 ((d.e - (rootN d : Int)) / 2) = (d.e - (rootN d : Int)) / 2 := wrap64 (by have := hfe.1; omega) (by have := hfe.2; omega)
  have t2 := tmod2 (d.e - (n0 : Int))
  have w7 : IntKind.wrap .i64 ((d.e - (n0 : Int)).tmod 2) = (d.e - (n0 : Int)).tmod 2 := wrap64 (by have := Int.lt_tmod_of_pos (d.e - (n0 : Int)) (b := 2) (by decide); omega) (by have := Int.tmod_lt_of_pos (d.e - (n0 : Int)) (b := 2) (by decide); omega)
  clear hr hx0 hm0 hr1 hrb hbm hb9 hf hn0
  simp only [u, Dy.pv, DP, NN, NL] at k1 kb ks kr km kt ⊢
  rw [hs] at k1
  refine PC.of_body follows Tryd.func78 (by decide +kernel) rfl (by kernel_rfl) (Nat.le_of_ble_eq_true rfl) (walk ?_)
  simp only [Tryd.f78, go_sem]
  refine qcall_i (k1) ?_; simp only [Tryd.f78, go_sem]
  refine qcall_i (k3) ?_; simp only [Tryd.f78, go_sem]
  refine qcall_i (kb) ?_; simp only [Tryd.f78, w1, w2, w3, w7, go_sem]
  rcases hN2 with ⟨hp, hq⟩ | ⟨hp, hq⟩
  · refine qif_df (fun h => h (t2.2 hp)) ?_
    rw [← hq] at *
    simp only [Tryd.f78, go_sem]
    refine qcall_i (ks) ?_; simp only [Tryd.f78, go_sem]
    refine qcall_i (kr) ?_; simp only [Tryd.f78, w4, w5, w6, go_sem]
    refine qcall_i (km) ?_; simp only [Tryd.f78, hnot, go_sem]
    refine qcall_i (kt) ?_; simp only [Tryd.f78, go_sem]
    try exact ⟨rfl, rfl⟩
    try rfl
  · refine qif_dt (fun h => hp (t2.1 h)) ?_
    have w8 : IntKind.wrap .i64 ((n0 : Int) + 1) = (rootN d : Int) := by rw [wrap64 (by omega) (by omega)]; omega
    simp only [Tryd.f78, w8, go_sem]
    refine qcall_i (ks) ?_; simp only [Tryd.f78, go_sem]
    refine qcall_i (kr) ?_; simp only [Tryd.f78, w4, w5, w6, go_sem]
    refine qcall_i (km) ?_; simp only [Tryd.f78, hnot, go_sem]
    refine qcall_i (kt) ?_; simp only [Tryd.f78, go_sem]
    try exact ⟨rfl, rfl⟩
    try rfl
end Go.Proofs.YtejmlngnpekagaaDoor
