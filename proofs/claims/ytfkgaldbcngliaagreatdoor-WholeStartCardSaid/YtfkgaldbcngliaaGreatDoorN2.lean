import Derived.Test.YtfkgaldbcngliaaGreatDoorN1
import Derived.Test.YtfkgaldbcngliaaGreatDoorI1
open Go PG Go.Proofs
namespace Go.Proofs.YtfkgaldbcngliaaGreatDoor
attribute [local go_sem] Lay2 Lay3 Lay4 Lay5 Lay6 Lay7 Lay8 Lay9 Lay10 Lay11 Lay12 Lay13 Lay14 Lay15 Lay16 Lay17 Lay18 Lay19 Lay20 Lay21 Lay22 Lay26 Lay27 Lay28 Lay29 Lay31 Lay32 Lay33 Lay34 Lay35 Lay41 Lay42 Lay43 Lay47 Lay48 Lay60 Lay61 Lay62 Lay63 Lay64 Lay72 Lay73 Lay74 Lay83 Lay84 Lay86 Lay90 Lay91 Lay92 Lay93 Lay102 Lay103 Lay139 Lay143 Lay149 Lay158 Lay159 Lay160 Lay161 Lay162 Lay174 Lay175 Lay193 Lay207 Lay208 Lay209 Lay210 Lay228 Lay229 Lay237 Lay238 Lay265 Lay287 Lay295 Lay296 Lay297 Lay299 Lay301 Lay302 Lay303 Lay304 Lay305 Lay307 Lay308 Lay310 Lay311 Lay312 Lay315 Lay316 Lay317 qexec_seq qexec_skip qexec_exit qexec_ret qexec_block qexec_loop qexec_range qexec_cond qexec_region qexec_drawn qops_nil qops_none qops_some put_some put_none pblk_exit pblk_other newDsts_nil inlDsts_nil isInl sget_cons sget_nil qval_some qbool_some qgs_bool qgs_und qfree_some qgrd_true qgrd_false qif_true qif_false qval_ite qval_itn qand_true map_ite map_some' map_none' qdo_move qdo_assign qdo_binOp qdo_pick qdo_unOp qdo_convert qdo_extract qdo_makeInterface qdo_field qdo_fieldAddr qdo_alloc qdo_box qdo_build qdo_buildSlice qdo_load qdo_store qdo_nilCheck qdo_makeFunc qdo_makeSlice qdo_slice qdo_indexAddr qdo_call qcont_val qcont_new qcont_st qcont_app0 qcont_app qcont_inl qcont_call njSV_val njSV_nil njSV_row njSV_ptr njSV_sub binV_val binV_nil binV_nn binV_ptr bin_np bin_nnp nilCmp bin_add bin_sub bin_mul bin_quo bin_rem bin_and bin_or bin_xor bin_andNot bin_eql bin_neq bin_lss bin_leq bin_gtr bin_geq bin_shl bin_shr bin_seql bin_sneq bin_sadd bin_beql bin_aeql bin_aneq eqAnd_some eqCells_nil eqCells_cons fieldTypes isStruct eqCell bin_bneq un_not un_neg nj_ite Nat.beq stepA stepR isNew opSV constSV RV.sv allSome E_mu E_own qkeyIn_none qkeyIn_some qkeyAt_none qkeyAt_some Bool.or_false Bool.false_or Bool.or_true Bool.true_or cst setB res resSV pstart startL killL kill1 eraL frzL svPV rvPV rvInt rvSlice rvBytes frzOf close closeL pconv pbuiltin pmax2 partPV setCells fillPV zrow bound newSV PV.cells Bk.cells Bk.with SV.key pres presL_nil presL_tmp presL_cell presC2_some cellPV_ptr presC List.toList_toArray List.size_toArray List.getElem?_drop Nat.mul_one Int.toNat_natCast Nat.not_lt_zero Nat.lt_irrefl decide_true decide_false Nat.not_lt Option.some.injEq PV.lst.injEq PV.int.injEq PV.bool.injEq PV.tuple.injEq List.cons.injEq Option.map_some Option.map_none Option.bind_some Option.toList List.map_cons List.map_nil List.nil_append List.cons_append List.append_nil List.zip_cons_cons List.zip_nil_left List.zip_nil_right List.getElem?_cons_zero List.getElem?_cons_succ List.drop_zero List.drop_succ_cons List.take_succ_cons List.take_zero List.set_cons_zero List.set_cons_succ List.length_cons List.length_nil List.length_set List.replicate_one List.replicate_zero bne_self_eq_false beq_self_eq_true Nat.zero_add Nat.add_zero Nat.zero_mul Bool.false_eq_true Bool.true_eq_false Bool.not_true Bool.not_false and_true true_and false_and and_false or_false false_or or_true true_or not_true_eq_false not_false_eq_true ne_eq gt_iff_lt List.mem_cons List.not_mem_nil
attribute [local go_sem ↓] pseq_normal pseq_ret pseq_exit pblk_normal pblk_ret newDsts_cons inlDsts_cons gdst_zero gdst_succ retQ_normal retQ_ret qneed_nil qneed_cons retM_normal retM_ret endR_normal endR_ret endR_exit
attribute [local go_sem] Int.reduceToNat Int.reduceEq Int.reduceNe Int.reduceLT Int.reduceLE Int.reduceNeg Int.reduceAdd Nat.reduceEqDiff Nat.reduceAdd Nat.reduceSub Nat.reduceMul Nat.reduceLeDiff Nat.reduceLT
attribute [local go_sem ↓] reduceIte reduceCtorEq
section
open Go PG Go.Proofs
set_option maxRecDepth 100000
set_option linter.unusedSimpArgs false
set_option linter.unusedVariables false
open XX
theorem atLoop_lo {s : Nat} {sq : PN} : ∀ (f : Nat) (sum term : PN) (n : Nat), sum.lo ≤ (atLoop s sq f sum term n).1.lo
  | 0, sum, term, n => Nat.le_refl _
  | f + 1, sum, term, n => by
    unfold atLoop
    split
    · exact Nat.le_refl _
    · refine Nat.le_trans ?_ (atLoop_lo f (sum.plus (term.part n)) (term.times sq s) (n + 2))
      exact Nat.le_add_right _ _
theorem ln2_big {s : Nat} (h8 : 8 ≤ s) : 2 ^ (s - 1) ≤ (ln2S s).lo ∧ (ln2S s).lo ≤ (ln2S s).hi := by
  have hS : 2 ^ s = 4 * 2 ^ (s - 2) := by
    rw [show s = s - 2 + 2 by omega, Nat.pow_add, Nat.mul_comm]
    simp
  have hp := Nat.two_pow_pos (s - 2)
  have h0 : 2 ^ (s - 2) ≤ 2 ^ s / 3 := by
    rw [Nat.le_div_iff_mul_le (by decide), hS]; omega
  have h1 : 2 ^ s / 3 ≤ (atanhS 1 3 s).lo := by
    unfold atanhS
    rw [if_neg (by decide)]
    show _ ≤ (atR 1 3 s).1.lo
    unfold atR
    have hf : (fracS 1 3 s).lo = 2 ^ s / 3 := by show 1 * 2 ^ s / 3 = _; rw [Nat.one_mul]
    unfold atLoop
    rw [if_neg (by rw [hf]; omega)]
    refine Nat.le_trans ?_ (atLoop_lo _ _ _ _)
    show _ ≤ 0 + (fracS 1 3 s).lo / 1
    rw [hf, Nat.div_one]; omega
  constructor
  · show _ ≤ (atanhS 1 3 s).lo + (atanhS 1 3 s).lo
    have : 2 ^ (s - 1) = 2 * 2 ^ (s - 2) := by
      rw [show s - 1 = s - 2 + 1 by omega, Nat.pow_succ, Nat.mul_comm]
    omega
  · obtain ⟨⟨n, h2⟩, h3⟩ := atanhS_sound (num := 1) (den := 3) (s := s) (by decide) (by decide)
    have h4 := Rat.natCast_le_natCast.1 (Rat.le_trans h2 (h3 n))
    show (atanhS 1 3 s).lo + (atanhS 1 3 s).lo ≤ (atanhS 1 3 s).hi + (atanhS 1 3 s).hi
    omega
def exRight (d : Dy) : Bool := decide (bitLen d.m ≤ 20000) && decide (-20000 ≤ d.e) && decide (d.top < 12)
theorem exRight_of {d : Dy} (h : exRight d = true) : bitLen d.m ≤ 20000 ∧ -20000 ≤ d.e ∧ d.top < 12 := by
  unfold exRight at h
  rw [Bool.and_eq_true, Bool.and_eq_true, decide_eq_true_eq, decide_eq_true_eq, decide_eq_true_eq] at h
  exact ⟨h.1.1, h.1.2, h.2⟩
theorem x_right {p : PV} {d : Dy} {K : Nat} (h : RD p d) (hl : Lim K d) (hK : K ≤ 200000) : PC E 172 [p] (.bool (exRight d)) := by
  have k1 := r_Bare h
  rw [okD_of (hl.fits (by omega))] at k1
  have hR : RD d.pv d := hl.RD (by omega)
  have k2 := r_Top hR
  have k3 := k_Bits (num_bits (x := d.m) (by have := hl.bits; omega))
  unfold exRight
  generalize decide (d.m ≠ 0) = b0 at *
  generalize d.top = T at *
  obtain ⟨s, q, x, e, rfl, -⟩ := h
  simp only [DP, Dy.pv, NN, NL] at k1 k2 k3 ⊢
  by_cases h1 : (bitLen d.m : Int) ≤ 20000
  · by_cases h2 : d.e ≥ -20000
    · rw [decide_eq_true (show bitLen d.m ≤ 20000 by omega), decide_eq_true (show -20000 ≤ d.e from h2)]
      refine PC.of_body follows Tryz.func172 (by decide +kernel) rfl (by kernel_rfl) (Nat.le_of_ble_eq_true rfl) (walk ?_)
      simp only [Tryz.f172, go_sem]
      refine qcall_i (k1) ?_; simp only [Tryz.f172, go_sem]
      refine qcall_i (k2) ?_; simp only [Tryz.f172, go_sem]
      refine qcall_i (k3) ?_; simp only [Tryz.f172, go_sem]
      refine qif_dt h1 ?_
      simp only [Tryz.f172, go_sem]
      refine qif_dt h2 ?_
      simp only [Tryz.f172, go_sem]
      try simp
    · rw [decide_eq_true (show bitLen d.m ≤ 20000 by omega), decide_eq_false (show ¬ -20000 ≤ d.e from h2)]
      refine PC.of_body follows Tryz.func172 (by decide +kernel) rfl (by kernel_rfl) (Nat.le_of_ble_eq_true rfl) (walk ?_)
      simp only [Tryz.f172, go_sem]
      refine qcall_i (k1) ?_; simp only [Tryz.f172, go_sem]
      refine qcall_i (k2) ?_; simp only [Tryz.f172, go_sem]
      refine qcall_i (k3) ?_; simp only [Tryz.f172, go_sem]
      refine qif_dt h1 ?_
      simp only [Tryz.f172, go_sem]
      refine qif_df h2 ?_
      simp only [Tryz.f172, go_sem]
      try simp
  · rw [decide_eq_false (show ¬ bitLen d.m ≤ 20000 by omega)]
    refine PC.of_body follows Tryz.func172 (by decide +kernel) rfl (by kernel_rfl) (Nat.le_of_ble_eq_true rfl) (walk ?_)
    simp only [Tryz.f172, go_sem]
    refine qcall_i (k1) ?_; simp only [Tryz.f172, go_sem]
    refine qcall_i (k2) ?_; simp only [Tryz.f172, go_sem]
    refine qcall_i (k3) ?_; simp only [Tryz.f172, go_sem]
    refine qif_df h1 ?_
    simp only [Tryz.f172, go_sem]
    try simp
def unitsS (d : Dy) (s : Nat) (above : Bool) : Nat := if 0 ≤ d.e + s then d.m * 2 ^ (d.e + s).toNat else d.m / 2 ^ (-d.e - s).toNat + (if d.m % 2 ^ (-d.e - s).toNat ≠ 0 ∧ above = true then 1 else 0)
theorem units_le {d : Dy} (h : exRight d = true) (s : Nat) (a : Bool) : unitsS d s a ≤ 2 ^ (s + 12) := by
  obtain ⟨h1, h2, h3⟩ := exRight_of h
  unfold unitsS
  by_cases hm : d.m = 0
  · rw [hm]
    split
    · rw [Nat.zero_mul]; exact Nat.zero_le _
    · rw [Nat.zero_div, Nat.zero_mod, if_neg (by simp)]; exact Nat.zero_le _
  have h4 : d.top = bitLen d.m - 1 + d.e := by unfold Dy.top; rw [if_neg hm]
  have h5 := (bitLen_le d.m (bitLen d.m)).1 (Nat.le_refl _)
  have h0 := bitLen_pos hm
  split
  · rename_i hk
    refine Nat.le_of_lt (Nat.lt_of_lt_of_le (Nat.mul_lt_mul_of_pos_right h5 (Nat.two_pow_pos _)) ?_)
    rw [← Nat.pow_add]
    exact Nat.pow_le_pow_right (by decide) (by omega)
  · rename_i hk
    have h6 : d.m / 2 ^ (-d.e - s).toNat < 2 ^ (s + 12) := by
      rw [Nat.div_lt_iff_lt_mul (Nat.two_pow_pos _), ← Nat.pow_add]
      exact Nat.lt_of_lt_of_le h5 (Nat.pow_le_pow_right (by decide) (by omega))
    split <;> omega
theorem x_units {p : PV} {d : Dy} (h : RD p d) (hl : exRight d = true) (hf : d.fits) {s : Nat} (hs : s ≤ 9000) (a : Bool) : PC E 220 [p, .int .i64 s, .bool a] (NN (unitsS d s a)) := by
  obtain ⟨h1, h2, h3⟩ := exRight_of hl
  have hb := units_le hl s a
  have k1 := r_Bare h
  rw [okD_of hf] at k1
  have hfe := hf.2
  have ht : d.m ≠ 0 → (bitLen d.m : Int) - 1 + d.e < 12 := fun hm => by unfold Dy.top at h3; rw [if_neg hm] at h3; exact h3
  have we : IntKind.wrap .i64 (d.e + (s : Int)) = d.e + s := wrap64 (by omega) (by omega)
  have wn : IntKind.wrap .i64 (0 - d.e) = -d.e := by rw [wrap64 (by omega) (by omega)]; omega
  have wm : IntKind.wrap .i64 (-d.e - (s : Int)) = -d.e - s := wrap64 (by omega) (by omega)
  obtain ⟨s0, q, x, e, rfl, -⟩ := h
  unfold unitsS at hb ⊢
  by_cases hk : 0 ≤ d.e + s
  · rw [if_pos hk]
    have k2 : PC E 63 [NN d.m, .int .i64 (d.e + s)] (.tuple [NN (d.m * 2 ^ (d.e + s).toNat), .int .i64 0]) := by
      have hm0 : d.m = 0 ∨ d.m ≠ 0 := by omega
      rcases hm0 with hm0 | hm0
      · refine PC.cast (k_Shl (num_bits (x := d.m) (by omega)) (d.e + s) (by omega)) ?_
        unfold shlV
        rw [if_neg (by omega), if_pos hm0, hm0, Nat.zero_mul]; rfl
      · have := k_Shln (num_bits (x := d.m) (by omega)) (d.e + s).toNat (by have := ht hm0; omega)
        rwa [show (((d.e + s).toNat : Nat) : Int) = d.e + s by omega] at this
    generalize d.m * 2 ^ (d.e + s).toNat = R at *
    simp only [DP, Dy.pv, NN, NL] at k1 k2 ⊢
    refine PC.of_body follows Tryz.func220 (by decide +kernel) rfl (by kernel_rfl) (Nat.le_of_ble_eq_true rfl) (walk ?_)
    simp only [Tryz.f220, go_sem]
    refine qcall_i (k1) ?_; simp only [Tryz.f220, we, go_sem]
    refine qif_dt hk ?_
    simp only [Tryz.f220, we, go_sem]
    refine qcall_i (k2) ?_; simp only [Tryz.f220, go_sem]
    try exact ⟨rfl, rfl⟩
    try rfl
  · rw [if_neg hk] at hb ⊢
    have k2 := k_Shrn (num_bits (x := d.m) (by omega)) (-d.e - s).toNat
    rw [show (((-d.e - s).toNat : Nat) : Int) = -d.e - s by omega] at k2
    have bq := div_bits (n := 2 ^ (-d.e - s).toNat) h1
    have k3 := u_one
    have k4 := k_Add (num_bits (x := d.m / 2 ^ (-d.e - s).toNat) (by omega)) (num_bits (x := 1) (by decide))
    by_cases hr : d.m % 2 ^ (-d.e - s).toNat ≠ 0
    · rw [decide_eq_true hr] at k2
      cases a with
      | true =>
        rw [if_pos ⟨hr, rfl⟩]
        generalize d.m / 2 ^ (-d.e - s).toNat = R at *
        simp only [DP, Dy.pv, NN, NL] at k1 k2 k3 k4 ⊢
        refine PC.of_body follows Tryz.func220 (by decide +kernel) rfl (by kernel_rfl) (Nat.le_of_ble_eq_true rfl) (walk ?_)
        simp only [Tryz.f220, go_sem]
        refine qcall_i (k1) ?_; simp only [Tryz.f220, we, go_sem]
        refine qif_df hk ?_
        simp only [Tryz.f220, wn, wm, go_sem]
        refine qcall_i (k2) ?_; simp only [Tryz.f220, go_sem]
        refine qcall_i (k3) ?_; simp only [Tryz.f220, go_sem]
        refine qcall_i (k4) ?_; simp only [Tryz.f220, go_sem]
        try exact ⟨rfl, rfl⟩
        try rfl
      | false =>
        rw [if_neg (fun h => Bool.false_ne_true h.2), Nat.add_zero]
        generalize d.m / 2 ^ (-d.e - s).toNat = R at *
        simp only [DP, Dy.pv, NN, NL] at k1 k2 k3 k4 ⊢
        refine PC.of_body follows Tryz.func220 (by decide +kernel) rfl (by kernel_rfl) (Nat.le_of_ble_eq_true rfl) (walk ?_)
        simp only [Tryz.f220, go_sem]
        refine qcall_i (k1) ?_; simp only [Tryz.f220, we, go_sem]
        refine qif_df hk ?_
        simp only [Tryz.f220, wn, wm, go_sem]
        refine qcall_i (k2) ?_; simp only [Tryz.f220, go_sem]
        try exact ⟨rfl, rfl⟩
        try rfl
    · rw [decide_eq_false hr] at k2
      rw [if_neg (fun h => hr h.1), Nat.add_zero]
      generalize d.m / 2 ^ (-d.e - s).toNat = R at *
      simp only [DP, Dy.pv, NN, NL] at k1 k2 k3 k4 ⊢
      refine PC.of_body follows Tryz.func220 (by decide +kernel) rfl (by kernel_rfl) (Nat.le_of_ble_eq_true rfl) (walk ?_)
      simp only [Tryz.f220, go_sem]
      refine qcall_i (k1) ?_; simp only [Tryz.f220, we, go_sem]
      refine qif_df hk ?_
      simp only [Tryz.f220, wn, wm, go_sem]
      refine qcall_i (k2) ?_; simp only [Tryz.f220, go_sem]
      try exact ⟨rfl, rfl⟩
      try rfl
def nbv (n : Bool × Nat) : PV := .agg [.bool n.1, NN n.2]
def floorS (d : Dy) (s : Nat) : Bool × Nat := (decide (d.sg < 0), unitsS d s (decide (d.sg < 0)))
def ceilS (d : Dy) (s : Nat) : Bool × Nat := (decide (d.sg < 0), unitsS d s (!decide (d.sg < 0)))
def plusS (n : Bool × Nat) (m : Nat) : Bool × Nat := if n.1 = true then (if n.2 ≤ m then (false, m - n.2) else (true, n.2 - m)) else (false, n.2 + m)
def minusS (n : Bool × Nat) (m : Nat) : Bool × Nat := if n.1 = true then (true, n.2 + m) else (if m ≤ n.2 then (false, n.2 - m) else (true, m - n.2))
theorem x_floor {p : PV} {d : Dy} (h : RD p d) (hl : exRight d = true) (hf : d.fits) {s : Nat} (hs : s ≤ 9000) : PC E 173 [p, .int .i64 s] (nbv (floorS d s)) := by
  have k1 := r_Sign h
  have k2 := x_units h hl hf hs (decide (d.sg < 0))
  unfold nbv floorS
  dsimp only
  generalize unitsS d s (decide (d.sg < 0)) = R at *
  obtain ⟨s0, q, x, e, rfl, -⟩ := h
  simp only [DP, Dy.pv, NN, NL] at k1 k2 ⊢
  refine PC.of_body follows Tryz.func173 (by decide +kernel) rfl (by kernel_rfl) (Nat.le_of_ble_eq_true rfl) (walk ?_)
  simp only [Tryz.f173, go_sem]
  refine qcall_i (k1) ?_; simp only [Tryz.f173, go_sem]
  refine qcall_i (k2) ?_; simp only [Tryz.f173, go_sem]
  try rfl
theorem x_ceil {p : PV} {d : Dy} (h : RD p d) (hl : exRight d = true) (hf : d.fits) {s : Nat} (hs : s ≤ 9000) : PC E 174 [p, .int .i64 s] (nbv (ceilS d s)) := by
  have k1 := r_Sign h
  have k2 := x_units h hl hf hs (!decide (d.sg < 0))
  unfold nbv ceilS
  dsimp only
  generalize unitsS d s (!decide (d.sg < 0)) = R at *
  obtain ⟨s0, q, x, e, rfl, -⟩ := h
  simp only [DP, Dy.pv, NN, NL] at k1 k2 ⊢
  refine PC.of_body follows Tryz.func174 (by decide +kernel) rfl (by kernel_rfl) (Nat.le_of_ble_eq_true rfl) (walk ?_)
  simp only [Tryz.f174, go_sem]
  refine qcall_i (k1) ?_; simp only [Tryz.f174, go_sem]
  refine qcall_i (k2) ?_; simp only [Tryz.f174, go_sem]
  try rfl
theorem x_plus {n : Bool × Nat} {m : Nat} (h1 : bitLen n.2 ≤ 100000) (h2 : bitLen m ≤ 100000) : PC E 177 [nbv n, NN m] (nbv (plusS n m)) := by
  obtain ⟨ng, n⟩ := n
  dsimp only at h1
  have k1 := k_Add (num_bits (x := n) (by omega)) (num_bits (x := m) (by omega))
  unfold nbv plusS
  dsimp only
  cases ng with
  | false =>
    simp only [NN, NL, Bool.false_eq_true, if_false] at k1 ⊢
    refine PC.of_body follows Tryz.func177 (by decide +kernel) rfl (by kernel_rfl) (Nat.le_of_ble_eq_true rfl) (walk ?_)
    simp only [Tryz.f177, go_sem]
    refine qcall_i (k1) ?_; simp only [Tryz.f177, go_sem]
    try rfl
  | true =>
    rw [if_pos rfl]
    by_cases hle : n ≤ m
    · rw [if_pos hle]
      have k2 := k_Sub (num_bits (x := m) (by omega)) (num_bits (x := n) (by omega)) hle
      simp only [NN, NL] at k2 ⊢
      refine PC.of_body follows Tryz.func177 (by decide +kernel) rfl (by kernel_rfl) (Nat.le_of_ble_eq_true rfl) (walk ?_)
      simp only [Tryz.f177, go_sem]
      refine qcall_i (k2) ?_; simp only [Tryz.f177, go_sem]
      try rfl
    · rw [if_neg hle]
      have k2 := k_Sub_lt (num_bits (x := m) (by omega)) (num_bits (x := n) (by omega)) (by omega)
      have k3 := k_Sub (num_bits (x := n) (by omega)) (num_bits (x := m) (by omega)) (by omega)
      simp only [NN, NL] at k2 k3 ⊢
      refine PC.of_body follows Tryz.func177 (by decide +kernel) rfl (by kernel_rfl) (Nat.le_of_ble_eq_true rfl) (walk ?_)
      simp only [Tryz.f177, go_sem]
      refine qcall_i (k2) ?_; simp only [Tryz.f177, go_sem]
      refine qcall_i (k3) ?_; simp only [Tryz.f177, go_sem]
      try rfl
theorem x_minus {n : Bool × Nat} {m : Nat} (h1 : bitLen n.2 ≤ 100000) (h2 : bitLen m ≤ 100000) : PC E 179 [nbv n, NN m] (nbv (minusS n m)) := by
  obtain ⟨ng, n⟩ := n
  dsimp only at h1
  have k1 := k_Add (num_bits (x := n) (by omega)) (num_bits (x := m) (by omega))
  unfold nbv minusS
  dsimp only
  cases ng with
  | true =>
    simp only [NN, NL, if_true] at k1 ⊢
    refine PC.of_body follows Tryz.func179 (by decide +kernel) rfl (by kernel_rfl) (Nat.le_of_ble_eq_true rfl) (walk ?_)
    simp only [Tryz.f179, go_sem]
    refine qcall_i (k1) ?_; simp only [Tryz.f179, go_sem]
    try rfl
  | false =>
    rw [if_neg Bool.false_ne_true]
    by_cases hle : m ≤ n
    · rw [if_pos hle]
      have k2 := k_Sub (num_bits (x := n) (by omega)) (num_bits (x := m) (by omega)) hle
      simp only [NN, NL] at k2 ⊢
      refine PC.of_body follows Tryz.func179 (by decide +kernel) rfl (by kernel_rfl) (Nat.le_of_ble_eq_true rfl) (walk ?_)
      simp only [Tryz.f179, go_sem]
      refine qcall_i (k2) ?_; simp only [Tryz.f179, go_sem]
      try rfl
    · rw [if_neg hle]
      have k2 := k_Sub_lt (num_bits (x := n) (by omega)) (num_bits (x := m) (by omega)) (by omega)
      have k3 := k_Sub (num_bits (x := m) (by omega)) (num_bits (x := n) (by omega)) (by omega)
      simp only [NN, NL] at k2 k3 ⊢
      refine PC.of_body follows Tryz.func179 (by decide +kernel) rfl (by kernel_rfl) (Nat.le_of_ble_eq_true rfl) (walk ?_)
      simp only [Tryz.f179, go_sem]
      refine qcall_i (k2) ?_; simp only [Tryz.f179, go_sem]
      refine qcall_i (k3) ?_; simp only [Tryz.f179, go_sem]
      try rfl
theorem k_Up {x y : Nat} (hx : bitLen x ≤ 900000) (hy : bitLen y ≤ 900000) (h0 : y ≠ 0) : PC E 175 [NN x, NN y] (.tuple [NN (cD x y), .int .i64 0]) := by
  have k1 := k_Div (num_bits (x := x) (by omega)) (num_bits (x := y) (by omega)) (by omega) (by omega) h0
  have hd := div_bits (n := y) hx
  have k2 := u_one
  have k3 := k_Add (num_bits (x := x / y) (by omega)) (num_bits (x := 1) (by decide))
  unfold cD
  obtain ⟨l, cs, e, hl⟩ := NN_len (x := x % y)
  rw [e] at k1
  by_cases h : x % y = 0
  · rw [if_pos h, Nat.add_zero]
    have hl0 := hl.2 h
    subst hl0
    simp only [NN, NL] at k1 k2 k3 ⊢
    refine PC.of_body follows Tryz.func175 (by decide +kernel) rfl (by kernel_rfl) (Nat.le_of_ble_eq_true rfl) (walk ?_)
    simp only [Tryz.f175, go_sem]
    refine qcall_i (k1) ?_; simp only [Tryz.f175, go_sem]
    try (refine qif_dt (by decide) ?_)
    try simp only [Tryz.f175, go_sem]
    try exact ⟨rfl, rfl⟩
    try rfl
  · rw [if_neg h]
    have hl0 : ¬ (l : Int) = 0 := by have : l ≠ 0 := fun h' => h (hl.1 h'); omega
    simp only [NN, NL] at k1 k2 k3 ⊢
    refine PC.of_body follows Tryz.func175 (by decide +kernel) rfl (by kernel_rfl) (Nat.le_of_ble_eq_true rfl) (walk ?_)
    simp only [Tryz.f175, go_sem]
    refine qcall_i (k1) ?_; simp only [Tryz.f175, go_sem]
    refine qif_df hl0 ?_
    simp only [Tryz.f175, go_sem]
    refine qcall_i (k2) ?_; simp only [Tryz.f175, go_sem]
    refine qcall_i (k3) ?_; simp only [Tryz.f175, go_sem]
    try exact ⟨rfl, rfl⟩
    try rfl
end
section
open Go PG Go.Proofs
set_option maxRecDepth 100000
set_option linter.unusedSimpArgs false
set_option linter.unusedVariables false
open XX
def splitK (i : Iv) (s : Nat) : Int × Nat × Nat :=
  if (floorS i.lo s).1 = true then
    (-(cD (floorS i.lo s).2 (ln2S s).lo : Int), (plusS (floorS i.lo s) (cD (floorS i.lo s).2 (ln2S s).lo * (ln2S s).lo)).2, (plusS (ceilS i.hi s) (cD (floorS i.lo s).2 (ln2S s).lo * (ln2S s).hi)).2)
  else (((floorS i.lo s).2 / (ln2S s).hi : Nat), (floorS i.lo s).2 % (ln2S s).hi, (minusS (ceilS i.hi s) ((floorS i.lo s).2 / (ln2S s).hi * (ln2S s).lo)).2)
def splitOk (i : Iv) (s : Nat) : Prop := exRight i.lo = true ∧ exRight i.hi = true ∧ cmpD i.lo i.hi ≤ 0 ∧ (splitK i s).2.2 ≤ 2 ^ s
instance (i : Iv) (s : Nat) : Decidable (splitOk i s) := inferInstanceAs (Decidable (_ ∧ _))
theorem small_W {q : Nat} (h : q ≤ 8192) : q < W := Nat.lt_of_le_of_lt h (by decide)
set_option maxHeartbeats 4000000 in
theorem x_Split {p : PV} {i : Iv} {K : Nat} (h : RI p i) (hl : i.lim K) (hK : K ≤ 200000) {s : Nat} (h8 : 8 ≤ s) (hs : s ≤ 8900) :
    PC E 110 [p, .int .i64 s] (if splitOk i s then .tuple [.int .i64 (splitK i s).1, NN (splitK i s).2.1, NN (splitK i s).2.2, .int .i64 0] else .tuple [.int .i64 0, .lst 0 [], .lst 0 [], .int .i64 1]) := by
  obtain ⟨s1, P1, e1, s2, P2, e2, rfl, h1, h2⟩ := h
  have k1 := x_right h1 hl.1 hK
  have k2 := x_right h2 hl.2 hK
  have k3 := r_Cmp h1 h2
  by_cases r1 : exRight i.lo = true
  case neg =>
    rw [if_neg (fun h : splitOk i s => r1 h.1)]
    rw [Bool.not_eq_true] at r1
    rw [r1] at k1
    simp only [DP] at k1
    refine PC.of_body follows Tryz.func110 (by decide +kernel) rfl (by kernel_rfl) (Nat.le_of_ble_eq_true rfl) (walk ?_)
    simp only [Tryz.f110, go_sem]
    refine qif_df (by omega) ?_
    simp only [Tryz.f110, go_sem]
    refine qif_df (by omega) ?_
    simp only [Tryz.f110, go_sem]
    refine qcall_i (k1) ?_; simp only [Tryz.f110, go_sem]
    try rfl
  by_cases r2 : exRight i.hi = true
  case neg =>
    rw [if_neg (fun h : splitOk i s => r2 h.2.1)]
    rw [Bool.not_eq_true] at r2
    rw [r1] at k1
    rw [r2] at k2
    simp only [DP] at k1 k2
    refine PC.of_body follows Tryz.func110 (by decide +kernel) rfl (by kernel_rfl) (Nat.le_of_ble_eq_true rfl) (walk ?_)
    simp only [Tryz.f110, go_sem]
    refine qif_df (by omega) ?_
    simp only [Tryz.f110, go_sem]
    refine qif_df (by omega) ?_
    simp only [Tryz.f110, go_sem]
    refine qcall_i (k1) ?_; simp only [Tryz.f110, go_sem]
    refine qcall_i (k2) ?_; simp only [Tryz.f110, go_sem]
    try rfl
  by_cases r3 : cmpD i.lo i.hi ≤ 0
  case neg =>
    rw [if_neg (fun h : splitOk i s => r3 h.2.2.1)]
    rw [r1] at k1
    rw [r2] at k2
    simp only [DP] at k1 k2 k3
    refine PC.of_body follows Tryz.func110 (by decide +kernel) rfl (by kernel_rfl) (Nat.le_of_ble_eq_true rfl) (walk ?_)
    simp only [Tryz.f110, go_sem]
    refine qif_df (by omega) ?_
    simp only [Tryz.f110, go_sem]
    refine qif_df (by omega) ?_
    simp only [Tryz.f110, go_sem]
    refine qcall_i (k1) ?_; simp only [Tryz.f110, go_sem]
    refine qcall_i (k2) ?_; simp only [Tryz.f110, go_sem]
    refine qcall_i (k3) ?_; simp only [Tryz.f110, go_sem]
    refine qif_dt (by omega) ?_
    simp only [Tryz.f110, go_sem]
    try rfl
  have hL : (floorS i.lo s).2 ≤ 2 ^ (s + 12) := units_le r1 s _
  have hH : (ceilS i.hi s).2 ≤ 2 ^ (s + 12) := units_le r2 s _
  obtain ⟨b1, b2⟩ := ln2_big h8
  obtain ⟨b3, b4⟩ := ln2S_bits (s := s) (by omega)
  have hp1 := Nat.two_pow_pos (s - 1)
  have h13 : 2 ^ (s + 12) = 8192 * 2 ^ (s - 1) := by
    rw [show s + 12 = 13 + (s - 1) by omega, Nat.pow_add]
  have bL : bitLen (floorS i.lo s).2 ≤ s + 13 := by
    rw [bitLen_le, show s + 13 = s + 12 + 1 by omega, Nat.pow_succ]
    have := Nat.two_pow_pos (s + 12)
    omega
  have bH : bitLen (ceilS i.hi s).2 ≤ s + 13 := by
    rw [bitLen_le, show s + 13 = s + 12 + 1 by omega, Nat.pow_succ]
    have := Nat.two_pow_pos (s + 12)
    omega
  have k4 := s_Ln2 h8 (by omega)
  have k5 := x_floor h1 r1 (hl.1.fits (by omega)) (s := s) (by omega)
  have k6 := x_ceil h2 r2 (hl.2.fits (by omega)) (s := s) (by omega)
  have k7 := u_one
  have k8 := k_Shln (num_bits (x := 1) (by decide)) s (by rw [bit1]; omega)
  rw [Nat.one_mul] at k8
  have hb2s := bitLen_two2 s
  rw [r1] at k1
  rw [r2] at k2
  -- both cases of the sign, as one
  have main : ∀ (c : Bool) (q x y : Nat), (floorS i.lo s).1 = c → q ≤ 8192 →
      (c = true → PC E 175 [NN (floorS i.lo s).2, NN (ln2S s).lo] (.tuple [NN q, .int .i64 0])) →
      (c = false → PC E 178 [NN (floorS i.lo s).2, NN (ln2S s).hi] (.tuple [NN q, NN x, .int .i64 0])) →
      splitK i s = (if c = true then -(q : Int) else (q : Int), x, y) →
      (c = true → x = (plusS (floorS i.lo s) (q * (ln2S s).lo)).2 ∧ y = (plusS (ceilS i.hi s) (q * (ln2S s).hi)).2) →
      (c = false → y = (minusS (ceilS i.hi s) (q * (ln2S s).lo)).2) →
      PC E 110 [.agg [.bool s1, P1, .int .i64 e1, .bool s2, P2, .int .i64 e2], .int .i64 s] (if y ≤ 2 ^ s then .tuple [.int .i64 (if c = true then -(q : Int) else (q : Int)), NN x, NN y, .int .i64 0] else .tuple [.int .i64 0, .lst 0 [], .lst 0 [], .int .i64 1]) := by
    intro c q x y hc hq kU kD hsp hx hy
    have hqW := small_W hq
    have bq : bitLen q ≤ 14 := (bitLen_le _ _).2 (Nat.lt_of_le_of_lt hq (by decide))
    have k9 := k_Small (num_bits (x := q) (by omega))
    rw [if_pos hqW, decide_eq_true hqW] at k9
    have wq : IntKind.wrap .i64 (q : Int) = q := wrap64 (by omega) (by omega)
    have wq2 : IntKind.wrap .i64 (0 - (q : Int)) = -(q : Int) := by rw [wrap64 (by omega) (by omega)]; omega
    have m1 := k_mul (num_bits (x := q) (by omega)) (num_bits (x := (ln2S s).lo) (by omega)) (by omega)
    have m2 := k_mul (num_bits (x := q) (by omega)) (num_bits (x := (ln2S s).hi) (by omega)) (by omega)
    have n1 := mul_bits bq b3
    have n2 := mul_bits bq b4
    have yb : bitLen y ≤ 100000 := by
      cases c with
      | true =>
        rw [(hx rfl).2]
        unfold plusS
        split
        · split
          · exact Nat.le_trans (bitLen_mono (Nat.sub_le _ _)) (by omega)
          · exact Nat.le_trans (bitLen_mono (Nat.sub_le _ _)) (by omega)
        · exact Nat.le_trans (bitLen_add (n := 20000) (by omega) (by omega)) (by omega)
      | false =>
        rw [hy rfl]
        unfold minusS
        split
        · exact Nat.le_trans (bitLen_add (n := 20000) (by omega) (by omega)) (by omega)
        · split
          · exact Nat.le_trans (bitLen_mono (Nat.sub_le _ _)) (by omega)
          · exact Nat.le_trans (bitLen_mono (Nat.sub_le _ _)) (by omega)
    have k10 := k_Cmp (num_bits (x := y) (by omega)) (num_bits (x := 2 ^ s) (by omega))
    have hg := sgn_pos (y : Int) ((2 ^ s : Nat) : Int)
    cases c with
    | true =>
      obtain ⟨hx1, hx2⟩ := hx rfl
      have kUp := kU rfl
      have k11 := x_plus (n := floorS i.lo s) (m := q * (ln2S s).lo) (by omega) (by omega)
      have k12 := x_plus (n := ceilS i.hi s) (m := q * (ln2S s).hi) (by omega) (by omega)
      obtain ⟨X, hX⟩ : ∃ X, X = plusS (floorS i.lo s) (q * (ln2S s).lo) := ⟨_, rfl⟩
      obtain ⟨Y, hY⟩ : ∃ Y, Y = plusS (ceilS i.hi s) (q * (ln2S s).hi) := ⟨_, rfl⟩
      rw [← hX] at hx1 k11
      rw [← hY] at hx2 k12
      subst hx1
      subst hx2
      obtain ⟨R, hR⟩ : ∃ R, R = (if Y.2 ≤ 2 ^ s then PV.tuple [.int .i64 (if true = true then -(q : Int) else (q : Int)), NN X.2, NN Y.2, .int .i64 0] else .tuple [.int .i64 0, .lst 0 [], .lst 0 [], .int .i64 1]) := ⟨_, rfl⟩
      rw [← hR]
      rw [if_pos rfl] at hR
      unfold nbv at k5 k6 k11 k12
      rw [hc] at k5 k11
      generalize (floorS i.lo s).2 = L at *
      generalize ceilS i.hi s = Hc at *
      generalize (ln2S s).lo = c1 at *
      generalize (ln2S s).hi = c2 at *
      generalize q * c1 = m1v at *
      generalize q * c2 = m2v at *
      clear hsp hx hy kU kD hX hY
      simp only [DP, u, NN, NL] at k1 k2 k3 k4 k5 k6 k7 k8 k9 k10 k11 k12 m1 m2 kUp hR ⊢
      refine PC.of_body follows Tryz.func110 (by decide +kernel) rfl (by kernel_rfl) (Nat.le_of_ble_eq_true rfl) (walk ?_)
      simp only [Tryz.f110, go_sem]
      refine qif_df (by omega) ?_
      simp only [Tryz.f110, go_sem]
      refine qif_df (by omega) ?_
      simp only [Tryz.f110, go_sem]
      refine qcall_i (k1) ?_; simp only [Tryz.f110, go_sem]
      refine qcall_i (k2) ?_; simp only [Tryz.f110, go_sem]
      refine qcall_i (k3) ?_; simp only [Tryz.f110, go_sem]
      refine qif_df (by omega) ?_
      simp only [Tryz.f110, go_sem]
      refine qcall_i (k4) ?_; simp only [Tryz.f110, go_sem]
      refine qcall_i (k5) ?_; simp only [Tryz.f110, go_sem]
      refine qcall_i (k6) ?_; simp only [Tryz.f110, go_sem]
      refine qcall_i (kUp) ?_; simp only [Tryz.f110, go_sem]
      refine qcall_i (k9) ?_; simp only [Tryz.f110, wq, wq2, go_sem]
      refine qcall_i (m1) ?_; simp only [Tryz.f110, go_sem]
      refine qcall_i (m2) ?_; simp only [Tryz.f110, go_sem]
      refine qcall_i (k11) ?_; simp only [Tryz.f110, go_sem]
      refine qcall_i (k12) ?_; simp only [Tryz.f110, go_sem]
      refine qcall_i (k7) ?_; simp only [Tryz.f110, go_sem]
      refine qcall_i (k8) ?_; simp only [Tryz.f110, go_sem]
      refine qcall_i (k10) ?_; simp only [Tryz.f110, go_sem]
      by_cases hle : Y.2 ≤ 2 ^ s
      · rw [if_pos hle] at hR
        subst hR
        refine qif_df (by omega) ?_
        simp only [Tryz.f110, go_sem]
        try exact ⟨⟨rfl, rfl⟩, rfl, rfl⟩
        try rfl
      · rw [if_neg hle] at hR
        subst hR
        refine qif_dt (by omega) ?_
        simp only [Tryz.f110, go_sem]
        try rfl
    | false =>
      have hy1 := hy rfl
      have kDv := kD rfl
      have k11 := x_minus (n := ceilS i.hi s) (m := q * (ln2S s).lo) (by omega) (by omega)
      obtain ⟨Y, hY⟩ : ∃ Y, Y = minusS (ceilS i.hi s) (q * (ln2S s).lo) := ⟨_, rfl⟩
      rw [← hY] at hy1 k11
      subst hy1
      obtain ⟨R, hR⟩ : ∃ R, R = (if Y.2 ≤ 2 ^ s then PV.tuple [.int .i64 (if false = true then -(q : Int) else (q : Int)), NN x, NN Y.2, .int .i64 0] else .tuple [.int .i64 0, .lst 0 [], .lst 0 [], .int .i64 1]) := ⟨_, rfl⟩
      rw [← hR]
      rw [if_neg Bool.false_ne_true] at hR
      unfold nbv at k5 k6 k11
      rw [hc] at k5
      generalize (floorS i.lo s).2 = L at *
      generalize ceilS i.hi s = Hc at *
      generalize (ln2S s).lo = c1 at *
      generalize (ln2S s).hi = c2 at *
      generalize q * c1 = m1v at *
      clear hsp hx hy kU kD hY
      simp only [DP, u, NN, NL] at k1 k2 k3 k4 k5 k6 k7 k8 k9 k10 k11 m1 kDv hR ⊢
      refine PC.of_body follows Tryz.func110 (by decide +kernel) rfl (by kernel_rfl) (Nat.le_of_ble_eq_true rfl) (walk ?_)
      simp only [Tryz.f110, go_sem]
      refine qif_df (by omega) ?_
      simp only [Tryz.f110, go_sem]
      refine qif_df (by omega) ?_
      simp only [Tryz.f110, go_sem]
      refine qcall_i (k1) ?_; simp only [Tryz.f110, go_sem]
      refine qcall_i (k2) ?_; simp only [Tryz.f110, go_sem]
      refine qcall_i (k3) ?_; simp only [Tryz.f110, go_sem]
      refine qif_df (by omega) ?_
      simp only [Tryz.f110, go_sem]
      refine qcall_i (k4) ?_; simp only [Tryz.f110, go_sem]
      refine qcall_i (k5) ?_; simp only [Tryz.f110, go_sem]
      refine qcall_i (k6) ?_; simp only [Tryz.f110, go_sem]
      refine qcall_i (kDv) ?_; simp only [Tryz.f110, go_sem]
      refine qcall_i (k9) ?_; simp only [Tryz.f110, wq, wq2, go_sem]
      refine qcall_i (m1) ?_; simp only [Tryz.f110, go_sem]
      refine qcall_i (k11) ?_; simp only [Tryz.f110, go_sem]
      refine qcall_i (k7) ?_; simp only [Tryz.f110, go_sem]
      refine qcall_i (k8) ?_; simp only [Tryz.f110, go_sem]
      refine qcall_i (k10) ?_; simp only [Tryz.f110, go_sem]
      by_cases hle : Y.2 ≤ 2 ^ s
      · rw [if_pos hle] at hR
        subst hR
        refine qif_df (by omega) ?_
        simp only [Tryz.f110, go_sem]
        try exact ⟨⟨rfl, rfl⟩, rfl, rfl⟩
        try rfl
      · rw [if_neg hle] at hR
        subst hR
        refine qif_dt (by omega) ?_
        simp only [Tryz.f110, go_sem]
        try rfl
  by_cases hc : (floorS i.lo s).1 = true
  · have hsp : splitK i s = (-(cD (floorS i.lo s).2 (ln2S s).lo : Int), (plusS (floorS i.lo s) (cD (floorS i.lo s).2 (ln2S s).lo * (ln2S s).lo)).2, (plusS (ceilS i.hi s) (cD (floorS i.lo s).2 (ln2S s).lo * (ln2S s).hi)).2) := by
      unfold splitK; rw [if_pos hc]
    have kU := k_Up (x := (floorS i.lo s).2) (y := (ln2S s).lo) (by omega) (by omega) (by omega)
    have hq : cD (floorS i.lo s).2 (ln2S s).lo ≤ 8192 := cD_le (by omega) (Nat.le_trans hL (by rw [h13]; exact Nat.mul_le_mul_left _ b1))
    have := main true _ _ _ hc hq (fun _ => kU) (fun h => absurd h (by decide)) hsp (fun _ => ⟨rfl, rfl⟩) (fun h => absurd h (by decide))
    have hY : (splitK i s).2.2 = (plusS (ceilS i.hi s) (cD (floorS i.lo s).2 (ln2S s).lo * (ln2S s).hi)).2 := by rw [hsp]
    have hO : splitOk i s ↔ (plusS (ceilS i.hi s) (cD (floorS i.lo s).2 (ln2S s).lo * (ln2S s).hi)).2 ≤ 2 ^ s := ⟨fun h => by have := h.2.2.2; rwa [hY] at this, fun h => ⟨r1, r2, r3, by rw [hY]; exact h⟩⟩
    rw [hsp]
    refine PC.cast this ?_
    rw [if_pos (rfl : true = true)]
    by_cases hle : (plusS (ceilS i.hi s) (cD (floorS i.lo s).2 (ln2S s).lo * (ln2S s).hi)).2 ≤ 2 ^ s
    · rw [if_pos hle, if_pos (hO.2 hle)]
    · rw [if_neg hle, if_neg (fun h => hle (hO.1 h))]
  · have hsp : splitK i s = ((((floorS i.lo s).2 / (ln2S s).hi : Nat) : Int), (floorS i.lo s).2 % (ln2S s).hi, (minusS (ceilS i.hi s) ((floorS i.lo s).2 / (ln2S s).hi * (ln2S s).lo)).2) := by
      unfold splitK; rw [if_neg hc]
    have kD := k_Div (num_bits (x := (floorS i.lo s).2) (by omega)) (num_bits (x := (ln2S s).hi) (by omega)) (by omega) (by omega) (by omega)
    have hq : (floorS i.lo s).2 / (ln2S s).hi ≤ 8192 := Nat.div_le_of_le_mul (by
      rw [Nat.mul_comm]
      exact Nat.le_trans hL (by rw [h13]; exact Nat.mul_le_mul_left _ (by omega)))
    have := main false _ _ _ (by rw [Bool.not_eq_true] at hc; exact hc) hq (fun h => absurd h (by decide)) (fun _ => kD) hsp (fun h => absurd h (by decide)) (fun _ => rfl)
    have hY : (splitK i s).2.2 = (minusS (ceilS i.hi s) ((floorS i.lo s).2 / (ln2S s).hi * (ln2S s).lo)).2 := by rw [hsp]
    have hO : splitOk i s ↔ (minusS (ceilS i.hi s) ((floorS i.lo s).2 / (ln2S s).hi * (ln2S s).lo)).2 ≤ 2 ^ s := ⟨fun h => by have := h.2.2.2; rwa [hY] at this, fun h => ⟨r1, r2, r3, by rw [hY]; exact h⟩⟩
    rw [hsp]
    refine PC.cast this ?_
    rw [if_neg (Bool.false_ne_true)]
    by_cases hle : (minusS (ceilS i.hi s) ((floorS i.lo s).2 / (ln2S s).hi * (ln2S s).lo)).2 ≤ 2 ^ s
    · rw [if_pos hle, if_pos (hO.2 hle)]
    · rw [if_neg hle, if_neg (fun h => hle (hO.1 h))]
def expPN (a b s : Nat) : PN := if a ≤ b ∧ b ≤ 2 ^ s then expN a b s else ⟨0, 0⟩
def expI (i : Iv) (s : Nat) : Iv := withinS (expPN (splitK i s).2.1 (splitK i s).2.2 s).lo (expPN (splitK i s).2.1 (splitK i s).2.2 s).hi ((s : Int) - (splitK i s).1) false
theorem exR_bits {a b s : Nat} (hx : a ≤ 2 ^ s ∧ b ≤ 2 ^ s) : ∃ n, n ≤ s + 3 ∧ (exR a b s).1.lo ≤ n * 2 ^ s ∧ (exR a b s).1.hi ≤ n * 2 ^ s ∧ (exR a b s).2.hi ≤ 2 ^ s := by
  have main : ∀ (f : Nat) (sum term : PN) (n : Nat), ExJ s ⟨a, b⟩ (exR a b s) f sum term n → ∃ n, n ≤ s + 3 ∧ (exR a b s).1.lo ≤ n * 2 ^ s ∧ (exR a b s).1.hi ≤ n * 2 ^ s ∧ (exR a b s).2.hi ≤ 2 ^ s := by
    intro f
    induction f with
    | zero =>
      intro sum term n h
      obtain ⟨g, hg⟩ := h.fuel
      omega
    | succ f ih =>
      intro sum term n h
      obtain ⟨a1, a2, a3, a4, -, -⟩ := h.next hx
      have hr := h.res
      have hc := h.c
      unfold exLoop at hr
      by_cases h0 : term.lo = 0 ∧ b = 0
      · rw [if_pos h0] at hr
        rw [← hr]
        exact ⟨n, by omega, h.slo, h.shi, h.hi⟩
      rw [if_neg h0] at hr
      by_cases h1 : ((term.times ⟨a, b⟩ s).part n).hi ≤ 1
      · rw [if_pos h1] at hr
        rw [← hr]
        exact ⟨n + 1, by omega, a3, a4, a2⟩
      · exact ih _ _ _ (h.step hx h0 h1)
  exact main _ _ _ _ ExJ.start
theorem expPN_bits {a b s : Nat} (hs : s ≤ 9000) : PLe (expPN a b s) (s + 16) := by
  unfold expPN
  split
  · rename_i h
    obtain ⟨n, h1, h2, h3, h4⟩ := exR_bits (a := a) (b := b) (s := s) ⟨by omega, h.2⟩
    have e : (n + 2) * 2 ^ s = n * 2 ^ s + 2 * 2 ^ s := Nat.add_mul _ _ _
    unfold expN
    refine ⟨Nat.le_trans (bits_mul h2 (by omega)) (by omega), Nat.le_trans (bits_mul (s := s) (n := n + 2) (by show (exR a b s).1.hi + ((exR a b s).2.hi + (exR a b s).2.hi) ≤ _; omega) (by omega)) (by omega)⟩
  · exact ⟨Nat.le_trans (show bitLen 0 ≤ 0 by decide) (Nat.zero_le _), Nat.le_trans (show bitLen 0 ≤ 0 by decide) (Nat.zero_le _)⟩
theorem splitK_range {i : Iv} {s : Nat} (h8 : 8 ≤ s) (h : splitOk i s) : -8192 ≤ (splitK i s).1 ∧ (splitK i s).1 ≤ 8192 := by
  obtain ⟨r1, r2, -, -⟩ := h
  have hL : (floorS i.lo s).2 ≤ 2 ^ (s + 12) := units_le r1 s _
  obtain ⟨b1, b2⟩ := ln2_big h8
  have hp1 := Nat.two_pow_pos (s - 1)
  have h13 : 2 ^ (s + 12) = 8192 * 2 ^ (s - 1) := by
    rw [show s + 12 = 13 + (s - 1) by omega, Nat.pow_add]
  have hq : cD (floorS i.lo s).2 (ln2S s).lo ≤ 8192 := cD_le (by omega) (Nat.le_trans hL (by rw [h13]; exact Nat.mul_le_mul_left _ b1))
  have hq2 : (floorS i.lo s).2 / (ln2S s).hi ≤ 8192 := Nat.div_le_of_le_mul (by
    rw [Nat.mul_comm]
    exact Nat.le_trans hL (by rw [h13]; exact Nat.mul_le_mul_left _ (by omega)))
  unfold splitK
  generalize (floorS i.lo s).2 / (ln2S s).hi = q2 at *
  split <;> dsimp only <;> omega
theorem expI_lim {i : Iv} {s : Nat} (h8 : 8 ≤ s) (hs : s ≤ 8900) (h : splitOk i s) : (expI i s).lim 26200 := by
  obtain ⟨b1, b2⟩ := expPN_bits (a := (splitK i s).2.1) (b := (splitK i s).2.2) (s := s) (by omega)
  have hk := splitK_range h8 h
  exact withinS_lim (n := 9000) (J := 17200) _ (by omega) (by omega) ⟨by omega, by omega⟩ (by decide)
theorem splitK_bits {i : Iv} {s : Nat} (h8 : 8 ≤ s) (hs : s ≤ 8900) (h : splitOk i s) : bitLen (splitK i s).2.1 ≤ 10000 ∧ bitLen (splitK i s).2.2 ≤ 10000 := by
  have hy := h.2.2.2
  refine ⟨?_, Nat.le_trans (bitLen_mono hy) (by have := bitLen_two2 s; omega)⟩
  have hL : (floorS i.lo s).2 ≤ 2 ^ (s + 12) := units_le h.1 s _
  obtain ⟨b1, b2⟩ := ln2_big h8
  obtain ⟨b3, b4⟩ := ln2S_bits (s := s) (by omega)
  have hp1 := Nat.two_pow_pos (s - 1)
  have h13 : 2 ^ (s + 12) = 8192 * 2 ^ (s - 1) := by
    rw [show s + 12 = 13 + (s - 1) by omega, Nat.pow_add]
  have hq : cD (floorS i.lo s).2 (ln2S s).lo ≤ 8192 := cD_le (by omega) (Nat.le_trans hL (by rw [h13]; exact Nat.mul_le_mul_left _ b1))
  have bq : bitLen (cD (floorS i.lo s).2 (ln2S s).lo) ≤ 14 := (bitLen_le _ _).2 (Nat.lt_of_le_of_lt hq (by decide))
  have bL : bitLen (floorS i.lo s).2 ≤ s + 13 := by
    rw [bitLen_le, show s + 13 = s + 12 + 1 by omega, Nat.pow_succ]
    have := Nat.two_pow_pos (s + 12)
    omega
  unfold splitK
  split
  · rename_i hc
    dsimp only
    have := mul_bits bq b3
    unfold plusS
    rw [if_pos hc]
    split
    · exact Nat.le_trans (bitLen_mono (Nat.sub_le _ _)) (by omega)
    · exact Nat.le_trans (bitLen_mono (Nat.sub_le _ _)) (by omega)
  · dsimp only
    exact Nat.le_trans (bitLen_mono (Nat.mod_le _ _)) (by omega)
theorem x_Exp {p : PV} {i : Iv} {K : Nat} (h : RI p i) (hl : i.lim K) (hK : K ≤ 200000) {s : Nat} (h8 : 8 ≤ s) (hs : s ≤ 8900) :
    PC E 56 [p, .int .i64 s] (if splitOk i s then .tuple [(expI i s).pv, .int .i64 0] else .tuple [Iv.zero.pv, .int .i64 1]) := by
  have k1 := x_Split h hl hK h8 hs
  by_cases ho : splitOk i s
  case neg =>
    rw [if_neg ho] at k1 ⊢
    obtain ⟨s1, P1, e1, s2, P2, e2, rfl, h1, h2⟩ := h
    simp only [Iv.pv, Iv.zero, Dy.zero, NN0] at k1 ⊢
    refine PC.of_body follows Tryz.func56 (by decide +kernel) rfl (by kernel_rfl) (Nat.le_of_ble_eq_true rfl) (walk ?_)
    simp only [Tryz.f56, go_sem]
    refine qcall_i (k1) ?_; simp only [Tryz.f56, go_sem]
    try rfl
  rw [if_pos ho] at k1 ⊢
  obtain ⟨c1, c2⟩ := splitK_bits h8 hs ho
  have hk := splitK_range h8 ho
  have k2 := s_Exp (a := (splitK i s).2.1) (b := (splitK i s).2.2) h8 (by omega) (by omega) (by omega)
  obtain ⟨b1, b2⟩ := expPN_bits (a := (splitK i s).2.1) (b := (splitK i s).2.2) (s := s) (by omega)
  have k3 := s_Within (n := 9000) (J := 17200) (s := (s : Int) - (splitK i s).1) false (show bitLen (expPN (splitK i s).2.1 (splitK i s).2.2 s).lo ≤ 9000 by omega) (show bitLen (expPN (splitK i s).2.1 (splitK i s).2.2 s).hi ≤ 9000 by omega) ⟨by omega, by omega⟩ (by decide)
  have wk : IntKind.wrap .i64 ((s : Int) - (splitK i s).1) = (s : Int) - (splitK i s).1 := wrap64 (by omega) (by omega)
  have ke : ∃ er : Int, PC E 111 [NN (splitK i s).2.1, NN (splitK i s).2.2, .int .i64 s] (.tuple [NN (expPN (splitK i s).2.1 (splitK i s).2.2 s).lo, NN (expPN (splitK i s).2.1 (splitK i s).2.2 s).hi, .int .i64 er]) := by
    unfold expPN
    by_cases hc : (splitK i s).2.1 ≤ (splitK i s).2.2 ∧ (splitK i s).2.2 ≤ 2 ^ s
    · rw [if_pos hc] at k2 ⊢
      exact ⟨0, k2⟩
    · rw [if_neg hc] at k2 ⊢
      exact ⟨1, k2⟩
  obtain ⟨er, k4⟩ := ke
  unfold expI
  generalize withinS (expPN (splitK i s).2.1 (splitK i s).2.2 s).lo (expPN (splitK i s).2.1 (splitK i s).2.2 s).hi ((s : Int) - (splitK i s).1) false = R at *
  generalize (expPN (splitK i s).2.1 (splitK i s).2.2 s).lo = A at *
  generalize (expPN (splitK i s).2.1 (splitK i s).2.2 s).hi = B at *
  obtain ⟨s1, P1, e1, s2, P2, e2, rfl, h1, h2⟩ := h
  generalize (splitK i s).2.1 = a at *
  generalize (splitK i s).2.2 = b at *
  generalize (splitK i s).1 = k at *
  clear k2
  simp only [Iv.pv, NN, NL] at k1 k3 k4 ⊢
  refine PC.of_body follows Tryz.func56 (by decide +kernel) rfl (by kernel_rfl) (Nat.le_of_ble_eq_true rfl) (walk ?_)
  simp only [Tryz.f56, go_sem]
  refine qcall_i (k1) ?_; simp only [Tryz.f56, go_sem]
  refine qcall_i (k4) ?_; simp only [Tryz.f56, wk, go_sem]
  refine qcall_i (k3) ?_; simp only [Tryz.f56, go_sem]
  try rfl
end
section
open Go PG Go.Proofs
set_option maxRecDepth 100000
set_option linter.unusedSimpArgs false
set_option linter.unusedVariables false
open XX
def sgnD (d : Dy) (neg : Bool) : Dy := if neg = true then d.neg else d
theorem sgnD_lim {K : Nat} {d : Dy} (h : Lim K d) (neg : Bool) : Lim K (sgnD d neg) := by
  unfold sgnD; split
  · exact h.neg
  · exact h
theorem sgnD_m {d : Dy} {neg : Bool} : (sgnD d neg).m = d.m := by
  unfold sgnD Dy.neg
  split
  · split
    · rename_i h; rw [h]; rfl
    · rfl
  · rfl
theorem r_MinusF {p : PV} {d : Dy} (h : RD p d) (hf : d.fits) : PC E 102 [p] d.neg.pv := by
  obtain ⟨r, -, h2, h3⟩ := r_Minus h
  rw [h2 hf] at h3
  exact h3
theorem d_signed {p : PV} {d : Dy} (h : RD p d) (hf : d.fits) (neg : Bool) : ∃ q, RD q (sgnD d neg) ∧ PC E 170 [p, .bool neg] q := by
  have k1 := r_MinusF h hf
  cases neg with
  | true =>
    refine ⟨d.neg.pv, RD.fit (neg_ok h.ok) (by
      have := h.bits
      unfold Dy.neg
      split
      · exact Nat.le_trans (show bitLen 0 ≤ 0 by decide) (Nat.zero_le _)
      · exact this) (by
      unfold Dy.neg
      split
      · decide
      · exact hf), ?_⟩
    obtain ⟨s, q, x, e, rfl, -⟩ := h
    simp only [Dy.pv, DP, NN, NL] at k1 ⊢
    refine PC.of_body follows Tryz.func170 (by decide +kernel) rfl (by kernel_rfl) (Nat.le_of_ble_eq_true rfl) (walk ?_)
    simp only [Tryz.f170, go_sem]
    refine qcall_i (k1) ?_; simp only [Tryz.f170, go_sem]
    try rfl
  | false =>
    refine ⟨p, h, ?_⟩
    obtain ⟨s, q, x, e, rfl, -⟩ := h
    simp only [DP]
    refine PC.of_body follows Tryz.func170 (by decide +kernel) rfl (by kernel_rfl) (Nat.le_of_ble_eq_true rfl) (walk ?_)
    simp only [Tryz.f170, go_sem]
    try rfl
def decR (i : Iv) : Prop := i.right ∧ 0 < i.lo.sg
instance (i : Iv) : Decidable (decR i) := inferInstanceAs (Decidable (_ ∧ _))
theorem d_right {p : PV} {i : Iv} (h : RI p i) {dir : Int} (hd : 0 ≤ dir ∧ dir ≤ 3) : PC E 169 [p, .int .i64 dir] (.bool (decide (decR i))) := by
  have k1 := q_Right h
  obtain ⟨s1, P1, e1, s2, P2, e2, rfl, h1, h2⟩ := h
  have k2 := r_Sign h1
  simp only [DP] at k2
  refine PC.of_body follows Tryz.func169 (by decide +kernel) rfl (by kernel_rfl) (Nat.le_of_ble_eq_true rfl) (walk ?_)
  by_cases hr : i.right
  case neg =>
    rw [decide_eq_false hr] at k1
    rw [decide_eq_false (fun h : decR i => hr h.1)]
    simp only [Tryz.f169, go_sem]
    refine qcall_i (k1) ?_; simp only [Tryz.f169, go_sem]
    try rfl
  rw [decide_eq_true hr] at k1
  by_cases hs : 0 < i.lo.sg
  case neg =>
    rw [decide_eq_false (fun h : decR i => hs h.2)]
    simp only [Tryz.f169, go_sem]
    refine qcall_i (k1) ?_; simp only [Tryz.f169, go_sem]
    refine qcall_i (k2) ?_; simp only [Tryz.f169, go_sem]
    refine qif_df (by omega) ?_
    simp only [Tryz.f169, go_sem]
    try rfl
  rw [decide_eq_true (show decR i from ⟨hr, hs⟩)]
  simp only [Tryz.f169, go_sem]
  refine qcall_i (k1) ?_; simp only [Tryz.f169, go_sem]
  refine qcall_i (k2) ?_; simp only [Tryz.f169, go_sem]
  refine qif_dt (by omega) ?_
  simp only [Tryz.f169, go_sem]
  refine qif_dt (by omega) ?_
  simp only [Tryz.f169, go_sem]
  try (simp; omega)
def roundS (i : Iv) (neg : Bool) (dir : Int) : Option (Nat × Nat) :=
  if (decR i ∧ ¬ (i.lo.fits ∧ brkP i.lo) ∧ ¬ (i.hi.fits ∧ brkP i.hi)) ∧ toS (sgnD i.lo neg) false dir = toS (sgnD i.hi neg) false dir then some (toS (sgnD i.lo neg) false dir) else none
def bfoPV (o : Option (Nat × Nat)) : PV := match o with
  | some r => .tuple [u r.1, .int .u8 r.2, .bool true]
  | none => .tuple [u 0, .int .u8 0, .bool false]
theorem toE_of {d : Dy} {dir : Int} (hf : d.fits) (hd : 0 ≤ dir ∧ dir ≤ 3) : toE d false dir := ⟨hf, hd.1, hd.2, fun h => absurd h.1 (by decide)⟩
set_option maxHeartbeats 2000000 in
theorem d_Round {p : PV} {i : Iv} {K : Nat} (h : RI p i) (hl : i.lim K) (hK : K ≤ 200000) (neg : Bool) {dir : Int} (hd : 0 ≤ dir ∧ dir ≤ 3) :
    PC E 108 [p, .bool neg, .int .i64 dir] (bfoPV (roundS i neg dir)) := by
  have k1 := d_right h hd
  obtain ⟨s1, P1, e1, s2, P2, e2, rfl, h1, h2⟩ := h
  have k2 := c_Break h1
  have k3 := c_Break h2
  have f1 := hl.1.fits (by omega)
  have f2 := hl.2.fits (by omega)
  obtain ⟨q1, g1, k4⟩ := d_signed h1 f1 neg
  obtain ⟨q2, g2, k5⟩ := d_signed h2 f2 neg
  have l1 := sgnD_lim hl.1 neg
  have l2 := sgnD_lim hl.2 neg
  have k6 := r_To g1 (by have := l1.bits; omega) false dir
  have k7 := r_To g2 (by have := l2.bits; omega) false dir
  rw [if_pos (toE_of (l1.fits (by omega)) hd)] at k6
  rw [if_pos (toE_of (l2.fits (by omega)) hd)] at k7
  unfold roundS
  obtain ⟨s3, P3, x3, e3, rfl, -⟩ := g1
  obtain ⟨s4, P4, x4, e4, rfl, -⟩ := g2
  generalize toS (sgnD i.lo neg) false dir = A at *
  generalize toS (sgnD i.hi neg) false dir = B at *
  obtain ⟨a1, a2⟩ := A
  obtain ⟨b1, b2⟩ := B
  by_cases c1 : decR i
  case neg =>
    rw [if_neg (fun h => c1 h.1.1)]
    rw [decide_eq_false c1] at k1
    simp only [DP, bfoPV, u] at k1 ⊢
    refine PC.of_body follows Tryz.func108 (by decide +kernel) rfl (by kernel_rfl) (Nat.le_of_ble_eq_true rfl) (walk ?_)
    simp only [Tryz.f108, go_sem]
    refine qcall_i (k1) ?_; simp only [Tryz.f108, go_sem]
    try rfl
  rw [decide_eq_true c1] at k1
  by_cases c2 : i.lo.fits ∧ brkP i.lo
  case pos =>
    rw [if_neg (fun h => h.1.2.1 c2)]
    rw [decide_eq_true c2] at k2
    simp only [DP, bfoPV, u] at k1 k2 ⊢
    refine PC.of_body follows Tryz.func108 (by decide +kernel) rfl (by kernel_rfl) (Nat.le_of_ble_eq_true rfl) (walk ?_)
    simp only [Tryz.f108, go_sem]
    refine qcall_i (k1) ?_; simp only [Tryz.f108, go_sem]
    refine qcall_i (k2) ?_; simp only [Tryz.f108, go_sem]
    try rfl
  rw [decide_eq_false c2] at k2
  by_cases c3 : i.hi.fits ∧ brkP i.hi
  case pos =>
    rw [if_neg (fun h => h.1.2.2 c3)]
    rw [decide_eq_true c3] at k3
    simp only [DP, bfoPV, u] at k1 k2 k3 ⊢
    refine PC.of_body follows Tryz.func108 (by decide +kernel) rfl (by kernel_rfl) (Nat.le_of_ble_eq_true rfl) (walk ?_)
    simp only [Tryz.f108, go_sem]
    refine qcall_i (k1) ?_; simp only [Tryz.f108, go_sem]
    refine qcall_i (k2) ?_; simp only [Tryz.f108, go_sem]
    refine qcall_i (k3) ?_; simp only [Tryz.f108, go_sem]
    try rfl
  rw [decide_eq_false c3] at k3
  dsimp only at k6 k7
  by_cases c4 : a1 = b1
  case neg =>
    rw [if_neg (fun h => c4 (Prod.mk.inj h.2).1)]
    simp only [DP, bfoPV, u] at k1 k2 k3 k4 k5 k6 k7 ⊢
    refine PC.of_body follows Tryz.func108 (by decide +kernel) rfl (by kernel_rfl) (Nat.le_of_ble_eq_true rfl) (walk ?_)
    simp only [Tryz.f108, go_sem]
    refine qcall_i (k1) ?_; simp only [Tryz.f108, go_sem]
    refine qcall_i (k2) ?_; simp only [Tryz.f108, go_sem]
    refine qcall_i (k3) ?_; simp only [Tryz.f108, go_sem]
    refine qcall_i (k4) ?_; simp only [Tryz.f108, go_sem]
    refine qcall_i (k6) ?_; simp only [Tryz.f108, go_sem]
    refine qcall_i (k5) ?_; simp only [Tryz.f108, go_sem]
    refine qcall_i (k7) ?_; simp only [Tryz.f108, go_sem]
    refine qif_dt (by omega) ?_
    simp only [Tryz.f108, go_sem]
    try rfl
  by_cases c5 : a2 = b2
  case neg =>
    rw [if_neg (fun h => c5 (Prod.mk.inj h.2).2)]
    simp only [DP, bfoPV, u] at k1 k2 k3 k4 k5 k6 k7 ⊢
    refine PC.of_body follows Tryz.func108 (by decide +kernel) rfl (by kernel_rfl) (Nat.le_of_ble_eq_true rfl) (walk ?_)
    simp only [Tryz.f108, go_sem]
    refine qcall_i (k1) ?_; simp only [Tryz.f108, go_sem]
    refine qcall_i (k2) ?_; simp only [Tryz.f108, go_sem]
    refine qcall_i (k3) ?_; simp only [Tryz.f108, go_sem]
    refine qcall_i (k4) ?_; simp only [Tryz.f108, go_sem]
    refine qcall_i (k6) ?_; simp only [Tryz.f108, go_sem]
    refine qcall_i (k5) ?_; simp only [Tryz.f108, go_sem]
    refine qcall_i (k7) ?_; simp only [Tryz.f108, go_sem]
    refine qif_df (by omega) ?_
    simp only [Tryz.f108, go_sem]
    refine qif_dt (by omega) ?_
    simp only [Tryz.f108, go_sem]
    try rfl
  subst c4 c5
  rw [if_pos ⟨⟨c1, c2, c3⟩, rfl⟩]
  simp only [DP, bfoPV, u] at k1 k2 k3 k4 k5 k6 k7 ⊢
  refine PC.of_body follows Tryz.func108 (by decide +kernel) rfl (by kernel_rfl) (Nat.le_of_ble_eq_true rfl) (walk ?_)
  simp only [Tryz.f108, go_sem]
  refine qcall_i (k1) ?_; simp only [Tryz.f108, go_sem]
  refine qcall_i (k2) ?_; simp only [Tryz.f108, go_sem]
  refine qcall_i (k3) ?_; simp only [Tryz.f108, go_sem]
  refine qcall_i (k4) ?_; simp only [Tryz.f108, go_sem]
  refine qcall_i (k6) ?_; simp only [Tryz.f108, go_sem]
  refine qcall_i (k5) ?_; simp only [Tryz.f108, go_sem]
  refine qcall_i (k7) ?_; simp only [Tryz.f108, go_sem]
  try (refine qif_df (by omega) ?_)
  try simp only [Tryz.f108, go_sem]
  try (refine qif_df (by omega) ?_)
  try simp only [Tryz.f108, go_sem]
  try rfl
def dwn (neg : Bool) (dir : Int) : Bool := decide (dir = 1) || ((decide (dir = 3) && !neg) || (decide (dir = 2) && neg))
theorem d_down (neg : Bool) (dir : Int) : PC E 171 [.bool neg, .int .i64 dir] (.bool (dwn neg dir)) := by
  obtain ⟨R, hR⟩ : ∃ R, R = PV.bool (dwn neg dir) := ⟨_, rfl⟩
  rw [← hR]
  unfold dwn at hR
  refine PC.of_body follows Tryz.func171 (by decide +kernel) rfl (by kernel_rfl) (Nat.le_of_ble_eq_true rfl) (walk ?_)
  simp only [Tryz.f171, go_sem]
  refine qif_d (fun h1 => ?_) (fun h1 => ?_)
  · rw [decide_eq_true h1] at hR
    simp only [Tryz.f171, go_sem]
    rw [hR]; rfl
  rw [decide_eq_false h1] at hR
  simp only [Tryz.f171, go_sem]
  refine qif_d (fun h3 => ?_) (fun h3 => ?_)
  · rw [decide_eq_true h3, decide_eq_false (show ¬ dir = 2 by omega)] at hR
    cases neg
    · simp only [Tryz.f171, go_sem]
      rw [hR]; rfl
    · simp only [Tryz.f171, go_sem]
      refine qif_df (by omega) ?_
      simp only [Tryz.f171, go_sem]
      rw [hR]; rfl
  rw [decide_eq_false h3] at hR
  simp only [Tryz.f171, go_sem]
  refine qif_d (fun h2 => ?_) (fun h2 => ?_)
  · rw [decide_eq_true h2] at hR
    simp only [Tryz.f171, go_sem]
    rw [hR]; cases neg <;> rfl
  rw [decide_eq_false h2] at hR
  simp only [Tryz.f171, go_sem]
  rw [hR]; rfl
def looseD (i : Iv) (neg : Bool) (dir : Int) : Dy := sgnD (if dwn neg dir = true then i.hi else i.lo) neg
def looseS (i : Iv) (neg : Bool) (dir : Int) : Option (Nat × Nat) := if decR i then some (toS (looseD i neg dir) true dir) else none
theorem sg_m0 {d : Dy} (h : 0 < d.sg) : d.m ≠ 0 := fun h0 => by unfold Dy.sg at h; rw [if_pos h0] at h; omega
theorem decR_hi {i : Iv} (h : decR i) : 0 < i.hi.sg := by
  refine Int.not_le.1 fun hle => ?_
  have h1 := h.1.2.2
  have h3 := h.2
  rw [cmpD_sg (.inl (by omega))] at h1
  have := (sgn_pos i.lo.sg i.hi.sg).2 (by omega)
  omega
theorem d_Loose {p : PV} {i : Iv} {K : Nat} (h : RI p i) (hl : i.lim K) (hK : K ≤ 200000) (neg : Bool) {dir : Int} (hd : 0 ≤ dir ∧ dir ≤ 3) :
    PC E 109 [p, .bool neg, .int .i64 dir] (bfoPV (looseS i neg dir)) := by
  have k1 := d_right h hd
  have k2 := d_down neg dir
  obtain ⟨s1, P1, e1, s2, P2, e2, rfl, h1, h2⟩ := h
  unfold looseS looseD
  by_cases c1 : decR i
  case neg =>
    rw [if_neg c1]
    rw [decide_eq_false c1] at k1
    simp only [bfoPV, u] at k1 ⊢
    refine PC.of_body follows Tryz.func109 (by decide +kernel) rfl (by kernel_rfl) (Nat.le_of_ble_eq_true rfl) (walk ?_)
    simp only [Tryz.f109, go_sem]
    refine qcall_i (k1) ?_; simp only [Tryz.f109, go_sem]
    try rfl
  rw [if_pos c1]
  rw [decide_eq_true c1] at k1
  have m1 := sg_m0 c1.2
  have m2 := sg_m0 (decR_hi c1)
  cases hdw : dwn neg dir with
  | true =>
    rw [hdw] at k2
    rw [if_pos rfl]
    obtain ⟨q2, g2, k5⟩ := d_signed h2 (hl.2.fits (by omega)) neg
    have l2 := sgnD_lim hl.2 neg
    have k7 := r_To g2 (by have := l2.bits; omega) true dir
    rw [if_pos ⟨l2.fits (by omega), hd.1, hd.2, fun h => m2 (by have := h.2; rwa [sgnD_m] at this)⟩] at k7
    generalize toS (sgnD i.hi neg) true dir = A at *
    obtain ⟨a1, a2⟩ := A
    obtain ⟨s4, P4, x4, e4, rfl, -⟩ := g2
    simp only [DP, bfoPV, u] at k1 k5 k7 ⊢
    refine PC.of_body follows Tryz.func109 (by decide +kernel) rfl (by kernel_rfl) (Nat.le_of_ble_eq_true rfl) (walk ?_)
    simp only [Tryz.f109, go_sem]
    refine qcall_i (k1) ?_; simp only [Tryz.f109, go_sem]
    refine qcall_i (k2) ?_; simp only [Tryz.f109, go_sem]
    refine qcall_i (k5) ?_; simp only [Tryz.f109, go_sem]
    refine qcall_i (k7) ?_; simp only [Tryz.f109, go_sem]
    try rfl
  | false =>
    rw [hdw] at k2
    rw [if_neg Bool.false_ne_true]
    obtain ⟨q2, g2, k5⟩ := d_signed h1 (hl.1.fits (by omega)) neg
    have l2 := sgnD_lim hl.1 neg
    have k7 := r_To g2 (by have := l2.bits; omega) true dir
    rw [if_pos ⟨l2.fits (by omega), hd.1, hd.2, fun h => m1 (by have := h.2; rwa [sgnD_m] at this)⟩] at k7
    generalize toS (sgnD i.lo neg) true dir = A at *
    obtain ⟨a1, a2⟩ := A
    obtain ⟨s4, P4, x4, e4, rfl, -⟩ := g2
    simp only [DP, bfoPV, u] at k1 k5 k7 ⊢
    refine PC.of_body follows Tryz.func109 (by decide +kernel) rfl (by kernel_rfl) (Nat.le_of_ble_eq_true rfl) (walk ?_)
    simp only [Tryz.f109, go_sem]
    refine qcall_i (k1) ?_; simp only [Tryz.f109, go_sem]
    refine qcall_i (k2) ?_; simp only [Tryz.f109, go_sem]
    refine qcall_i (k5) ?_; simp only [Tryz.f109, go_sem]
    refine qcall_i (k7) ?_; simp only [Tryz.f109, go_sem]
    try rfl
end
section
open Go PG Go.Proofs
set_option maxRecDepth 100000
set_option linter.unusedSimpArgs false
set_option linter.unusedVariables false
open XX
def nearD : Dy := mkD false 1 (-60)
def boundS (z : Iv) (sign : Int) : Int :=
  if sign = 0 ∨ ¬ z.right then 0 else if 0 ≤ cmpD z.lo (norm 710 0) then 1 else if cmpD z.hi (norm (-746) 0) ≤ 0 then 2 else if sign = 1 ∧ cmpD z.hi nearD < 0 then 3 else if sign = -1 ∧ 0 < cmpD z.lo nearD.neg then 4 else 0
theorem near_RD : RD (DP false (.lst 1 [.int .u64 1]) (-60)) nearD := RD.one (x := 1) (by decide)
set_option maxHeartbeats 2000000 in
theorem b_Of {p : PV} {z : Iv} {K : Nat} (h : RI p z) (hl : z.lim K) (hK : K ≤ 200000) (sign : Int) : PC E 51 [p, .int .i64 sign] (.int .i64 (boundS z sign)) := by
  have k1 := q_Right h
  obtain ⟨s1, P1, e1, s2, P2, e2, rfl, h1, h2⟩ := h
  have k2 := c_dOf 710 (by decide) (by decide)
  have k3 := c_dOf (-746) (by decide) (by decide)
  have g2 : RD (norm 710 0).pv (norm 710 0) := (Lim.norm (K := 20) (z := 710) (by decide) (by decide)).RD (by decide)
  have g3 : RD (norm (-746) 0).pv (norm (-746) 0) := (Lim.norm (K := 20) (z := -746) (by decide) (by decide)).RD (by decide)
  have k4 := r_Cmp h1 g2
  have k5 := r_Cmp h2 g3
  have k6 := r_Cmp h2 near_RD
  have k7 := r_MinusF near_RD (by decide)
  have g4 : RD nearD.neg.pv nearD.neg := RD.fit (neg_ok near_RD.ok) (by decide) (by decide)
  have k8 := r_Cmp h1 g4
  obtain ⟨R, hR⟩ : ∃ R, R = PV.int .i64 (boundS z sign) := ⟨_, rfl⟩
  rw [← hR]
  unfold boundS at hR
  generalize nearD.neg = N1 at *
  generalize nearD = N0 at *
  generalize norm 710 0 = N2 at *
  generalize norm (-746) 0 = N3 at *
  simp only [DP, Dy.pv, NN, NL] at k2 k3 k4 k5 k6 k7 k8
  refine PC.of_body follows Tryz.func51 (by decide +kernel) rfl (by kernel_rfl) (Nat.le_of_ble_eq_true rfl) (walk ?_)
  simp only [Tryz.f51, go_sem]
  by_cases c0 : sign = 0
  · rw [if_pos (.inl c0)] at hR
    subst hR
    refine qif_dt c0 ?_
    simp only [Tryz.f51, go_sem]
    try rfl
  refine qif_df c0 ?_
  simp only [Tryz.f51, go_sem]
  by_cases c1 : z.right
  case neg =>
    rw [decide_eq_false c1] at k1
    rw [if_pos (.inr c1)] at hR
    subst hR
    refine qcall_i (k1) ?_; simp only [Tryz.f51, go_sem]
    try rfl
  rw [decide_eq_true c1] at k1
  rw [if_neg (fun h => h.elim c0 (fun h => h c1))] at hR
  refine qcall_i (k1) ?_; simp only [Tryz.f51, go_sem]
  refine qcall_i (k2) ?_; simp only [Tryz.f51, go_sem]
  refine qcall_i (k4) ?_; simp only [Tryz.f51, go_sem]
  by_cases c2 : 0 ≤ cmpD z.lo N2
  · rw [if_pos c2] at hR
    subst hR
    refine qif_dt c2 ?_
    simp only [Tryz.f51, go_sem]
    try rfl
  rw [if_neg c2] at hR
  refine qif_df c2 ?_
  simp only [Tryz.f51, go_sem]
  refine qcall_i (k3) ?_; simp only [Tryz.f51, go_sem]
  refine qcall_i (k5) ?_; simp only [Tryz.f51, go_sem]
  by_cases c3 : cmpD z.hi N3 ≤ 0
  · rw [if_pos c3] at hR
    subst hR
    refine qif_dt c3 ?_
    simp only [Tryz.f51, go_sem]
    try rfl
  rw [if_neg c3] at hR
  refine qif_df c3 ?_
  simp only [Tryz.f51, go_sem]
  by_cases c4 : sign = 1
  · refine qif_dt c4 ?_
    simp only [Tryz.f51, go_sem]
    refine qcall_i (k6) ?_; simp only [Tryz.f51, go_sem]
    by_cases c5 : cmpD z.hi N0 < 0
    · rw [if_pos ⟨c4, c5⟩] at hR
      subst hR
      refine qif_dt c5 ?_
      simp only [Tryz.f51, go_sem]
      try rfl
    · rw [if_neg (fun h => c5 h.2), if_neg (fun h => by omega)] at hR
      subst hR
      refine qif_df c5 ?_
      simp only [Tryz.f51, go_sem]
      refine qif_df (by omega) ?_
      simp only [Tryz.f51, go_sem]
      try rfl
  rw [if_neg (fun h => c4 h.1)] at hR
  refine qif_df c4 ?_
  simp only [Tryz.f51, go_sem]
  by_cases c6 : sign = -1
  · refine qif_dt c6 ?_
    simp only [Tryz.f51, go_sem]
    refine qcall_i (k7) ?_; simp only [Tryz.f51, go_sem]
    refine qcall_i (k8) ?_; simp only [Tryz.f51, go_sem]
    by_cases c7 : 0 < cmpD z.lo N1
    · rw [if_pos ⟨c6, c7⟩] at hR
      subst hR
      refine qif_dt c7 ?_
      simp only [Tryz.f51, go_sem]
      try rfl
    · rw [if_neg (fun h => c7 h.2)] at hR
      subst hR
      refine qif_df c7 ?_
      simp only [Tryz.f51, go_sem]
      try rfl
  · rw [if_neg (fun h => c6 h.1)] at hR
    subst hR
    refine qif_df c6 ?_
    simp only [Tryz.f51, go_sem]
    try rfl
def classS (c : Int) (neg : Bool) (dir : Int) : Nat × Nat :=
  if c = 1 then (withS neg (if dir = 0 ∨ upw dir neg = true then INF else MAX), 5) else if c = 2 then (withS neg (if upw dir neg = true then 1 else 0), 3)
  else if c = 3 then toS (mkD neg 1 0) true dir else toS (mkD neg 18014398509481983 (-54)) true dir
set_option maxHeartbeats 2000000 in
theorem b_Result {c : Int} (hc : 1 ≤ c ∧ c ≤ 4) (neg : Bool) {dir : Int} (hd : 0 ≤ dir ∧ dir ≤ 3) : PC E 53 [.int .i64 c, .bool neg, .int .i64 dir] (bfoPV (some (classS c neg dir))) := by
  have k1 := c_Over neg dir
  have k2 := c_Under neg dir
  have g1 : RD (DP neg (.lst 1 [.int .u64 1]) 0) (mkD neg 1 0) := RD.one (x := 1) (by decide)
  have g2 : RD (DP neg (.lst 1 [.int .u64 18014398509481983]) (-54)) (mkD neg 18014398509481983 (-54)) := RD.one (x := 18014398509481983) (by decide)
  have k3 := r_To g1 (by cases neg <;> decide) true dir
  have k4 := r_To g2 (by cases neg <;> decide) true dir
  rw [if_pos ⟨by cases neg <;> decide, hd.1, hd.2, fun h => absurd h.2 (by cases neg <;> decide)⟩] at k3 k4
  obtain ⟨R, hR⟩ : ∃ R, R = bfoPV (some (classS c neg dir)) := ⟨_, rfl⟩
  rw [← hR]
  unfold bfoPV classS at hR
  generalize toS (mkD neg 1 0) true dir = A3 at *
  generalize toS (mkD neg 18014398509481983 (-54)) true dir = A4 at *
  generalize withS neg (if dir = 0 ∨ upw dir neg = true then INF else MAX) = A1 at *
  generalize withS neg (if upw dir neg = true then 1 else 0) = A2 at *
  obtain ⟨a1, a2⟩ := A3
  obtain ⟨b1, b2⟩ := A4
  simp only [DP, u] at k1 k2 k3 k4 hR
  refine PC.of_body follows Tryz.func53 (by decide +kernel) rfl (by kernel_rfl) (Nat.le_of_ble_eq_true rfl) (walk ?_)
  simp only [Tryz.f53, go_sem]
  refine qif_df (by omega) ?_
  simp only [Tryz.f53, go_sem]
  refine qif_df (by omega) ?_
  simp only [Tryz.f53, List.range_zero, List.getD_cons_zero, List.getD_cons_succ, Nat.reduceMod, go_sem]
  by_cases c1 : c = 1
  · rw [if_pos c1] at hR
    subst hR
    refine qif_dt c1 ?_
    simp only [Tryz.f53, go_sem]
    refine qcall_i (k1) ?_; simp only [Tryz.f53, go_sem]
    try rfl
  rw [if_neg c1] at hR
  refine qif_df c1 ?_
  simp only [Tryz.f53, go_sem]
  by_cases c2 : c = 2
  · rw [if_pos c2] at hR
    subst hR
    refine qif_dt c2 ?_
    simp only [Tryz.f53, go_sem]
    refine qcall_i (k2) ?_; simp only [Tryz.f53, go_sem]
    try rfl
  rw [if_neg c2] at hR
  refine qif_df c2 ?_
  simp only [Tryz.f53, go_sem]
  by_cases c3 : c = 3
  · rw [if_pos c3] at hR
    subst hR
    refine qif_dt c3 ?_
    simp only [Tryz.f53, List.range_zero, List.getD_cons_zero, List.getD_cons_succ, Nat.reduceMod, go_sem]
    refine qcall_i (k3) ?_; simp only [Tryz.f53, go_sem]
    try rfl
  rw [if_neg c3] at hR
  subst hR
  refine qif_df c3 ?_
  simp only [Tryz.f53, go_sem]
  refine qif_dt (by omega) ?_
  simp only [Tryz.f53, List.range_zero, List.getD_cons_zero, List.getD_cons_succ, Nat.reduceMod, go_sem]
  refine qcall_i (k4) ?_; simp only [Tryz.f53, go_sem]
  try rfl
end
end Go.Proofs.YtfkgaldbcngliaaGreatDoor
