/- hexf.Print. -/
import Derived.Test.YtnccaoeeedhgbaaGreatDoorStr4
import Derived.Test.YtnccaoeeedhgbaaGreatDoorStrZ
import Derived.Test.YtnccaoeeedhgbaaGreatDoorHx3
import Derived.Test.YtnccaoeeedhgbaaGreatDoorG6
open Go PG Go.Proofs
set_option maxRecDepth 100000
set_option linter.unusedSimpArgs false
set_option linter.unusedVariables false
namespace Go.Proofs.YtnccaoeeedhgbaaGreatDoor
attribute [local go_sem] Lay2 Lay3 Lay4 Lay5 Lay6 Lay7 Lay8 Lay9 Lay10 Lay11 Lay12 Lay13 Lay14 Lay15 Lay16 Lay17 Lay18 Lay19 Lay21 Lay23 Lay24 Lay25 Lay26 Lay27 Lay28 Lay31 Lay32 Lay33 Lay34 Lay37 Lay38 Lay39 Lay42 Lay46 Lay47 Lay54 Lay65 Lay66 Lay96 Lay97 Lay106 Lay136 Lay147 Lay148 Lay152 Lay160 Lay161 Lay187 Lay201 Lay202 Lay203 Lay204 Lay212 Lay215 Lay220 Lay221 Lay234 Lay244 Lay247 Lay248 Lay249 Lay250 Lay251 Lay252 Lay253 Lay254 Lay255 Lay256 Lay257 Lay258 Lay259 Lay260 Lay261 Lay262 Lay264 Lay265 qexec_seq qexec_skip qexec_exit qexec_ret qexec_block qexec_loop qexec_range qexec_cond qexec_region qexec_drawn qops_nil qops_none qops_some put_some put_none pblk_exit pblk_other newDsts_nil inlDsts_nil isInl sget_cons sget_nil qval_some qbool_some qgs_bool qgs_und qfree_some qgrd_true qgrd_false qif_true qif_false qval_ite qval_itn qand_true map_ite map_some' map_none' qdo_move qdo_assign qdo_binOp qdo_pick qdo_unOp qdo_convert qdo_extract qdo_field qdo_fieldAddr qdo_alloc qdo_box qdo_build qdo_buildSlice qdo_load qdo_store qdo_nilCheck qdo_makeFunc qdo_makeSlice qdo_slice qdo_indexAddr qdo_call qcont_val qcont_new qcont_st qcont_app0 qcont_app qcont_inl qcont_call njSV_val njSV_nil njSV_row njSV_ptr njSV_sub binV_val binV_nil binV_nn binV_ptr bin_np bin_nnp nilCmp bin_add bin_sub bin_mul bin_quo bin_rem bin_and bin_or bin_xor bin_andNot bin_eql bin_neq bin_lss bin_leq bin_gtr bin_geq bin_shl bin_shr bin_seql bin_sneq bin_sadd bin_beql bin_aeql bin_aneq eqAnd_some eqCells_nil eqCells_cons fieldTypes isStruct eqCell bin_bneq un_not un_neg nj_ite Nat.beq stepA stepR isNew opSV constSV RV.sv allSome E_mu E_own qkeyIn_none qkeyIn_some qkeyAt_none qkeyAt_some Bool.or_false Bool.false_or Bool.or_true Bool.true_or cst setB res resSV pstart startL killL kill1 eraL frzL svPV rvPV rvInt rvSlice rvBytes frzOf close closeL pconv pbuiltin pmax2 partPV setCells fillPV zrow bound newSV PV.cells Bk.cells Bk.with SV.key pres presL_nil presL_tmp presL_cell presC2_some cellPV_ptr presC List.toList_toArray List.size_toArray List.getElem?_drop Nat.mul_one Int.toNat_natCast Nat.not_lt_zero Nat.lt_irrefl decide_true decide_false Nat.not_lt Option.some.injEq PV.lst.injEq PV.int.injEq PV.bool.injEq PV.tuple.injEq List.cons.injEq Option.map_some Option.map_none Option.bind_some Option.toList List.map_cons List.map_nil List.nil_append List.cons_append List.append_nil List.zip_cons_cons List.zip_nil_left List.zip_nil_right List.getElem?_cons_zero List.getElem?_cons_succ List.drop_zero List.drop_succ_cons List.take_succ_cons List.take_zero List.set_cons_zero List.set_cons_succ List.length_cons List.length_nil List.length_set List.replicate_one List.replicate_zero bne_self_eq_false beq_self_eq_true Nat.zero_add Nat.add_zero Nat.zero_mul Bool.false_eq_true Bool.true_eq_false Bool.not_true Bool.not_false and_true true_and false_and and_false or_false false_or or_true true_or not_true_eq_false not_false_eq_true ne_eq gt_iff_lt List.mem_cons List.not_mem_nil
attribute [local go_sem ↓] pseq_normal pseq_ret pseq_exit pblk_normal pblk_ret newDsts_cons inlDsts_cons gdst_zero gdst_succ retQ_normal retQ_ret qneed_nil qneed_cons retM_normal retM_ret endR_normal endR_ret endR_exit
attribute [local go_sem] Int.reduceToNat Int.reduceEq Int.reduceNe Int.reduceLT Int.reduceLE Int.reduceNeg Int.reduceAdd Nat.reduceEqDiff Nat.reduceAdd Nat.reduceSub Nat.reduceMul Nat.reduceLeDiff Nat.reduceLT
attribute [local go_sem ↓] reduceIte reduceCtorEq

/-- A number's top bit, its digits with 52 bits behind it. -/
def topB (b : Nat) : Nat := bitLen (fd b).m - 1
def fulB (b : Nat) : Nat := (fd b).m * 2 ^ (52 - topB b)
def digB (b : Nat) : List UInt8 := trimR (· == 48) ((hexL (fulB b)).drop 1)
def sgnB (b : Nat) : List UInt8 := if fs b = true then [45] else []
def prB (b : Nat) : List UInt8 :=
  if 3 < kind b then wNaN
  else if kind b = 3 then sgnB b ++ wInf
  else if kind b = 0 then sgnB b ++ [48, 120, 48, 112, 48]
  else sgnB b ++ [48, 120, 49] ++ (if digB b = [] then [] else 46 :: digB b) ++ [112] ++ Lib.itoa ((fd b).e + topB b)
theorem andNot52 {r : Nat} (h : r < 4503599627370496) : bits .andNot .u64 (((4503599627370496 + r : Nat)) : Int) 4503599627370496 = (r : Nat) := by
  have h1 : (BitVec.ofInt 64 ((4503599627370496 + r : Nat) : Int)).toNat = 4503599627370496 + r := by
    rw [BitVec.ofInt_natCast, BitVec.toNat_ofNat]; exact Nat.mod_eq_of_lt (by omega)
  have h2 : (BitVec.ofInt 64 (4503599627370496 : Int)).toNat = 4503599627370496 := by decide
  show IntKind.u64.wrap ((BitVec.ofInt 64 ((4503599627370496 + r : Nat) : Int) &&& ~~~ BitVec.ofInt 64 (4503599627370496 : Int)).toNat : Int) = _
  rw [BitVec.toNat_and, BitVec.toNat_not, h1, h2]
  have e : (4503599627370496 + r) &&& (2 ^ 64 - 1 - 4503599627370496) = r := by
    refine Nat.eq_of_testBit_eq fun i => ?_
    have h3 := Nat.two_pow_add_eq_or_of_lt (i := 52) (b := r) (by omega) 1
    rw [Nat.mul_one, show (2 : Nat) ^ 52 = 4503599627370496 from rfl] at h3
    rw [h3, Nat.testBit_and, Nat.testBit_or, show (2 : Nat) ^ 64 - 1 - 4503599627370496 = 2 ^ 64 - (4503599627370496 + 1) from rfl, Nat.testBit_two_pow_sub_succ (by decide), show (4503599627370496 : Nat) = 2 ^ 52 from rfl, Nat.testBit_two_pow]
    by_cases hi : i < 52
    · simp [hi, show ¬ 52 = i by omega, show i < 64 by omega]
    · have : Nat.testBit r i = false := Nat.testBit_lt_two_pow (Nat.lt_of_lt_of_le (show r < 2 ^ 52 by omega) (Nat.pow_le_pow_right (by decide) (by omega)))
      rw [this]
      by_cases h4 : 52 = i
      · simp [h4]
      · simp [h4]
  rw [e, IntKind.wrap_u64]
  omega
theorem or52 {r : Nat} (h : r < 4503599627370496) : bits .or .u64 (r : Int) 4503599627370496 = ((4503599627370496 + r : Nat) : Int) := by
  have h3 := Nat.two_pow_add_eq_or_of_lt (i := 52) (b := r) (by omega) 1
  rw [Nat.mul_one, show (2 : Nat) ^ 52 = 4503599627370496 from rfl, Nat.or_comm] at h3
  rw [show (4503599627370496 : Int) = ((4503599627370496 : Nat) : Int) from rfl, b_or (show r < 18446744073709551616 by omega) (by decide), h3]
theorem kind03 {b : Nat} (h : kind b = 1 ∨ kind b = 2) : fe b < 2047 ∧ (fd b).m ≠ 0 := by
  have hf : fe b < 2047 := Decidable.byContradiction fun h2 => by
    revert h
    unfold kind
    split <;> (try split) <;> (try split) <;> (try split) <;> (try split) <;> omega
  refine ⟨hf, fun h0 => ?_⟩
  have h1 := (fd_m0 hf).1 h0
  have h2 : kind b = 0 := by
    have e1 : fe b = 0 := by unfold fe; unfold fsz at h1; omega
    have e2 : ff b = 0 := by unfold ff; unfold fsz at h1; omega
    unfold kind
    rw [if_pos ⟨e1, e2⟩]
  omega
theorem fulB_rng {b : Nat} (h0 : (fd b).m ≠ 0) : topB b ≤ 52 ∧ 4503599627370496 ≤ fulB b ∧ fulB b < 9007199254740992 := by
  have h1 := fd_bits b
  have h2 := (bitLen_le (fd b).m (bitLen (fd b).m)).1 (Nat.le_refl _)
  have h4 : 1 ≤ bitLen (fd b).m := Nat.pos_of_ne_zero fun e => h0 (by
    have := (bitLen_le (fd b).m 0).1 (by omega)
    omega)
  have h3 : 2 ^ (bitLen (fd b).m - 1) ≤ (fd b).m := Nat.le_of_not_lt fun h => by
    have := (bitLen_le (fd b).m (bitLen (fd b).m - 1)).2 h
    omega
  unfold fulB topB
  refine ⟨by omega, ?_, ?_⟩
  · rw [show (4503599627370496 : Nat) = 2 ^ (bitLen (fd b).m - 1) * 2 ^ (52 - (bitLen (fd b).m - 1)) by rw [← Nat.pow_add, show bitLen (fd b).m - 1 + (52 - (bitLen (fd b).m - 1)) = 52 by omega]]
    exact Nat.mul_le_mul_right _ h3
  · rw [show (9007199254740992 : Nat) = 2 ^ bitLen (fd b).m * 2 ^ (52 - (bitLen (fd b).m - 1)) by rw [← Nat.pow_add, show bitLen (fd b).m + (52 - (bitLen (fd b).m - 1)) = 53 by omega]]
    exact Nat.mul_lt_mul_of_pos_right h2 (Nat.two_pow_pos _)
theorem hexL_len : ∀ (k x : Nat), x < 16 ^ (k + 1) → (hexL x).length ≤ k + 1 ∧ 1 ≤ (hexL x).length
  | 0, x, h => by rw [hexL_lt (by omega)]; simp
  | k + 1, x, h => by
    by_cases h1 : x < 16
    · rw [hexL_lt h1]; simp
    · rw [hexL_ge h1, List.length_append, List.length_singleton]
      have := hexL_len k (x / 16) (by rw [Nat.div_lt_iff_lt_mul (by decide), ← Nat.pow_succ]; exact h)
      omega
theorem dec_len : ∀ (k x : Nat), x < 10 ^ (k + 1) → (Lib.decDigits x).length ≤ k + 1
  | 0, x, h => by rw [Lib.decDigits, dif_pos (by omega)]; simp
  | k + 1, x, h => by
    rw [Lib.decDigits]
    by_cases h1 : x < 10
    · rw [dif_pos h1]; simp
    · rw [dif_neg h1, List.length_append, List.length_singleton]
      have := dec_len k (x / 10) (by rw [Nat.div_lt_iff_lt_mul (by decide), ← Nat.pow_succ]; exact h)
      omega
theorem itoa_len {n : Int} (h0 : -10000 < n) (h1 : n < 10000) : (Lib.itoa n).length ≤ 5 := by
  unfold Lib.itoa
  split
  · have := dec_len 3 n.natAbs (by omega)
    rw [List.length_cons]; omega
  · have := dec_len 3 n.toNat (by omega)
    omega
set_option maxHeartbeats 1000000 in
theorem h_Print {b : Nat} (hb : b < W) : PC E 17 [u b] (TX (prB b)) := by
  have k1 := c_Neg b hb
  have k2 := c_Kind b hb
  have hk : kind b ≤ 5 := by unfold kind; split <;> (try split) <;> (try split) <;> (try split) <;> (try split) <;> omega
  have hsg : TX (sgnB b) = if fs b = true then TX [45] else TX [] := by unfold sgnB; split <;> rfl
  by_cases hn : 3 < kind b
  · rw [show prB b = wNaN from if_pos hn]
    unfold wNaN
    generalize fs b = sg at *
    generalize kind b = kd at *
    simp only [TX, u] at k1 k2 ⊢
    refine PC.of_body follows Tryz.func17 (by decide +kernel) rfl (by kernel_rfl) (Nat.le_of_ble_eq_true rfl) (walk ?_)
    cases sg
    all_goals
      simp only [Tryz.f17, B8_size, B8_cut, B8_eq, B8_mk, B8_app, Int.toNat_natCast, go_sem]
      refine qcall_i (k1) ?_; simp only [Tryz.f17, B8_size, B8_cut, B8_eq, B8_mk, B8_app, Int.toNat_natCast, go_sem]
      refine qcall_i (k2) ?_; simp only [Tryz.f17, B8_size, B8_cut, B8_eq, B8_mk, B8_app, Int.toNat_natCast, go_sem]
      repeat' first
        | (exfalso; omega)
        | ((with_reducible refine qif_d (fun h => ?_) (fun h => ?_)) <;> first | (exfalso; omega) | simp only [Tryz.f17, B8_size, B8_cut, B8_eq, B8_mk, B8_app, Int.toNat_natCast, go_sem])
        | ((refine qand_i (by decide) ?_); simp only [Tryz.f17, B8_size, B8_cut, B8_eq, B8_mk, B8_app, Int.toNat_natCast, go_sem])
        | rfl
  by_cases h3 : kind b = 3
  · rw [show prB b = sgnB b ++ wInf by unfold prB; rw [if_neg hn, if_pos h3]]
    unfold wInf sgnB
    generalize fs b = sg at *
    generalize kind b = kd at *
    subst h3
    simp only [TX, u] at k1 k2 ⊢
    refine PC.of_body follows Tryz.func17 (by decide +kernel) rfl (by kernel_rfl) (Nat.le_of_ble_eq_true rfl) (walk ?_)
    cases sg
    all_goals
      simp only [Tryz.f17, B8_size, B8_cut, B8_eq, B8_mk, B8_app, Int.toNat_natCast, go_sem]
      refine qcall_i (k1) ?_; simp only [Tryz.f17, B8_size, B8_cut, B8_eq, B8_mk, B8_app, Int.toNat_natCast, go_sem]
      refine qcall_i (k2) ?_; simp only [Tryz.f17, B8_size, B8_cut, B8_eq, B8_mk, B8_app, Int.toNat_natCast, go_sem]
      repeat' first
        | (exfalso; omega)
        | ((with_reducible refine qif_d (fun h => ?_) (fun h => ?_)) <;> first | (exfalso; omega) | simp only [Tryz.f17, B8_size, B8_cut, B8_eq, B8_mk, B8_app, Int.toNat_natCast, go_sem])
        | ((refine qand_i (by decide) ?_); simp only [Tryz.f17, B8_size, B8_cut, B8_eq, B8_mk, B8_app, Int.toNat_natCast, go_sem])
        | rfl
  by_cases h00 : kind b = 0
  · rw [show prB b = sgnB b ++ [48, 120, 48, 112, 48] by unfold prB; rw [if_neg hn, if_neg h3, if_pos h00]]
    unfold sgnB
    generalize fs b = sg at *
    generalize kind b = kd at *
    subst h00
    simp only [TX, u] at k1 k2 ⊢
    refine PC.of_body follows Tryz.func17 (by decide +kernel) rfl (by kernel_rfl) (Nat.le_of_ble_eq_true rfl) (walk ?_)
    cases sg
    all_goals
      simp only [Tryz.f17, B8_size, B8_cut, B8_eq, B8_mk, B8_app, Int.toNat_natCast, go_sem]
      refine qcall_i (k1) ?_; simp only [Tryz.f17, B8_size, B8_cut, B8_eq, B8_mk, B8_app, Int.toNat_natCast, go_sem]
      refine qcall_i (k2) ?_; simp only [Tryz.f17, B8_size, B8_cut, B8_eq, B8_mk, B8_app, Int.toNat_natCast, go_sem]
      repeat' first
        | (exfalso; omega)
        | ((with_reducible refine qif_d (fun h => ?_) (fun h => ?_)) <;> first | (exfalso; omega) | simp only [Tryz.f17, B8_size, B8_cut, B8_eq, B8_mk, B8_app, Int.toNat_natCast, go_sem])
        | ((refine qand_i (by decide) ?_); simp only [Tryz.f17, B8_size, B8_cut, B8_eq, B8_mk, B8_app, Int.toNat_natCast, go_sem])
        | rfl
  obtain ⟨hf, h0⟩ := kind03 (b := b) (by omega)
  rw [show prB b = sgnB b ++ [48, 120, 49] ++ (if digB b = [] then [] else 46 :: digB b) ++ [112] ++ Lib.itoa ((fd b).e + topB b) by unfold prB; rw [if_neg hn, if_neg h3, if_neg h00]]
  have k3 := c_Parts b hb
  rw [if_pos ⟨hf, h0⟩] at k3
  have hbt := fd_bits b
  have hme : (fd b).m < W := Nat.lt_of_lt_of_le ((bitLen_le _ _).1 hbt) (by decide)
  have k4 := c_Bits [(fd b).m] (by simp) (fun x hx => by rw [List.mem_singleton] at hx; subst hx; exact hme)
  have hv1 : vl [(fd b).m] = (fd b).m := by
    show dv W [(fd b).m] = _
    simp [dv]
  rw [hv1] at k4
  have he := fd_e b
  obtain ⟨r1, r2, r3⟩ := fulB_rng h0
  have k5 := s_FormatUint (x := fulB b) (Nat.lt_trans r3 (by decide))
  have hll := hexL_len 13 (fulB b) (Nat.lt_trans r3 (by decide))
  have k6 := s_TrimRight1 ((hexL (fulB b)).drop 1) 48 (by decide) (by rw [List.length_drop]; omega)
  rw [show trimR (· == 48) ((hexL (fulB b)).drop 1) = digB b from rfl] at k6
  have k7 := s_Itoa ((fd b).e + topB b) (by omega) (by omega)
  have hia := itoa_len (n := (fd b).e + topB b) (by omega) (by omega)
  have hdl : (digB b).length ≤ 13 := by
    have := trimR_le (· == 48) ((hexL (fulB b)).drop 1)
    rw [List.length_drop] at this
    exact Nat.le_trans this (by omega)
  have htp : (topB b : Int) = (bitLen (fd b).m : Int) - 1 := by
    have h4 : 1 ≤ bitLen (fd b).m := Nat.pos_of_ne_zero fun e => h0 (by
      have := (bitLen_le (fd b).m 0).1 (by omega)
      omega)
    unfold topB; omega
  have q1 : IntKind.wrap .i64 ((bitLen (fd b).m : Int) - 1) = (topB b : Nat) := by rw [wrap64 (by omega) (by omega)]; omega
  have q2 : IntKind.wrap .i64 (52 - (topB b : Int)) = ((52 - topB b : Nat) : Int) := by rw [wrap64 (by omega) (by omega)]; omega
  have q3 : IntKind.wrap .u64 (((fd b).m : Int) * 2 ^ (min (52 - topB b) 64)) = (fulB b : Nat) := by
    rw [b_shl]
    rw [Nat.mod_eq_of_lt (show (fd b).m * 2 ^ (52 - topB b) < W from Nat.lt_trans r3 (by decide))]
    rfl
  obtain ⟨rr, hrr⟩ : ∃ rr, fulB b = 4503599627370496 + rr := ⟨fulB b - 4503599627370496, by omega⟩
  have q4 : bits .andNot .u64 ((fulB b : Nat) : Int) 4503599627370496 = (rr : Nat) := by rw [hrr]; exact andNot52 (by omega)
  have q5 : bits .or .u64 (rr : Int) 4503599627370496 = ((fulB b : Nat) : Int) := by rw [hrr]; exact or52 (by omega)
  have q6 : IntKind.wrap .i64 ((fd b).e + topB b) = (fd b).e + topB b := wrap64 (by omega) (by omega)
  unfold sgnB
  have hkd : kind b = 1 ∨ kind b = 2 := by omega
  clear hsg hn h3 h00 hk hrr hv1 hf r2 r3 hbt hb hme
  generalize fs b = sg at *
  generalize kind b = kd at *
  generalize fulB b = fb at *
  generalize hexL fb = hl at *
  generalize digB b = dg' at *
  generalize (fd b).m = m at *
  generalize (fd b).e = e at *
  generalize topB b = tp at *
  generalize Lib.itoa (e + tp) = ia at *
  have hl1 : 1 ≤ hl.length := hll.2
  clear hll htp he r1
  have hmx : maxLen = 9223372036854775807 := rfl
  simp only [TX, u, NL, U, List.map_cons, List.map_nil, List.length_cons, List.length_nil, Nat.zero_add] at k1 k2 k3 k4 k5 k6 k7 ⊢
  refine PC.of_body follows Tryz.func17 (by decide +kernel) rfl (by kernel_rfl) (Nat.le_of_ble_eq_true rfl) (walk ?_)
  cases sg
  all_goals
    simp only [Tryz.f17, B8_size, B8_cut, B8_eq, B8_mk, B8_app, Int.toNat_natCast, go_sem]
    refine qcall_i (k1) ?_; simp only [Tryz.f17, B8_size, B8_cut, B8_eq, B8_mk, B8_app, Int.toNat_natCast, go_sem]
    refine qcall_i (k2) ?_; simp only [Tryz.f17, B8_size, B8_cut, B8_eq, B8_mk, B8_app, Int.toNat_natCast, go_sem]
    repeat' first
      | (exfalso; omega)
      | ((with_reducible refine qif_d (fun h => ?_) (fun h => ?_)) <;> first | (exfalso; omega) | simp only [Tryz.f17, B8_size, B8_cut, B8_eq, B8_mk, B8_app, Int.toNat_natCast, go_sem])
    refine qcall_i (k3) ?_; simp only [Tryz.f17, B8_size, B8_cut, B8_eq, B8_mk, B8_app, Int.toNat_natCast, go_sem]
    refine qcall_i (k4) ?_; simp only [Tryz.f17, B8_size, B8_cut, B8_eq, B8_mk, B8_app, Int.toNat_natCast, q1, q2, q3, q4, q5, go_sem]
    refine qand_i (by omega) ?_
    simp only [Tryz.f17, B8_size, B8_cut, B8_eq, B8_mk, B8_app, Int.toNat_natCast, q1, q2, q3, q4, q5, go_sem]
    refine qcall_i (k5) ?_; simp only [Tryz.f17, B8_size, B8_cut, B8_eq, B8_mk, B8_app, Int.toNat_natCast, go_sem]
    try (refine qand_i (by omega) ?_)
    simp only [Tryz.f17, B8_size, B8_cut, B8_eq, B8_mk, B8_app, Int.toNat_natCast, go_sem]
    try (rw [List.take_length])
    refine qcall_i (k6) ?_; simp only [Tryz.f17, B8_size, B8_cut, B8_eq, B8_mk, B8_app, Int.toNat_natCast, go_sem]
    refine qif_d (fun h9 => ?_) (fun h9 => ?_)
    · rw [if_neg h9]
      simp only [Tryz.f17, B8_size, B8_cut, B8_eq, B8_mk, B8_app, Int.toNat_natCast, go_sem]
      repeat' first
        | ((refine qand_i (by rw [hmx]; (try simp only [List.length_append, List.length_cons, List.length_nil]); omega) ?_); simp only [Tryz.f17, B8_size, B8_cut, B8_eq, B8_mk, B8_app, Int.toNat_natCast, q6, go_sem])
        | ((with_reducible refine qcall_i k7 ?_); simp only [Tryz.f17, B8_size, B8_cut, B8_eq, B8_mk, B8_app, Int.toNat_natCast, go_sem])
        | rfl
        | (simp only [List.nil_append, List.append_assoc, List.cons_append, List.append_nil]; rfl)
    · have h9 : dg' = [] := Decidable.byContradiction h9
      rw [if_pos h9]
      subst h9
      simp only [Tryz.f17, B8_size, B8_cut, B8_eq, B8_mk, B8_app, Int.toNat_natCast, go_sem]
      repeat' first
        | ((refine qand_i (by rw [hmx]; (try simp only [List.length_append, List.length_cons, List.length_nil]); omega) ?_); simp only [Tryz.f17, B8_size, B8_cut, B8_eq, B8_mk, B8_app, Int.toNat_natCast, q6, go_sem])
        | ((with_reducible refine qcall_i k7 ?_); simp only [Tryz.f17, B8_size, B8_cut, B8_eq, B8_mk, B8_app, Int.toNat_natCast, go_sem])
        | rfl
        | (simp only [List.nil_append, List.append_assoc, List.cons_append, List.append_nil]; rfl)
end Go.Proofs.YtnccaoeeedhgbaaGreatDoor
