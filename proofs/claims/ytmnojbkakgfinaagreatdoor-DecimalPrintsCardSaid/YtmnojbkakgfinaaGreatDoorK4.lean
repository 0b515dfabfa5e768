/- Several parts in one text. -/
import Derived.Test.YtmnojbkakgfinaaGreatDoorH8
import Derived.Test.YtmnojbkakgfinaaGreatDoorK3
import Derived.Test.YtmnojbkakgfinaaGreatDoorK7
import Derived.Test.YtmnojbkakgfinaaGreatDoorH0
open Go PG Go.Proofs
namespace Go.Proofs.YtmnojbkakgfinaaGreatDoor
attribute [local go_sem] Lay2 Lay3 Lay4 Lay5 Lay6 Lay7 Lay8 Lay9 Lay10 Lay11 Lay12 Lay13 Lay14 Lay15 Lay16 Lay17 Lay18 Lay19 Lay21 Lay23 Lay24 Lay25 Lay26 Lay27 Lay28 Lay31 Lay32 Lay33 Lay40 Lay43 Lay44 Lay49 Lay50 Lay57 Lay58 Lay61 Lay68 Lay69 Lay72 Lay77 Lay125 Lay133 Lay134 Lay150 Lay167 Lay168 Lay169 Lay170 Lay180 Lay181 Lay185 Lay186 Lay189 Lay205 Lay208 Lay223 Lay227 Lay228 Lay231 Lay232 Lay233 Lay234 Lay235 Lay236 Lay237 Lay238 Lay240 Lay241 Lay242 Lay243 Lay244 Lay245 Lay246 Lay247 Lay249 Lay250 qexec_seq qexec_skip qexec_exit qexec_ret qexec_block qexec_loop qexec_range qexec_cond qexec_region qexec_drawn qops_nil qops_none qops_some put_some put_none pblk_exit pblk_other newDsts_nil inlDsts_nil isInl sget_cons sget_nil qval_some qbool_some qgs_bool qgs_und qfree_some qgrd_true qgrd_false qif_true qif_false qval_ite qval_itn qand_true map_ite map_some' map_none' qdo_move qdo_assign qdo_binOp qdo_pick qdo_unOp qdo_convert qdo_extract qdo_field qdo_fieldAddr qdo_alloc qdo_box qdo_build qdo_buildSlice qdo_load qdo_store qdo_nilCheck qdo_makeFunc qdo_makeSlice qdo_slice qdo_indexAddr qdo_call qcont_val qcont_new qcont_st qcont_app0 qcont_app qcont_inl qcont_call njSV_val njSV_nil njSV_row njSV_ptr njSV_sub binV_val binV_nil binV_nn binV_ptr bin_np bin_nnp nilCmp bin_add bin_sub bin_mul bin_quo bin_rem bin_and bin_or bin_xor bin_andNot bin_eql bin_neq bin_lss bin_leq bin_gtr bin_geq bin_shl bin_shr bin_seql bin_sneq bin_sadd bin_beql bin_aeql bin_aneq eqAnd_some eqCells_nil eqCells_cons fieldTypes isStruct eqCell bin_bneq un_not un_neg nj_ite Nat.beq stepA stepR isNew opSV constSV RV.sv allSome E_mu E_own qkeyIn_none qkeyIn_some qkeyAt_none qkeyAt_some Bool.or_false Bool.false_or Bool.or_true Bool.true_or cst setB res resSV pstart startL killL kill1 eraL frzL svPV rvPV rvInt rvSlice rvBytes frzOf close closeL pconv pbuiltin pmax2 partPV setCells fillPV zrow bound newSV PV.cells Bk.cells Bk.with SV.key pres presL_nil presL_tmp presL_cell presC2_some cellPV_ptr presC List.toList_toArray List.size_toArray List.getElem?_drop Nat.mul_one Int.toNat_natCast Nat.not_lt_zero Nat.lt_irrefl decide_true decide_false Nat.not_lt Option.some.injEq PV.lst.injEq PV.int.injEq PV.bool.injEq PV.tuple.injEq List.cons.injEq Option.map_some Option.map_none Option.bind_some Option.toList List.map_cons List.map_nil List.nil_append List.cons_append List.append_nil List.zip_cons_cons List.zip_nil_left List.zip_nil_right List.getElem?_cons_zero List.getElem?_cons_succ List.drop_zero List.drop_succ_cons List.take_succ_cons List.take_zero List.set_cons_zero List.set_cons_succ List.length_cons List.length_nil List.length_set List.replicate_one List.replicate_zero bne_self_eq_false beq_self_eq_true Nat.zero_add Nat.add_zero Nat.zero_mul Bool.false_eq_true Bool.true_eq_false Bool.not_true Bool.not_false and_true true_and false_and and_false or_false false_or or_true true_or not_true_eq_false not_false_eq_true ne_eq gt_iff_lt List.mem_cons List.not_mem_nil
attribute [local go_sem ↓] pseq_normal pseq_ret pseq_exit pblk_normal pblk_ret newDsts_cons inlDsts_cons gdst_zero gdst_succ retQ_normal retQ_ret qneed_nil qneed_cons retM_normal retM_ret endR_normal endR_ret endR_exit
attribute [local go_sem] Int.reduceToNat Int.reduceEq Int.reduceNe Int.reduceLT Int.reduceLE Int.reduceNeg Int.reduceAdd Nat.reduceEqDiff Nat.reduceAdd Nat.reduceSub Nat.reduceMul Nat.reduceLeDiff Nat.reduceLT
attribute [local go_sem ↓] reduceIte reduceCtorEq
/- Quotients of long numbers: plain laws, and the document's. -/
section
open Go PG Go.Proofs
set_option maxRecDepth 100000
set_option linter.unusedSimpArgs false
set_option linter.unusedVariables false

theorem tc_quoK {a b : Dy} {K : Nat} {s : Bool} (hb : b.m ≠ 0) (ba : bitLen a.m ≤ 40000) (hK : K ≤ 40000) (ea : -20000 ≤ a.e ∧ a.e ≤ 20000) (eb : -20000 ≤ b.e ∧ b.e ≤ 20000) (hq : 2 ^ 69 ≤ a.m * 2 ^ K / b.m) :
    tcOk (fun n => cmpD (mulS n b.abs) a.abs) (mkD s (a.m * 2 ^ K / b.m) (a.e - b.e - K)) (decide (a.m * 2 ^ K % b.m ≠ 0)) := by
  intro n hn
  obtain ⟨-, m, e, hnv, hm⟩ := hn
  refine cmp3 ?_
  have hqb : bitLen (a.m * 2 ^ K / b.m) ≤ 100000 := by
    have h3 := bitLen_shl_le a.m (K)
    exact Nat.le_trans (bitLen_mono (Nat.div_le_self _ _)) (by omega)
  have hD : (mkD s (a.m * 2 ^ K / b.m) (a.e - b.e - K)).abs.val = ((a.m * 2 ^ K / b.m : Nat) : Rat) * (2 : Rat) ^ (a.e - b.e - K) := mkD_abs_val _ _ (by omega) (by omega) hqb
  have hR : decide (a.m * 2 ^ K % b.m ≠ 0) = true ↔ a.m * 2 ^ K % b.m ≠ 0 := decide_eq_true_iff
  rw [val_mul, hD, hnv, abs_val, abs_val]
  have hdm := Nat.div_add_mod (a.m * 2 ^ K) b.m
  have hlt := Nat.mod_lt (a.m * 2 ^ K) (Nat.pos_of_ne_zero hb)
  have hA : (a.m : Rat) * (2 : Rat) ^ a.e = ((a.m * 2 ^ K : Nat) : Rat) * ((2 : Rat) ^ (a.e - b.e - K) * (2 : Rat) ^ b.e) := by
    rw [Rat.natCast_mul, ← z2_nat, ← z2_add, Rat.mul_assoc, ← z2_add]
    congr 2
    omega
  rw [hA]
  have hg := gap (m := m) (q := a.m * 2 ^ K / b.m) (e := e) (E := a.e - b.e - K) hm hq
  have hN0 : 0 ≤ (m : Rat) * (2 : Rat) ^ e := Rat.mul_nonneg (by exact_mod_cast Nat.zero_le m) (Rat.le_of_lt (z2_pos e))
  have hu := z2_pos (a.e - b.e - K)
  have hbe := z2_pos b.e
  generalize a.m * 2 ^ K / b.m = q at *
  generalize a.m * 2 ^ K % b.m = r at *
  rw [← hdm]
  generalize (2 : Rat) ^ (a.e - b.e - K) = U at *
  generalize (2 : Rat) ^ b.e = V at *
  generalize (m : Rat) * (2 : Rat) ^ e = N at *
  have hbm : (0 : Rat) < (b.m : Rat) := by exact_mod_cast Nat.pos_of_ne_zero hb
  have hr0 : (0 : Rat) ≤ (r : Rat) := by exact_mod_cast Nat.zero_le r
  have hrb : (r : Rat) < (b.m : Rat) := by exact_mod_cast hlt
  have hq0 : (0 : Rat) ≤ (q : Rat) := by exact_mod_cast Nat.zero_le q
  have hUV := Rat.mul_pos hu hbe
  have hr : (r : Rat) = 0 ↔ r = 0 := by exact_mod_cast Iff.rfl
  rw [show ((b.m * q + r : Nat) : Rat) = (b.m : Rat) * q + r by rw [Rat.natCast_add, Rat.natCast_mul]]
  have h1 : (r : Rat) * (U * V) < (b.m : Rat) * (U * V) := Rat.mul_lt_mul_of_pos_right hrb hUV
  have h2 : 0 ≤ (r : Rat) * (U * V) := Rat.mul_nonneg hr0 (Rat.le_of_lt hUV)
  have h3 : (r : Rat) * (U * V) = 0 ↔ r = 0 := by
    rw [← hr]
    constructor
    · intro h
      rcases rtri (r : Rat) 0 with h4 | h4 | h4
      · grind
      · exact h4
      · have := Rat.mul_pos h4 hUV
        grind
    · intro h; rw [h, Rat.zero_mul]
  have T := tri (f := fun x => x * ((b.m : Rat) * V)) (tri_mul (Rat.mul_pos hbm hbe)) (Q := (q : Rat) * U) (Q1 := ((q : Rat) + 1) * U) (A := ((b.m : Rat) * q + r) * (U * V)) (N := N) hN0
    (Rat.mul_nonneg hq0 (Rat.le_of_lt hu)) (Rat.mul_nonneg (by grind) (Rat.le_of_lt hu)) (by grind) (by grind) hg
  rw [T.1, T.2, hR]
  have h5 : ((q : Rat) * U * ((b.m : Rat) * V) ≠ ((b.m : Rat) * q + r) * (U * V)) ↔ r ≠ 0 := by
    rw [ne_eq, ne_eq, ← h3]
    constructor
    · intro h h6; exact h (by grind)
    · intro h h6; exact h (by grind)
  simp only [h5, and_true]

theorem quo_m0 {x : Nat} {s : Bool} {e : Int} (h : 2 ^ 69 ≤ x) : (mkD s x e).m ≠ 0 ∧ (mkD s x e).s = s := by
  have hx : x ≠ 0 := by
    have : (1 : Nat) ≤ 2 ^ 69 := by decide
    omega
  exact ⟨fun h2 => hx (mkD_m0.1 h2), mkD_s hx⟩
end

/- decimal.part, and the document's quotient. -/
section
open Go PG Go.Proofs
set_option maxRecDepth 100000
set_option linter.unusedSimpArgs false
set_option linter.unusedVariables false

/-- The bits ahead of the division of long numbers. -/
def longK (m n : Nat) : Nat := (80 + bitLen n) - bitLen m
theorem longK_big {m n : Nat} (hm : m ≠ 0) (hn : n ≠ 0) : 2 ^ 69 ≤ m * 2 ^ longK m n / n := by
  rw [Nat.le_div_iff_mul_le (Nat.pos_of_ne_zero hn)]
  have h1 : 2 ^ (bitLen m - 1) ≤ m := Nat.not_lt.1 fun h => by
    have := (bitLen_le m (bitLen m - 1)).2 h
    have h4 : 1 ≤ bitLen m := Nat.pos_of_ne_zero fun e => hm (by
      have := (bitLen_le m 0).1 (by omega)
      omega)
    omega
  have h2 : n < 2 ^ bitLen n := (bitLen_le n _).1 (Nat.le_refl _)
  have h4 : 1 ≤ bitLen m := Nat.pos_of_ne_zero fun e => hm (by
    have := (bitLen_le m 0).1 (by omega)
    omega)
  have h3 : 2 ^ 69 * 2 ^ bitLen n ≤ 2 ^ (bitLen m - 1) * 2 ^ longK m n := by
    rw [← Nat.pow_add, ← Nat.pow_add]
    exact Nat.pow_le_pow_right (by decide) (by unfold longK; omega)
  exact Nat.le_trans (Nat.mul_le_mul_left _ (Nat.le_of_lt h2)) (Nat.le_trans h3 (Nat.mul_le_mul_right _ h1))
/-- The bits and flags of a number divided by a power of ten. -/
def tenA (s : Bool) (m : Nat) : Dy := mkD s m 0
def tenB (j : Nat) : Dy := mkD false (10 ^ j) 0
def tenT (s : Bool) (m j : Nat) (dir : Int) : Nat × Nat :=
  if bitLen (tenB j).m ≤ 4400 then toS (partD (tenA s m) (tenB j)) (partR (tenA s m) (tenB j)) dir
  else toS (mkD s (m * 2 ^ longK m (10 ^ j) / 10 ^ j) (-(longK m (10 ^ j) : Nat))) (decide (m * 2 ^ longK m (10 ^ j) % 10 ^ j ≠ 0)) dir
theorem tenB_m (j : Nat) : (tenB j).m ≠ 0 := fun h => absurd (mkD_m0.1 h) (Nat.ne_of_gt (Nat.pow_pos (by decide)))
theorem ten_ne (j : Nat) : 10 ^ j ≠ 0 := Nat.ne_of_gt (Nat.pow_pos (by decide))
theorem mk0_e (s : Bool) {x : Nat} (h0 : x ≠ 0) : 0 ≤ (mkD s x 0).e ∧ (mkD s x 0).e ≤ bitLen x := by
  have h1 := tz_bits h0
  unfold mkD
  rw [if_neg h0]
  have hc : cut 0 = 0 := by decide
  dsimp only
  rw [hc]
  omega
theorem mkD_lim (s : Bool) {x n : Nat} (h0 : x ≠ 0) (hb : bitLen x ≤ n) : LimN (3 * n) (mkD s x 0) := by
  have h1 := mk0_e s h0
  have h2 := mkD_bits s x 0
  exact LimN.mk (n := n) (J := n) (d := mkD s x 0) (by omega) ⟨by omega, by omega⟩ (by omega)
theorem tenJ_bits {j : Nat} (hj : j ≤ 2900) : bitLen (10 ^ j) ≤ 9700 := by
  have h : 10 ^ 3 ≤ 2 ^ 10 := by decide
  have h1 : 10 ^ j ≤ 10 ^ (3 * (j / 3)) * 10 ^ 2 := by
    rw [← Nat.pow_add]
    exact Nat.pow_le_pow_right (by decide) (by omega)
  have h2 : 10 ^ (3 * (j / 3)) ≤ 2 ^ (10 * (j / 3)) := by
    rw [Nat.pow_mul, Nat.pow_mul]
    exact Nat.pow_le_pow_left h _
  have h3 : 10 ^ j < 2 ^ (10 * (j / 3) + 7) := by
    rw [Nat.pow_add]
    have := Nat.two_pow_pos (10 * (j / 3))
    have h4 := Nat.mul_le_mul_right (10 ^ 2) h2
    omega
  have := (bitLen_le _ _).2 h3
  omega
theorem toS_W4 (d : Dy) (more : Bool) (dir : Int) : (toS d more dir).2 < 256 := by
  by_cases h0 : d.m = 0
  · unfold toS; rw [if_pos h0]; decide
  by_cases ht : 1023 < d.top
  · rw [toS_big h0 ht]; simp
  rw [toS_no h0 (by omega)]
  dsimp only
  repeat' split
  all_goals decide
set_option maxHeartbeats 2000000 in
theorem d_part {s : Bool} {m j : Nat} (hm : m ≠ 0) (hb : bitLen m ≤ 4000) (hj : j ≤ 2900) {dir : Int} (hd : 0 ≤ dir ∧ dir ≤ 3) :
    PC E 24 [.agg [.bool s, NN m, .int .i64 0], NN (10 ^ j), .int .i64 dir] (.tuple [u (tenT s m j dir).1, .int .u8 ((tenT s m j dir).2 : Nat)]) := by
  have hj2 := tenJ_bits hj
  have ea := mk0_e s hm
  have eb := mk0_e false (ten_ne j)
  have ba := mkD_bits s m 0
  have ea' : 0 ≤ (tenA s m).e ∧ (tenA s m).e ≤ bitLen m := ea
  have eb' : 0 ≤ (tenB j).e ∧ (tenB j).e ≤ bitLen (10 ^ j) := eb
  have ra : RD (.agg [.bool s, NN m, .int .i64 0]) (tenA s m) := ⟨s, NN m, m, 0, rfl, num_bits (by omega), by omega, rfl⟩
  have rb : RD (.agg [.bool false, NN (10 ^ j), .int .i64 0]) (tenB j) := ⟨false, NN (10 ^ j), 10 ^ j, 0, rfl, num_bits (by omega), by omega, rfl⟩
  have k1 := b_Part ra rb dir
  have ma : mayP (tenA s m) := ⟨mkD_fits (by omega) (by decide) (by decide), fun h => hm (mkD_m0.1 h), by unfold tenA; omega⟩
  unfold tenT
  unfold partB at k1
  by_cases h4 : bitLen (tenB j).m ≤ 4400
  · rw [if_pos h4]
    have mb : mayP (tenB j) := ⟨mkD_fits (by omega) (by decide) (by decide), tenB_m j, h4⟩
    obtain ⟨pb1, pb2, pb3⟩ := part_bits ma mb
    have hf : (partD (tenA s m) (tenB j)).fits := mkD_fits (by omega) (by omega) (by omega)
    rw [if_pos ⟨ma, mb, hd, hf⟩] at k1
    clear pb1 pb2 pb3 hf ma mb ea eb ba
    generalize toS (partD (tenA s m) (tenB j)) (partR (tenA s m) (tenB j)) dir = T at *
    simp only [u, NN, NL] at k1 ⊢
    refine PC.of_body follows Tryz.func24 (by decide +kernel) rfl (by kernel_rfl) (Nat.le_of_ble_eq_true rfl) (walk ?_)
    simp only [Tryz.f24, go_sem]
    refine qcall_i (k1) ?_; simp only [Tryz.f24, go_sem]
    try rfl
  · rw [if_neg h4]
    rw [if_neg (fun h => h4 h.2.1.2.2)] at k1
    have hK : longK m (10 ^ j) ≤ 10000 := by unfold longK; omega
    have hKe : (max ((80 + bitLen (10 ^ j) : Nat) - (bitLen m : Int)) 0) = ((longK m (10 ^ j) : Nat) : Int) := by unfold longK; omega
    have hq := longK_big hm (ten_ne j)
    have nm := num_bits (x := m) (by omega)
    have nn := num_bits (x := 10 ^ j) (by omega)
    have k2 := k_Bits nn
    have k3 := k_Bits nm
    have k4 := k_Shln nm (longK m (10 ^ j)) (by omega)
    have hmb : bitLen (m * 2 ^ longK m (10 ^ j)) ≤ 14000 := by have := bitLen_shl_le m (longK m (10 ^ j)); omega
    have k5 := k_Div (num_bits (x := m * 2 ^ longK m (10 ^ j)) (by omega)) nn (by omega) (by omega) (ten_ne j)
    have hqb : bitLen (m * 2 ^ longK m (10 ^ j) / 10 ^ j) ≤ 14000 := Nat.le_trans (bitLen_mono (Nat.div_le_self _ _)) hmb
    obtain ⟨m0, -⟩ := quo_m0 (s := s) (e := (-(longK m (10 ^ j) : Nat) : Int)) hq
    have hD := mkD_bits s (m * 2 ^ longK m (10 ^ j) / 10 ^ j) (-(longK m (10 ^ j) : Nat))
    have rq : RD (.agg [.bool s, NN (m * 2 ^ longK m (10 ^ j) / 10 ^ j), .int .i64 (-(longK m (10 ^ j) : Nat))]) (mkD s (m * 2 ^ longK m (10 ^ j) / 10 ^ j) (-(longK m (10 ^ j) : Nat))) := ⟨s, _, _, _, rfl, num_bits (by omega), by omega, rfl⟩
    have k6 := r_To rq (by omega) (decide (m * 2 ^ longK m (10 ^ j) % 10 ^ j ≠ 0)) dir
    rw [if_pos (show toE _ _ _ from ⟨mkD_fits (by omega) (by omega) (by omega), hd.1, hd.2, fun h => m0 h.2⟩)] at k6
    have hrl : (0 < ((dg W (m * 2 ^ longK m (10 ^ j) % 10 ^ j)).length : Int)) ↔ m * 2 ^ longK m (10 ^ j) % 10 ^ j ≠ 0 := by
      constructor
      · intro h1 h2
        rw [h2, dg_zero] at h1
        simp at h1
      · intro h1
        have h2 : ¬ (dg W (m * 2 ^ longK m (10 ^ j) % 10 ^ j)).length = 0 := fun h3 => h1 (dg_nil h3)
        omega
    have w1 : IntKind.wrap .i64 (80 + (bitLen (10 ^ j) : Int)) = 80 + (bitLen (10 ^ j) : Int) := wrap64 (by omega) (by omega)
    have w2 : IntKind.wrap .i64 (80 + (bitLen (10 ^ j) : Int) - (bitLen m : Int)) = 80 + (bitLen (10 ^ j) : Int) - (bitLen m : Int) := wrap64 (by omega) (by omega)
    have w3 : max (80 + (bitLen (10 ^ j) : Int) - (bitLen m : Int)) 0 = ((longK m (10 ^ j) : Nat) : Int) := by omega
    have w4 : IntKind.wrap .i64 (0 - ((longK m (10 ^ j) : Nat) : Int)) = -((longK m (10 ^ j) : Nat) : Int) := by rw [wrap64 (by omega) (by omega)]; omega
    clear hKe m0 hD rq nm nn ma ra rb
    obtain ⟨bo, hbo⟩ : ∃ bo, bo = decide (m * 2 ^ longK m (10 ^ j) % 10 ^ j ≠ 0) := ⟨_, rfl⟩
    rw [← hbo] at k6 ⊢
    obtain ⟨T, hT⟩ : ∃ T, T = toS (mkD s (m * 2 ^ longK m (10 ^ j) / 10 ^ j) (-(longK m (10 ^ j) : Nat))) bo dir := ⟨_, rfl⟩
    rw [← hT] at k6 ⊢
    have hbl : decide (0 < ((dg W (m * 2 ^ longK m (10 ^ j) % 10 ^ j)).length : Int)) = bo := by rw [hbo]; exact decide_eq_decide.2 hrl
    clear hT hbo hrl hq hqb hmb
    generalize m * 2 ^ longK m (10 ^ j) / 10 ^ j = q at *
    generalize m * 2 ^ longK m (10 ^ j) % 10 ^ j = r at *
    generalize m * 2 ^ longK m (10 ^ j) = M2 at *
    generalize longK m (10 ^ j) = K at *
    generalize 10 ^ j = n at *
    simp only [u, NN, NL] at k1 k2 k3 k4 k5 k6 hbl ⊢
    refine PC.of_body follows Tryz.func24 (by decide +kernel) rfl (by kernel_rfl) (Nat.le_of_ble_eq_true rfl) (walk ?_)
    simp only [Tryz.f24, go_sem]
    refine qcall_i (k1) ?_; simp only [Tryz.f24, go_sem]
    refine qcall_i (k2) ?_; simp only [Tryz.f24, w1, go_sem]
    refine qcall_i (k3) ?_; simp only [Tryz.f24, w1, w2, w3, go_sem]
    refine qcall_i (k4) ?_; simp only [Tryz.f24, go_sem]
    refine qcall_i (k5) ?_; simp only [Tryz.f24, hbl, w4, go_sem]
    try rw [hbl]
    refine qcall_i (k6) ?_; simp only [Tryz.f24, go_sem]
    try rfl
end

/- decimal.Parse. -/
section
open Go PG Go.Proofs
set_option maxRecDepth 100000
set_option linter.unusedSimpArgs false
set_option linter.unusedVariables false

theorem ten_bits2 (j : Nat) : bitLen (10 ^ j) ≤ 10 * (j / 3) + 7 := by
  have h : 10 ^ 3 ≤ 2 ^ 10 := by decide
  have h1 : 10 ^ j ≤ 10 ^ (3 * (j / 3)) * 10 ^ 2 := by
    rw [← Nat.pow_add]
    exact Nat.pow_le_pow_right (by decide) (by omega)
  have h2 : 10 ^ (3 * (j / 3)) ≤ 2 ^ (10 * (j / 3)) := by
    rw [Nat.pow_mul, Nat.pow_mul]
    exact Nat.pow_le_pow_left h _
  have h3 : 10 ^ j < 2 ^ (10 * (j / 3) + 7) := by
    rw [Nat.pow_add]
    have := Nat.two_pow_pos (10 * (j / 3))
    have h4 := Nat.mul_le_mul_right (10 ^ 2) h2
    omega
  exact (bitLen_le _ _).2 h3
/-- The number of a text's digits. -/
def dcM (l : List UInt8) : Nat := dn (dcW l ++ dcF l)
theorem dcOk_all {l : List UInt8} (h : dcOk l = true) : (dcW l ++ dcF l).all dgt = true ∧ (dcW l ++ dcF l) ≠ [] := by
  unfold dcOk dcOk1 digs at h
  rw [Bool.and_eq_true, Bool.and_eq_true, Bool.and_eq_true, decide_eq_true_eq] at h
  obtain ⟨⟨⟨h1, h2⟩, h3⟩, -⟩ := h
  refine ⟨?_, fun e => h1 (List.append_eq_nil_iff.1 e).1⟩
  rw [List.all_append, h2, Bool.true_and]
  cases hp : dcP l with
  | false =>
    have : dcF l = [] := (cut_no (c := 46) (x := dcB l) hp).2
    rw [this]; rfl
  | true =>
    rw [hp] at h3
    simp at h3
    simpa using h3.2
theorem dc_len (l : List UInt8) : (dcW l ++ dcF l).length ≤ l.length ∧ (dcF l).length ≤ l.length := by
  have h1 : (dcR l).length ≤ l.length := by unfold dcR; split <;> simp
  have h2 := cut_len 101 (dcR l)
  have h3 := cut_sum 46 (dcB l)
  have h4 : (dcB l).length ≤ (dcR l).length := h2.1
  have h5 : (dcW l).length + (dcF l).length ≤ (dcB l).length := h3
  rw [List.length_append]
  omega
theorem dcM_bits {l : List UInt8} (h : dcOk l = true) (hl : l.length ≤ 800) : bitLen (dcM l) ≤ 2700 := by
  have h1 := dn_lt _ (dcOk_all h).1
  have h2 := (dc_len l).1
  have h3 := ten_bits2 (dcW l ++ dcF l).length
  have h4 : bitLen (dcM l) ≤ bitLen (10 ^ (dcW l ++ dcF l).length) := bitLen_mono (Nat.le_of_lt h1)
  omega
theorem dcE_rng {l : List UInt8} (h : dcOk l = true) (hl : l.length ≤ 800) : -2800 ≤ dcE l ∧ dcE l ≤ 2000 := by
  have h2 := (dc_len l).2
  unfold dcOk dcOk2 at h
  rw [Bool.and_eq_true] at h
  have h3 := h.2
  unfold dcE
  cases hh : dcH l with
  | false => simp only [Bool.false_eq_true, if_false]; omega
  | true =>
    rw [hh] at h3
    simp only [Bool.not_true, Bool.false_or, Bool.and_eq_true, decide_eq_true_eq] at h3
    have := h3.2.2
    simp only [if_true]
    split <;> omega
/-- Bits, flags and error of a text of decimal digits. -/
def decP (l : List UInt8) (dir : Int) : (Nat × Nat) × Int :=
  if isW l = true then ((wordV l, 0), 0)
  else if ¬ l.length ≤ 800 then ((0, 0), 4)
  else if dcOk l = true then
    (if dcM l = 0 then ((if dcN l = true then 9223372036854775808 else 0), 0)
      else if 0 ≤ dcE l then toS (mkD (dcN l) (dcM l * 10 ^ (dcE l).toNat) 0) false dir
      else tenT (dcN l) (dcM l) (-(dcE l)).toNat dir, 0)
  else ((0, 0), 4)
theorem d_ParseX {l : List UInt8} {dir : Int} (hd : ¬ (0 ≤ dir ∧ dir ≤ 3)) : PC E 8 [TX l, .int .i64 dir] (resH ((0, 0), 1)) := by
  have z0 : ((0 : Nat) : Int) = 0 := rfl
  simp only [TX, resH, z0]
  refine PC.of_body follows Tryz.func8 (by decide +kernel) rfl (by kernel_rfl) (Nat.le_of_ble_eq_true rfl) (walk ?_)
  simp only [Tryz.f8, go_sem]
  repeat' first
    | ((with_reducible refine qif_d (fun h => ?_) (fun h => ?_)) <;> first | (exfalso; omega) | simp only [Tryz.f8, go_sem])
    | rfl
set_option maxHeartbeats 2000000 in
theorem d_Parse (kA : ∀ s : List UInt8, s.length ≤ 1000 → PC E 49 [TX s] (.tuple [.int .i64 (atoiV s), .any])) {l : List UInt8} {dir : Int} (hd : 0 ≤ dir ∧ dir ≤ 3) : PC E 8 [TX l, .int .i64 dir] (resH (decP l dir)) := by
  have k1 := d_special l
  have z0 : ((0 : Nat) : Int) = 0 := rfl
  unfold decP resH
  by_cases hw : isW l = true
  · rw [if_pos hw]
    rw [hw] at k1
    generalize wordV l = wv at *
    simp only [TX, z0] at k1 ⊢
    refine PC.of_body follows Tryz.func8 (by decide +kernel) rfl (by kernel_rfl) (Nat.le_of_ble_eq_true rfl) (walk ?_)
    simp only [Tryz.f8, go_sem]
    refine qif_df (by omega) ?_
    simp only [Tryz.f8, go_sem]
    refine qif_df (by omega) ?_
    simp only [Tryz.f8, go_sem]
    refine qcall_i (k1) ?_; simp only [Tryz.f8, go_sem]
    try rfl
  have hw : isW l = false := by simpa using hw
  rw [hw, if_neg (by decide)]
  rw [hw] at k1
  by_cases h8 : l.length ≤ 800
  case neg =>
    rw [if_pos h8]
    generalize wordV l = wv at *
    simp only [TX, z0] at k1 ⊢
    refine PC.of_body follows Tryz.func8 (by decide +kernel) rfl (by kernel_rfl) (Nat.le_of_ble_eq_true rfl) (walk ?_)
    simp only [Tryz.f8, B8_size, B8_cut, B8_eq, B8_mk, B8_app, Int.toNat_natCast, go_sem]
    refine qif_df (by omega) ?_
    simp only [Tryz.f8, B8_size, B8_cut, B8_eq, B8_mk, B8_app, Int.toNat_natCast, go_sem]
    refine qif_df (by omega) ?_
    simp only [Tryz.f8, B8_size, B8_cut, B8_eq, B8_mk, B8_app, Int.toNat_natCast, go_sem]
    refine qcall_i (k1) ?_; simp only [Tryz.f8, B8_size, B8_cut, B8_eq, B8_mk, B8_app, Int.toNat_natCast, go_sem]
    refine qif_dt (by omega) ?_
    simp only [Tryz.f8, B8_size, B8_cut, B8_eq, B8_mk, B8_app, Int.toNat_natCast, go_sem]
    try rfl
  rw [if_neg (fun h => h h8)]
  have k2 := d_read kA h8
  by_cases ho : dcOk l = true
  case neg =>
    rw [if_neg ho] at k2 ⊢
    generalize wordV l = wv at *
    simp only [TX, z0] at k1 k2 ⊢
    refine PC.of_body follows Tryz.func8 (by decide +kernel) rfl (by kernel_rfl) (Nat.le_of_ble_eq_true rfl) (walk ?_)
    simp only [Tryz.f8, B8_size, B8_cut, B8_eq, B8_mk, B8_app, Int.toNat_natCast, go_sem]
    refine qif_df (by omega) ?_
    simp only [Tryz.f8, B8_size, B8_cut, B8_eq, B8_mk, B8_app, Int.toNat_natCast, go_sem]
    refine qif_df (by omega) ?_
    simp only [Tryz.f8, B8_size, B8_cut, B8_eq, B8_mk, B8_app, Int.toNat_natCast, go_sem]
    refine qcall_i (k1) ?_; simp only [Tryz.f8, B8_size, B8_cut, B8_eq, B8_mk, B8_app, Int.toNat_natCast, go_sem]
    refine qif_df (by omega) ?_
    simp only [Tryz.f8, B8_size, B8_cut, B8_eq, B8_mk, B8_app, Int.toNat_natCast, go_sem]
    refine qcall_i (k2) ?_; simp only [Tryz.f8, B8_size, B8_cut, B8_eq, B8_mk, B8_app, Int.toNat_natCast, go_sem]
    try rfl
  rw [if_pos ho] at k2 ⊢
  obtain ⟨hall, hne⟩ := dcOk_all ho
  have hlen := dc_len l
  have k3 := d_number hall (by omega)
  rw [show dn (dcW l ++ dcF l) = dcM l from rfl] at k3
  have hb := dcM_bits ho h8
  have hE := dcE_rng ho h8
  clear hall hne hlen ho
  generalize dcW l ++ dcF l = ds at *
  generalize dcM l = m at *
  generalize dcE l = e at *
  generalize dcN l = bn at *
  generalize wordV l = wv at *
  by_cases hm : m = 0
  · subst hm
    rw [if_pos rfl]
    simp only [TX, NN, NL, dg_zero] at k1 k2 k3 ⊢
    simp only [z0]
    refine PC.of_body follows Tryz.func8 (by decide +kernel) rfl (by kernel_rfl) (Nat.le_of_ble_eq_true rfl) (walk ?_)
    simp only [Tryz.f8, B8_size, B8_cut, B8_eq, B8_mk, B8_app, Int.toNat_natCast, go_sem]
    refine qif_df (by omega) ?_
    simp only [Tryz.f8, B8_size, B8_cut, B8_eq, B8_mk, B8_app, Int.toNat_natCast, go_sem]
    refine qif_df (by omega) ?_
    simp only [Tryz.f8, B8_size, B8_cut, B8_eq, B8_mk, B8_app, Int.toNat_natCast, go_sem]
    refine qcall_i (k1) ?_; simp only [Tryz.f8, B8_size, B8_cut, B8_eq, B8_mk, B8_app, Int.toNat_natCast, go_sem]
    refine qif_df (by omega) ?_
    simp only [Tryz.f8, B8_size, B8_cut, B8_eq, B8_mk, B8_app, Int.toNat_natCast, go_sem]
    refine qcall_i (k2) ?_; simp only [Tryz.f8, B8_size, B8_cut, B8_eq, B8_mk, B8_app, Int.toNat_natCast, go_sem]
    refine qcall_i (k3) ?_; simp only [Tryz.f8, B8_size, B8_cut, B8_eq, B8_mk, B8_app, Int.toNat_natCast, go_sem]
    cases bn
    all_goals
      refine qif_dt rfl ?_
      simp only [Tryz.f8, B8_size, B8_cut, B8_eq, B8_mk, B8_app, Int.toNat_natCast, go_sem]
      try rfl
  rw [if_neg hm]
  have hml : ¬ ((dg W m).length : Int) = 0 := fun h => hm (dg_nil (by omega))
  by_cases he : 0 ≤ e
  · rw [if_pos he]
    obtain ⟨j, rfl⟩ : ∃ j : Nat, e = j := ⟨e.toNat, by omega⟩
    have k4 := k_ten (n := j) (by omega)
    have hj2 := tenJ_bits (j := j) (by omega)
    have k5 : PC E 21 [NN m, NN (10 ^ j)] (.tuple [NN (m * 10 ^ j), .int .i64 0]) := by
      have := k_prodMul (num_bits (x := m) (by omega)) (num_bits (x := 10 ^ j) (by omega)) (by omega) (by omega)
      unfold pmV at this
      rw [if_neg (by
        intro hh
        rcases hh with hh | hh
        · exact hm hh
        · exact absurd hh (ten_ne j)), if_pos (by omega)] at this
      exact this
    have hmb : bitLen (m * 10 ^ j) ≤ 20000 := by have := bitLen_mul_le m (10 ^ j); omega
    have rq : RD (.agg [.bool bn, NN (m * 10 ^ j), .int .i64 0]) (mkD bn (m * 10 ^ j) 0) := ⟨bn, _, _, 0, rfl, num_bits (by omega), by omega, rfl⟩
    have k6 := r_To rq (by have := mkD_bits bn (m * 10 ^ j) 0; omega) false dir
    rw [if_pos (show toE _ _ _ from ⟨mkD_fits (by omega) (by omega) (by omega), hd.1, hd.2, fun h => by cases h.1⟩)] at k6
    rw [Int.toNat_natCast]
    clear rq hmb
    generalize toS (mkD bn (m * 10 ^ j) 0) false dir = T at *
    generalize m * 10 ^ j = mm at *
    generalize 10 ^ j = tj at *
    simp only [TX, u, NN, NL] at k1 k2 k3 k4 k5 k6 ⊢
    refine PC.of_body follows Tryz.func8 (by decide +kernel) rfl (by kernel_rfl) (Nat.le_of_ble_eq_true rfl) (walk ?_)
    simp only [Tryz.f8, B8_size, B8_cut, B8_eq, B8_mk, B8_app, Int.toNat_natCast, go_sem]
    refine qif_df (by omega) ?_
    simp only [Tryz.f8, B8_size, B8_cut, B8_eq, B8_mk, B8_app, Int.toNat_natCast, go_sem]
    refine qif_df (by omega) ?_
    simp only [Tryz.f8, B8_size, B8_cut, B8_eq, B8_mk, B8_app, Int.toNat_natCast, go_sem]
    refine qcall_i (k1) ?_; simp only [Tryz.f8, B8_size, B8_cut, B8_eq, B8_mk, B8_app, Int.toNat_natCast, go_sem]
    refine qif_df (by omega) ?_
    simp only [Tryz.f8, B8_size, B8_cut, B8_eq, B8_mk, B8_app, Int.toNat_natCast, go_sem]
    refine qcall_i (k2) ?_; simp only [Tryz.f8, B8_size, B8_cut, B8_eq, B8_mk, B8_app, Int.toNat_natCast, go_sem]
    refine qcall_i (k3) ?_; simp only [Tryz.f8, B8_size, B8_cut, B8_eq, B8_mk, B8_app, Int.toNat_natCast, go_sem]
    refine qif_df hml ?_
    simp only [Tryz.f8, B8_size, B8_cut, B8_eq, B8_mk, B8_app, Int.toNat_natCast, go_sem]
    refine qif_dt (by omega) ?_
    simp only [Tryz.f8, B8_size, B8_cut, B8_eq, B8_mk, B8_app, Int.toNat_natCast, go_sem]
    refine qcall_i (k4) ?_; simp only [Tryz.f8, B8_size, B8_cut, B8_eq, B8_mk, B8_app, Int.toNat_natCast, go_sem]
    refine qcall_i (k5) ?_; simp only [Tryz.f8, B8_size, B8_cut, B8_eq, B8_mk, B8_app, Int.toNat_natCast, go_sem]
    refine qcall_i (k6) ?_; simp only [Tryz.f8, B8_size, B8_cut, B8_eq, B8_mk, B8_app, Int.toNat_natCast, go_sem]
    try rfl
  · rw [if_neg he]
    obtain ⟨j, rfl⟩ : ∃ j : Nat, e = -(j : Int) := ⟨(-e).toNat, by omega⟩
    have k4 := k_ten (n := j) (by omega)
    have k5 := d_part (s := bn) hm (by omega) (show j ≤ 2900 by omega) hd
    have w1 : IntKind.wrap .i64 (0 - -(j : Int)) = (j : Int) := by rw [wrap64 (by omega) (by omega)]; omega
    rw [show (- -(j : Int)).toNat = j by omega]
    generalize tenT bn m j dir = T at *
    generalize 10 ^ j = tj at *
    simp only [TX, u, NN, NL] at k1 k2 k3 k4 k5 ⊢
    refine PC.of_body follows Tryz.func8 (by decide +kernel) rfl (by kernel_rfl) (Nat.le_of_ble_eq_true rfl) (walk ?_)
    simp only [Tryz.f8, B8_size, B8_cut, B8_eq, B8_mk, B8_app, Int.toNat_natCast, go_sem]
    refine qif_df (by omega) ?_
    simp only [Tryz.f8, B8_size, B8_cut, B8_eq, B8_mk, B8_app, Int.toNat_natCast, go_sem]
    refine qif_df (by omega) ?_
    simp only [Tryz.f8, B8_size, B8_cut, B8_eq, B8_mk, B8_app, Int.toNat_natCast, go_sem]
    refine qcall_i (k1) ?_; simp only [Tryz.f8, B8_size, B8_cut, B8_eq, B8_mk, B8_app, Int.toNat_natCast, go_sem]
    refine qif_df (by omega) ?_
    simp only [Tryz.f8, B8_size, B8_cut, B8_eq, B8_mk, B8_app, Int.toNat_natCast, go_sem]
    refine qcall_i (k2) ?_; simp only [Tryz.f8, B8_size, B8_cut, B8_eq, B8_mk, B8_app, Int.toNat_natCast, go_sem]
    refine qcall_i (k3) ?_; simp only [Tryz.f8, B8_size, B8_cut, B8_eq, B8_mk, B8_app, Int.toNat_natCast, go_sem]
    refine qif_df hml ?_
    simp only [Tryz.f8, B8_size, B8_cut, B8_eq, B8_mk, B8_app, Int.toNat_natCast, go_sem]
    refine qif_df (by omega) ?_
    simp only [Tryz.f8, B8_size, B8_cut, B8_eq, B8_mk, B8_app, Int.toNat_natCast, w1, go_sem]
    try rw [w1]
    refine qcall_i (k4) ?_; simp only [Tryz.f8, B8_size, B8_cut, B8_eq, B8_mk, B8_app, Int.toNat_natCast, go_sem]
    refine qcall_i (k5) ?_; simp only [Tryz.f8, B8_size, B8_cut, B8_eq, B8_mk, B8_app, Int.toNat_natCast, go_sem]
    try rfl
end

/- decimal: the document's reader, plain laws. No program stands here. -/
section
open Go PG Go.Proofs
set_option maxRecDepth 100000
set_option linter.unusedSimpArgs false
set_option linter.unusedVariables false

/-- How many signs are digits, with one point at most. -/
def scanD : Bool → List UInt8 → Nat
  | _, [] => 0
  | pt, c :: r => if dgt c = true then scanD pt r + 1 else if c = 46 ∧ pt = false then scanD true r + 1 else 0
theorem scan_dig : ∀ {x : List UInt8} (pt : Bool) (y : List UInt8), x.all dgt = true → scanD pt (x ++ y) = x.length + scanD pt y
  | [], pt, y, _ => by rw [List.nil_append, List.length_nil, Nat.zero_add]
  | c :: x, pt, y, h => by
    rw [List.all_cons, Bool.and_eq_true] at h
    rw [List.cons_append, scanD, if_pos h.1, scan_dig pt y h.2, List.length_cons]
    omega
theorem cut_join (c : UInt8) : ∀ (r : List UInt8), r = cutA c r ++ (if hasC c r = true then c :: cutB c r else [])
  | [] => rfl
  | d :: r => by
    have ih := cut_join c r
    rw [cutA_cons, cutB_cons, hasC_cons]
    by_cases h : d = c
    · simp only [if_pos h, List.nil_append]; rw [h]; rfl
    · simp only [if_neg h, List.cons_append]
      rw [← ih]
/-- What the scan takes, and what stands behind it. -/
def dqK (l : List UInt8) : Nat := scanD false (dcR l)
theorem dq_ok1 {l : List UInt8} (h : dcOk1 l = true) : dqK l = (dcB l).length ∧ (dcR l).take (dqK l) = dcB l ∧ ((dcR l).drop (dqK l) = if dcH l = true then 101 :: dcX l else []) := by
  have h1 := cut_join 101 (dcR l)
  have h2 := cut_join 46 (dcB l)
  rw [show cutA 101 (dcR l) = dcB l from rfl, show hasC 101 (dcR l) = dcH l from rfl, show cutB 101 (dcR l) = dcX l from rfl] at h1
  rw [show cutA 46 (dcB l) = dcW l from rfl, show hasC 46 (dcB l) = dcP l from rfl, show cutB 46 (dcB l) = dcF l from rfl] at h2
  unfold dcOk1 digs at h
  rw [Bool.and_eq_true, Bool.and_eq_true] at h
  obtain ⟨⟨-, hw⟩, hf⟩ := h
  have h0 : ∀ pt, scanD pt (if dcH l = true then 101 :: dcX l else []) = 0 := fun pt => by
    split
    · rw [scanD, if_neg (by decide), if_neg (by simp)]
    · rfl
  have hK : dqK l = (dcB l).length := by
    unfold dqK
    rw [h1]
    generalize (if dcH l = true then 101 :: dcX l else []) = t at *
    rw [h2, List.append_assoc, scan_dig false _ hw]
    cases hp : dcP l with
    | false => simp only [Bool.false_eq_true, if_false, List.nil_append, h0, List.append_nil]; omega
    | true =>
      rw [hp] at hf
      simp only [Bool.not_true, Bool.false_or, Bool.and_eq_true] at hf
      simp only [if_true, List.cons_append]
      rw [scanD, if_neg (by decide), if_pos ⟨rfl, rfl⟩, scan_dig true _ hf.2, h0]
      simp
  refine ⟨hK, ?_, ?_⟩
  · rw [hK]
    conv => lhs; rw [h1]
    simp
  · rw [hK]
    conv => lhs; rw [h1]
    simp
/-- The tests on what is scanned. -/
theorem dq_tests (o : Nat) (q : List UInt8) : (q.length = 0 ∨ ptO o q = (o : Int) ∨ ptO o q = ((o + q.length : Nat) : Int) - 1) ↔ (cutA 46 q = [] ∨ hasC 46 q = true ∧ cutB 46 q = []) := by
  unfold ptO
  rw [← List.length_eq_zero_iff, ← List.length_eq_zero_iff]
  by_cases hc : hasC 46 q = true
  · have := cut_yes hc
    rw [hc]
    simp only [if_true, true_and]
    omega
  · have hc' : hasC 46 q = false := by simpa using hc
    obtain ⟨g1, g2⟩ := cut_no hc'
    rw [g1, hc']
    simp only [Bool.false_eq_true, if_false, false_and, or_false]
    omega
theorem dq_bad1 {l : List UInt8} (o : Nat) (h : ((dcR l).take (dqK l)).length = 0 ∨ ptO o ((dcR l).take (dqK l)) = (o : Int) ∨ ptO o ((dcR l).take (dqK l)) = ((o + ((dcR l).take (dqK l)).length : Nat) : Int) - 1) : dcOk l = false := by
  rw [dq_tests] at h
  cases hh : dcOk l with
  | false => rfl
  | true =>
    unfold dcOk at hh
    rw [Bool.and_eq_true] at hh
    have h1 := (dq_ok1 hh.1).2.1
    rw [h1] at h
    have h2 := hh.1
    unfold dcOk1 digs at h2
    rw [Bool.and_eq_true, Bool.and_eq_true, decide_eq_true_eq] at h2
    rcases h with h | h
    · exact absurd h h2.1.1
    · have h3 := h2.2
      rw [show dcP l = true from h.1] at h3
      simp only [Bool.not_true, Bool.false_or, Bool.and_eq_true, decide_eq_true_eq] at h3
      exact absurd h.2 h3.1
theorem dq_bad2 {l : List UInt8} (h : (dcR l).drop (dqK l) ≠ []) (h' : ((dcR l).drop (dqK l)).getD 0 0 ≠ 101) : dcOk l = false := by
  cases hh : dcOk l with
  | false => rfl
  | true =>
    unfold dcOk at hh
    rw [Bool.and_eq_true] at hh
    have h1 := (dq_ok1 hh.1).2.2
    rw [h1] at h h'
    split at h
    · rename_i hc
      rw [if_pos hc] at h'
      simp at h'
    · exact absurd rfl h
theorem hasC_mem2 {c : UInt8} {l : List UInt8} : hasC c l = true ↔ c ∈ l := by
  induction l with
  | nil => simp [hasC_nil]
  | cons d l ih =>
    rw [hasC_cons, List.mem_cons]
    by_cases h : d = c
    · simp [h]
    · rw [if_neg h, ih]
      simp [Ne.symm h]
theorem dq_no101 {q : List UInt8} (h : (WF q).all dgt = true) : hasC 101 q = false := by
  cases hh : hasC 101 q with
  | false => rfl
  | true =>
    have hm := hasC_mem2.1 hh
    have h1 := cut_join 46 q
    have h2 : (101 : UInt8) ∈ WF q := by
      unfold WF
      rw [h1] at hm
      rw [List.mem_append] at hm ⊢
      rcases hm with hm | hm
      · exact .inl hm
      · split at hm
        · rcases List.mem_cons.1 hm with hm | hm
          · exact absurd hm (by decide)
          · exact .inr hm
        · cases hm
    have := List.all_eq_true.1 h _ h2
    exact absurd this (by decide)
/-- A text that is scanned through, or up to an e. -/
theorem dq_good {l : List UInt8} (hq : (WF ((dcR l).take (dqK l))).all dgt = true) (h : (dcR l).drop (dqK l) = [] ∨ ∃ x, (dcR l).drop (dqK l) = 101 :: x) (ht : ¬ (cutA 46 ((dcR l).take (dqK l)) = [] ∨ hasC 46 ((dcR l).take (dqK l)) = true ∧ cutB 46 ((dcR l).take (dqK l)) = [])) :
    dcB l = (dcR l).take (dqK l) ∧ dcOk1 l = true ∧ ((dcR l).drop (dqK l) = [] → dcH l = false) ∧ (∀ x, (dcR l).drop (dqK l) = 101 :: x → dcH l = true ∧ dcX l = x) := by
  have hn := dq_no101 hq
  have htd := List.take_append_drop (dqK l) (dcR l)
  have hB : dcB l = (dcR l).take (dqK l) ∧ ((dcR l).drop (dqK l) = [] → dcH l = false) ∧ (∀ x, (dcR l).drop (dqK l) = 101 :: x → dcH l = true ∧ dcX l = x) := by
    obtain ⟨c1, c2, c3⟩ := cut_out ((dcR l).drop (dqK l)) hn
    rw [htd] at c1 c2 c3
    refine ⟨?_, fun e => ?_, fun x e => ?_⟩
    · show cutA 101 (dcR l) = _
      rw [c1]
      rcases h with h | ⟨x, h⟩
      · rw [h]; show _ ++ [] = _; rw [List.append_nil]
      · rw [h, cutA_cons, if_pos rfl, List.append_nil]
    · show hasC 101 (dcR l) = false
      rw [c3, e]; rfl
    · refine ⟨?_, ?_⟩
      · show hasC 101 (dcR l) = true
        rw [c3, e, hasC_cons, if_pos rfl]
      · show cutB 101 (dcR l) = x
        rw [c2, e, cutB_cons, if_pos rfl]
  refine ⟨hB.1, ?_, hB.2⟩
  unfold dcOk1 digs
  have hW : dcW l = cutA 46 ((dcR l).take (dqK l)) := by unfold dcW; rw [hB.1]
  have hF : dcF l = cutB 46 ((dcR l).take (dqK l)) := by unfold dcF; rw [hB.1]
  have hP : dcP l = hasC 46 ((dcR l).take (dqK l)) := by unfold dcP; rw [hB.1]
  unfold WF at hq
  rw [List.all_append, Bool.and_eq_true] at hq
  have a1 : cutA 46 ((dcR l).take (dqK l)) ≠ [] := fun e => ht (.inl e)
  rw [hW, hF, hP, hq.1, hq.2, decide_eq_true a1]
  cases hp : hasC 46 ((dcR l).take (dqK l)) with
  | false => rfl
  | true =>
    have a2 : cutB 46 ((dcR l).take (dqK l)) ≠ [] := fun e => ht (.inr ⟨hp, e⟩)
    rw [decide_eq_true a2]; rfl
end
end Go.Proofs.YtmnojbkakgfinaaGreatDoor
