/- Several parts in one text. -/
import Derived.Test.YtmnojbkakgfinaaGreatDoorStr5
import Derived.Test.YtmnojbkakgfinaaGreatDoorK2
import Derived.Test.YtmnojbkakgfinaaGreatDoorK5
import Derived.Test.YtmnojbkakgfinaaGreatDoorK6
import Derived.Test.YtmnojbkakgfinaaGreatDoorK8
open Go PG Go.Proofs
namespace Go.Proofs.YtmnojbkakgfinaaGreatDoor
attribute [local go_sem] Lay2 Lay3 Lay4 Lay5 Lay6 Lay7 Lay8 Lay9 Lay10 Lay11 Lay12 Lay13 Lay14 Lay15 Lay16 Lay17 Lay18 Lay19 Lay21 Lay23 Lay24 Lay25 Lay26 Lay27 Lay28 Lay31 Lay32 Lay33 Lay40 Lay43 Lay44 Lay49 Lay50 Lay57 Lay58 Lay61 Lay68 Lay69 Lay72 Lay77 Lay125 Lay133 Lay134 Lay150 Lay167 Lay168 Lay169 Lay170 Lay180 Lay181 Lay185 Lay186 Lay189 Lay205 Lay208 Lay223 Lay227 Lay228 Lay231 Lay232 Lay233 Lay234 Lay235 Lay236 Lay237 Lay238 Lay240 Lay241 Lay242 Lay243 Lay244 Lay245 Lay246 Lay247 Lay249 Lay250 qexec_seq qexec_skip qexec_exit qexec_ret qexec_block qexec_loop qexec_range qexec_cond qexec_region qexec_drawn qops_nil qops_none qops_some put_some put_none pblk_exit pblk_other newDsts_nil inlDsts_nil isInl sget_cons sget_nil qval_some qbool_some qgs_bool qgs_und qfree_some qgrd_true qgrd_false qif_true qif_false qval_ite qval_itn qand_true map_ite map_some' map_none' qdo_move qdo_assign qdo_binOp qdo_pick qdo_unOp qdo_convert qdo_extract qdo_field qdo_fieldAddr qdo_alloc qdo_box qdo_build qdo_buildSlice qdo_load qdo_store qdo_nilCheck qdo_makeFunc qdo_makeSlice qdo_slice qdo_indexAddr qdo_call qcont_val qcont_new qcont_st qcont_app0 qcont_app qcont_inl qcont_call njSV_val njSV_nil njSV_row njSV_ptr njSV_sub binV_val binV_nil binV_nn binV_ptr bin_np bin_nnp nilCmp bin_add bin_sub bin_mul bin_quo bin_rem bin_and bin_or bin_xor bin_andNot bin_eql bin_neq bin_lss bin_leq bin_gtr bin_geq bin_shl bin_shr bin_seql bin_sneq bin_sadd bin_beql bin_aeql bin_aneq eqAnd_some eqCells_nil eqCells_cons fieldTypes isStruct eqCell bin_bneq un_not un_neg nj_ite Nat.beq stepA stepR isNew opSV constSV RV.sv allSome E_mu E_own qkeyIn_none qkeyIn_some qkeyAt_none qkeyAt_some Bool.or_false Bool.false_or Bool.or_true Bool.true_or cst setB res resSV pstart startL killL kill1 eraL frzL svPV rvPV rvInt rvSlice rvBytes frzOf close closeL pconv pbuiltin pmax2 partPV setCells fillPV zrow bound newSV PV.cells Bk.cells Bk.with SV.key pres presL_nil presL_tmp presL_cell presC2_some cellPV_ptr presC List.toList_toArray List.size_toArray List.getElem?_drop Nat.mul_one Int.toNat_natCast Nat.not_lt_zero Nat.lt_irrefl decide_true decide_false Nat.not_lt Option.some.injEq PV.lst.injEq PV.int.injEq PV.bool.injEq PV.tuple.injEq List.cons.injEq Option.map_some Option.map_none Option.bind_some Option.toList List.map_cons List.map_nil List.nil_append List.cons_append List.append_nil List.zip_cons_cons List.zip_nil_left List.zip_nil_right List.getElem?_cons_zero List.getElem?_cons_succ List.drop_zero List.drop_succ_cons List.take_succ_cons List.take_zero List.set_cons_zero List.set_cons_succ List.length_cons List.length_nil List.length_set List.replicate_one List.replicate_zero bne_self_eq_false beq_self_eq_true Nat.zero_add Nat.add_zero Nat.zero_mul Bool.false_eq_true Bool.true_eq_false Bool.not_true Bool.not_false and_true true_and false_and and_false or_false false_or or_true true_or not_true_eq_false not_false_eq_true ne_eq gt_iff_lt List.mem_cons List.not_mem_nil
attribute [local go_sem ↓] pseq_normal pseq_ret pseq_exit pblk_normal pblk_ret newDsts_cons inlDsts_cons gdst_zero gdst_succ retQ_normal retQ_ret qneed_nil qneed_cons retM_normal retM_ret endR_normal endR_ret endR_exit
attribute [local go_sem] Int.reduceToNat Int.reduceEq Int.reduceNe Int.reduceLT Int.reduceLE Int.reduceNeg Int.reduceAdd Nat.reduceEqDiff Nat.reduceAdd Nat.reduceSub Nat.reduceMul Nat.reduceLeDiff Nat.reduceLT
attribute [local go_sem ↓] reduceIte reduceCtorEq
/- planimeterref25.Digits: a whole number's text. -/
section
open Go PG Go.Proofs
set_option maxRecDepth 100000
set_option linter.unusedSimpArgs false
set_option linter.unusedVariables false

theorem dig_u8 {k : Nat} (h : k < 10) : (((UInt8.ofNat (48 + k)).toNat : Nat) : Int) = 48 + (k : Int) := by
  have e : ∀ k : Fin 10, (((UInt8.ofNat (48 + k.val)).toNat : Nat) : Int) = 48 + (k.val : Int) := by decide +kernel
  exact e ⟨k, h⟩
set_option maxHeartbeats 1000000 in
theorem c_25Digits {n : Int} (h0 : -9223372036854775808 ≤ n) (h1 : n ≤ 9223372036854775807) : PC E 38 [.int .i64 n] (TX (Lib.itoa n)) := by
  have hmx : maxLen = 9223372036854775807 := rfl
  have hit : Lib.itoa n = (if n < 0 then [45] else []) ++ Lib.decDigits n.natAbs := by
    unfold Lib.itoa
    split
    · rfl
    · rw [show n.natAbs = n.toNat by omega]; rfl
  have hll := dec_len 19 n.natAbs (by omega)
  rw [hit]
  obtain ⟨N, hN⟩ : ∃ N, N = n.natAbs := ⟨_, rfl⟩
  rw [← hN] at hll ⊢
  have hNW : N < 18446744073709551616 := by omega
  have w1 : n < 0 → IntKind.wrap .i64 (n + 1) = n + 1 := fun h => wrap64 (by omega) (by omega)
  have w2 : n < 0 → IntKind.wrap .i64 (0 - (n + 1)) = 0 - (n + 1) := fun h => wrap64 (by omega) (by omega)
  have w3 : n < 0 → IntKind.wrap .u64 (0 - (n + 1)) = 0 - (n + 1) := fun h => by rw [IntKind.wrap_u64]; omega
  have w4 : n < 0 → IntKind.wrap .u64 (0 - (n + 1) + 1) = (N : Nat) := fun h => by rw [IntKind.wrap_u64]; omega
  have w5 : ¬ n < 0 → IntKind.wrap .u64 n = (N : Nat) := fun h => by rw [IntKind.wrap_u64]; omega
  simp only [TX]
  refine PC.of_body follows Tryz.func38 (by decide +kernel) rfl (by kernel_rfl) (Nat.le_of_ble_eq_true rfl) (walk ?_)
  simp only [Tryz.f38, B8_size, B8_cut, B8_eq, B8_mk, B8_app, Int.toNat_natCast, go_sem]
  refine qif_d (fun hn => ?_) (fun hn => ?_)
  all_goals
    first
      | (rw [if_pos hn]; simp only [Tryz.f38, B8_size, B8_cut, B8_eq, B8_mk, B8_app, Int.toNat_natCast, w1 hn, w2 hn, w3 hn, w4 hn, go_sem])
      | (rw [if_neg hn]; simp only [Tryz.f38, B8_size, B8_cut, B8_eq, B8_mk, B8_app, Int.toNat_natCast, w5 hn, go_sem])
    refine PLoop.nilrow 4 27 (by decide) 5 1 rfl ?_
    refine PLoop.intro (fun p : List UInt8 × Nat => ⟨[(0, .val (.int .i64 n)), (3, .val (.int .u64 p.2)), (4, .row 27)], [(27, (.row 5 1 p.1.length (BL p.1), false))]⟩)
      (fun p => behind N p.2 p.1 ∧ p.2 ≤ N) (fun p => p.2 + if p.1 = [] then 1 else 0) ([], N) ⟨.inl ⟨rfl, rfl⟩, Nat.le_refl _⟩ ?_ fun p hp => walk ?_
    · simp [Wk, sget, killL, kill1, SV.key, BL]
    obtain ⟨out, m⟩ := p
    obtain ⟨hb, hm⟩ := hp
    dsimp only at hb hm ⊢
    have hbl := behind_len hb
    have hmd : ((m : Int)).tmod 10 = ((m % 10 : Nat) : Int) := by rw [Int.tmod_eq_emod_of_nonneg (by omega)]; omega
    have hm10 : m % 10 < 10 := Nat.mod_lt _ (by decide)
    have hmw : IntKind.wrap .u64 (48 + ((m % 10 : Nat) : Int)) = 48 + ((m % 10 : Nat) : Int) := by rw [IntKind.wrap_u64]; omega
    have hmr : IntKind.wrap .u64 ((m % 10 : Nat) : Int) = ((m % 10 : Nat) : Int) := by rw [IntKind.wrap_u64]; omega
    have hu8 : IntKind.wrap .u8 (48 + ((m % 10 : Nat) : Int)) = (((UInt8.ofNat (48 + m % 10)).toNat : Nat) : Int) := by
      rw [dig_u8 hm10]
      unfold IntKind.wrap
      simp [IntKind.bits, IntKind.signed]
      omega
    have hq : ((m : Int)).tdiv 10 = ((m / 10 : Nat) : Int) := by rw [Int.tdiv_eq_ediv_of_nonneg (by omega)]; omega
    have hqw : IntKind.wrap .u64 ((m / 10 : Nat) : Int) = ((m / 10 : Nat) : Int) := by rw [IntKind.wrap_u64]; omega
    have hbn := fun h => behind_next hb h
    have hBL : (BL out).length = out.length := BL_length out
    simp only [Tryz.f38, B8_size, B8_cut, B8_eq, B8_mk, B8_app, Int.toNat_natCast, go_sem]
    by_cases hg : 0 < m ∨ out = []
    · have hbn := hbn hg
      have hst : ∀ c : UInt8, (BL (c :: out)) = PV.int .u8 ((c.toNat : Nat) : Int) :: BL out := fun c => rfl
      have hlc : ∀ c : UInt8, (c :: out).length = 1 + out.length := fun c => by rw [List.length_cons]; omega
      refine qif_d (fun h => ?_) (fun h => ?_)
      all_goals
        simp only [Tryz.f38, B8_size, B8_cut, B8_eq, B8_mk, B8_app, Int.toNat_natCast, hmd, hmw, hmr, hu8, go_sem]
        try (refine qif_dt (by rcases hg with hg | hg; exact absurd (by omega) h; rw [hg]; rfl) ?_; simp only [Tryz.f38, B8_size, B8_cut, B8_eq, B8_mk, B8_app, Int.toNat_natCast, hmd, hmw, hmr, hu8, go_sem])
        refine qand_i (by rw [hBL]; simp) ?_
        simp only [Tryz.f38, B8_size, B8_cut, B8_eq, B8_mk, B8_app, Int.toNat_natCast, hmd, hmw, hmr, hu8, go_sem]
        refine qand_i (by rw [hmx]; omega) ?_
        simp only [Tryz.f38, B8_size, B8_cut, B8_eq, B8_mk, B8_app, Int.toNat_natCast, hmd, hmw, hmr, hu8, hq, hqw, go_sem]
        refine ⟨(UInt8.ofNat (48 + m % 10) :: out, m / 10), ⟨hbn, by dsimp only; omega⟩, ?_, ?_⟩
        · dsimp only
          rw [if_neg (by simp)]
          rcases hg with hg | hg
          · split <;> omega
          · rw [if_pos hg]; omega
        · simp [Wk, sget, killL, kill1, SV.key, hst, hlc]
    · have h0 : m = 0 := by omega
      have hne : ¬ out = [] := fun h => hg (.inr h)
      have hne2 : ¬ (out.length : Int) = 0 := fun h => hne (List.eq_nil_of_length_eq_zero (by omega))
      subst h0
      have hd : out = Lib.decDigits N := by
        rcases hb with ⟨h, -⟩ | ⟨-, h⟩
        · exact absurd h hne
        · rwa [if_pos rfl] at h
      rw [← hd] at hll ⊢
      refine qif_df (by omega) ?_
      simp only [Tryz.f38, B8_size, B8_cut, B8_eq, B8_mk, B8_app, Int.toNat_natCast, go_sem]
      refine qif_df hne2 ?_
      simp only [Tryz.f38, B8_size, B8_cut, B8_eq, B8_mk, B8_app, Int.toNat_natCast, go_sem]
      first
        | (refine qif_dt hn ?_; simp only [Tryz.f38, B8_size, B8_cut, B8_eq, B8_mk, B8_app, Int.toNat_natCast, go_sem])
        | (refine qif_df hn ?_; simp only [Tryz.f38, B8_size, B8_cut, B8_eq, B8_mk, B8_app, Int.toNat_natCast, go_sem])
      have hbc := bconv_BL (P := E.P) (e := 5) (d := 9) (l := out) (n := out.length) Lay5.1 Lay9.1 rfl
      refine qval_i (congrArg (Option.map _) hbc) ?_
      simp only [Tryz.f38, TX, B8_size, B8_cut, B8_eq, B8_mk, B8_app, Int.toNat_natCast, go_sem]
      try (refine qand_i (by rw [hmx]; (try simp only [List.length_cons, List.length_nil]); omega) ?_; simp only [Tryz.f38, B8_size, B8_cut, B8_eq, B8_mk, B8_app, Int.toNat_natCast, go_sem])
      try rfl
end

/- planimeterref03.Div, planimeterref32.Nearest. -/
section
open Go PG Go.Proofs
set_option maxRecDepth 100000
set_option linter.unusedSimpArgs false
set_option linter.unusedVariables false

theorem div_step {X b q r t : Nat} (hb : 0 < b) (hq : q = X / b) (hr : r = X % b) (ht : t < 2) :
    (b ≤ 2 * r + t → (2 * X + t) / b = 2 * q + 1 ∧ (2 * X + t) % b = 2 * r + t - b) ∧ (2 * r + t < b → (2 * X + t) / b = 2 * q ∧ (2 * X + t) % b = 2 * r + t) := by
  have h1 := Nat.div_add_mod X b
  have h2 := Nat.mod_lt X hb
  rw [← hq, ← hr] at h1
  rw [← hr] at h2
  refine ⟨fun h => ?_, fun h => ?_⟩
  · have e : 2 * X + t = b * (2 * q + 1) + (2 * r + t - b) := by
      rw [Nat.mul_add, Nat.mul_left_comm, Nat.mul_one]; omega
    rw [e, Nat.mul_add_div hb, Nat.mul_add_mod, Nat.div_eq_of_lt (by omega), Nat.mod_eq_of_lt (by omega)]
    exact ⟨rfl, rfl⟩
  · have e : 2 * X + t = b * (2 * q) + (2 * r + t) := by
      rw [Nat.mul_left_comm]; omega
    rw [e, Nat.mul_add_div hb, Nat.mul_add_mod, Nat.div_eq_of_lt h, Nat.mod_eq_of_lt h]
    exact ⟨rfl, rfl⟩
theorem shr_step (a k : Nat) : a / 2 ^ k = 2 * (a / 2 ^ (k + 1)) + a / 2 ^ k % 2 := by
  rw [Nat.pow_succ, ← Nat.div_div_eq_div_mul]
  omega
set_option maxHeartbeats 1000000 in
theorem c_3Div {a b : Nat} (ha : bitLen a ≤ 100000) (hb : bitLen b ≤ 100000) (h0 : b ≠ 0) : PC E 45 [VN a, VN b] (.tuple [VN (a / b), VN (a % b)]) := by
  have va := vn_bits (x := a) (by omega)
  have vb := vn_bits (x := b) (by omega)
  have k1 := c_rBits a (by omega)
  have hz : a / 2 ^ bitLen a = 0 := Nat.div_eq_of_lt ((bitLen_le a _).1 (Nat.le_refl _))
  have z0 : VN 0 = .lst 0 [] := by
    have h : dg B 0 = [] := dg_zero B
    unfold VN VL
    rw [h]; rfl
  have hbp : 0 < b := Nat.pos_of_ne_zero h0
  have w1 : IntKind.wrap .i64 ((bitLen a : Int) - 1) = (bitLen a : Int) - 1 := wrap64 (by omega) (by omega)
  have hxb : ∀ k, bitLen (a / 2 ^ k / b) ≤ 100000 ∧ bitLen (a / 2 ^ k % b) ≤ 100000 := fun k =>
    ⟨Nat.le_trans (bitLen_mono (Nat.le_trans (Nat.div_le_self _ _) (Nat.div_le_self _ _))) ha, Nat.le_trans (bitLen_mono (Nat.le_of_lt (Nat.mod_lt _ hbp))) hb⟩
  refine PC.of_body follows Tryz.func45 (by decide +kernel) rfl (by kernel_rfl) (Nat.le_of_ble_eq_true rfl) (walk ?_)
  simp only [VN, VL] at k1 ⊢
  simp only [Tryz.f45, go_sem]
  refine qcall_i (k1) ?_; simp only [Tryz.f45, w1, go_sem]
  refine PLoop.nilval 6 rfl ?_
  refine PLoop.nilval 7 rfl ?_
  refine PLoop.intro (fun k : Nat => ⟨[(0, .val (VN a)), (1, .val (VN b)), (6, .val (VN (a / 2 ^ k / b))), (7, .val (VN (a / 2 ^ k % b))), (8, .val (.int .i64 ((k : Int) - 1)))], []⟩) (fun k => k ≤ bitLen a) (fun k => k) (bitLen a) (Nat.le_refl _) ?_ fun k hk => walk ?_
  · rw [hz, Nat.zero_div, Nat.zero_mod, z0]
    simp [Wk, sget, killL, kill1, SV.key, VN, VL]
  by_cases hk0 : k = 0
  · subst hk0
    rw [Nat.pow_zero, Nat.div_one]
    simp only [VN, VL]
    simp only [Tryz.f45, go_sem]
    refine qif_df (by omega) ?_
    simp only [Tryz.f45, go_sem]
    exact ⟨rfl, rfl⟩
  · obtain ⟨j, rfl⟩ : ∃ j, k = j + 1 := ⟨k - 1, by omega⟩
    have wj : ((j + 1 : Nat) : Int) - 1 = (j : Int) := by omega
    rw [wj]
    have wi : IntKind.wrap .i64 ((j : Int) - 1) = (j : Int) - 1 := wrap64 (by omega) (by omega)
    have k2 := c_rBit a (j : Int) (by omega) (by omega)
    rw [if_neg (by omega), Int.toNat_natCast] at k2
    have ht : a / 2 ^ j % 2 < 2 := Nat.mod_lt _ (by decide)
    have hsh := shr_step a j
    obtain ⟨hq1, hr1⟩ := hxb (j + 1)
    obtain ⟨hq0, hr0⟩ := hxb j
    obtain ⟨s1, s2⟩ := div_step (X := a / 2 ^ (j + 1)) (t := a / 2 ^ j % 2) hbp rfl rfl ht
    rw [← hsh] at s1 s2
    have k3 := c_Double (a / 2 ^ (j + 1) % b) (a / 2 ^ j % 2) (by omega) (by have := vn_bits (x := a / 2 ^ (j + 1) % b) (by omega); omega)
    have hb2 : bitLen (2 * (a / 2 ^ (j + 1) % b) + a / 2 ^ j % 2) ≤ 100001 := by
      obtain ⟨K, hK⟩ : ∃ K, K = 100000 := ⟨_, rfl⟩
      rw [← hK] at hr1
      have h1 := (bitLen_le (a / 2 ^ (j + 1) % b) K).1 hr1
      have h2 : 2 ^ (K + 1) = 2 * 2 ^ K := by rw [Nat.pow_succ, Nat.mul_comm]
      have h3 := (bitLen_le (2 * (a / 2 ^ (j + 1) % b) + a / 2 ^ j % 2) (K + 1)).2 (by
        rw [h2]
        generalize 2 ^ K = P at *
        omega)
      omega
    have k4 := c_rCmp (2 * (a / 2 ^ (j + 1) % b) + a / 2 ^ j % 2) b (by have := vn_bits (x := 2 * (a / 2 ^ (j + 1) % b) + a / 2 ^ j % 2) (by omega); omega) (by omega)
    have hc : 0 ≤ sgn ((2 * (a / 2 ^ (j + 1) % b) + a / 2 ^ j % 2 : Nat) : Int) (b : Nat) ↔ b ≤ 2 * (a / 2 ^ (j + 1) % b) + a / 2 ^ j % 2 := by
      have := sgn_neg ((2 * (a / 2 ^ (j + 1) % b) + a / 2 ^ j % 2 : Nat) : Int) (b : Nat)
      omega
    by_cases hge : b ≤ 2 * (a / 2 ^ (j + 1) % b) + a / 2 ^ j % 2
    · have k5 := c_rSub (2 * (a / 2 ^ (j + 1) % b) + a / 2 ^ j % 2) b hge (by have := vn_bits (x := 2 * (a / 2 ^ (j + 1) % b) + a / 2 ^ j % 2) (by omega); omega)
      have k6 := c_Double (a / 2 ^ (j + 1) / b) 1 (by omega) (by have := vn_bits (x := a / 2 ^ (j + 1) / b) (by omega); omega)
      obtain ⟨g1, g2⟩ := s1 hge
      rw [← g2] at k5
      rw [← g1] at k6
      have hc := hc.2 hge
      clear hsh s1 s2 g1 g2 hb2 hq1 hr1 hq0 hr0 hxb va vb k1 hz
      generalize sgn ((2 * (a / 2 ^ (j + 1) % b) + a / 2 ^ j % 2 : Nat) : Int) (b : Nat) = c at *
      generalize 2 * (a / 2 ^ (j + 1) % b) + a / 2 ^ j % 2 = r2 at *
      simp only [VN, VL, e32] at k2 k3 k4 k5 k6 ⊢
      simp only [Tryz.f45, go_sem]
      refine qif_dt (by omega) ?_
      simp only [Tryz.f45, go_sem]
      refine qcall_i (k2) ?_; simp only [Tryz.f45, go_sem]
      refine qcall_i (k3) ?_; simp only [Tryz.f45, go_sem]
      refine qcall_i (k4) ?_; simp only [Tryz.f45, go_sem]
      refine qif_dt (by omega) ?_
      simp only [Tryz.f45, go_sem]
      refine qcall_i (k5) ?_; simp only [Tryz.f45, go_sem]
      refine qcall_i (k6) ?_; simp only [Tryz.f45, wi, go_sem]
      refine ⟨j, by omega, by omega, ?_⟩
      simp [Wk, sget, killL, kill1, SV.key, VN, VL]
    · have k6 := c_Double (a / 2 ^ (j + 1) / b) 0 (by omega) (by have := vn_bits (x := a / 2 ^ (j + 1) / b) (by omega); omega)
      obtain ⟨g1, g2⟩ := s2 (by omega)
      rw [Nat.add_zero, ← g1] at k6
      rw [← g2] at k3 k4
      have hc : ¬ 0 ≤ sgn ((2 * (a / 2 ^ (j + 1) % b) + a / 2 ^ j % 2 : Nat) : Int) (b : Nat) := fun h => hge (hc.1 h)
      rw [← g2] at hc
      clear hsh s1 s2 g1 g2 hb2 hq1 hr1 hq0 hr0 hxb va vb k1 hz hge
      generalize sgn ((a / 2 ^ j % b : Nat) : Int) (b : Nat) = c at *
      simp only [VN, VL, e32] at k2 k3 k4 k6 ⊢
      simp only [Tryz.f45, go_sem]
      refine qif_dt (by omega) ?_
      simp only [Tryz.f45, go_sem]
      refine qcall_i (k2) ?_; simp only [Tryz.f45, go_sem]
      refine qcall_i (k3) ?_; simp only [Tryz.f45, go_sem]
      refine qcall_i (k4) ?_; simp only [Tryz.f45, go_sem]
      refine qif_df (by omega) ?_
      simp only [Tryz.f45, go_sem]
      refine qcall_i (k6) ?_; simp only [Tryz.f45, wi, go_sem]
      refine ⟨j, by omega, by omega, ?_⟩
      simp [Wk, sget, killL, kill1, SV.key, VN, VL]
theorem len_VN {x : Nat} : ((dg B x).length : Int) = 0 ↔ x = 0 := by
  have := dgB_len0 (x := x)
  omega
set_option maxHeartbeats 4000000 in
/-- The document's test of the nearest number, part by part. -/
theorem c_Nearest0 {ds : Bool} {m M : Nat} {de x : Int} {up down a0 b0 A Q T off : Nat} {c1 c2 : Int} (hde : -2000 ≤ de ∧ de ≤ 2000) (hx : -2000 ≤ x ∧ x ≤ 2000)
    (kT : (0 ≤ x ∧ up = 1 ∧ PC E 30 [.int .i64 x] (VN down)) ∨ (x < 0 ∧ down = 1 ∧ PC E 30 [.int .i64 (-x)] (VN up)))
    (kM1 : PC E 40 [VN m, VN up] (VN a0)) (kM2 : PC E 40 [VN M, VN down] (VN b0))
    (kS : (0 ≤ de ∧ b0 = Q ∧ down = T ∧ PC E 41 [VN a0, .int .i64 de] (VN A)) ∨ (de < 0 ∧ a0 = A ∧ PC E 41 [VN b0, .int .i64 (-de)] (VN Q) ∧ PC E 41 [VN down, .int .i64 (-de)] (VN T)))
    (kC1 : PC E 42 [VN A, VN Q] (.int .i64 c1)) (kB : (c1 ≥ 0 ∧ PC E 43 [VN A, VN Q] (VN off)) ∨ (¬ c1 ≥ 0 ∧ PC E 43 [VN Q, VN A] (VN off)))
    (kA : PC E 44 [VN off, VN off] (VN (off + off))) (kC2 : PC E 42 [VN (off + off), VN T] (.int .i64 c2))
    (kD : PC E 45 [VN M, VN 2] (.tuple [VN (M / 2), VN (M % 2)])) (hle : c2 ≤ 0) (hev : c2 = 0 → M % 2 = 0) :
    PC E 15 [(⟨ds, m, de⟩ : Dy).nv, VN M, .int .i64 x] (.bool true) := by
  have z1 := c_Num 1 (by decide)
  have z2 := c_Num 2 (by decide)
  rw [show u ((1 : Nat)) = .int .u64 1 from rfl] at z1
  rw [show u ((2 : Nat)) = .int .u64 2 from rfl] at z2
  have hlv := len_VN (x := M % 2)
  have wx : x < 0 → IntKind.wrap .i64 (0 - x) = -x := fun h => by rw [wrap64 (by omega) (by omega)]; omega
  have wd : de < 0 → IntKind.wrap .i64 (0 - de) = -de := fun h => by rw [wrap64 (by omega) (by omega)]; omega
  generalize M % 2 = od at *
  generalize M / 2 = hd at *
  generalize off + off = off2 at *
  rcases kT with ⟨g1, rfl, kT⟩ | ⟨g1, rfl, kT⟩ <;> rcases kS with ⟨g2, rfl, rfl, kS⟩ | ⟨g2, rfl, kS, kS2⟩ <;> rcases kB with ⟨g3, kB⟩ | ⟨g3, kB⟩
  all_goals
    simp only [VN, VL, Dy.nv, DP] at *
    refine PC.of_body follows Tryz.func15 (by decide +kernel) rfl (by kernel_rfl) (Nat.le_of_ble_eq_true rfl) (walk ?_)
    simp only [Tryz.f15, go_sem]
    repeat' first
      | ((with_reducible refine qcall_i z1 ?_); simp only [Tryz.f15, go_sem])
      | ((with_reducible refine qcall_i z2 ?_); simp only [Tryz.f15, go_sem])
      | ((with_reducible refine qcall_i kT ?_); simp only [Tryz.f15, go_sem])
      | ((with_reducible refine qcall_i kM1 ?_); simp only [Tryz.f15, go_sem])
      | ((with_reducible refine qcall_i kM2 ?_); simp only [Tryz.f15, go_sem])
      | ((with_reducible refine qcall_i kS ?_); simp only [Tryz.f15, go_sem])
      | ((with_reducible refine qcall_i kS2 ?_); simp only [Tryz.f15, go_sem])
      | ((with_reducible refine qcall_i kC1 ?_); simp only [Tryz.f15, go_sem])
      | ((with_reducible refine qcall_i kB ?_); simp only [Tryz.f15, go_sem])
      | ((with_reducible refine qcall_i kA ?_); simp only [Tryz.f15, go_sem])
      | ((with_reducible refine qcall_i kC2 ?_); simp only [Tryz.f15, go_sem])
      | ((with_reducible refine qcall_i kD ?_); simp only [Tryz.f15, go_sem])
      | ((with_reducible refine qif_dt (by omega) ?_); simp only [Tryz.f15, go_sem]; try simp only [wx g1]; try simp only [wd g2])
      | ((with_reducible refine qif_df (by omega) ?_); simp only [Tryz.f15, go_sem]; try simp only [wx g1]; try simp only [wd g2])
      | ((with_reducible refine qif_d (fun h => ?_) (fun h => ?_)) <;> first | (exfalso; omega) | simp only [Tryz.f15, go_sem])
      | (exact decide_eq_true (by omega))
      | simp only [wd g2]
set_option maxHeartbeats 2000000 in
/-- The document's test of the nearest number. -/
theorem c_Nearest {d : Dy} {x : Int} {M : Nat} (h1 : 2 * scM d.m d.e x ≤ (2 * M + 1) * scN d.e x) (h2 : 2 * M * scN d.e x ≤ 2 * scM d.m d.e x + scN d.e x)
    (h3 : 2 * scM d.m d.e x = (2 * M + 1) * scN d.e x → M % 2 = 0) (h4 : 2 * M * scN d.e x = 2 * scM d.m d.e x + scN d.e x → M % 2 = 0) (hm : bitLen d.m ≤ 100) (hM : bitLen M ≤ 1000) (he : -2000 ≤ d.e ∧ d.e ≤ 2000) (hx : -2000 ≤ x ∧ x ≤ 2000) :
    PC E 15 [d.nv, VN M, .int .i64 x] (.bool true) := by
  obtain ⟨ds, m, de⟩ := d
  dsimp only at *
  have hu : bitLen (10 ^ (-x).toNat) ≤ 8001 := by have := ten_bits (-x).toNat; omega
  have hd : bitLen (10 ^ x.toNat) ≤ 8001 := by have := ten_bits x.toNat; omega
  have ha : bitLen (m * 10 ^ (-x).toNat) ≤ 8101 := by have := bitLen_mul_le m (10 ^ (-x).toNat); omega
  have hb : bitLen (M * 10 ^ x.toNat) ≤ 9001 := by have := bitLen_mul_le M (10 ^ x.toNat); omega
  have kM1 := l_2Mul (x := m) (y := 10 ^ (-x).toNat) (by omega) (by omega)
  have kM2 := l_2Mul (x := M) (y := 10 ^ x.toNat) (by omega) (by omega)
  have eA : scM m de x = m * 10 ^ (-x).toNat * 2 ^ de.toNat := by unfold scM; rw [Nat.mul_right_comm]
  have eU : scN de x = 10 ^ x.toNat * 2 ^ (-de).toNat := by unfold scN; rw [Nat.mul_comm]
  have eB : M * scN de x = M * 10 ^ x.toNat * 2 ^ (-de).toNat := by rw [eU, Nat.mul_assoc]
  have hAb : bitLen (scM m de x) ≤ 12000 := by rw [eA]; have := bitLen_shl_le (m * 10 ^ (-x).toNat) de.toNat; omega
  have hUb : bitLen (scN de x) ≤ 12000 := by rw [eU]; have := bitLen_shl_le (10 ^ x.toNat) (-de).toNat; omega
  have hBb : bitLen (M * scN de x) ≤ 12000 := by rw [eB]; have := bitLen_shl_le (M * 10 ^ x.toNat) (-de).toNat; omega
  have kSA : 0 ≤ de → PC E 41 [VN (m * 10 ^ (-x).toNat), .int .i64 de] (VN (scM m de x)) := fun h => by
    have := c_rShl (m * 10 ^ (-x).toNat) de.toNat (by have := vn_bits (x := m * 10 ^ (-x).toNat) (by omega); omega) (by omega)
    rwa [← eA, show ((de.toNat : Nat) : Int) = de by omega] at this
  have kSB : ¬ 0 ≤ de → PC E 41 [VN (M * 10 ^ x.toNat), .int .i64 (-de)] (VN (M * scN de x)) := fun h => by
    have := c_rShl (M * 10 ^ x.toNat) (-de).toNat (by have := vn_bits (x := M * 10 ^ x.toNat) (by omega); omega) (by omega)
    rwa [← eB, show (((-de).toNat : Nat) : Int) = -de by omega] at this
  have kSU : ¬ 0 ≤ de → PC E 41 [VN (10 ^ x.toNat), .int .i64 (-de)] (VN (scN de x)) := fun h => by
    have := c_rShl (10 ^ x.toNat) (-de).toNat (by have := vn_bits (x := 10 ^ x.toNat) (by omega); omega) (by omega)
    rwa [← eU, show (((-de).toNat : Nat) : Int) = -de by omega] at this
  have nA : ¬ 0 ≤ de → m * 10 ^ (-x).toNat = scM m de x := fun h => by rw [eA, show de.toNat = 0 by omega, Nat.pow_zero, Nat.mul_one]
  have nB : 0 ≤ de → M * 10 ^ x.toNat = M * scN de x := fun h => by rw [eB, show (-de).toNat = 0 by omega, Nat.pow_zero, Nat.mul_one]
  have nU : 0 ≤ de → 10 ^ x.toNat = scN de x := fun h => by rw [eU, show (-de).toNat = 0 by omega, Nat.pow_zero, Nat.mul_one]
  have kU : 0 ≤ x → PC E 30 [.int .i64 x] (VN (10 ^ x.toNat)) := fun h => by
    have := c_Ten (k := x.toNat) (by omega)
    rwa [show ((x.toNat : Nat) : Int) = x by omega] at this
  have kV : ¬ 0 ≤ x → PC E 30 [.int .i64 (-x)] (VN (10 ^ (-x).toNat)) := fun h => by
    have := c_Ten (k := (-x).toNat) (by omega)
    rwa [show (((-x).toNat : Nat) : Int) = -x by omega] at this
  have oU : ¬ 0 ≤ x → 10 ^ x.toNat = 1 := fun h => by rw [show x.toNat = 0 by omega, Nat.pow_zero]
  have oV : 0 ≤ x → 10 ^ (-x).toNat = 1 := fun h => by rw [show (-x).toNat = 0 by omega, Nat.pow_zero]
  have hMU : 2 * M * scN de x = 2 * (M * scN de x) := Nat.mul_assoc _ _ _
  have hMU2 : (2 * M + 1) * scN de x = 2 * (M * scN de x) + scN de x := by rw [Nat.add_mul, Nat.one_mul, hMU]
  rw [hMU2] at h1 h3
  rw [hMU] at h2 h4
  generalize scM m de x = A at *
  generalize M * scN de x = Q at *
  generalize scN de x = T at *
  obtain ⟨off, hoff⟩ : ∃ off, off = if Q ≤ A then A - Q else Q - A := ⟨_, rfl⟩
  have hob : bitLen off ≤ 12000 := by
    rw [hoff]
    split
    · exact Nat.le_trans (bitLen_mono (Nat.sub_le _ _)) hAb
    · exact Nat.le_trans (bitLen_mono (Nat.sub_le _ _)) hBb
  have hob2 : bitLen (off + off) ≤ 12100 := by
    have := bitLen_mul_le off 2
    rw [show bitLen 2 = 2 by decide +kernel] at this
    rw [show off + off = off * 2 by omega]
    omega
  have vA := vn_bits (x := A) (by omega)
  have vQ := vn_bits (x := Q) (by omega)
  have vT := vn_bits (x := T) (by omega)
  have vO := vn_bits (x := off) (by omega)
  have vO2 := vn_bits (x := off + off) (by omega)
  have s1 := sgn_neg (A : Int) Q
  have s2 := sgn_le ((off + off : Nat) : Int) T
  have s3 := sgn_zero ((off + off : Nat) : Int) T
  refine c_Nearest0 (up := 10 ^ (-x).toNat) (down := 10 ^ x.toNat) (a0 := m * 10 ^ (-x).toNat) (b0 := M * 10 ^ x.toNat) (A := A) (Q := Q) (T := T) (off := off) he hx ?_ kM1 kM2 ?_ (c_rCmp A Q (by omega) (by omega)) ?_ (c_rAdd off off (by omega) (by omega)) (c_rCmp (off + off) T (by omega) (by omega)) (c_3Div (by omega) (by decide +kernel) (by decide)) ?_ ?_
  · by_cases h : 0 ≤ x
    · exact .inl ⟨h, oV h, kU h⟩
    · exact .inr ⟨by omega, oU h, kV h⟩
  · by_cases h : 0 ≤ de
    · exact .inl ⟨h, nB h, nU h, kSA h⟩
    · exact .inr ⟨by omega, nA h, kSB h, kSU h⟩
  · by_cases h : Q ≤ A
    · refine .inl ⟨by omega, ?_⟩
      have := c_rSub A Q h (by omega)
      rwa [show A - Q = off by rw [hoff, if_pos h]] at this
    · refine .inr ⟨by omega, ?_⟩
      have := c_rSub Q A (by omega) (by omega)
      rwa [show Q - A = off by rw [hoff, if_neg h]] at this
  · rw [s2]
    split at hoff <;> omega
  · rw [s3]
    intro h
    split at hoff
    · exact h3 (by omega)
    · exact h4 (by omega)
end

/- planimeterref32.Told. -/
section
open Go PG Go.Proofs
set_option maxRecDepth 100000
set_option linter.unusedSimpArgs false
set_option linter.unusedVariables false

theorem prD_parts {sg : Bool} {n : Nat} {x : Int} {M : Nat} (hn : 1 ≤ n) (hx : -1000 ≤ x + n - 1 ∧ x + n - 1 ≤ 1000) (hlen : (Lib.decDigits M).length = n) :
    dcOk (prD sg n x M) = true ∧ dcN (prD sg n x M) = sg ∧ dcM (prD sg n x M) = M ∧ dcE (prD sg n x M) = x := by
  have hok := prD_ok hn hx hlen
  obtain ⟨h1, h2, h3, h4, h5⟩ := dec_read (sg := sg) (neg := decide (x + n - 1 < 0)) hok
  rw [← prD_T] at h1 h2 h3 h4 h5
  obtain ⟨f1, f2, f3, -⟩ := dec_dn (x + n - 1).natAbs
  have e1 : (Lib.decDigits M).take 1 ++ (if 1 < n then (Lib.decDigits M).drop 1 else []) = Lib.decDigits M := by
    by_cases h : 1 < n
    · rw [if_pos h, List.take_append_drop]
    · rw [if_neg h, List.append_nil, List.take_of_length_le (by omega)]
  have e2 : (if 1 < n then (Lib.decDigits M).drop 1 else []).length = n - 1 := by
    split
    · rw [List.length_drop]; omega
    · simp; omega
  refine ⟨h1, h2, ?_, ?_⟩
  · unfold dcM; rw [h3, h4, e1, (dec_dn M).1]
  · rw [h5, e2, f1, if_pos rfl]
    by_cases h : x + n - 1 < 0
    · rw [decide_eq_true h, if_pos rfl]; omega
    · rw [decide_eq_false h, if_neg (by decide)]; omega
theorem dec_head (M : Nat) (h : M ≠ 0) : (Lib.decDigits M).getD 0 0 ≠ 48 := by
  induction M using Nat.strongRecOn with
  | _ M ih =>
    by_cases h1 : M < 10
    · rw [dec_lt h1]
      have e : ∀ k : Fin 10, k.val ≠ 0 → ([UInt8.ofNat (48 + k.val)] : List UInt8).getD 0 0 ≠ 48 := by decide +kernel
      exact e ⟨M, h1⟩ h
    · rw [dec_ge h1]
      have h2 := ih (M / 10) (by omega) (by omega)
      have h3 := (dec_dn (M / 10)).2.2.1
      cases hd : Lib.decDigits (M / 10) with
      | nil => exact absurd hd h3
      | cons a r =>
        rw [hd] at h2
        exact h2
set_option maxHeartbeats 2000000 in
theorem c_Told {n : Nat} {x : Int} {M : Nat} (hn : 1 ≤ n) (hn2 : n ≤ 60) (hx : -1000 ≤ x + n - 1 ∧ x + n - 1 ≤ 1000) (hM0 : M ≠ 0) (hlen : (Lib.decDigits M).length = n) :
    PC E 12 [TX (prD false n x M), .int .i64 n] (.tuple [VN M, .int .i64 x, .bool true]) := by
  obtain ⟨p1, p2, p3, p4⟩ := prD_parts (sg := false) hn hx hlen
  have hll := prD_len (sg := false) hn hx hlen
  have k1 := c_32Read (l := prD false n x M) (by omega)
  have hne : prD false n x M ≠ [] := fun e => by
    have := congrArg List.length e
    unfold prD at this
    simp at this
  have hr : refR (prD false n x M) = .tuple [.agg [.bool false, VN M, .int .i64 x], .bool true] := by
    unfold refR
    rw [if_neg (fun h => by rcases h with h | h; exact h (by omega); exact hne h), if_pos p1, p2, p3, p4]
  rw [hr] at k1
  have k2 := c_25Digits (n := x + n - 1) (by omega) (by omega)
  have hsp : prD false n x M = ((Lib.decDigits M).take 1 ++ (if 1 < n then 46 :: (Lib.decDigits M).drop 1 else [])) ++ 101 :: Lib.itoa (x + n - 1) := rfl
  have hP1 : ((Lib.decDigits M).take 1).length = 1 := by rw [List.length_take]; omega
  have hPl : ((Lib.decDigits M).take 1 ++ (if 1 < n then 46 :: (Lib.decDigits M).drop 1 else [])).length = if 1 < n then n + 1 else n := by
    rw [List.length_append, hP1]
    split
    · rw [List.length_cons, List.length_drop]; omega
    · simp; omega
  have g0 : (prD false n x M).getD 0 0 ≠ 48 := by
    have h1 := dec_head M hM0
    rw [hsp, List.append_assoc, List.getD_eq_getElem?_getD, List.getElem?_append_left (by omega), List.getElem?_take, if_pos (by decide), ← List.getD_eq_getElem?_getD]
    exact h1
  have g1 : 1 < n → (prD false n x M).getD 1 0 = 46 := fun h => by
    rw [hsp, List.append_assoc, List.getD_eq_getElem?_getD, List.getElem?_append_right (by omega), hP1, if_pos h]
    rfl
  have gk : (prD false n x M).getD (if 1 < n then n + 1 else n) 0 = 101 := by
    rw [hsp, ← hPl, List.getD_eq_getElem?_getD, List.getElem?_append_right (Nat.le_refl _), Nat.sub_self]
    rfl
  have gd : (prD false n x M).drop ((if 1 < n then n + 1 else n) + 1) = Lib.itoa (x + n - 1) := by
    rw [hsp, ← hPl, ← List.drop_drop, List.drop_left]
    rfl
  have gl : (prD false n x M).length = (if 1 < n then n + 1 else n) + 1 + (Lib.itoa (x + n - 1)).length := by
    rw [hsp, List.length_append, hPl, List.length_cons]; omega
  have wE : IntKind.wrap .i64 (x + n) = x + n := wrap64 (by omega) (by omega)
  have wE1 : IntKind.wrap .i64 (x + n - 1) = x + n - 1 := wrap64 (by omega) (by omega)
  have hi0 := idxS_B8 (l := prD false n x M) (n := 0) (by decide) (by show 0 < _; omega)
  have n0 : ¬ ((((prD false n x M).getD 0 0).toNat : Nat) : Int) = 48 := fun e => g0 (by
    have : ((prD false n x M).getD 0 0).toNat = 48 := by omega
    exact UInt8.toNat_inj.1 this)
  clear hr hsp hP1 hPl p1 p2 p3 p4 hne
  by_cases h1 : 1 < n
  · rw [if_pos h1] at gk gd gl
    have hi1 := idxS_B8 (l := prD false n x M) (n := 1) (by decide) (by show 1 < _; omega)
    rw [show (1 : Int).toNat = 1 from rfl, g1 h1] at hi1
    have hik := idxS_B8 (l := prD false n x M) (n := ((n + 1 : Nat) : Int)) (by omega) (by rw [Int.toNat_natCast]; omega)
    rw [Int.toNat_natCast, gk] at hik
    rw [show (0 : Int).toNat = 0 from rfl] at hi0
    have wk : IntKind.wrap .i64 ((n : Int) + 1) = ((n + 1 : Nat) : Int) := by rw [wrap64 (by omega) (by omega)]; omega
    have wk2 : IntKind.wrap .i64 (((n + 1 : Nat) : Int) + 1) = ((n + 1 + 1 : Nat) : Int) := by rw [wrap64 (by omega) (by omega)]; omega
    generalize (prD false n x M).getD 0 0 = ch at *
    generalize prD false n x M = t at *
    generalize Lib.itoa (x + n - 1) = ia at *
    simp only [TX, VN, VL] at k1 k2 ⊢
    refine PC.of_body follows Tryz.func12 (by decide +kernel) rfl (by kernel_rfl) (Nat.le_of_ble_eq_true rfl) (walk ?_)
    simp only [Tryz.f12, B8_size, B8_cut, B8_eq, B8_mk, B8_app, Int.toNat_natCast, go_sem]
    refine qcall_i (k1) ?_; simp only [Tryz.f12, B8_size, B8_cut, B8_eq, B8_mk, B8_app, Int.toNat_natCast, go_sem]
    repeat' first
      | ((with_reducible refine qdo_indexS Lay9.1 rfl rfl ?_); (first | rw [hi0] | rw [hi1] | rw [hik]); simp only [Tryz.f12, B8_size, B8_cut, B8_eq, B8_mk, B8_app, Int.toNat_natCast, wk, wk2, wE, wE1, go_sem])
      | ((with_reducible refine qcall_i k2 ?_); simp only [Tryz.f12, B8_size, B8_cut, B8_eq, B8_mk, B8_app, Int.toNat_natCast, wk, wk2, wE, wE1, gd, List.take_length, go_sem])
      | ((with_reducible refine qif_dt (by omega) ?_); simp only [Tryz.f12, B8_size, B8_cut, B8_eq, B8_mk, B8_app, Int.toNat_natCast, wk, wk2, wE, wE1, go_sem])
      | ((with_reducible refine qif_df (by omega) ?_); simp only [Tryz.f12, B8_size, B8_cut, B8_eq, B8_mk, B8_app, Int.toNat_natCast, wk, wk2, wE, wE1, go_sem])
      | ((refine qand_i (by omega) ?_); simp only [Tryz.f12, B8_size, B8_cut, B8_eq, B8_mk, B8_app, Int.toNat_natCast, wk, wk2, wE, wE1, gd, List.take_length, go_sem])
      | ((with_reducible refine qif_df (by decide) ?_); simp only [Tryz.f12, B8_size, B8_cut, B8_eq, B8_mk, B8_app, Int.toNat_natCast, wk, wk2, wE, wE1, gd, List.take_length, go_sem])
      | exact ⟨rfl, rfl⟩
      | rfl
  · rw [if_neg h1] at gk gd gl
    have hik := idxS_B8 (l := prD false n x M) (n := ((n : Nat) : Int)) (by omega) (by rw [Int.toNat_natCast]; omega)
    rw [Int.toNat_natCast, gk] at hik
    rw [show (0 : Int).toNat = 0 from rfl] at hi0
    have wk : IntKind.wrap .i64 ((n : Int) + 1) = ((n + 1 : Nat) : Int) := by rw [wrap64 (by omega) (by omega)]; omega
    generalize (prD false n x M).getD 0 0 = ch at *
    generalize prD false n x M = t at *
    generalize Lib.itoa (x + n - 1) = ia at *
    simp only [TX, VN, VL] at k1 k2 ⊢
    refine PC.of_body follows Tryz.func12 (by decide +kernel) rfl (by kernel_rfl) (Nat.le_of_ble_eq_true rfl) (walk ?_)
    simp only [Tryz.f12, B8_size, B8_cut, B8_eq, B8_mk, B8_app, Int.toNat_natCast, go_sem]
    refine qcall_i (k1) ?_; simp only [Tryz.f12, B8_size, B8_cut, B8_eq, B8_mk, B8_app, Int.toNat_natCast, go_sem]
    repeat' first
      | ((with_reducible refine qdo_indexS Lay9.1 rfl rfl ?_); (first | rw [hi0] | rw [hik]); simp only [Tryz.f12, B8_size, B8_cut, B8_eq, B8_mk, B8_app, Int.toNat_natCast, wk, wE, wE1, go_sem])
      | ((with_reducible refine qcall_i k2 ?_); simp only [Tryz.f12, B8_size, B8_cut, B8_eq, B8_mk, B8_app, Int.toNat_natCast, wk, wE, wE1, gd, List.take_length, go_sem])
      | ((with_reducible refine qif_dt (by omega) ?_); simp only [Tryz.f12, B8_size, B8_cut, B8_eq, B8_mk, B8_app, Int.toNat_natCast, wk, wE, wE1, go_sem])
      | ((with_reducible refine qif_df (by omega) ?_); simp only [Tryz.f12, B8_size, B8_cut, B8_eq, B8_mk, B8_app, Int.toNat_natCast, wk, wE, wE1, go_sem])
      | ((refine qand_i (by omega) ?_); simp only [Tryz.f12, B8_size, B8_cut, B8_eq, B8_mk, B8_app, Int.toNat_natCast, wk, wE, wE1, gd, List.take_length, go_sem])
      | ((with_reducible refine qif_df (by decide) ?_); simp only [Tryz.f12, B8_size, B8_cut, B8_eq, B8_mk, B8_app, Int.toNat_natCast, wk, wE, wE1, gd, List.take_length, go_sem])
      | exact ⟨rfl, rfl⟩
      | rfl
end
end Go.Proofs.YtmnojbkakgfinaaGreatDoor
