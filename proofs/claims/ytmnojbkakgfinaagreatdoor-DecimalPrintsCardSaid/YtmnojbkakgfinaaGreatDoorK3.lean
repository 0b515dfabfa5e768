/- Several parts in one text. -/
import Derived.Test.YtmnojbkakgfinaaGreatDoorH1
import Derived.Test.YtmnojbkakgfinaaGreatDoorK2
import Derived.Test.YtmnojbkakgfinaaGreatDoorK1
import Derived.Test.YtmnojbkakgfinaaGreatDoorI2
import Derived.Lib.AtoiAll
open Go PG Go.Proofs
namespace Go.Proofs.YtmnojbkakgfinaaGreatDoor
attribute [local go_sem] Lay2 Lay3 Lay4 Lay5 Lay6 Lay7 Lay8 Lay9 Lay10 Lay11 Lay12 Lay13 Lay14 Lay15 Lay16 Lay17 Lay18 Lay19 Lay21 Lay23 Lay24 Lay25 Lay26 Lay27 Lay28 Lay31 Lay32 Lay33 Lay40 Lay43 Lay44 Lay49 Lay50 Lay57 Lay58 Lay61 Lay68 Lay69 Lay72 Lay77 Lay125 Lay133 Lay134 Lay150 Lay167 Lay168 Lay169 Lay170 Lay180 Lay181 Lay185 Lay186 Lay189 Lay205 Lay208 Lay223 Lay227 Lay228 Lay231 Lay232 Lay233 Lay234 Lay235 Lay236 Lay237 Lay238 Lay240 Lay241 Lay242 Lay243 Lay244 Lay245 Lay246 Lay247 Lay249 Lay250 qexec_seq qexec_skip qexec_exit qexec_ret qexec_block qexec_loop qexec_range qexec_cond qexec_region qexec_drawn qops_nil qops_none qops_some put_some put_none pblk_exit pblk_other newDsts_nil inlDsts_nil isInl sget_cons sget_nil qval_some qbool_some qgs_bool qgs_und qfree_some qgrd_true qgrd_false qif_true qif_false qval_ite qval_itn qand_true map_ite map_some' map_none' qdo_move qdo_assign qdo_binOp qdo_pick qdo_unOp qdo_convert qdo_extract qdo_field qdo_fieldAddr qdo_alloc qdo_box qdo_build qdo_buildSlice qdo_load qdo_store qdo_nilCheck qdo_makeFunc qdo_makeSlice qdo_slice qdo_indexAddr qdo_call qcont_val qcont_new qcont_st qcont_app0 qcont_app qcont_inl qcont_call njSV_val njSV_nil njSV_row njSV_ptr njSV_sub binV_val binV_nil binV_nn binV_ptr bin_np bin_nnp nilCmp bin_add bin_sub bin_mul bin_quo bin_rem bin_and bin_or bin_xor bin_andNot bin_eql bin_neq bin_lss bin_leq bin_gtr bin_geq bin_shl bin_shr bin_seql bin_sneq bin_sadd bin_beql bin_aeql bin_aneq eqAnd_some eqCells_nil eqCells_cons fieldTypes isStruct eqCell bin_bneq un_not un_neg nj_ite Nat.beq stepA stepR isNew opSV constSV RV.sv allSome E_mu E_own qkeyIn_none qkeyIn_some qkeyAt_none qkeyAt_some Bool.or_false Bool.false_or Bool.or_true Bool.true_or cst setB res resSV pstart startL killL kill1 eraL frzL svPV rvPV rvInt rvSlice rvBytes frzOf close closeL pconv pbuiltin pmax2 partPV setCells fillPV zrow bound newSV PV.cells Bk.cells Bk.with SV.key pres presL_nil presL_tmp presL_cell presC2_some cellPV_ptr presC List.toList_toArray List.size_toArray List.getElem?_drop Nat.mul_one Int.toNat_natCast Nat.not_lt_zero Nat.lt_irrefl decide_true decide_false Nat.not_lt Option.some.injEq PV.lst.injEq PV.int.injEq PV.bool.injEq PV.tuple.injEq List.cons.injEq Option.map_some Option.map_none Option.bind_some Option.toList List.map_cons List.map_nil List.nil_append List.cons_append List.append_nil List.zip_cons_cons List.zip_nil_left List.zip_nil_right List.getElem?_cons_zero List.getElem?_cons_succ List.drop_zero List.drop_succ_cons List.take_succ_cons List.take_zero List.set_cons_zero List.set_cons_succ List.length_cons List.length_nil List.length_set List.replicate_one List.replicate_zero bne_self_eq_false beq_self_eq_true Nat.zero_add Nat.add_zero Nat.zero_mul Bool.false_eq_true Bool.true_eq_false Bool.not_true Bool.not_false and_true true_and false_and and_false or_false false_or or_true true_or not_true_eq_false not_false_eq_true ne_eq gt_iff_lt List.mem_cons List.not_mem_nil
attribute [local go_sem ↓] pseq_normal pseq_ret pseq_exit pblk_normal pblk_ret newDsts_cons inlDsts_cons gdst_zero gdst_succ retQ_normal retQ_ret qneed_nil qneed_cons retM_normal retM_ret endR_normal endR_ret endR_exit
attribute [local go_sem] Int.reduceToNat Int.reduceEq Int.reduceNe Int.reduceLT Int.reduceLE Int.reduceNeg Int.reduceAdd Nat.reduceEqDiff Nat.reduceAdd Nat.reduceSub Nat.reduceMul Nat.reduceLeDiff Nat.reduceLT
attribute [local go_sem ↓] reduceIte reduceCtorEq
/- Powers of ten. -/
section
open Go PG Go.Proofs
set_option maxRecDepth 100000
set_option linter.unusedSimpArgs false
set_option linter.unusedVariables false

theorem and1_i64 {a : Nat} (ha : a < 4611686018427387904) : bits .and .i64 (a : Int) 1 = ((a % 2 : Nat) : Int) := by
  have h1 : (BitVec.ofInt 64 (a : Int)).toNat = a := by
    rw [BitVec.ofInt_natCast, BitVec.toNat_ofNat]; exact Nat.mod_eq_of_lt (by omega)
  have h2 : (BitVec.ofInt 64 (1 : Int)).toNat = 1 := by decide
  show IntKind.i64.wrap ((BitVec.ofInt 64 (a : Int) &&& BitVec.ofInt 64 (1 : Int)).toNat : Int) = _
  rw [BitVec.toNat_and, h1, h2, Nat.and_one_is_mod, wrap64 (by omega) (by omega)]
theorem ten_bits (n : Nat) : bitLen (10 ^ n) ≤ 4 * n + 1 := by
  have := Nat.pow_le_pow_left (show 10 ≤ 2 ^ 4 by decide) n
  rw [← Nat.pow_mul] at this
  rw [bitLen_le, Nat.pow_succ]
  have := Nat.two_pow_pos (4 * n)
  omega
theorem ten_half (n j : Nat) : 10 ^ (n / 2 ^ (j + 1)) * 10 ^ (n / 2 ^ (j + 1)) = 10 ^ (2 * (n / 2 ^ (j + 1))) := by
  rw [← Nat.pow_add]; congr 1; omega
set_option maxHeartbeats 4000000 in
theorem k_Pow10 {n : Nat} (hn : n ≤ 6000) : PC E 56 [NN 10, .int .i64 n] (.tuple [NN (10 ^ n), .int .i64 0]) := by
  have k1 := k_Bare (num_bits (x := 10) (by decide))
  have k2 := k_Small (num_bits (x := 10) (by decide))
  have k3 := k_Bits (num_bits (x := 10) (by decide))
  have k4 := c_Of 1 (by decide)
  rw [if_pos (show 10 < W by decide), decide_eq_true (show 10 < W by decide)] at k2
  rw [show bitLen 10 = 4 from by decide +kernel] at k3
  by_cases h0 : n = 0
  · subst h0
    rw [Nat.pow_zero]
    simp only [u, NN, NL, Int.cast_ofNat_Int] at k1 k2 k3 k4 ⊢
    refine PC.of_body follows Tryz.func56 (by decide +kernel) rfl (by kernel_rfl) (Nat.le_of_ble_eq_true rfl) (walk ?_)
    simp only [Tryz.f56, Int.cast_ofNat_Int, go_sem]
    refine qcall_i (k1) ?_; simp only [Tryz.f56, Int.cast_ofNat_Int, go_sem]
    refine qcall_i (k2) ?_; simp only [Tryz.f56, Int.cast_ofNat_Int, go_sem]
    refine qcall_i (k4) ?_; simp only [Tryz.f56, Int.cast_ofNat_Int, go_sem]
    try rfl
  have k5 := c_BLen n (show n < 18446744073709551616 by omega)
  have hbl : bitLen n ≤ 13 := (bitLen_le n 13).2 (by omega)
  have hbl1 : n < 2 ^ bitLen n := (bitLen_le n (bitLen n)).1 (Nat.le_refl _)
  have pm : ∀ a b : Nat, bitLen a ≤ 40000 → bitLen b ≤ 40000 → PC E 55 [NN a, NN b] (NN (a * b)) := fun a b ha hb => by
    have h1 := w_of_bits (x := a) (n := 15625) (by omega)
    have h2 := w_of_bits (x := b) (n := 15625) (by omega)
    have := c_product (dg W a) (dg W b) (ok_dg W2 a) (ok_dg W2 b) (by omega) (by omega)
    rwa [show vl (dg W a) = a from dv_dg W2 a, show vl (dg W b) = b from dv_dg W2 b] at this
  have wK : IntKind.wrap .u64 (n : Int) = n := by rw [IntKind.wrap_u64]; omega
  have hk0 : ((n : Int) < 0) = False := eq_false (by omega)
  have hk1 : ((n : Int) = 0) = False := eq_false (by omega)
  have wb : IntKind.wrap .i64 ((bitLen n : Int) - 1) = ((bitLen n : Nat) : Int) - 1 := wrap64 (by omega) (by omega)
  obtain ⟨f, hf⟩ : ∃ f : Nat → Nat, ∀ j, 10 ^ (n / 2 ^ j) = f j := ⟨_, fun _ => rfl⟩
  have hfb : ∀ j, bitLen (f j) ≤ 24001 := fun j => by
    rw [← hf]
    have := ten_bits (n / 2 ^ j)
    have := Nat.div_le_self n (2 ^ j)
    omega
  have hf0 : f (bitLen n) = 1 := by rw [← hf, Nat.div_eq_of_lt hbl1, Nat.pow_zero]
  have hfn : f 0 = 10 ^ n := by rw [← hf, Nat.pow_zero, Nat.div_one]
  have hstep : ∀ j, (n / 2 ^ j % 2 = 1 → f (j + 1) * f (j + 1) * 10 = f j) ∧ (n / 2 ^ j % 2 = 0 → f (j + 1) * f (j + 1) = f j) := fun j => by
    have e : n / 2 ^ (j + 1) = n / 2 ^ j / 2 := by rw [Nat.pow_succ, Nat.div_div_eq_div_mul]
    rw [← hf, ← hf, ten_half, e]
    refine ⟨fun h => ?_, fun h => ?_⟩
    · rw [← Nat.pow_succ]; congr 1; omega
    · congr 1; omega
  rw [← hfn]
  have k4 : PC E 52 [.int .u64 1] (NN (f (bitLen n))) := by rw [hf0]; exact c_Of 1 (by decide)
  have p1 := fun j => pm (f j) (f j) (by have := hfb j; omega) (by have := hfb j; omega)
  have hsq : ∀ j, bitLen (f (j + 1) * f (j + 1)) ≤ 24001 := fun j => by
    rw [← hf, ten_half]
    have h1 := ten_bits (2 * (n / 2 ^ (j + 1)))
    have h2 : 2 * (n / 2 ^ (j + 1)) ≤ n := by
      have e : n / 2 ^ (j + 1) = n / 2 ^ j / 2 := by rw [Nat.pow_succ, Nat.div_div_eq_div_mul]
      have := Nat.div_le_self n (2 ^ j)
      omega
    omega
  have p2 := fun j => pm (f (j + 1) * f (j + 1)) 10 (by have := hsq j; omega) (by decide)
  have p3 := fun j => k_Bits (num_bits (x := f j) (by have := hfb j; omega))
  have hbn : ∀ j, n / 2 ^ j < 4611686018427387904 := fun j => Nat.lt_of_le_of_lt (Nat.div_le_self _ _) (by omega)
  have hshr : ∀ j : Nat, j ≤ 13 → (n : Int).fdiv (2 ^ min j 64) = ((n / 2 ^ j : Nat) : Int) := fun j hj => by
    rw [Nat.min_eq_left (by omega), Int.fdiv_eq_ediv_of_nonneg _ (Int.pow_nonneg (by decide))]
    simp
  clear pm hf hf0
  generalize bitLen n = L at *
  simp only [u, NN, NL] at k1 k2 k3 k4 k5 p1 p2 p3 ⊢
  rw [show ((10 : Nat) : Int) = 10 from rfl] at k2
  rw [show ((4 : Nat) : Int) = 4 from rfl] at k3
  refine PC.of_body follows Tryz.func56 (by decide +kernel) rfl (by kernel_rfl) (Nat.le_of_ble_eq_true rfl) (walk ?_)
  simp only [Tryz.f56, go_sem]
  refine qcall_i (k1) ?_; simp only [Tryz.f56, go_sem]
  refine qcall_i (k2) ?_; simp only [Tryz.f56, hk0, hk1, go_sem]
  try (refine qif_df (by omega) ?_; simp only [Tryz.f56, go_sem])
  refine qcall_i (k3) ?_; simp only [Tryz.f56, go_sem]
  have wq : IntKind.wrap .i64 (Int.tdiv 65535 3) = 21845 := by decide
  have w43 : IntKind.wrap .i64 (4 - 1) = 3 := by decide
  refine qand_i (by first | omega | (simp [V_length, U_length, tab_length, maxLen]; done) | (simp [V_length, U_length, tab_length, maxLen]; omega) | (refine ⟨?_, ?_⟩ <;> first | omega | (simp [V_length, U_length, tab_length, maxLen]; done) | (simp [V_length, U_length, tab_length, maxLen]; omega))) ?_; simp only [Tryz.f56, w43, wq, go_sem]
  refine qif_df (by omega) ?_
  simp only [Tryz.f56, go_sem]
  refine qcall_i (k4) ?_; simp only [Tryz.f56, wK, go_sem]
  refine qcall_i (k5) ?_; simp only [Tryz.f56, wK, wb, go_sem]
  refine PLoop.intro (fun j : Nat => ⟨[(0, .val (.lst (dg W 10).length (U (dg W 10)))), (1, .val (.int .i64 n)), (8, .val (.lst (dg W (f j)).length (U (dg W (f j))))), (9, .val (.int .i64 ((j : Int) - 1)))], []⟩) (fun j => j ≤ L) (fun j => j) L (Nat.le_refl _) ?_ fun j hj => walk ?_
  · simp [Wk, sget, killL, kill1, SV.key]
  rcases j with _ | j
  · simp only [Tryz.f56, go_sem]
    refine qif_df (by omega) ?_
    simp only [Tryz.f56, go_sem]
    try rfl
  · have e1 : (((j + 1 : Nat) : Int) - 1) = (j : Nat) := by omega
    rw [e1]
    have hs := hshr j (by omega)
    have hb := and1_i64 (hbn j)
    have wj : IntKind.wrap .i64 ((j : Int) - 1) = (j : Int) - 1 := wrap64 (by omega) (by omega)
    have q1 := p1 (j + 1)
    have q2 := p2 j
    have q3 := p3 j
    have hfj := hfb j
    have st := hstep j
    have hm2 : n / 2 ^ j % 2 < 2 := Nat.mod_lt _ (by decide)
    generalize n / 2 ^ j % 2 = bt at *
    generalize n / 2 ^ j = nj at *
    simp only [Tryz.f56, go_sem]
    refine qif_dt (by omega) ?_
    simp only [Tryz.f56, go_sem]
    refine qcall_i (q1) ?_; simp only [Tryz.f56, go_sem]
    refine qand_i (by first | omega | (simp [V_length, U_length, tab_length, maxLen]; done) | (simp [V_length, U_length, tab_length, maxLen]; omega) | (refine ⟨?_, ?_⟩ <;> first | omega | (simp [V_length, U_length, tab_length, maxLen]; done) | (simp [V_length, U_length, tab_length, maxLen]; omega))) ?_; simp only [Tryz.f56, hs, hb, go_sem]
    refine qif_d (fun h => ?_) (fun h => ?_)
    · have h1 : bt = 1 := by omega
      have e2 := st.1 h1
      rw [e2] at q2
      simp only [Tryz.f56, go_sem]
      refine qcall_i (q2) ?_; simp only [Tryz.f56, go_sem]
      refine qcall_i (q3) ?_; simp only [Tryz.f56, go_sem]
      refine qif_df (by omega) ?_
      simp only [Tryz.f56, wj, go_sem]
      refine ⟨j, by omega, by omega, ?_⟩
      simp [Wk, sget, killL, kill1, SV.key]
    · have h1 : bt = 0 := by omega
      have e2 := st.2 h1
      rw [e2]
      simp only [Tryz.f56, go_sem]
      refine qcall_i (q3) ?_; simp only [Tryz.f56, go_sem]
      refine qif_df (by omega) ?_
      simp only [Tryz.f56, wj, go_sem]
      refine ⟨j, by omega, by omega, ?_⟩
      simp [Wk, sget, killL, kill1, SV.key]
theorem k_ten {n : Nat} (hn : n ≤ 6000) : PC E 22 [.int .i64 n] (NN (10 ^ n)) := by
  have k1 := c_Of 10 (by decide)
  have k2 := k_Pow10 hn
  rw [show u 10 = .int .u64 10 from rfl] at k1
  simp only [NN, NL] at k1 k2 ⊢
  refine PC.of_body follows Tryz.func22 (by decide +kernel) rfl (by kernel_rfl) (Nat.le_of_ble_eq_true rfl) (walk ?_)
  simp only [Tryz.f22, go_sem]
  refine qcall_i (k1) ?_; simp only [Tryz.f22, go_sem]
  refine qcall_i (k2) ?_; simp only [Tryz.f22, go_sem]
  try rfl
end

/- decimal: digits, numbers. -/
section
open Go PG Go.Proofs Go.RowKit
set_option maxRecDepth 100000
set_option linter.unusedSimpArgs false
set_option linter.unusedVariables false

theorem d_digits {l : List UInt8} (hl : l.length ≤ 100000) : PC E 48 [TX l] (.bool (decide (l ≠ []) && l.all dgt)) := by
  have k2 := s_Trim l DIG (by decide) (by decide) (by decide) (by omega)
  have hT : trimL (inS DIG) (trimR (inS DIG) l) = [] ↔ l.all dgt = true := by
    rw [trim_nil, show inS DIG = dgt from funext inS_dig]
  generalize trimL (inS DIG) (trimR (inS DIG) l) = T at *
  generalize l.all dgt = b at *
  simp only [TX, DIG] at k2 ⊢
  refine PC.of_body follows Tryz.func48 (by decide +kernel) rfl (by kernel_rfl) (Nat.le_of_ble_eq_true rfl) (walk ?_)
  simp only [Tryz.f48, B8_size, B8_cut, B8_eq, B8_mk, B8_app, Int.toNat_natCast, go_sem]
  by_cases h0 : l = []
  · try (refine qif_df (fun h => h h0) ?_; simp only [Tryz.f48, B8_size, B8_cut, B8_eq, B8_mk, B8_app, Int.toNat_natCast, go_sem])
    rw [decide_eq_false (fun h => h h0), Bool.false_and]
    try rfl
  · try (refine qif_dt h0 ?_; simp only [Tryz.f48, B8_size, B8_cut, B8_eq, B8_mk, B8_app, Int.toNat_natCast, go_sem])
    refine qcall_i (k2) ?_; simp only [Tryz.f48, B8_size, B8_cut, B8_eq, B8_mk, B8_app, Int.toNat_natCast, go_sem]
    rw [decide_eq_true h0, Bool.true_and]
    cases b
    · exact (decide_eq_false (fun h => by have := hT.1 h; cases this))
    · exact (decide_eq_true (hT.2 rfl))
theorem dn_app (a b : List UInt8) : dn (a ++ b) = dn a * 10 ^ b.length + dn b := by
  have gen : ∀ (b : List UInt8) (n : Nat), b.foldl (fun n c => n * 10 + (c.toNat - 48)) n = n * 10 ^ b.length + dn b := by
    intro b
    induction b with
    | nil => intro n; show n = n * 10 ^ 0 + 0; simp
    | cons c b ih =>
      intro n
      show b.foldl (fun n c => n * 10 + (c.toNat - 48)) (n * 10 + (c.toNat - 48)) = n * 10 ^ (b.length + 1) + b.foldl (fun n c => n * 10 + (c.toNat - 48)) (0 * 10 + (c.toNat - 48))
      rw [ih, ih, Nat.pow_succ]
      generalize 10 ^ b.length = p
      generalize c.toNat - 48 = d
      rw [Nat.add_mul, Nat.zero_mul, Nat.zero_add, Nat.mul_assoc, Nat.mul_comm 10 p, Nat.add_assoc]
  unfold dn
  rw [List.foldl_append, gen]
  rfl
theorem uintM_dn : ∀ (l : List UInt8) (acc : Nat), l.all dgt = true → (acc + 1) * 10 ^ l.length ≤ 1000000000000000000 → Lib.parseUintM (2 ^ 64 - 1) acc l = .ok (acc * 10 ^ l.length + dn l)
  | [], acc, _, _ => by show _ = Lib.NumEnd.ok (acc * 10 ^ 0 + 0); rw [Nat.pow_zero, Nat.mul_one]; rfl
  | c :: l, acc, h, hb => by
    rw [List.all_cons, Bool.and_eq_true] at h
    have hd := of_decide_eq_true h.1
    rw [List.length_cons, Nat.pow_succ] at hb
    have hp : 1 ≤ 10 ^ l.length := Nat.one_le_pow _ _ (by decide)
    have e : dn (c :: l) = (c.toNat - 48) * 10 ^ l.length + dn l := by
      have := dn_app [c] l
      rw [show [c] ++ l = c :: l from rfl, show dn [c] = 0 * 10 + (c.toNat - 48) from rfl, Nat.zero_mul, Nat.zero_add] at this
      exact this
    have hb2 : (acc + 1) * 10 ≤ 1000000000000000000 := by
      have h2 : (acc + 1) * 10 * 1 ≤ (acc + 1) * 10 * 10 ^ l.length := Nat.mul_le_mul_left _ hp
      rw [Nat.mul_one, Nat.mul_assoc, Nat.mul_comm 10 (10 ^ l.length)] at h2
      exact Nat.le_trans h2 hb
    have ih := uintM_dn l (acc * 10 + (c.toNat - 48)) h.2 (by
      refine Nat.le_trans (Nat.mul_le_mul_right _ (show acc * 10 + (c.toNat - 48) + 1 ≤ (acc + 1) * 10 by omega)) ?_
      rw [Nat.mul_assoc, Nat.mul_comm 10 (10 ^ l.length)]
      exact hb)
    unfold Lib.parseUintM
    rw [if_pos hd, if_neg (by omega), if_neg (by omega), ih, e, List.length_cons, Nat.pow_succ]
    congr 1
    generalize 10 ^ l.length = p
    generalize c.toNat - 48 = d
    rw [Nat.add_mul, Nat.mul_assoc, Nat.mul_comm 10 p, Nat.add_assoc]
theorem two_i {g : Addr → Option Value} {s : ByteArray} {a b : Int} {vs : Array Value} (hs : vs.size = 3) (h : ∀ (j : Nat) p x, [PV.str s, PV.int .i64 a, PV.int .i64 b][j]? = some p → vs[j]? = some x → Rep g p x) : vs = #[.string s, .int .i64 a, .int .i64 b] := by
  have h0 := (h 0 _ _ rfl (Array.getElem?_eq_getElem (by omega)) : Rep g (.str s) vs[0]).str_inv
  have h1 := (h 1 _ _ rfl (Array.getElem?_eq_getElem (by omega)) : Rep g (.int .i64 a) vs[1]).int_inv
  have h2 := (h 2 _ _ rfl (Array.getElem?_eq_getElem (by omega)) : Rep g (.int .i64 b) vs[2]).int_inv
  refine Array.ext (by simp [hs]) fun i hi hj => ?_
  have : i = 0 ∨ i = 1 ∨ i = 2 := by omega
  rcases this with rfl | rfl | rfl <;> simp [h0, h1, h2]
theorem s_ParseUint10 {l : List UInt8} (h0 : l ≠ []) (h : l.all dgt = true) (hl : l.length ≤ 18) : PC E 50 [TX l, .int .i64 10, .int .i64 64] (.tuple [u (dn l), .any]) := by
  refine PC.of_calls (fun g vs hs h => two_i hs h) (enters_of Tryz.func50 (by kernel_rfl) rfl) fun w Pr hG => ?_
  have hp : 10 ^ l.length ≤ 10 ^ 18 := Nat.pow_le_pow_right (by decide) hl
  have h1 := uintM_dn l 0 h (by rw [Nat.zero_add, Nat.one_mul]; exact Nat.le_trans hp (by decide))
  rw [Nat.zero_mul, Nat.zero_add] at h1
  refine (Tryz.strconv_ParseUint_10_at64_ok (B8 l) (by rw [B8_size]; omega) (dn l) (by
    rw [B8_data]
    unfold Lib.parseUintB
    rw [if_neg h0]
    exact h1) w).mono ?_
  rintro e w' ⟨rfl, h2⟩
  refine ⟨_, rfl, fun g => Rep.tuple _ _ rfl fun j p x hp hx => ?_, ?_⟩
  · match j with
    | 0 => cases hp; cases hx; exact .int _ _
    | 1 => cases hp; cases hx; exact .any _
    | j + 2 => simp at hp
  · rcases h2 with rfl | rfl
    · exact Below.refl _ _
    · exact Lib.bytesWorld_below w _ _
set_option maxHeartbeats 1000000 in
theorem d_number {l : List UInt8} (h : l.all dgt = true) (hl : l.length ≤ 2000) : PC E 20 [TX l] (NN (dn l)) := by
  have z0 : NN 0 = .lst 0 [] := rfl
  have hdl : ∀ i, bitLen (dn (l.take i)) ≤ 8001 := fun i => by
    have h1 : (l.take i).all dgt = true := by
      have := List.take_append_drop i l
      rw [← this, List.all_append, Bool.and_eq_true] at h
      exact h.1
    have h2 := dn_lt _ h1
    have h3 := ten_bits (l.take i).length
    have h4 : bitLen (dn (l.take i)) ≤ bitLen (10 ^ (l.take i).length) := by
      rw [bitLen_le]
      exact Nat.lt_trans h2 ((bitLen_le _ _).1 (Nat.le_refl _))
    rw [List.length_take] at h3 h4
    omega
  simp only [TX]
  refine PC.of_body follows Tryz.func20 (by decide +kernel) rfl (by kernel_rfl) (Nat.le_of_ble_eq_true rfl) (walk ?_)
  simp only [Tryz.f20, B8_size, B8_cut, B8_eq, B8_mk, B8_app, Int.toNat_natCast, go_sem]
  refine PLoop.nilval 3 rfl ?_
  refine PLoop.intro (fun i : Nat => ⟨[(0, .val (.str (B8 (l.drop i)))), (3, .val (NN (dn (l.take i))))], []⟩) (fun i => i ≤ l.length) (fun i => l.length - i) 0 (Nat.zero_le _) ?_ fun i hi => walk ?_
  · rw [List.drop_zero, List.take_zero, show dn [] = 0 from rfl, z0]
    simp [Wk, sget, killL, kill1, SV.key]
  have hsd : (l.drop i).all dgt = true := by
    have := List.take_append_drop i l
    rw [← this, List.all_append, Bool.and_eq_true] at h
    exact h.2
  by_cases hlt : i < l.length
  · obtain ⟨k, hk⟩ : ∃ k, k = min (l.length - i) 18 := ⟨_, rfl⟩
    have hk1 : 1 ≤ k ∧ k ≤ 18 ∧ i + k ≤ l.length := by omega
    have ek : min ((l.length - i : Nat) : Int) 18 = (k : Nat) := by omega
    have hcl : ((l.drop i).take k).length = k := by rw [List.length_take, List.length_drop]; omega
    have hca : ((l.drop i).take k).all dgt = true := by
      have := List.take_append_drop k (l.drop i)
      rw [← this, List.all_append, Bool.and_eq_true] at hsd
      exact hsd.1
    have k1 := s_ParseUint10 (l := (l.drop i).take k) (fun e => by rw [e] at hcl; simp at hcl; omega) hca (by omega)
    have k2 := k_ten (n := k) (by omega)
    have hx := hdl i
    have hy := ten_bits k
    have hu := dn_lt _ hca
    rw [hcl] at hu
    have hu2 : dn ((l.drop i).take k) < W := Nat.lt_of_lt_of_le hu (Nat.le_trans (Nat.pow_le_pow_right (by decide) hk1.2.1) (by decide))
    have k3 : PC E 21 [NN (dn (l.take i)), NN (10 ^ k)] (.tuple [NN (dn (l.take i) * 10 ^ k), .int .i64 0]) := by
      have := k_prodMul (num_bits (x := dn (l.take i)) (by omega)) (num_bits (x := 10 ^ k) (by omega)) (by omega) (by omega)
      unfold pmV at this
      by_cases h0 : dn (l.take i) = 0
      · rw [if_pos (.inl h0)] at this
        rw [h0, Nat.zero_mul, z0]
        rw [h0] at this
        exact this
      · have hp := Nat.two_pow_pos k
        rw [if_neg (by
          intro hh
          rcases hh with hh | hh
          · exact h0 hh
          · exact absurd hh (Nat.ne_of_gt (Nat.pow_pos (by decide)))), if_pos (by omega)] at this
        exact this
    have k4 := c_Of (dn ((l.drop i).take k)) hu2
    have hm : bitLen (dn (l.take i) * 10 ^ k) ≤ 9000 := by
      have := bitLen_mul_le (dn (l.take i)) (10 ^ k)
      omega
    have hb64 : bitLen (dn ((l.drop i).take k)) ≤ 64 := (bitLen_le _ 64).2 hu2
    have k5 := k_Add (num_bits (x := dn (l.take i) * 10 ^ k) (by omega)) (num_bits (x := dn ((l.drop i).take k)) (by omega))
    have e5 : dn (l.take i) * 10 ^ k + dn ((l.drop i).take k) = dn (l.take (i + k)) := by
      rw [List.take_add, dn_app, hcl]
    rw [e5] at k5
    simp only [u, TX, NN, NL] at k1 k2 k3 k4 k5 ⊢
    simp only [Tryz.f20, B8_size, B8_cut, B8_eq, B8_mk, B8_app, Int.toNat_natCast, List.length_drop, go_sem]
    refine qif_dt (by omega) ?_
    simp only [Tryz.f20, B8_size, B8_cut, B8_eq, B8_mk, B8_app, Int.toNat_natCast, List.length_drop, ek, go_sem]
    try rw [ek]
    refine qand_i (by omega) ?_
    simp only [Tryz.f20, B8_size, B8_cut, B8_eq, B8_mk, B8_app, Int.toNat_natCast, List.length_drop, ek, List.drop_zero, go_sem]
    refine qcall_i (k1) ?_; simp only [Tryz.f20, B8_size, B8_cut, B8_eq, B8_mk, B8_app, Int.toNat_natCast, List.length_drop, ek, go_sem]
    refine qcall_i (k2) ?_; simp only [Tryz.f20, B8_size, B8_cut, B8_eq, B8_mk, B8_app, Int.toNat_natCast, go_sem]
    refine qcall_i (k3) ?_; simp only [Tryz.f20, B8_size, B8_cut, B8_eq, B8_mk, B8_app, Int.toNat_natCast, go_sem]
    refine qcall_i (k4) ?_; simp only [Tryz.f20, B8_size, B8_cut, B8_eq, B8_mk, B8_app, Int.toNat_natCast, go_sem]
    refine qcall_i (k5) ?_; simp only [Tryz.f20, B8_size, B8_cut, B8_eq, B8_mk, B8_app, Int.toNat_natCast, go_sem]
    refine qand_i (by rw [List.length_drop]; omega) ?_
    simp only [Tryz.f20, B8_size, B8_cut, B8_eq, B8_mk, B8_app, Int.toNat_natCast, go_sem]
    refine ⟨i + k, by omega, by omega, ?_⟩
    rw [List.take_length, List.drop_drop]
    simp [Wk, sget, killL, kill1, SV.key]
    rfl
  · have he : i = l.length := by omega
    subst he
    rw [List.take_length]
    simp only [NN, NL]
    simp only [Tryz.f20, B8_size, B8_cut, B8_eq, B8_mk, B8_app, Int.toNat_natCast, List.length_drop, go_sem]
    refine qif_df (by omega) ?_
    simp only [Tryz.f20, B8_size, B8_cut, B8_eq, B8_mk, B8_app, Int.toNat_natCast, go_sem]
    try rfl
/-- A text's special worth. -/
theorem d_special (l : List UInt8) : PC E 18 [TX l] (.tuple [.int .u64 (wordV l : Nat), .bool (isW l)]) := by
  unfold wordV isW wNaN wInf wNeg
  simp only [TX]
  refine PC.of_body follows Tryz.func18 (by decide +kernel) rfl (by kernel_rfl) (Nat.le_of_ble_eq_true rfl) (walk ?_)
  simp only [Tryz.f18, B8_size, B8_cut, B8_eq, B8_mk, B8_app, Int.toNat_natCast, go_sem]
  refine qif_d (fun h2 => ?_) (fun h2 => ?_)
  · simp only [Tryz.f18, B8_size, B8_cut, B8_eq, B8_mk, B8_app, Int.toNat_natCast, go_sem]
    rw [h2]
    exact ⟨rfl, rfl⟩
  simp only [Tryz.f18, B8_size, B8_cut, B8_eq, B8_mk, B8_app, Int.toNat_natCast, go_sem]
  refine qif_d (fun h3 => ?_) (fun h3 => ?_)
  · simp only [Tryz.f18, B8_size, B8_cut, B8_eq, B8_mk, B8_app, Int.toNat_natCast, go_sem]
    rw [h3]
    exact ⟨rfl, rfl⟩
  simp only [Tryz.f18, B8_size, B8_cut, B8_eq, B8_mk, B8_app, Int.toNat_natCast, go_sem]
  refine qif_d (fun h1 => ?_) (fun h1 => ?_)
  · simp only [Tryz.f18, B8_size, B8_cut, B8_eq, B8_mk, B8_app, Int.toNat_natCast, go_sem]
    rw [h1]
    exact ⟨rfl, rfl⟩
  simp only [Tryz.f18, B8_size, B8_cut, B8_eq, B8_mk, B8_app, Int.toNat_natCast, go_sem]
  rw [if_neg h1, if_neg h2, if_neg h3, decide_eq_false h1, decide_eq_false h2, decide_eq_false h3]
  exact ⟨rfl, rfl⟩
end

/- decimal.read: a text's parts. -/
section
open Go PG Go.Proofs Go.RowKit
set_option maxRecDepth 100000
set_option linter.unusedSimpArgs false
set_option linter.unusedVariables false

/-- What Atoi hands back beside its error. -/
def atoiV (l : List UInt8) : Int := match Lib.atoiAll l with | .ok v => v | .range => Lib.atoiSat l | _ => 0
theorem uint10_dn : ∀ (l : List UInt8) (acc : Nat), l.all dgt = true → (acc + 1) * 10 ^ l.length ≤ 1000000000000000000 → Lib.parseUint10 acc l = .ok (acc * 10 ^ l.length + dn l)
  | [], acc, _, _ => by show _ = Lib.NumEnd.ok (acc * 10 ^ 0 + 0); rw [Nat.pow_zero, Nat.mul_one]; rfl
  | c :: l, acc, h, hb => by
    rw [List.all_cons, Bool.and_eq_true] at h
    have hd := of_decide_eq_true h.1
    rw [List.length_cons, Nat.pow_succ] at hb
    have hp : 1 ≤ 10 ^ l.length := Nat.one_le_pow _ _ (by decide)
    have e : dn (c :: l) = (c.toNat - 48) * 10 ^ l.length + dn l := by
      have := dn_app [c] l
      rw [show [c] ++ l = c :: l from rfl, show dn [c] = 0 * 10 + (c.toNat - 48) from rfl, Nat.zero_mul, Nat.zero_add] at this
      exact this
    have hb2 : (acc + 1) * 10 ≤ 1000000000000000000 := by
      have h2 : (acc + 1) * 10 * 1 ≤ (acc + 1) * 10 * 10 ^ l.length := Nat.mul_le_mul_left _ hp
      rw [Nat.mul_one, Nat.mul_assoc, Nat.mul_comm 10 (10 ^ l.length)] at h2
      exact Nat.le_trans h2 hb
    have ih := uint10_dn l (acc * 10 + (c.toNat - 48)) h.2 (by
      refine Nat.le_trans (Nat.mul_le_mul_right _ (show acc * 10 + (c.toNat - 48) + 1 ≤ (acc + 1) * 10 by omega)) ?_
      rw [Nat.mul_assoc, Nat.mul_comm 10 (10 ^ l.length)]
      exact hb)
    unfold Lib.parseUint10
    rw [if_pos hd, if_neg (by omega), if_neg (by omega), ih, e, List.length_cons, Nat.pow_succ]
    congr 1
    generalize 10 ^ l.length = p
    generalize c.toNat - 48 = d
    rw [Nat.add_mul, Nat.mul_assoc, Nat.mul_comm 10 p, Nat.add_assoc]
theorem atoiV_dn {l : List UInt8} (h0 : l ≠ []) (h : l.all dgt = true) (hl : l.length ≤ 18) : atoiV l = (dn l : Nat) := by
  have hp : 10 ^ l.length ≤ 10 ^ 18 := Nat.pow_le_pow_right (by decide) hl
  have h1 := uint10_dn l 0 h (by rw [Nat.zero_add, Nat.one_mul]; exact Nat.le_trans hp (by decide))
  rw [Nat.zero_mul, Nat.zero_add] at h1
  have h2 := dn_lt _ h
  have h3 : dn l < 1000000000000000000 := Nat.lt_of_lt_of_le h2 (Nat.le_trans hp (by decide))
  cases l with
  | nil => exact absurd rfl h0
  | cons c r =>
    rw [List.all_cons, Bool.and_eq_true] at h
    have hd := of_decide_eq_true h.1
    have e : Lib.atoiAll (c :: r) = .ok ((dn (c :: r) : Nat) : Int) := by
      unfold Lib.atoiAll Lib.parseMag
      simp only
      rw [if_neg (show ¬ (c.toNat = 43 ∨ c.toNat = 45) by omega), if_neg (by simp), h1]
      simp only
      rw [if_neg (by omega), if_neg (by omega), if_neg (by omega)]
    unfold atoiV
    rw [e]
/-- The parts of a text of decimal digits. -/
def dcN (l : List UInt8) : Bool := hasP l [45]
def dcR (l : List UInt8) : List UInt8 := if hasP l [45] = true then l.drop [(45 : UInt8)].length else l
def dcB (l : List UInt8) : List UInt8 := cutA 101 (dcR l)
def dcX (l : List UInt8) : List UInt8 := cutB 101 (dcR l)
def dcH (l : List UInt8) : Bool := hasC 101 (dcR l)
def dcW (l : List UInt8) : List UInt8 := cutA 46 (dcB l)
def dcF (l : List UInt8) : List UInt8 := cutB 46 (dcB l)
def dcP (l : List UInt8) : Bool := hasC 46 (dcB l)
def digs (l : List UInt8) : Bool := decide (l ≠ []) && l.all dgt
def dcOk1 (l : List UInt8) : Bool := digs (dcW l) && (!dcP l || digs (dcF l))
def dcOk2 (l : List UInt8) : Bool := !dcH l || (digs (expS (dcX l)) && (decide ((expS (dcX l)).length ≤ 4) && decide (dn (expS (dcX l)) ≤ 2000)))
def dcOk (l : List UInt8) : Bool := dcOk1 l && dcOk2 l
def dcE (l : List UInt8) : Int := (if dcH l = true then (if hasP (dcX l) [45] = true then -((dn (expS (dcX l)) : Nat) : Int) else ((dn (expS (dcX l)) : Nat) : Int)) else 0) - ((dcF l).length : Nat)
set_option maxHeartbeats 2000000 in
theorem d_read (kA : ∀ s : List UInt8, s.length ≤ 1000 → PC E 49 [TX s] (.tuple [.int .i64 (atoiV s), .any])) {l : List UInt8} (hl : l.length ≤ 800) :
    PC E 19 [TX l] (if dcOk l = true then .tuple [.agg [.bool (dcN l), TX (dcW l ++ dcF l), .int .i64 (dcE l), TX []], .bool true] else .tuple [.agg [.bool false, TX [], .int .i64 0, TX []], .bool false]) := by
  obtain ⟨R, hR⟩ : ∃ R, R = (if dcOk l = true then PV.tuple [.agg [.bool (dcN l), TX (dcW l ++ dcF l), .int .i64 (dcE l), TX []], .bool true] else .tuple [.agg [.bool false, TX [], .int .i64 0, TX []], .bool false]) := ⟨_, rfl⟩
  rw [← hR]
  have hr1 : (dcR l).length ≤ l.length := by unfold dcR; split <;> simp
  have hr2 := cut_len 101 (dcR l)
  have hr3 := cut_len 46 (dcB l)
  have hr4 : (dcB l).length ≤ (dcR l).length := hr2.1
  have hr5 : (dcX l).length ≤ (dcR l).length := hr2.2
  have hr6 := expS_le (dcX l)
  have k1 := s_CutPrefix l [45]
  rw [show (if hasP l [45] = true then l.drop [(45 : UInt8)].length else l) = dcR l from rfl, show hasP l [45] = dcN l from rfl] at k1
  have k2 := s_Cut (dcR l) 101 (by omega)
  rw [show cutA 101 (dcR l) = dcB l from rfl, show cutB 101 (dcR l) = dcX l from rfl, show hasC 101 (dcR l) = dcH l from rfl] at k2
  have k3 := s_Cut (dcB l) 46 (by omega)
  rw [show cutA 46 (dcB l) = dcW l from rfl, show cutB 46 (dcB l) = dcF l from rfl, show hasC 46 (dcB l) = dcP l from rfl] at k3
  have hW : (dcW l).length ≤ 800 := Nat.le_trans hr3.1 (by omega)
  have hF : (dcF l).length ≤ 800 := Nat.le_trans hr3.2 (by omega)
  have k4 := d_digits (l := dcW l) (by omega)
  have k5 := d_digits (l := dcF l) (by omega)
  rw [show (decide (dcW l ≠ []) && (dcW l).all dgt) = digs (dcW l) from rfl] at k4
  rw [show (decide (dcF l ≠ []) && (dcF l).all dgt) = digs (dcF l) from rfl] at k5
  have k6 := s_CutPrefix (dcX l) [45]
  rw [show (if hasP (dcX l) [45] = true then (dcX l).drop [(45 : UInt8)].length else dcX l) = expS (dcX l) from rfl] at k6
  have k7 := kA (expS (dcX l)) (by omega)
  have k8 := d_digits (l := expS (dcX l)) (by omega)
  rw [show (decide (expS (dcX l) ≠ []) && (expS (dcX l)).all dgt) = digs (expS (dcX l)) from rfl] at k8
  have hok : dcOk l = ((digs (dcW l) && (!dcP l || digs (dcF l))) && (!dcH l || (digs (expS (dcX l)) && (decide ((expS (dcX l)).length ≤ 4) && decide (dn (expS (dcX l)) ≤ 2000))))) := rfl
  have hE : dcE l = (if dcH l = true then (if hasP (dcX l) [45] = true then -((dn (expS (dcX l)) : Nat) : Int) else ((dn (expS (dcX l)) : Nat) : Int)) else 0) - ((dcF l).length : Nat) := rfl
  have hav : digs (expS (dcX l)) = true → (expS (dcX l)).length ≤ 4 → atoiV (expS (dcX l)) = (dn (expS (dcX l)) : Nat) ∧ dn (expS (dcX l)) < 10000 := fun h1 h2 => by
    unfold digs at h1
    rw [Bool.and_eq_true, decide_eq_true_eq] at h1
    refine ⟨atoiV_dn h1.1 h1.2 (by omega), ?_⟩
    exact Nat.lt_of_lt_of_le (dn_lt _ h1.2) (Nat.pow_le_pow_right (n := 10) (by decide) h2)
  rw [hok, hE] at hR
  clear hok hE hr1 hr2 hr3 hr4 hr5 hr6
  generalize hasP (dcX l) [45] = bm at *
  generalize atoiV (expS (dcX l)) = av at *
  generalize dn (expS (dcX l)) = dv at *
  generalize digs (expS (dcX l)) = b3 at *
  generalize digs (dcF l) = b2 at *
  generalize digs (dcW l) = b1 at *
  generalize expS (dcX l) = sx at *
  generalize dcX l = tx at *
  generalize dcP l = bp at *
  generalize dcH l = bh at *
  generalize dcN l = bn at *
  generalize dcW l = sw at *
  generalize dcF l = sf at *
  generalize dcB l = sb at *
  generalize dcR l = sr at *
  simp only [TX] at k1 k2 k3 k4 k5 k6 k7 k8 hR ⊢
  refine PC.of_body follows Tryz.func19 (by decide +kernel) rfl (by kernel_rfl) (Nat.le_of_ble_eq_true rfl) (walk ?_)
  simp only [Tryz.f19, B8_size, B8_cut, B8_eq, B8_mk, B8_app, Int.toNat_natCast, go_sem]
  refine qcall_i (k1) ?_; simp only [Tryz.f19, B8_size, B8_cut, B8_eq, B8_mk, B8_app, Int.toNat_natCast, go_sem]
  refine qcall_i (k2) ?_; simp only [Tryz.f19, B8_size, B8_cut, B8_eq, B8_mk, B8_app, Int.toNat_natCast, go_sem]
  refine qcall_i (k3) ?_; simp only [Tryz.f19, B8_size, B8_cut, B8_eq, B8_mk, B8_app, Int.toNat_natCast, go_sem]
  refine qcall_i (k4) ?_; simp only [Tryz.f19, B8_size, B8_cut, B8_eq, B8_mk, B8_app, Int.toNat_natCast, go_sem]
  cases b1
  case false =>
    rw [Bool.false_and, Bool.false_and, if_neg (by decide)] at hR
    simp only [Tryz.f19, B8_size, B8_cut, B8_eq, B8_mk, B8_app, Int.toNat_natCast, go_sem]
    rw [hR]
  case true =>
    cases bp
    · simp only [Tryz.f19, B8_size, B8_cut, B8_eq, B8_mk, B8_app, Int.toNat_natCast, go_sem]
      refine qand_i (by rw [show maxLen = 9223372036854775807 from rfl]; omega) ?_
      simp only [Tryz.f19, B8_size, B8_cut, B8_eq, B8_mk, B8_app, Int.toNat_natCast, go_sem]
      cases bh
      · simp only [Tryz.f19, B8_size, B8_cut, B8_eq, B8_mk, B8_app, Int.toNat_natCast, go_sem]
        have y1 : IntKind.wrap .i64 (0 - (sf.length : Int)) = 0 - (sf.length : Int) := wrap64 (by omega) (by omega)
        simp only [Bool.not_false, Bool.true_or, Bool.and_self, if_true, Bool.false_eq_true, if_false, Bool.not_false, Bool.true_or] at hR
        simp only [Tryz.f19, B8_size, B8_cut, B8_eq, B8_mk, B8_app, Int.toNat_natCast, y1, go_sem]
        rw [hR]
      · simp only [Tryz.f19, B8_size, B8_cut, B8_eq, B8_mk, B8_app, Int.toNat_natCast, go_sem]
        refine qcall_i (k6) ?_; simp only [Tryz.f19, B8_size, B8_cut, B8_eq, B8_mk, B8_app, Int.toNat_natCast, go_sem]
        refine qcall_i (k7) ?_; simp only [Tryz.f19, B8_size, B8_cut, B8_eq, B8_mk, B8_app, Int.toNat_natCast, go_sem]
        refine qcall_i (k8) ?_; simp only [Tryz.f19, B8_size, B8_cut, B8_eq, B8_mk, B8_app, Int.toNat_natCast, go_sem]
        cases b3
        · simp only [Bool.not_true, Bool.false_or, Bool.and_self, Bool.true_and, Bool.and_true, Bool.false_and, Bool.and_false, Bool.false_eq_true, if_false, Bool.not_false, Bool.true_or] at hR
          simp only [Tryz.f19, B8_size, B8_cut, B8_eq, B8_mk, B8_app, Int.toNat_natCast, go_sem]
          rw [hR]
        · have hav := hav rfl
          simp only [Tryz.f19, B8_size, B8_cut, B8_eq, B8_mk, B8_app, Int.toNat_natCast, go_sem]
          by_cases h4 : sx.length ≤ 4
          · obtain ⟨e1, e2⟩ := hav h4
            subst e1
            refine qif_df (by omega) ?_
            simp only [Tryz.f19, B8_size, B8_cut, B8_eq, B8_mk, B8_app, Int.toNat_natCast, go_sem]
            by_cases h20 : dv ≤ 2000
            · rw [decide_eq_true h4, decide_eq_true h20] at hR
              simp only [Bool.not_true, Bool.false_or, Bool.and_self, Bool.true_and, Bool.and_true, if_true, Bool.not_false, Bool.true_or] at hR
              refine qif_df (by omega) ?_
              simp only [Tryz.f19, B8_size, B8_cut, B8_eq, B8_mk, B8_app, Int.toNat_natCast, go_sem]
              have y1 : IntKind.wrap .i64 (0 - (dv : Int)) = -(dv : Int) := by rw [wrap64 (by omega) (by omega)]; omega
              have y2 : IntKind.wrap .i64 (-(dv : Int) - (sf.length : Int)) = -(dv : Int) - (sf.length : Int) := wrap64 (by omega) (by omega)
              have y3 : IntKind.wrap .i64 ((dv : Int) - (sf.length : Int)) = (dv : Int) - (sf.length : Int) := wrap64 (by omega) (by omega)
              cases bm
              · simp only [Bool.false_eq_true, if_false] at hR
                simp only [Tryz.f19, B8_size, B8_cut, B8_eq, B8_mk, B8_app, Int.toNat_natCast, y1, y2, y3, go_sem]
                rw [hR]
              · simp only [if_true] at hR
                simp only [Tryz.f19, B8_size, B8_cut, B8_eq, B8_mk, B8_app, Int.toNat_natCast, y1, y2, y3, go_sem]
                rw [hR]
            · rw [decide_eq_true h4, decide_eq_false h20] at hR
              simp only [Bool.not_true, Bool.false_or, Bool.and_self, Bool.true_and, Bool.and_true, Bool.and_false, Bool.false_eq_true, if_false, Bool.not_false, Bool.true_or] at hR
              refine qif_dt (by omega) ?_
              simp only [Tryz.f19, B8_size, B8_cut, B8_eq, B8_mk, B8_app, Int.toNat_natCast, go_sem]
              rw [hR]
          · rw [decide_eq_false h4] at hR
            simp only [Bool.not_true, Bool.false_or, Bool.and_self, Bool.true_and, Bool.and_true, Bool.false_and, Bool.and_false, Bool.false_eq_true, if_false, Bool.not_false, Bool.true_or] at hR
            refine qif_dt (by omega) ?_
            simp only [Tryz.f19, B8_size, B8_cut, B8_eq, B8_mk, B8_app, Int.toNat_natCast, go_sem]
            rw [hR]
    · cases b2
      · simp only [Tryz.f19, B8_size, B8_cut, B8_eq, B8_mk, B8_app, Int.toNat_natCast, go_sem]
        refine qcall_i (k5) ?_; simp only [Tryz.f19, B8_size, B8_cut, B8_eq, B8_mk, B8_app, Int.toNat_natCast, go_sem]
        rw [show (true && (!true || false)) = false from rfl, Bool.false_and, if_neg (by decide)] at hR
        try simp only [Tryz.f19, B8_size, B8_cut, B8_eq, B8_mk, B8_app, Int.toNat_natCast, go_sem]
        rw [hR]
      · simp only [Tryz.f19, B8_size, B8_cut, B8_eq, B8_mk, B8_app, Int.toNat_natCast, go_sem]
        refine qcall_i (k5) ?_; simp only [Tryz.f19, B8_size, B8_cut, B8_eq, B8_mk, B8_app, Int.toNat_natCast, go_sem]
        try simp only [Tryz.f19, B8_size, B8_cut, B8_eq, B8_mk, B8_app, Int.toNat_natCast, go_sem]
        refine qand_i (by rw [show maxLen = 9223372036854775807 from rfl]; omega) ?_
        simp only [Tryz.f19, B8_size, B8_cut, B8_eq, B8_mk, B8_app, Int.toNat_natCast, go_sem]
        cases bh
        · simp only [Tryz.f19, B8_size, B8_cut, B8_eq, B8_mk, B8_app, Int.toNat_natCast, go_sem]
          have y1 : IntKind.wrap .i64 (0 - (sf.length : Int)) = 0 - (sf.length : Int) := wrap64 (by omega) (by omega)
          simp only [Bool.not_false, Bool.true_or, Bool.and_self, if_true, Bool.false_eq_true, if_false, Bool.not_true, Bool.or_true] at hR
          simp only [Tryz.f19, B8_size, B8_cut, B8_eq, B8_mk, B8_app, Int.toNat_natCast, y1, go_sem]
          rw [hR]
        · simp only [Tryz.f19, B8_size, B8_cut, B8_eq, B8_mk, B8_app, Int.toNat_natCast, go_sem]
          refine qcall_i (k6) ?_; simp only [Tryz.f19, B8_size, B8_cut, B8_eq, B8_mk, B8_app, Int.toNat_natCast, go_sem]
          refine qcall_i (k7) ?_; simp only [Tryz.f19, B8_size, B8_cut, B8_eq, B8_mk, B8_app, Int.toNat_natCast, go_sem]
          refine qcall_i (k8) ?_; simp only [Tryz.f19, B8_size, B8_cut, B8_eq, B8_mk, B8_app, Int.toNat_natCast, go_sem]
          cases b3
          · simp only [Bool.not_true, Bool.false_or, Bool.and_self, Bool.true_and, Bool.and_true, Bool.false_and, Bool.and_false, Bool.false_eq_true, if_false, Bool.not_true, Bool.or_true] at hR
            simp only [Tryz.f19, B8_size, B8_cut, B8_eq, B8_mk, B8_app, Int.toNat_natCast, go_sem]
            rw [hR]
          · have hav := hav rfl
            simp only [Tryz.f19, B8_size, B8_cut, B8_eq, B8_mk, B8_app, Int.toNat_natCast, go_sem]
            by_cases h4 : sx.length ≤ 4
            · obtain ⟨e1, e2⟩ := hav h4
              subst e1
              refine qif_df (by omega) ?_
              simp only [Tryz.f19, B8_size, B8_cut, B8_eq, B8_mk, B8_app, Int.toNat_natCast, go_sem]
              by_cases h20 : dv ≤ 2000
              · rw [decide_eq_true h4, decide_eq_true h20] at hR
                simp only [Bool.not_true, Bool.false_or, Bool.and_self, Bool.true_and, Bool.and_true, if_true, Bool.not_true, Bool.or_true] at hR
                refine qif_df (by omega) ?_
                simp only [Tryz.f19, B8_size, B8_cut, B8_eq, B8_mk, B8_app, Int.toNat_natCast, go_sem]
                have y1 : IntKind.wrap .i64 (0 - (dv : Int)) = -(dv : Int) := by rw [wrap64 (by omega) (by omega)]; omega
                have y2 : IntKind.wrap .i64 (-(dv : Int) - (sf.length : Int)) = -(dv : Int) - (sf.length : Int) := wrap64 (by omega) (by omega)
                have y3 : IntKind.wrap .i64 ((dv : Int) - (sf.length : Int)) = (dv : Int) - (sf.length : Int) := wrap64 (by omega) (by omega)
                cases bm
                · simp only [Bool.false_eq_true, if_false] at hR
                  simp only [Tryz.f19, B8_size, B8_cut, B8_eq, B8_mk, B8_app, Int.toNat_natCast, y1, y2, y3, go_sem]
                  rw [hR]
                · simp only [if_true] at hR
                  simp only [Tryz.f19, B8_size, B8_cut, B8_eq, B8_mk, B8_app, Int.toNat_natCast, y1, y2, y3, go_sem]
                  rw [hR]
              · rw [decide_eq_true h4, decide_eq_false h20] at hR
                simp only [Bool.not_true, Bool.false_or, Bool.and_self, Bool.true_and, Bool.and_true, Bool.and_false, Bool.false_eq_true, if_false, Bool.not_true, Bool.or_true] at hR
                refine qif_dt (by omega) ?_
                simp only [Tryz.f19, B8_size, B8_cut, B8_eq, B8_mk, B8_app, Int.toNat_natCast, go_sem]
                rw [hR]
            · rw [decide_eq_false h4] at hR
              simp only [Bool.not_true, Bool.false_or, Bool.and_self, Bool.true_and, Bool.and_true, Bool.false_and, Bool.and_false, Bool.false_eq_true, if_false, Bool.not_true, Bool.or_true] at hR
              refine qif_dt (by omega) ?_
              simp only [Tryz.f19, B8_size, B8_cut, B8_eq, B8_mk, B8_app, Int.toNat_natCast, go_sem]
              rw [hR]
end

/- Atoi at every text. -/
section
open Go PG Go.Proofs Go.RowKit
set_option maxRecDepth 100000
set_option linter.unusedSimpArgs false
set_option linter.unusedVariables false

/-- A variable of an interface's type, out of what contracts know. -/
theorem ifc_is {w : World} {Pr : Nat → Nat → Prop} {g : Nat} {name : String} (hg : Tryz.prog.globalNamed name = some g) (h : GRep (rd w Pr) (.ref [.ifc]) (.pointer (some ⟨g, 0, none⟩)) (Whole w g 1)) : ∃ tp p, w.var? Tryz.prog name = some #[.iface tp p] := by
  obtain ⟨hr, _, vs, t, fr, hb, hl⟩ := h
  obtain ⟨a, xs, ha, hall, hm⟩ := hr.ref_inv
  cases ha
  obtain ⟨x, hx, hxr, _⟩ := hall.at_ (j := 0) (c := .ifc) rfl
  have h1 := (rd_some.1 (hm 0 x hx)).2
  rw [addr_add, Nat.zero_add] at h1
  simp only [World.cell?, hb] at h1
  obtain ⟨tp, p, rfl⟩ : ∃ tp p, x = .iface tp p := by
    cases hxr with
    | ifc tp p => exact ⟨tp, p, rfl⟩
  refine ⟨tp, p, ?_⟩
  unfold World.var?
  rw [hg]
  simp only [Option.bind_some, hb, Option.some.injEq]
  refine Array.ext (by simpa using hl) fun i hi hj => ?_
  have : i = 0 := by simp at hj; omega
  subst this
  rw [Array.getElem?_eq_getElem hi] at h1
  simpa using h1
theorem atoi_third (s : ByteArray) (hlim : s.size ≤ 281474976710656) (h1 : ∀ v, Lib.atoiAll s.data.toList ≠ .ok v) (h2 : Lib.atoiAll s.data.toList ≠ .range) (tp : TypeId) (p : Value) (w : World) (hvar : w.var? Tryz.prog "strconv.ErrSyntax" = some #[.iface tp p]) :
    Calls Tryz.prog 49 #[.string s] w fun e w' => ∃ v2, e = .returned (.tuple #[.int .i64 0, v2]) ∧ Below w.heap.size w w' := by
  cases h : Lib.atoiAll s.data.toList with
  | ok v => exact absurd h (h1 v)
  | range => exact absurd h h2
  | _ =>
    refine (Any.strconv_Atoi_syntax_var Tryz.laysC172 s hlim h tp p w hvar).mono ?_
    rintro e w' ⟨N, rfl, _, _, hb⟩
    exact ⟨_, rfl, hb⟩
theorem s_AtoiAny {l : List UInt8} (hl : l.length ≤ 1000) : PC E 49 [TX l] (.tuple [.int .i64 (atoiV l), .any]) := by
  refine PC.of_calls (fun g vs hs h => one_str hs h) (enters_of Tryz.func49 (by kernel_rfl) rfl) fun w Pr hG => ?_
  obtain ⟨tr, pr, hr⟩ := ifc_is (name := "strconv.ErrRange") (by kernel_rfl) (hG 3 ifcT rfl)
  obtain ⟨ts, ps, hs⟩ := ifc_is (name := "strconv.ErrSyntax") (by kernel_rfl) (hG 2 ifcT rfl)
  have hsz : (B8 l).size = l.length := B8_size l
  have two : ∀ (v : Int) (x : Value) (g : Addr → Option Value), Rep g (.tuple [.int .i64 v, .any]) (.tuple #[.int .i64 v, x]) := fun v x g => Rep.tuple _ _ rfl fun j p y hp hy => by
    match j with
    | 0 => cases hp; cases hy; exact .int _ _
    | 1 => cases hp; cases hy; exact .any _
    | j + 2 => simp at hp
  by_cases h2 : Lib.atoiAll l = .range
  · have hv : atoiV l = Lib.atoiSat l := by unfold atoiV; rw [h2]
    rw [hv]
    refine (Tryz.strconv_Atoi_range_var (B8 l) (by omega) (by rw [B8_data]; exact h2) tr pr w hr).mono ?_
    rintro e w' ⟨N, rfl, _, _, hb⟩
    rw [B8_data]
    exact ⟨_, rfl, two _ _, hb⟩
  by_cases h1 : ∃ v, Lib.atoiAll l = .ok v
  · obtain ⟨v, h1⟩ := h1
    have hv : atoiV l = v := by unfold atoiV; rw [h1]
    rw [hv]
    refine (Tryz.strconv_Atoi_ok (B8 l) (by omega) v (by rw [B8_data]; exact h1) w).mono ?_
    rintro e w' ⟨rfl, hb⟩
    refine ⟨_, rfl, two _ _, ?_⟩
    rcases hb with rfl | ⟨t, rfl⟩
    · exact Below.refl _ _
    · exact Lib.bytesWorld_below w _ t
  · have hv : atoiV l = 0 := by
      unfold atoiV
      split
      · rename_i v h; exact absurd ⟨v, h⟩ h1
      · rename_i h; exact absurd h h2
      · rfl
    rw [hv]
    refine (atoi_third (B8 l) (by omega) (by rw [B8_data]; exact fun v h => h1 ⟨v, h⟩) (by rw [B8_data]; exact h2) ts ps w hs).mono ?_
    rintro e w' ⟨v2, rfl, hb⟩
    exact ⟨_, rfl, two _ _, hb⟩
end
end Go.Proofs.YtmnojbkakgfinaaGreatDoor
