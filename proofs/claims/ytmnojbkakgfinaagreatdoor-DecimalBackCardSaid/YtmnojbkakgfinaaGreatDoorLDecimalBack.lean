/- The contract of the law DecimalBack: at whatever reads as its arguments it returns true. -/
import Derived.Test.YtmnojbkakgfinaaGreatDoorK8
import Derived.Test.YtmnojbkakgfinaaGreatDoorK6
import Derived.Test.YtmnojbkakgfinaaGreatDoorK3
import Derived.Test.YtmnojbkakgfinaaGreatDoorG7
open Go PG Go.Proofs
set_option maxRecDepth 100000
set_option linter.unusedSimpArgs false
set_option linter.unusedVariables false
namespace Go.Proofs.YtmnojbkakgfinaaGreatDoor
attribute [local go_sem] Lay2 Lay3 Lay4 Lay5 Lay6 Lay7 Lay8 Lay9 Lay10 Lay11 Lay12 Lay13 Lay14 Lay15 Lay16 Lay17 Lay18 Lay19 Lay21 Lay23 Lay24 Lay25 Lay26 Lay27 Lay28 Lay31 Lay32 Lay33 Lay40 Lay43 Lay44 Lay49 Lay50 Lay57 Lay58 Lay61 Lay68 Lay69 Lay72 Lay77 Lay125 Lay133 Lay134 Lay150 Lay167 Lay168 Lay169 Lay170 Lay180 Lay181 Lay185 Lay186 Lay189 Lay205 Lay208 Lay223 Lay227 Lay228 Lay231 Lay232 Lay233 Lay234 Lay235 Lay236 Lay237 Lay238 Lay240 Lay241 Lay242 Lay243 Lay244 Lay245 Lay246 Lay247 Lay249 Lay250 qexec_seq qexec_skip qexec_exit qexec_ret qexec_block qexec_loop qexec_range qexec_cond qexec_region qexec_drawn qops_nil qops_none qops_some put_some put_none pblk_exit pblk_other newDsts_nil inlDsts_nil isInl sget_cons sget_nil qval_some qbool_some qgs_bool qgs_und qfree_some qgrd_true qgrd_false qif_true qif_false qval_ite qval_itn qand_true map_ite map_some' map_none' qdo_move qdo_assign qdo_binOp qdo_pick qdo_unOp qdo_convert qdo_extract qdo_field qdo_fieldAddr qdo_alloc qdo_box qdo_build qdo_buildSlice qdo_load qdo_store qdo_nilCheck qdo_makeFunc qdo_makeSlice qdo_slice qdo_indexAddr qdo_call qcont_val qcont_new qcont_st qcont_app0 qcont_app qcont_inl qcont_call njSV_val njSV_nil njSV_row njSV_ptr njSV_sub binV_val binV_nil binV_nn binV_ptr bin_np bin_nnp nilCmp bin_add bin_sub bin_mul bin_quo bin_rem bin_and bin_or bin_xor bin_andNot bin_eql bin_neq bin_lss bin_leq bin_gtr bin_geq bin_shl bin_shr bin_seql bin_sneq bin_sadd bin_beql bin_aeql bin_aneq eqAnd_some eqCells_nil eqCells_cons fieldTypes isStruct eqCell bin_bneq un_not un_neg nj_ite Nat.beq stepA stepR isNew opSV constSV RV.sv allSome E_mu E_own qkeyIn_none qkeyIn_some qkeyAt_none qkeyAt_some Bool.or_false Bool.false_or Bool.or_true Bool.true_or cst setB res resSV pstart startL killL kill1 eraL frzL svPV rvPV rvInt rvSlice rvBytes frzOf close closeL pconv pbuiltin pmax2 partPV setCells fillPV zrow bound newSV PV.cells Bk.cells Bk.with SV.key pres presL_nil presL_tmp presL_cell presC2_some cellPV_ptr presC List.toList_toArray List.size_toArray List.getElem?_drop Nat.mul_one Int.toNat_natCast Nat.not_lt_zero Nat.lt_irrefl decide_true decide_false Nat.not_lt Option.some.injEq PV.lst.injEq PV.int.injEq PV.bool.injEq PV.tuple.injEq List.cons.injEq Option.map_some Option.map_none Option.bind_some Option.toList List.map_cons List.map_nil List.nil_append List.cons_append List.append_nil List.zip_cons_cons List.zip_nil_left List.zip_nil_right List.getElem?_cons_zero List.getElem?_cons_succ List.drop_zero List.drop_succ_cons List.take_succ_cons List.take_zero List.set_cons_zero List.set_cons_succ List.length_cons List.length_nil List.length_set List.replicate_one List.replicate_zero bne_self_eq_false beq_self_eq_true Nat.zero_add Nat.add_zero Nat.zero_mul Bool.false_eq_true Bool.true_eq_false Bool.not_true Bool.not_false and_true true_and false_and and_false or_false false_or or_true true_or not_true_eq_false not_false_eq_true ne_eq gt_iff_lt List.mem_cons List.not_mem_nil
attribute [local go_sem ↓] pseq_normal pseq_ret pseq_exit pblk_normal pblk_ret newDsts_cons inlDsts_cons gdst_zero gdst_succ retQ_normal retQ_ret qneed_nil qneed_cons retM_normal retM_ret endR_normal endR_ret endR_exit
attribute [local go_sem] Int.reduceToNat Int.reduceEq Int.reduceNe Int.reduceLT Int.reduceLE Int.reduceNeg Int.reduceAdd Nat.reduceEqDiff Nat.reduceAdd Nat.reduceSub Nat.reduceMul Nat.reduceLeDiff Nat.reduceLT
attribute [local go_sem ↓] reduceIte reduceCtorEq

/-- How many digits there are. -/
def cnt (l : List UInt8) : Nat := (l.filter dgt).length
theorem cnt_app (a b : List UInt8) : cnt (a ++ b) = cnt a + cnt b := by unfold cnt; rw [List.filter_append, List.length_append]
theorem cnt_all {l : List UInt8} (h : l.all dgt = true) : cnt l = l.length := by
  unfold cnt
  rw [List.filter_eq_self.2 (fun a ha => List.all_eq_true.1 h a ha)]
theorem cnt_le (l : List UInt8) : cnt l ≤ l.length := List.length_filter_le _ _
theorem cnt_step {l : List UInt8} {i : Nat} (h : i < l.length) : cnt (l.take (i + 1)) = cnt (l.take i) + if dgt (l.getD i 0) = true then 1 else 0 := by
  rw [List.take_succ_eq_append_getElem h, cnt_app, List.getD_eq_getElem?_getD, List.getElem?_eq_getElem h, Option.getD_some]
  congr 1
  unfold cnt
  rw [List.filter_cons]
  split
  · rename_i h2; simp [h2]
  · rename_i h2; simp [h2]
/-- What stands ahead of the exponent. -/
def prP (sg : Bool) (n M : Nat) : List UInt8 := sgT sg ++ (Lib.decDigits M).take 1 ++ (if 1 < n then 46 :: (Lib.decDigits M).drop 1 else [])
theorem prP_is (sg : Bool) (n : Nat) (x : Int) (M : Nat) : prD sg n x M = prP sg n M ++ 101 :: Lib.itoa (x + n - 1) := rfl
theorem prP_cnt {sg : Bool} {n M : Nat} (hn : 1 ≤ n) (hl : (Lib.decDigits M).length = n) : cnt (prP sg n M) = n ∧ 101 ∉ prP sg n M := by
  obtain ⟨-, h2, -⟩ := dec_dn M
  have h2' := h2
  rw [← List.take_append_drop 1 (Lib.decDigits M), List.all_append, Bool.and_eq_true] at h2
  have hs : cnt (sgT sg) = 0 ∧ 101 ∉ sgT sg := by cases sg <;> exact ⟨rfl, by decide⟩
  obtain ⟨a1, -⟩ := dgt_not h2.1
  obtain ⟨a2, -⟩ := dgt_not h2.2
  unfold prP
  rw [cnt_app, cnt_app, hs.1, cnt_all h2.1, List.length_take, hl, List.mem_append, List.mem_append, not_or, not_or]
  by_cases h : 1 < n
  · rw [if_pos h]
    have e : cnt (46 :: (Lib.decDigits M).drop 1) = cnt ((Lib.decDigits M).drop 1) := by
      unfold cnt; rw [List.filter_cons]; rfl
    rw [e, cnt_all h2.2, List.length_drop, hl, List.mem_cons, not_or]
    exact ⟨by omega, ⟨hs.2, a1⟩, by decide, a2⟩
  · rw [if_neg h]
    refine ⟨?_, ⟨hs.2, a1⟩, by simp⟩
    show 0 + min 1 n + 0 = n
    omega
theorem words_of {b : Nat} (hb : b < W) (hk : kind b = 0 ∨ kind b = 3) : b = 0 ∨ b = 9223372036854775808 ∨ b = 9218868437227405312 ∨ b = 18442240474082181120 := by
  have hb' : b < 18446744073709551616 := hb
  unfold kind fe ff at hk
  revert hk
  (repeat' split) <;> omega
theorem decP_words {b : Nat} (hb : b < W) (hk : kind b = 0 ∨ kind b = 3) : decP (prW b) 0 = ((b, 0), 0) := by
  rcases words_of hb hk with rfl | rfl | rfl | rfl <;> decide +kernel
theorem decP_nan : decP wNaN 0 = ((9221120237041090560, 0), 0) := by decide +kernel
set_option maxHeartbeats 4000000 in
theorem law_DecimalBack (pvs : List PV) (h : Fits [qU64] pvs) : PC E 6 pvs (.bool true) := by
  obtain ⟨_, rfl, ⟨b, rfl, hb⟩⟩ := fitsO1 h
  have kA : ∀ s : List UInt8, s.length ≤ 1000 → PC E 49 [TX s] (.tuple [.int .i64 (atoiV s), .any]) := fun s hs => s_AtoiAny hs
  have k0 := c_alive32 kA
  have kk := c_rKind b hb
  have kk2 : PC E 11 [u b] (.int .i64 (kind b)) := by
    simp only [u] at kk ⊢
    refine PC.of_body follows Tryz.func11 (by decide +kernel) rfl (by kernel_rfl) (Nat.le_of_ble_eq_true rfl) (walk ?_)
    simp only [Tryz.f11, go_sem]
    refine qcall_i (kk) ?_; simp only [Tryz.f11, go_sem]
    try rfl
  by_cases h3 : 3 < kind b
  · have e : prW b = wNaN := if_pos h3
    have kS := d_Short (b := b) (T := fun _ => wNaN) (c := fun _ => 9221120237041090560) (f := fun _ => 0) (fun n n1 n2 => by rw [← e]; exact d_PrintW hb (by omega) (by omega)) (fun n n1 n2 => by
      have := d_Parse kA (l := wNaN) (dir := 0) (by decide)
      rwa [decP_nan] at this)
    generalize kind b = kd at *
    simp only [TX, u, wNaN] at kS kk2 ⊢
    refine PC.of_body follows Tryz.func6 (by decide +kernel) rfl (by kernel_rfl) (Nat.le_of_ble_eq_true rfl) (walk ?_)
    simp only [Tryz.f6, B8_size, B8_cut, B8_eq, B8_mk, B8_app, Int.toNat_natCast, go_sem]
    refine qcall_i (k0) ?_; simp only [Tryz.f6, B8_size, B8_cut, B8_eq, B8_mk, B8_app, Int.toNat_natCast, go_sem]
    refine qcall_i (kk2) ?_; simp only [Tryz.f6, B8_size, B8_cut, B8_eq, B8_mk, B8_app, Int.toNat_natCast, go_sem]
    refine qcall_i (kS) ?_; simp only [Tryz.f6, B8_size, B8_cut, B8_eq, B8_mk, B8_app, Int.toNat_natCast, go_sem]
    refine qif_dt (by omega) ?_
    simp only [Tryz.f6, B8_size, B8_cut, B8_eq, B8_mk, B8_app, Int.toNat_natCast, go_sem]
    try rfl
  by_cases hw : kind b = 0 ∨ kind b = 3
  · have hP := fun n : Int => fun hn => d_PrintW hb (by omega) (n := n) hn
    have hR := d_Parse kA (l := prW b) (dir := 0) (by decide)
    rw [decP_words hb hw] at hR
    have kS := d_Short (b := b) (T := fun _ => prW b) (c := fun _ => b) (f := fun _ => 0) (fun n n1 n2 => hP n (by omega)) (fun n n1 n2 => hR)
    have k17 := hP 17 (by decide)
    clear hP
    generalize prW b = l at *
    generalize kind b = kd at *
    dsimp only [resH] at hR
    simp only [TX, u] at kS kk2 k17 hR ⊢
    refine PC.of_body follows Tryz.func6 (by decide +kernel) rfl (by kernel_rfl) (Nat.le_of_ble_eq_true rfl) (walk ?_)
    simp only [Tryz.f6, B8_size, B8_cut, B8_eq, B8_mk, B8_app, Int.toNat_natCast, go_sem]
    refine qcall_i (k0) ?_; simp only [Tryz.f6, B8_size, B8_cut, B8_eq, B8_mk, B8_app, Int.toNat_natCast, go_sem]
    refine qcall_i (kk2) ?_; simp only [Tryz.f6, B8_size, B8_cut, B8_eq, B8_mk, B8_app, Int.toNat_natCast, go_sem]
    refine qcall_i (kS) ?_; simp only [Tryz.f6, B8_size, B8_cut, B8_eq, B8_mk, B8_app, Int.toNat_natCast, go_sem]
    refine qif_df (by omega) ?_
    simp only [Tryz.f6, B8_size, B8_cut, B8_eq, B8_mk, B8_app, Int.toNat_natCast, go_sem]
    refine qcall_i (k17) ?_; simp only [Tryz.f6, B8_size, B8_cut, B8_eq, B8_mk, B8_app, Int.toNat_natCast, go_sem]
    refine qcall_i (hR) ?_; simp only [Tryz.f6, B8_size, B8_cut, B8_eq, B8_mk, B8_app, Int.toNat_natCast, go_sem]
    refine qcall_i (hR) ?_; simp only [Tryz.f6, B8_size, B8_cut, B8_eq, B8_mk, B8_app, Int.toNat_natCast, go_sem]
    refine qif_df (by omega) ?_
    simp only [Tryz.f6, B8_size, B8_cut, B8_eq, B8_mk, B8_app, Int.toNat_natCast, go_sem]
    rcases hw with hw | hw
    · refine qif_dt (by omega) ?_
      simp only [Tryz.f6, B8_size, B8_cut, B8_eq, B8_mk, B8_app, Int.toNat_natCast, go_sem]
      try rfl
    · refine qif_df (by omega) ?_
      simp only [Tryz.f6, B8_size, B8_cut, B8_eq, B8_mk, B8_app, Int.toNat_natCast, go_sem]
      refine qif_dt (by omega) ?_
      simp only [Tryz.f6, B8_size, B8_cut, B8_eq, B8_mk, B8_app, Int.toNat_natCast, go_sem]
      try rfl
  · have hk : kind b = 1 ∨ kind b = 2 := by omega
    have H : ∀ n : Nat, ∃ y : Int × Nat, 1 ≤ n → n ≤ 17 → (Near (fd (fsz b)).m (fd (fsz b)).e n y.1 y.2 ∧ -399 ≤ y.1 ∧ y.1 ≤ 401 ∧ PC E 10 [u b, .int .i64 n] (.tuple [TX (prD (fs b) n y.1 y.2), .int .i64 0])) := fun n => by
      by_cases hn : 1 ≤ n ∧ n ≤ 17
      · obtain ⟨x, M, h1, h2, h3, h4⟩ := d_PrintG hb hk (n := n) ⟨hn.1, by omega⟩
        exact ⟨(x, M), fun _ _ => ⟨h1, h2, h3, h4⟩⟩
      · exact ⟨(0, 0), fun a b => absurd ⟨a, b⟩ hn⟩
    obtain ⟨y, hy⟩ := Classical.skolem.1 H
    clear H
    have hlen : ∀ n, 1 ≤ n → n ≤ 17 → (Lib.decDigits (y n).2).length = n := fun n n1 n2 => dec_len_eq n1 (hy n n1 n2).1.lo (hy n n1 n2).1.hi
    have hrd : ∀ n, 1 ≤ n → n ≤ 17 → decP (prD (fs b) n (y n).1 (y n).2) 0 = (decR (fs b) (y n).2 (y n).1 0, 0) := fun n n1 n2 => prD_read n1 (by omega) (by have := (hy n n1 n2).2; omega) (hlen n n1 n2) 0
    have hR : ∀ n : Nat, 1 ≤ n → n ≤ 17 → PC E 8 [TX (prD (fs b) n (y n).1 (y n).2), .int .i64 0] (resH (((decR (fs b) (y n).2 (y n).1 0).1, (decR (fs b) (y n).2 (y n).1 0).2), 0)) := fun n n1 n2 => by
      have := d_Parse kA (l := prD (fs b) n (y n).1 (y n).2) (dir := 0) (by decide)
      rwa [hrd n n1 n2] at this
    have h17 : (decR (fs b) (y 17).2 (y 17).1 0).1 = b := back17 hb hk (hy 17 (by decide) (by decide)).1 ⟨(hy 17 (by decide) (by decide)).2.1, (hy 17 (by decide) (by decide)).2.2.1⟩
    have kS := d_Short (b := b) (T := fun n => prD (fs b) n (y n).1 (y n).2) (c := fun n => (decR (fs b) (y n).2 (y n).1 0).1) (f := fun n => (decR (fs b) (y n).2 (y n).1 0).2) (fun n n1 n2 => (hy n n1 n2).2.2.2) hR
    obtain ⟨q1, q2, q3, q4⟩ := firstN_spec b (fun n => (decR (fs b) (y n).2 (y n).1 0).1) 16 1
    obtain ⟨N, hN⟩ : ∃ N, N = firstN b (fun n => (decR (fs b) (y n).2 (y n).1 0).1) 16 1 := ⟨_, rfl⟩
    rw [← hN] at kS q1 q2 q3 q4
    have hcN : (decR (fs b) (y N).2 (y N).1 0).1 = b := by
      rcases Nat.lt_or_ge N 17 with h | h
      · exact q4 (by omega)
      · rw [show N = 17 by omega]; exact h17
    have hle : (prD (fs b) N (y N).1 (y N).2).length ≤ (prD (fs b) 17 (y 17).1 (y 17).2).length := by
      rcases Nat.lt_or_ge N 17 with h | h
      · have a1 := hy N q1 (by omega)
        have a2 := hy 17 (by decide) (by decide)
        exact prD_short q1 h a1.1 a2.1 ⟨a1.2.1, a1.2.2.1⟩ ⟨a2.2.1, a2.2.2.1⟩ _
      · rw [show N = 17 by omega]; exact Nat.le_refl _
    have k17 := (hy 17 (by decide) (by decide)).2.2.2
    have kP17 := hR 17 (by decide) (by decide)
    have kPN := hR N q1 (by omega)
    have kN := (hy N q1 (by omega)).2.2.2
    obtain ⟨g1, g2⟩ := prP_cnt (sg := fs b) q1 (hlen N q1 (by omega))
    have hsp := prP_is (fs b) N (y N).1 (y N).2
    have hbd := prD_len (sg := fs b) (n := N) (x := (y N).1) (M := (y N).2) q1 (by have := (hy N q1 (by omega)).2; omega) (hlen N q1 (by omega))
    have kL : 1 < N → ∃ tl cl fl, ¬ cl = b ∧ PC E 10 [u b, .int .i64 ((N - 1 : Nat) : Int)] (.tuple [TX tl, .int .i64 0]) ∧ PC E 8 [TX tl, .int .i64 0] (resH ((cl, fl), 0)) := fun h => ⟨_, _, _, q3 (N - 1) (by omega) (by omega), (hy (N - 1) (by omega) (by omega)).2.2.2, hR (N - 1) (by omega) (by omega)⟩
    rw [h17] at kP17
    rw [hcN] at kPN
    clear hR hrd hlen hy q3 q4 hcN h17 hN hw h3
    generalize (decR (fs b) (y 17).2 (y 17).1 0).2 = f17 at *
    generalize (decR (fs b) (y N).2 (y N).1 0).2 = fN at *
    generalize prP (fs b) N (y N).2 = P at *
    generalize Lib.itoa ((y N).1 + (N : Int) - 1) = ia at *
    generalize prD (fs b) 17 (y 17).1 (y 17).2 = L17 at *
    generalize prD (fs b) N (y N).1 (y N).2 = LN at *
    generalize kind b = kd at *
    dsimp only [resH] at kP17 kPN kL
    simp only [TX, u] at kS kk2 k17 kN kP17 kPN kL ⊢
    refine PC.of_body follows Tryz.func6 (by decide +kernel) rfl (by kernel_rfl) (Nat.le_of_ble_eq_true rfl) (walk ?_)
    simp only [Tryz.f6, B8_size, B8_cut, B8_eq, B8_mk, B8_app, Int.toNat_natCast, go_sem]
    refine qcall_i (k0) ?_; simp only [Tryz.f6, B8_size, B8_cut, B8_eq, B8_mk, B8_app, Int.toNat_natCast, go_sem]
    refine qcall_i (kk2) ?_; simp only [Tryz.f6, B8_size, B8_cut, B8_eq, B8_mk, B8_app, Int.toNat_natCast, go_sem]
    refine qcall_i (kS) ?_; simp only [Tryz.f6, B8_size, B8_cut, B8_eq, B8_mk, B8_app, Int.toNat_natCast, go_sem]
    refine qif_df (by omega) ?_
    simp only [Tryz.f6, B8_size, B8_cut, B8_eq, B8_mk, B8_app, Int.toNat_natCast, go_sem]
    refine qcall_i (k17) ?_; simp only [Tryz.f6, B8_size, B8_cut, B8_eq, B8_mk, B8_app, Int.toNat_natCast, go_sem]
    refine qcall_i (kP17) ?_; simp only [Tryz.f6, B8_size, B8_cut, B8_eq, B8_mk, B8_app, Int.toNat_natCast, go_sem]
    refine qcall_i (kPN) ?_; simp only [Tryz.f6, B8_size, B8_cut, B8_eq, B8_mk, B8_app, Int.toNat_natCast, go_sem]
    repeat' first
      | ((with_reducible refine qif_df (by omega) ?_); simp only [Tryz.f6, B8_size, B8_cut, B8_eq, B8_mk, B8_app, Int.toNat_natCast, go_sem])
    have hlp : P.length < LN.length := by rw [hsp, List.length_append, List.length_cons]; omega
    have hget : ∀ i, i < P.length → LN.getD i 0 = P.getD i 0 := fun i hi => by
      rw [hsp, List.getD_eq_getElem?_getD, List.getD_eq_getElem?_getD, List.getElem?_append_left hi]
    have hend : LN.getD P.length 0 = 101 := by
      rw [hsp, List.getD_eq_getElem?_getD, List.getElem?_append_right (Nat.le_refl _), Nat.sub_self]
      rfl
    have hne : ∀ i, i < P.length → P.getD i 0 ≠ 101 := fun i hi e => g2 (by rw [← e]; exact getD_mem hi)
    refine PLoop.intro (fun i : Nat => ⟨[(0, .val (.int .u64 b)), (4, .val (.str (B8 LN))), (11, .val (.int .i64 (cnt (P.take i) : Nat))), (12, .val (.int .i64 i))], []⟩) (fun i => i ≤ P.length) (fun i => P.length - i) 0 (Nat.zero_le _) ?_ fun i hi => walk ?_
    · simp [Wk, sget, killL, kill1, SV.key, cnt]
    have hix := idxS_B8 (l := LN) (n := (i : Int)) (by omega) (by omega)
    rw [Int.toNat_natCast] at hix
    have wi : IntKind.wrap .i64 ((i : Int) + 1) = ((i + 1 : Nat) : Int) := by rw [wrap64 (by omega) (by omega)]; omega
    have hcl := cnt_le (P.take i)
    have hcl2 : (P.take i).length ≤ i := by rw [List.length_take]; omega
    have wc : IntKind.wrap .i64 ((cnt (P.take i) : Nat) + 1 : Int) = ((cnt (P.take i) + 1 : Nat) : Int) := by rw [wrap64 (by omega) (by omega)]; omega
    by_cases hlt : i < P.length
    · have hst := cnt_step hlt
      have hn1 := hne i hlt
      rw [hget i hlt] at hix
      have hn2 : ¬ (((P.getD i 0).toNat : Nat) : Int) = 101 := fun e => hn1 (by
        have : (P.getD i 0).toNat = 101 := by omega
        exact UInt8.toNat_inj.1 this)
      have hdg : dgt (P.getD i 0) = decide (48 ≤ (P.getD i 0).toNat ∧ (P.getD i 0).toNat ≤ 57) := rfl
      rw [hdg] at hst
      generalize P.getD i 0 = ch at *
      simp only [Tryz.f6, B8_size, B8_cut, B8_eq, B8_mk, B8_app, Int.toNat_natCast, go_sem]
      refine qif_dt (by omega) ?_
      simp only [Tryz.f6, B8_size, B8_cut, B8_eq, B8_mk, B8_app, Int.toNat_natCast, go_sem]
      refine qdo_indexS Lay9.1 rfl rfl ?_
      rw [hix]
      simp only [Tryz.f6, B8_size, B8_cut, B8_eq, B8_mk, B8_app, Int.toNat_natCast, go_sem]
      refine qif_dt hn2 ?_
      simp only [Tryz.f6, B8_size, B8_cut, B8_eq, B8_mk, B8_app, Int.toNat_natCast, go_sem]
      refine qdo_indexS Lay9.1 rfl rfl ?_
      rw [hix]
      simp only [Tryz.f6, B8_size, B8_cut, B8_eq, B8_mk, B8_app, Int.toNat_natCast, go_sem]
      repeat' first
        | ((with_reducible refine qdo_indexS Lay9.1 rfl rfl ?_); rw [hix]; simp only [Tryz.f6, B8_size, B8_cut, B8_eq, B8_mk, B8_app, Int.toNat_natCast, wi, wc, go_sem])
        | ((with_reducible refine qif_d (fun h => ?_) (fun h => ?_)) <;> first | (exfalso; omega) | simp only [Tryz.f6, B8_size, B8_cut, B8_eq, B8_mk, B8_app, Int.toNat_natCast, wi, wc, go_sem])
      all_goals
        refine ⟨i + 1, by omega, by omega, ?_⟩
        rw [hst]
        first
          | rw [if_pos (decide_eq_true (by omega))]
          | rw [if_neg (by rw [decide_eq_true_eq]; omega)]
        simp [Wk, sget, killL, kill1, SV.key]
    · have : i = P.length := by omega
      subst this
      rw [hend] at hix
      rw [List.take_length, g1]
      simp only [Tryz.f6, B8_size, B8_cut, B8_eq, B8_mk, B8_app, Int.toNat_natCast, go_sem]
      refine qif_dt (by omega) ?_
      simp only [Tryz.f6, B8_size, B8_cut, B8_eq, B8_mk, B8_app, Int.toNat_natCast, go_sem]
      refine qdo_indexS Lay9.1 rfl rfl ?_
      rw [hix]
      simp only [Tryz.f6, B8_size, B8_cut, B8_eq, B8_mk, B8_app, Int.toNat_natCast, go_sem]
      refine qif_df (by decide) ?_
      simp only [Tryz.f6, B8_size, B8_cut, B8_eq, B8_mk, B8_app, Int.toNat_natCast, go_sem]
      refine qcall_i (kN) ?_; simp only [Tryz.f6, B8_size, B8_cut, B8_eq, B8_mk, B8_app, Int.toNat_natCast, go_sem]
      by_cases hN1 : N = 1
      · refine qif_dt (by omega) ?_
        simp only [Tryz.f6, B8_size, B8_cut, B8_eq, B8_mk, B8_app, Int.toNat_natCast, go_sem]
        try rfl
      · obtain ⟨tl, cl, fl, c1, c2, c3⟩ := kL (by omega)
        have wn : IntKind.wrap .i64 ((N : Int) - 1) = ((N - 1 : Nat) : Int) := by rw [wrap64 (by omega) (by omega)]; omega
        refine qif_df (by omega) ?_
        simp only [Tryz.f6, B8_size, B8_cut, B8_eq, B8_mk, B8_app, Int.toNat_natCast, wn, go_sem]
        refine qcall_i (c2) ?_; simp only [Tryz.f6, B8_size, B8_cut, B8_eq, B8_mk, B8_app, Int.toNat_natCast, go_sem]
        refine qcall_i (c3) ?_; simp only [Tryz.f6, B8_size, B8_cut, B8_eq, B8_mk, B8_app, Int.toNat_natCast, go_sem]
        exact decide_eq_true (by omega)
end Go.Proofs.YtmnojbkakgfinaaGreatDoor
