/- Division: a number shifted into a new row; a multiple taken off a part of a row, a number put back. -/
import Derived.Test.YtejmlngnpekagaaDoorDq2
import Derived.Test.YtejmlngnpekagaaDoorFin
open Go PG Go.Proofs
set_option maxRecDepth 100000
set_option linter.unusedSimpArgs false
set_option linter.unusedVariables false
namespace Go.Proofs.YtejmlngnpekagaaDoor
attribute [local go_sem] Lay2 Lay3 Lay4 Lay5 Lay6 Lay7 Lay8 Lay9 Lay10 Lay11 Lay12 Lay13 Lay14 Lay15 Lay16 Lay17 Lay18 Lay19 Lay21 Lay22 Lay23 Lay24 Lay25 Lay30 Lay33 Lay36 Lay37 Lay46 Lay47 Lay48 Lay53 Lay54 Lay55 Lay59 Lay100 Lay101 Lay127 Lay146 Lay162 Lay168 Lay169 Lay173 Lay185 Lay186 Lay187 Lay188 Lay189 Lay191 Lay192 Lay194 Lay195 Lay196 Lay199 qexec_seq qexec_skip qexec_exit qexec_ret qexec_block qexec_loop qexec_range qexec_cond qexec_region qexec_drawn qops_nil qops_none qops_some put_some put_none pblk_exit pblk_other newDsts_nil inlDsts_nil isInl sget_cons sget_nil qval_some qbool_some qgs_bool qgs_und qfree_some qgrd_true qgrd_false qif_true qif_false qval_ite qval_itn qand_true map_ite map_some' map_none' qdo_move qdo_assign qdo_binOp qdo_pick qdo_unOp qdo_convert qdo_extract qdo_field qdo_fieldAddr qdo_alloc qdo_box qdo_build qdo_buildSlice qdo_load qdo_store qdo_nilCheck qdo_makeFunc qdo_makeSlice qdo_slice qdo_indexAddr qdo_call qcont_val qcont_new qcont_st qcont_app0 qcont_app qcont_inl qcont_call njSV_val njSV_nil njSV_row njSV_ptr njSV_sub binV_val binV_nil binV_nn binV_ptr bin_np bin_nnp nilCmp bin_add bin_sub bin_mul bin_quo bin_rem bin_and bin_or bin_xor bin_andNot bin_eql bin_neq bin_lss bin_leq bin_gtr bin_geq bin_shl bin_shr bin_seql bin_sneq bin_sadd bin_beql bin_aeql bin_aneq eqAnd_some eqCells_nil eqCells_cons fieldTypes isStruct eqCell bin_bneq un_not un_neg nj_ite Nat.beq stepA stepR isNew opSV constSV RV.sv allSome E_mu E_own qkeyIn_none qkeyIn_some qkeyAt_none qkeyAt_some Bool.or_false Bool.false_or Bool.or_true Bool.true_or cst setB res resSV pstart startL killL kill1 eraL frzL svPV rvPV rvInt rvSlice frzOf close closeL pconv pbuiltin pmax2 partPV setCells fillPV zrow bound newSV PV.cells Bk.cells Bk.with SV.key pres presL_nil presL_tmp presL_cell presC2_some cellPV_ptr presC List.toList_toArray List.size_toArray List.getElem?_drop Nat.mul_one Int.toNat_natCast Nat.not_lt_zero Nat.lt_irrefl decide_true decide_false Nat.not_lt Option.some.injEq PV.lst.injEq PV.int.injEq PV.bool.injEq PV.tuple.injEq List.cons.injEq Option.map_some Option.map_none Option.bind_some Option.toList List.map_cons List.map_nil List.nil_append List.cons_append List.append_nil List.zip_cons_cons List.zip_nil_left List.zip_nil_right List.getElem?_cons_zero List.getElem?_cons_succ List.drop_zero List.drop_succ_cons List.take_succ_cons List.take_zero List.set_cons_zero List.set_cons_succ List.length_cons List.length_nil List.length_set List.replicate_one List.replicate_zero bne_self_eq_false beq_self_eq_true Nat.zero_add Nat.add_zero Nat.zero_mul Bool.false_eq_true Bool.true_eq_false Bool.not_true Bool.not_false and_true true_and false_and and_false or_false false_or or_true true_or not_true_eq_false not_false_eq_true ne_eq gt_iff_lt List.mem_cons List.not_mem_nil
attribute [local go_sem ↓] pseq_normal pseq_ret pseq_exit pblk_normal pblk_ret newDsts_cons inlDsts_cons gdst_zero gdst_succ retQ_normal retQ_ret qneed_nil qneed_cons retM_normal retM_ret endR_normal endR_ret endR_exit
attribute [local go_sem] Int.reduceToNat Int.reduceEq Int.reduceNe Int.reduceLT Int.reduceLE Int.reduceNeg Int.reduceAdd Nat.reduceEqDiff Nat.reduceAdd Nat.reduceSub Nat.reduceMul Nat.reduceLeDiff Nat.reduceLT
attribute [local go_sem ↓] reduceIte reduceCtorEq

theorem tab_getU {P m j : Nat} (h : j < m) : (U (tab W P m))[j]? = some (.int .u64 ((P / W ^ j % W : Nat) : Int)) := by
  rw [U_get]
  unfold tab
  simp [h, u]
/-- Two digits at once. -/
theorem tab_set2 {P c i m : Nat} (hi : i + 1 < m) (hP : P / W ^ (i + 1) = 0) (hc : P / W ^ i + c < W * W) :
    ((U (tab W P m)).set i (.int .u64 (((P / W ^ i + c) % W : Nat) : Int))).set (i + 1) (.int .u64 (((P / W ^ i + c) / W : Nat) : Int)) = U (tab W (P + W ^ i * c) m) := by
  unfold U
  show ((List.map u _).set i (u ((P / W ^ i + c) % W))).set (i + 1) (u ((P / W ^ i + c) / W)) = _
  rw [← List.map_set, ← List.map_set]
  congr 1
  apply List.ext_getElem
  · simp [tab]
  · intro j h1 h2
    simp only [List.length_set, tab_length] at h1
    have hWi := Nat.pow_pos (n := i) W0
    have ht : ∀ X, (tab W X m)[j]'(by rw [tab_length]; exact h1) = X / W ^ j % W := fun X => by simp [tab]
    rw [ht, List.getElem_set, List.getElem_set]
    have hd : (P + W ^ i * c) / W ^ i = P / W ^ i + c := Nat.add_mul_div_left _ _ hWi
    by_cases e1 : i + 1 = j
    · subst e1
      rw [if_pos rfl, Nat.pow_succ, ← Nat.div_div_eq_div_mul, hd, Nat.mod_eq_of_lt]
      exact (Nat.div_lt_iff_lt_mul W0).2 hc
    · rw [if_neg e1]
      by_cases e2 : i = j
      · subst e2
        rw [if_pos rfl, hd]
      · rw [if_neg e2, ht]
        rcases Nat.lt_or_gt_of_ne e2 with h3 | h3
        · obtain ⟨k, rfl⟩ : ∃ k, j = i + 2 + k := ⟨j - i - 2, by omega⟩
          have p1 : P / W ^ (i + 2 + k) = 0 := by
            rw [show i + 2 + k = i + 1 + (1 + k) by omega, Nat.pow_add, ← Nat.div_div_eq_div_mul, hP, Nat.zero_div]
          have p2 : (P + W ^ i * c) / W ^ (i + 2 + k) = 0 := by
            rw [show i + 2 + k = i + (2 + k) by omega, Nat.pow_add, ← Nat.div_div_eq_div_mul, hd]
            refine Nat.div_eq_of_lt (Nat.lt_of_lt_of_le hc ?_)
            rw [Nat.pow_add, show W ^ 2 = W * W from Nat.pow_two W]
            exact Nat.le_mul_of_pos_right _ (Nat.pow_pos W0)
          rw [p1, p2]
        · obtain ⟨k, rfl⟩ : ∃ k, i = j + (k + 1) := ⟨i - j - 1, by omega⟩
          have e3 : W ^ (j + (k + 1)) * c = W ^ j * (W * (W ^ k * c)) := by
            rw [Nat.pow_add, Nat.pow_succ, Nat.mul_assoc, Nat.mul_comm (W ^ k) W, Nat.mul_assoc]
          rw [e3, Nat.add_mul_div_left _ _ (Nat.pow_pos W0), Nat.add_mul_mod_self_left]
/-- A shift, word by word. -/
theorem left_step {A i s : Nat} (hs : s ≤ 63) :
    A % W ^ i * 2 ^ s / W ^ i < 2 ^ s ∧ A % W ^ i * 2 ^ s / W ^ (i + 1) = 0 ∧ A % W ^ (i + 1) * 2 ^ s = A % W ^ i * 2 ^ s + W ^ i * (A / W ^ i % W * 2 ^ s) := by
  have hWi := Nat.pow_pos (n := i) W0
  have h1 : A % W ^ i * 2 ^ s < W ^ i * 2 ^ s := Nat.mul_lt_mul_of_pos_right (Nat.mod_lt _ hWi) (Nat.two_pow_pos _)
  have h2 : (2 : Nat) ^ s < W := by
    have : (2 : Nat) ^ s ≤ 2 ^ 63 := Nat.pow_le_pow_right (by decide) hs
    have h63 : (2 : Nat) ^ 63 = 9223372036854775808 := by decide
    show (2 : Nat) ^ s < 18446744073709551616
    omega
  refine ⟨(Nat.div_lt_iff_lt_mul hWi).2 (by rw [Nat.mul_comm (2 ^ s)]; exact h1), Nat.div_eq_of_lt (Nat.lt_trans h1 ?_), ?_⟩
  · rw [Nat.pow_succ]; exact Nat.mul_lt_mul_of_pos_left h2 hWi
  · rw [Nat.pow_succ, Nat.mod_mul, Nat.add_mul, Nat.mul_assoc]
theorem left_or {d x s : Nat} (hs : s ≤ 63) (hd : d < 2 ^ s) (hx : x < W) : bits .or .u64 (d : Int) ((x * 2 ^ s % W : Nat) : Int) = (((d + x * 2 ^ s) % W : Nat) : Int) ∧ (d + x * 2 ^ s) / W = x / 2 ^ (64 - s) ∧ d + x * 2 ^ s < W * W := by
  have hW : W = 2 ^ (64 - s) * 2 ^ s := by rw [← Nat.pow_add, show 64 - s + s = 64 by omega]
  have hp := Nat.two_pow_pos (64 - s)
  have hps := Nat.two_pow_pos s
  have hm := Nat.mod_lt x hp
  have e1 : x * 2 ^ s % W = x % 2 ^ (64 - s) * 2 ^ s := by rw [hW, Nat.mul_mod_mul_right]
  have hlt : x % 2 ^ (64 - s) * 2 ^ s + d < W := by
    have : (x % 2 ^ (64 - s) + 1) * 2 ^ s ≤ 2 ^ (64 - s) * 2 ^ s := Nat.mul_le_mul_right _ hm
    rw [Nat.add_mul, Nat.one_mul, ← hW] at this
    omega
  have e2 : d + x * 2 ^ s = W * (x / 2 ^ (64 - s)) + (x % 2 ^ (64 - s) * 2 ^ s + d) := by
    have := Nat.div_add_mod x (2 ^ (64 - s))
    conv => lhs; rw [← this]
    rw [Nat.add_mul, hW, Nat.mul_right_comm]
    omega
  have hdW : d < W := by omega
  refine ⟨?_, ?_, ?_⟩
  · rw [b_or hdW (Nat.mod_lt _ W0), e1, Nat.or_comm, or_low hd, e2, Nat.mul_add_mod, Nat.mod_eq_of_lt hlt]
  · rw [e2, Nat.mul_add_div W0, Nat.div_eq_of_lt hlt, Nat.add_zero]
  · have h1 : x * 2 ^ s ≤ (W - 1) * 2 ^ s := Nat.mul_le_mul_right _ (by omega)
    have h2 : (W - 1) * 2 ^ s + 2 ^ s = W * 2 ^ s := by
      rw [← Nat.succ_mul]; congr 1
    have h3 : W * 2 ^ s ≤ W * W := Nat.mul_le_mul_left _ (by rw [hW]; exact Nat.le_mul_of_pos_left _ hp)
    omega
theorem d_left {a : List Nat} (oa : Ok W a) (hl : a.length ≤ 100000) {s : Nat} (hs : s ≤ 63) :
    PCM E 158 [.val (NL a), .val (.int .i64 s)] [] (.row 0) [.row 22 1 (a.length + 1) (U (tab W (vl a * 2 ^ s) (a.length + 1)))] := by
  have hA : vl a < W ^ a.length := dv_lt a oa
  have hg := fun i hi => digit_at oa (i := i) hi
  have w1 : IntKind.wrap .i64 ((a.length : Int) + 1) = ((a.length + 1 : Nat) : Int) := by rw [wrap64 (by omega) (by omega)]; omega
  have hst : ∀ i, i < a.length → (U (tab W (vl a % W ^ i * 2 ^ s) (a.length + 1)))[i]? = some (.int .u64 ((vl a % W ^ i * 2 ^ s / W ^ i : Nat) : Int)) ∧
      IntKind.wrap .u64 (((vl a / W ^ i % W : Nat) : Int) * 2 ^ (min s 64)) = ((vl a / W ^ i % W * 2 ^ s % W : Nat) : Int) ∧
      bits .or .u64 ((vl a % W ^ i * 2 ^ s / W ^ i : Nat) : Int) ((vl a / W ^ i % W * 2 ^ s % W : Nat) : Int) = (((vl a % W ^ i * 2 ^ s / W ^ i + vl a / W ^ i % W * 2 ^ s) % W : Nat) : Int) ∧
      ((vl a / W ^ i % W : Nat) : Int).fdiv (2 ^ (min (64 - s) 64)) = (((vl a % W ^ i * 2 ^ s / W ^ i + vl a / W ^ i % W * 2 ^ s) / W : Nat) : Int) ∧
      ((U (tab W (vl a % W ^ i * 2 ^ s) (a.length + 1))).set i (.int .u64 (((vl a % W ^ i * 2 ^ s / W ^ i + vl a / W ^ i % W * 2 ^ s) % W : Nat) : Int))).set (i + 1) (.int .u64 (((vl a % W ^ i * 2 ^ s / W ^ i + vl a / W ^ i % W * 2 ^ s) / W : Nat) : Int)) = U (tab W (vl a % W ^ (i + 1) * 2 ^ s) (a.length + 1)) := fun i hi => by
    obtain ⟨h1, h2, h3⟩ := left_step (A := vl a) (i := i) hs
    have hxW : vl a / W ^ i % W < W := Nat.mod_lt _ W0
    obtain ⟨g1, g2, g3⟩ := left_or hs h1 hxW
    have h4 : vl a % W ^ i * 2 ^ s / W ^ i < W := Nat.lt_trans h1 (by
      have : (2 : Nat) ^ s ≤ 2 ^ 63 := Nat.pow_le_pow_right (by decide) hs
      have h63 : (2 : Nat) ^ 63 = 9223372036854775808 := by decide
      show (2 : Nat) ^ s < 18446744073709551616
      omega)
    refine ⟨?_, b_shl _ s, g1, ?_, ?_⟩
    · rw [tab_getU (by omega), Nat.mod_eq_of_lt h4]
    · rw [g2]; exact b_shr hxW (64 - s)
    · rw [h3]; exact tab_set2 (by omega) h2 g3
  have h0 : U (tab W (vl a % W ^ 0 * 2 ^ s) (a.length + 1)) = List.replicate (a.length + 1) (.int .u64 0) := by
    rw [Nat.pow_zero, Nat.mod_one, Nat.zero_mul]
    have e0 : tab W 0 (a.length + 1) = List.replicate (a.length + 1) 0 := by unfold tab; simp [List.map_const']
    rw [e0, U_replicate]
  have hend : vl a % W ^ a.length * 2 ^ s = vl a * 2 ^ s := by rw [Nat.mod_eq_of_lt hA]
  have hlen : ∀ i, (U (tab W (vl a % W ^ i * 2 ^ s) (a.length + 1))).length = a.length + 1 := fun i => by unfold U; rw [List.length_map, tab_length]
  rw [← hend]
  clear hend hA oa
  obtain ⟨R, hR⟩ : ∃ R : Nat → List PV, ∀ i, U (tab W (vl a % W ^ i * 2 ^ s) (a.length + 1)) = R i := ⟨_, fun _ => rfl⟩
  obtain ⟨D, hD⟩ : ∃ D : Nat → Nat, ∀ i, vl a / W ^ i % W = D i := ⟨_, fun _ => rfl⟩
  obtain ⟨F, hF⟩ : ∃ F : Nat → Nat, ∀ i, vl a % W ^ i * 2 ^ s / W ^ i = F i := ⟨_, fun _ => rfl⟩
  simp only [hR, hD, hF] at hg hst h0 hlen ⊢
  clear hR hD hF
  have ws : IntKind.wrap .i64 (64 - (s : Int)) = ((64 - s : Nat) : Int) := by rw [wrap64 (by omega) (by omega)]; omega
  simp only [NL]
  generalize U a = U1 at *
  refine PCM.of_body follows Tryd.func158 (by decide +kernel) rfl (by kernel_rfl) (Nat.le_of_ble_eq_true rfl) (by simp) (by simp) (fun k h => by cases h; exact ⟨rfl, rfl⟩) (fun h => by cases h) (walk ?_)
  simp only [mstart, startS, blkL, shiftSV]
  simp only [Tryd.f158, w1, go_sem]
  refine qand_i (by omega) ?_
  simp only [Tryd.f158, w1, go_sem]
  refine PLoop.intro (fun i : Nat => ⟨[(1, .val (.int .i64 s)), (5, .row 11), (12, .val (.lst a.length U1)), (13, .val (.int .i64 a.length)), (14, .val (.int .i64 i))], [(11, (.row 22 1 (a.length + 1) (R i), false))]⟩) (fun i => i ≤ a.length) (fun i => a.length - i) 0 (Nat.zero_le _) ?_ fun i hi => walk ?_
  · rw [h0]
    simp [Wk, sget, killL, kill1, SV.key]
  have wi : IntKind.wrap .i64 ((i : Int) + 1) = ((i + 1 : Nat) : Int) := by rw [wrap64 (by omega) (by omega)]; omega
  simp only [Tryd.f158, go_sem]
  refine qif_d (fun h => ?_) (fun h => ?_)
  · have hin : i < a.length := by omega
    have x1 := hg i hin
    obtain ⟨x2, x3, x4, x5, x6⟩ := hst i hin
    have x7 := hlen i
    simp only [Tryd.f158, go_sem]
    refine qand_i (by omega) ?_
    simp only [Tryd.f158, go_sem]
    refine qval_i (congrArg (Option.map _) x1) ?_
    simp only [Tryd.f158, go_sem]
    refine qand_i (by omega) ?_
    simp only [Tryd.f158, go_sem]
    refine qval_i (congrArg (Option.map _) x2) ?_
    simp only [Tryd.f158, x3, x4, go_sem]
    repeat' ((with_reducible refine qand_i (by first | omega | (rw [x7]; omega) | (simp [x7]; omega)) ?_); simp only [Tryd.f158, x3, x4, x5, ws, wi, go_sem])
    refine ⟨i + 1, by omega, by omega, ?_⟩
    rw [x6]
    simp [Wk, sget, killL, kill1, SV.key]
  · have hin : i = a.length := by omega
    subst hin
    simp only [Tryd.f158, go_sem]
    refine ⟨11, by decide, fun j b hb => ?_, .inr ⟨4, rfl, rfl, .inr ⟨rfl, rfl⟩⟩⟩
    match j, hb with
    | 0, hb =>
      simp only [List.getElem?_cons_zero, Option.some.injEq] at hb
      subst hb
      rfl
    | j + 1, hb => simp at hb

/-- The digits of a part of a row. -/
theorem part_dig {out : List Nat} (ho : Ok W out) {o k i : Nat} (hi : i < k) : out.getD (o + i) 0 = dv W ((out.drop o).take k) / W ^ i % W := by
  have hok : Ok W ((out.drop o).take k) := fun d hd => ho d (List.mem_of_mem_drop (List.mem_of_mem_take hd))
  rw [← dv_get W0 _ hok i, List.getD_eq_getElem?_getD, List.getD_eq_getElem?_getD, List.getElem?_take, if_pos hi, List.getElem?_drop]
theorem take_dig {vv : List Nat} (ho : Ok W vv) {k i : Nat} (hi : i < k) (hk : k ≤ vv.length) : (U vv)[i]? = some (.int .u64 ((dv W (vv.take k) / W ^ i % W : Nat) : Int)) := by
  have hok : Ok W (vv.take k) := fun d hd => ho d (List.mem_of_mem_take hd)
  rw [U_get, ← dv_get W0 _ hok i, List.getD_eq_getElem?_getD, List.getElem?_take, if_pos hi, List.getElem?_eq_getElem (by omega)]; rfl
theorem big_dig {Z n i : Nat} (hi : i ≤ n) : (Z + W ^ (n + 1)) / W ^ i % W = Z / W ^ i % W := by
  obtain ⟨k, rfl⟩ : ∃ k, n = i + k := ⟨n - i, by omega⟩
  rw [show i + k + 1 = i + (k + 1) by omega, Nat.pow_add, Nat.add_mul_div_left _ _ (Nat.pow_pos W0), Nat.pow_succ, Nat.mul_comm (W ^ k), Nat.add_mul_mod_self_left]
theorem big_mod {Z n : Nat} : (Z + W ^ (n + 1)) % W ^ (n + 1) = Z % W ^ (n + 1) := Nat.add_mod_right _ _
/-- One word of a product: what math/bits gives. -/
theorem prod_step {V q i : Nat} (hq : q < W) :
    V % W ^ i * q / W ^ i < W ∧ (V / W ^ i % W * q % W + V % W ^ i * q / W ^ i + 0) % W = V * q / W ^ i % W ∧ V / W ^ i % W * q / W + (V / W ^ i % W * q % W + V % W ^ i * q / W ^ i + 0) / W = V % W ^ (i + 1) * q / W ^ (i + 1) ∧ V % W ^ (i + 1) * q / W ^ (i + 1) < W := by
  obtain ⟨t1, t2, t3⟩ := row_step (Y := 0) (A := V) (n := q) (i := i) hq
  obtain ⟨t4, -, -⟩ := row_step (Y := 0) (A := V) (n := q) (i := i + 1) hq
  simp only [Nat.zero_mod, Nat.zero_div, Nat.zero_add, Nat.add_zero] at t1 t2 t3 t4
  have hx : V / W ^ i % W < W := Nat.mod_lt _ W0
  obtain ⟨r1, r2, r3, r4⟩ := row_arith (M := V / W ^ i % W * q) (c := V % W ^ i * q / W ^ i) (y := 0) rfl hx hq t1 W0
  simp only [Nat.zero_add, Nat.add_zero] at r1 r2 r3 ⊢
  rw [Nat.mod_mod] at r1
  have hz : (V / W ^ i % W * q % W + V % W ^ i * q / W ^ i) % W / W = 0 := Nat.div_eq_of_lt (Nat.mod_lt _ W0)
  rw [hz, Nat.add_zero] at r3
  exact ⟨t1, r1.trans t2, r3.trans t3, t4⟩
set_option maxHeartbeats 4000000 in
theorem d_takeOff {out vv : List Nat} {o n q : Nat} (ho : Ok W out) (hv : Ok W vv) (hq : q < W) (hL : o + n + 1 ≤ out.length) (hl : out.length ≤ 200000) (hn : n ≤ vv.length) (hl2 : vv.length ≤ 200000) {Z V : Nat} (hZ : dv W ((out.drop o).take (n + 1)) = Z) (hV : dv W (vv.take n) = V) :
    PCM E 160 [.sub 0 o (n + 1), .sub 1 0 n, .val (.int .u64 q)] [.row 22 1 out.length (U out), .row 22 1 vv.length (U vv)] (.val (.bool (decide (Z < V * q))))
      [.row 22 1 out.length (U (rowL out o (Z + W ^ (n + 1) - V * q) (n + 1))), .row 22 1 vv.length (U vv)] := by
  have hZl : Z < W ^ (n + 1) := by
    rw [← hZ]
    refine Nat.lt_of_lt_of_le (dv_lt _ (fun d hd => ho d (List.mem_of_mem_drop (List.mem_of_mem_take hd)))) (Nat.pow_le_pow_right W0 ?_)
    rw [List.length_take]; omega
  have hVl : V < W ^ n := by
    rw [← hV]
    refine Nat.lt_of_lt_of_le (dv_lt _ (fun d hd => hv d (List.mem_of_mem_take hd))) (Nat.pow_le_pow_right W0 ?_)
    rw [List.length_take]; omega
  have hMl : V * q < W ^ (n + 1) := by rw [Nat.pow_succ]; exact Nat.mul_lt_mul'' hVl hq
  have hle : V * q ≤ Z + W ^ (n + 1) := by omega
  have hst : ∀ i, i ≤ n → (U (rowL out o (Z + W ^ (n + 1) - V * q) i))[o + i]? = some (.int .u64 ((Z / W ^ i % W : Nat) : Int)) ∧
      (U (rowL out o (Z + W ^ (n + 1) - V * q) i)).length = out.length ∧
      (U (rowL out o (Z + W ^ (n + 1) - V * q) i)).set (o + i) (.int .u64 (((Z / W ^ i % W + W - V * q / W ^ i % W - borrow (Z + W ^ (n + 1)) (V * q) (W ^ i)) % W : Nat) : Int)) = U (rowL out o (Z + W ^ (n + 1) - V * q) (i + 1)) ∧
      (if Z / W ^ i % W < V * q / W ^ i % W + borrow (Z + W ^ (n + 1)) (V * q) (W ^ i) then 1 else 0) = borrow (Z + W ^ (n + 1)) (V * q) (W ^ (i + 1)) := fun i hi => by
    have g1 := rowL_get (out := out) (o := o) (T := Z + W ^ (n + 1) - V * q) (i := i) (by omega)
    have g2 := rowL_set (out := out) (o := o) (T := Z + W ^ (n + 1) - V * q) (i := i) (by omega)
    rw [part_dig ho (show i < n + 1 by omega), hZ] at g1
    have hWi := Nat.pow_pos (n := i) W0
    have e1 := borrow_digit (W := W) hWi hle W0
    have e3 := borrow_next (A := Z + W ^ (n + 1)) (B := V * q) (W := W) hWi
    rw [big_dig hi] at e1 e3
    have hb := borrow_le (Z + W ^ (n + 1)) (V * q) (W ^ i)
    have hx : V * q / W ^ i % W < W := Nat.mod_lt _ W0
    refine ⟨g1, by unfold U; rw [List.length_map, rowL_len (by omega)], ?_, by rw [← e3, ← Nat.pow_succ]⟩
    have e2 : (Z / W ^ i % W + W - V * q / W ^ i % W - borrow (Z + W ^ (n + 1)) (V * q) (W ^ i)) % W = (Z + W ^ (n + 1) - V * q) / W ^ i % W := by
      rw [← e1]
      generalize borrow (Z + W ^ (n + 1)) (V * q) (W ^ i) = br at *
      generalize V * q / W ^ i % W = y at *
      generalize Z / W ^ i % W = x
      have : x + W + W - y - br = (x + W - y - br) + W := by omega
      rw [this, Nat.add_mod_right]
    rw [e2]
    exact g2
  have hb0 : borrow (Z + W ^ (n + 1)) (V * q) (W ^ 0) = 0 := by rw [Nat.pow_zero]; exact borrow_one _ _
  have hbE : borrow (Z + W ^ (n + 1)) (V * q) (W ^ (n + 1)) = if Z < V * q then 1 else 0 := by
    unfold borrow
    rw [big_mod, Nat.mod_eq_of_lt hZl, Nat.mod_eq_of_lt hMl]
  have hbl := borrow_le (Z + W ^ (n + 1)) (V * q)
  have hvd := fun i (hi : i < n) => take_dig hv hi hn
  rw [hV] at hvd
  have hps := fun i => prod_step (V := V) (q := q) (i := i) hq
  have hc0 : V % W ^ 0 * q / W ^ 0 = 0 := by rw [Nat.pow_zero, Nat.mod_one, Nat.zero_mul, Nat.zero_div]
  have hcn : V % W ^ n * q / W ^ n = V * q / W ^ n % W := by
    rw [Nat.mod_eq_of_lt hVl, Nat.mod_eq_of_lt]
    rw [Nat.div_lt_iff_lt_mul (Nat.pow_pos W0), Nat.mul_comm W, ← Nat.pow_succ]
    exact hMl
  have hrl0 : rowL out o (Z + W ^ (n + 1) - V * q) 0 = out := by unfold rowL; simp [tab]
  have hr0 : U out = U (rowL out o (Z + W ^ (n + 1) - V * q) 0) := by rw [hrl0]
  generalize Z + W ^ (n + 1) - V * q = T at *
  obtain ⟨R, hR⟩ : ∃ R : Nat → List PV, ∀ i, U (rowL out o T i) = R i := ⟨_, fun _ => rfl⟩
  obtain ⟨Bo, hBo⟩ : ∃ Bo : Nat → Nat, ∀ i, borrow (Z + W ^ (n + 1)) (V * q) (W ^ i) = Bo i := ⟨_, fun _ => rfl⟩
  have hbl2 : ∀ i, Bo i ≤ 1 := fun i => by rw [← hBo]; exact hbl _
  obtain ⟨X, hX⟩ : ∃ X : Nat → Nat, ∀ i, Z / W ^ i % W = X i := ⟨_, fun _ => rfl⟩
  obtain ⟨M, hM⟩ : ∃ M : Nat → Nat, ∀ i, V * q / W ^ i % W = M i := ⟨_, fun _ => rfl⟩
  obtain ⟨C, hC⟩ : ∃ C : Nat → Nat, ∀ i, V % W ^ i * q / W ^ i = C i := ⟨_, fun _ => rfl⟩
  obtain ⟨D, hD⟩ : ∃ D : Nat → Nat, ∀ i, V / W ^ i % W = D i := ⟨_, fun _ => rfl⟩
  have hDW : ∀ i, D i < W := fun i => by rw [← hD]; exact Nat.mod_lt _ W0
  simp only [hR, hBo, hX, hM, hC, hD] at hst hb0 hbE hvd hps hc0 hcn hr0 ⊢
  rw [hr0]
  clear hR hBo hX hM hC hD hZ hV ho hv hbl hZl hVl hMl hle hr0 hrl0
  have hbd : decide (Z < V * q) = decide ((Bo (n + 1) : Int) > 0) := by
    rw [hbE]
    by_cases h : Z < V * q
    · rw [if_pos h, decide_eq_true h]; rfl
    · rw [if_neg h, decide_eq_false h]; rfl
  rw [hbd]
  clear hbd hbE
  generalize U vv = VV at *
  refine PCM.of_body follows Tryd.func160 (by decide +kernel) rfl (by kernel_rfl) (Nat.le_of_ble_eq_true rfl) (Nat.le_refl _) (by simp) (fun k h => by cases h) (fun h => by cases h) (walk ?_)
  simp only [mstart, startS, blkL, shiftSV]
  simp only [Tryd.f160, Int.cast_ofNat_Int, go_sem]
  refine PLoop.intro (fun i : Nat => ⟨[(0, .sub 68 o (n + 1)), (1, .sub 69 0 n), (2, .val (.int .u64 q)), (7, .val (.int .u64 (C i))), (8, .val (.int .u64 (Bo i))), (15, .sub 69 0 n), (16, .val (.int .i64 n)), (17, .val (.int .i64 i))],
    [(68, (.row 22 1 out.length (R i), false)), (69, (.row 22 1 vv.length VV, false))]⟩) (fun i => i ≤ n) (fun i => n - i) 0 (Nat.zero_le _) ?_ fun i hi => walk ?_
  · simp [Wk, sget, killL, kill1, SV.key, hc0, hb0]
  have wi : IntKind.wrap .i64 ((i : Int) + 1) = ((i + 1 : Nat) : Int) := by rw [wrap64 (by omega) (by omega)]; omega
  simp only [Tryd.f160, go_sem]
  refine qif_d (fun h => ?_) (fun h => ?_)
  · have hin : i < n := by omega
    have x1 := hvd i hin
    obtain ⟨x2, x3, x4, x5⟩ := hst i hi
    obtain ⟨p1, p2, p3, p4⟩ := hps i
    have k1 := c_Mul64 (D i) q (hDW i) hq
    have k2 := c_Add64 (D i * q % W) (C i) 0 (by decide)
    have k3 := c_Sub64 (X i) (M i) (Bo i) (hbl2 i)
    rw [p2] at k2
    rw [x5] at k3
    have w1 : IntKind.wrap .u64 (((D i * q / W : Nat) : Int) + (((D i * q % W + C i + 0) / W : Nat) : Int)) = ((C (i + 1) : Nat) : Int) := by
      rw [← Int.natCast_add, p3]; exact wrap_nat64 p4
    rw [show u 0 = .int .u64 0 from rfl] at k2
    simp only [u, Nat.add_zero] at k1 k2 k3 w1
    clear p2 p3
    generalize D i * q / W = m1 at *
    generalize D i * q % W = m2 at *
    generalize (m2 + C i) / W = m3 at *
    simp only [Tryd.f160, go_sem]
    refine qand_i (by omega) ?_
    simp only [Tryd.f160, go_sem]
    refine qval_i (congrArg (Option.map _) x1) ?_
    simp only [Tryd.f160, go_sem]
    refine qcall_i (k1) ?_; simp only [Tryd.f160, go_sem]
    refine qcall_i (k2) ?_; simp only [Tryd.f160, w1, go_sem]
    refine qand_i (by omega) ?_
    simp only [Tryd.f160, w1, go_sem]
    refine qval_i (congrArg (Option.map _) x2) ?_
    simp only [Tryd.f160, w1, go_sem]
    refine qcall_i (k3) ?_; simp only [Tryd.f160, wi, go_sem]
    repeat' ((with_reducible refine qand_i (by first | omega | (rw [x3]; omega) | (simp [x3]; omega)) ?_); simp only [Tryd.f160, wi, go_sem])
    refine ⟨i + 1, by omega, by omega, ?_⟩
    rw [x4]
    simp [Wk, sget, killL, kill1, SV.key]
  · have hin : i = n := by omega
    subst hin
    obtain ⟨x2, x3, x4, x5⟩ := hst i hi
    have k3 := c_Sub64 (X i) (M i) (Bo i) (hbl2 i)
    rw [x5, ← hcn] at k3
    simp only [u] at k3
    simp only [Tryd.f160, go_sem]
    refine qand_i (by omega) ?_
    simp only [Tryd.f160, go_sem]
    refine qval_i (congrArg (Option.map _) x2) ?_
    simp only [Tryd.f160, go_sem]
    refine qcall_i (k3) ?_; simp only [Tryd.f160, go_sem]
    rw [← hcn] at x4
    repeat' ((with_reducible refine qand_i (by first | omega | (rw [x3]; omega) | (simp [x3]; omega)) ?_); simp only [Tryd.f160, x4, go_sem])
    exact fin2 (by decide) (by simp [sget, x4]) (by simp [sget]) rfl
set_option maxHeartbeats 4000000 in
theorem d_putBack {out vv : List Nat} {o n : Nat} (ho : Ok W out) (hv : Ok W vv) (hL : o + n + 1 ≤ out.length) (hl : out.length ≤ 200000) (hn : n ≤ vv.length) (hl2 : vv.length ≤ 200000) {Z V : Nat} (hZ : dv W ((out.drop o).take (n + 1)) = Z) (hV : dv W (vv.take n) = V) :
    PCM E 161 [.sub 0 o (n + 1), .sub 1 0 n] [.row 22 1 out.length (U out), .row 22 1 vv.length (U vv)] (.val (.bool (decide (W ^ (n + 1) ≤ Z + V))))
      [.row 22 1 out.length (U (rowL out o (Z + V) (n + 1))), .row 22 1 vv.length (U vv)] := by
  have hZl : Z < W ^ (n + 1) := by
    rw [← hZ]
    refine Nat.lt_of_lt_of_le (dv_lt _ (fun d hd => ho d (List.mem_of_mem_drop (List.mem_of_mem_take hd)))) (Nat.pow_le_pow_right W0 ?_)
    rw [List.length_take]; omega
  have hVl : V < W ^ n := by
    rw [← hV]
    refine Nat.lt_of_lt_of_le (dv_lt _ (fun d hd => hv d (List.mem_of_mem_take hd))) (Nat.pow_le_pow_right W0 ?_)
    rw [List.length_take]; omega
  have hst : ∀ i, i ≤ n → (U (rowL out o (Z + V) i))[o + i]? = some (.int .u64 ((Z / W ^ i % W : Nat) : Int)) ∧
      (U (rowL out o (Z + V) i)).length = out.length ∧
      (U (rowL out o (Z + V) i)).set (o + i) (.int .u64 (((Z / W ^ i % W + V / W ^ i % W + carry Z V (W ^ i)) % W : Nat) : Int)) = U (rowL out o (Z + V) (i + 1)) ∧
      (Z / W ^ i % W + V / W ^ i % W + carry Z V (W ^ i)) / W = carry Z V (W ^ (i + 1)) := fun i hi => by
    have g1 := rowL_get (out := out) (o := o) (T := Z + V) (i := i) (by omega)
    have g2 := rowL_set (out := out) (o := o) (T := Z + V) (i := i) (by omega)
    rw [part_dig ho (show i < n + 1 by omega), hZ] at g1
    have hWi := Nat.pow_pos (n := i) W0
    refine ⟨g1, by unfold U; rw [List.length_map, rowL_len (by omega)], ?_, by rw [Nat.pow_succ, carry_next hWi]⟩
    rw [carry_digit hWi]
    exact g2
  have hb0 : carry Z V (W ^ 0) = 0 := by rw [Nat.pow_zero]; exact carry_one _ _
  have hcl := fun i => carry_le (A := Z) (B := V) (Nat.pow_pos (n := i) W0)
  have hVn : V / W ^ n % W = 0 := by rw [Nat.div_eq_of_lt hVl, Nat.zero_mod]
  have hVl2 : V < W ^ (n + 1) := Nat.lt_of_lt_of_le hVl (Nat.pow_le_pow_right W0 (Nat.le_succ _))
  have hbE : carry Z V (W ^ (n + 1)) = if W ^ (n + 1) ≤ Z + V then 1 else 0 := by
    unfold carry
    rw [Nat.mod_eq_of_lt hZl, Nat.mod_eq_of_lt hVl2]
    by_cases h : W ^ (n + 1) ≤ Z + V
    · rw [if_pos h]
      refine Nat.div_eq_of_lt_le (by omega) ?_
      rw [Nat.succ_mul, Nat.one_mul]; omega
    · rw [if_neg h]; exact Nat.div_eq_of_lt (by omega)
  have hvd := fun i (hi : i < n) => take_dig hv hi hn
  rw [hV] at hvd
  have hrl0 : rowL out o (Z + V) 0 = out := by unfold rowL; simp [tab]
  have hr0 : U out = U (rowL out o (Z + V) 0) := by rw [hrl0]
  have hbd : decide (W ^ (n + 1) ≤ Z + V) = decide ((carry Z V (W ^ (n + 1)) : Int) > 0) := by
    rw [hbE]
    by_cases h : W ^ (n + 1) ≤ Z + V
    · rw [if_pos h, decide_eq_true h]; rfl
    · rw [if_neg h, decide_eq_false h]; rfl
  rw [hbd]
  obtain ⟨R, hR⟩ : ∃ R : Nat → List PV, ∀ i, U (rowL out o (Z + V) i) = R i := ⟨_, fun _ => rfl⟩
  obtain ⟨Bo, hBo⟩ : ∃ Bo : Nat → Nat, ∀ i, carry Z V (W ^ i) = Bo i := ⟨_, fun _ => rfl⟩
  obtain ⟨X, hX⟩ : ∃ X : Nat → Nat, ∀ i, Z / W ^ i % W = X i := ⟨_, fun _ => rfl⟩
  obtain ⟨D, hD⟩ : ∃ D : Nat → Nat, ∀ i, V / W ^ i % W = D i := ⟨_, fun _ => rfl⟩
  simp only [hR, hBo, hX, hD] at hst hb0 hcl hVn hvd hr0 ⊢
  rw [hr0]
  clear hR hBo hX hD hZ hV ho hv hZl hVl hVl2 hbd hbE hr0 hrl0
  generalize U vv = VV at *
  refine PCM.of_body follows Tryd.func161 (by decide +kernel) rfl (by kernel_rfl) (Nat.le_of_ble_eq_true rfl) (Nat.le_refl _) (by simp) (fun k h => by cases h) (fun h => by cases h) (walk ?_)
  simp only [mstart, startS, blkL, shiftSV]
  simp only [Tryd.f161, Int.cast_ofNat_Int, go_sem]
  refine PLoop.intro (fun i : Nat => ⟨[(0, .sub 46 o (n + 1)), (1, .sub 47 0 n), (5, .val (.int .u64 (Bo i))), (9, .sub 47 0 n), (10, .val (.int .i64 n)), (11, .val (.int .i64 i))],
    [(46, (.row 22 1 out.length (R i), false)), (47, (.row 22 1 vv.length VV, false))]⟩) (fun i => i ≤ n) (fun i => n - i) 0 (Nat.zero_le _) ?_ fun i hi => walk ?_
  · simp [Wk, sget, killL, kill1, SV.key, hb0]
  have wi : IntKind.wrap .i64 ((i : Int) + 1) = ((i + 1 : Nat) : Int) := by rw [wrap64 (by omega) (by omega)]; omega
  simp only [Tryd.f161, go_sem]
  refine qif_d (fun h => ?_) (fun h => ?_)
  · have hin : i < n := by omega
    have x1 := hvd i hin
    obtain ⟨x2, x3, x4, x5⟩ := hst i hi
    have k2 := c_Add64 (X i) (D i) (Bo i) (hcl i)
    rw [x5] at k2
    simp only [u] at k2
    simp only [Tryd.f161, go_sem]
    refine qand_i (by omega) ?_
    simp only [Tryd.f161, go_sem]
    refine qval_i (congrArg (Option.map _) x1) ?_
    simp only [Tryd.f161, go_sem]
    refine qand_i (by omega) ?_
    simp only [Tryd.f161, go_sem]
    refine qval_i (congrArg (Option.map _) x2) ?_
    simp only [Tryd.f161, go_sem]
    refine qcall_i (k2) ?_; simp only [Tryd.f161, wi, go_sem]
    repeat' ((with_reducible refine qand_i (by first | omega | (rw [x3]; omega) | (simp [x3]; omega)) ?_); simp only [Tryd.f161, wi, go_sem])
    refine ⟨i + 1, by omega, by omega, ?_⟩
    rw [x4]
    simp [Wk, sget, killL, kill1, SV.key]
  · have hin : i = n := by omega
    subst hin
    obtain ⟨x2, x3, x4, x5⟩ := hst i hi
    have k3 := c_Add64 (X i) 0 (Bo i) (hcl i)
    rw [hVn] at x4 x5
    rw [x5] at k3
    rw [show u 0 = .int .u64 0 from rfl] at k3
    simp only [u, Nat.add_zero] at k3 x4
    simp only [Tryd.f161, go_sem]
    refine qand_i (by omega) ?_
    simp only [Tryd.f161, go_sem]
    refine qval_i (congrArg (Option.map _) x2) ?_
    simp only [Tryd.f161, go_sem]
    refine qcall_i (k3) ?_; simp only [Tryd.f161, go_sem]
    repeat' ((with_reducible refine qand_i (by first | omega | (rw [x3]; omega) | (simp [x3]; omega)) ?_); simp only [Tryd.f161, x4, go_sem])
    exact fin2 (by decide) (by simp [sget, x4]) (by simp [sget]) rfl
end Go.Proofs.YtejmlngnpekagaaDoor
