/- Division: a digit of a quotient, guessed from above. -/
import Derived.Test.YtejmlngnpekagaaDoorDq3
open Go PG Go.Proofs
set_option maxRecDepth 100000
set_option linter.unusedSimpArgs false
set_option linter.unusedVariables false
namespace Go.Proofs.YtejmlngnpekagaaDoor
attribute [local go_sem] Lay2 Lay3 Lay4 Lay5 Lay6 Lay7 Lay8 Lay9 Lay10 Lay11 Lay12 Lay13 Lay14 Lay15 Lay16 Lay17 Lay18 Lay19 Lay21 Lay22 Lay23 Lay24 Lay25 Lay30 Lay33 Lay36 Lay37 Lay46 Lay47 Lay48 Lay53 Lay54 Lay55 Lay59 Lay100 Lay101 Lay127 Lay146 Lay162 Lay168 Lay169 Lay173 Lay185 Lay186 Lay187 Lay188 Lay189 Lay191 Lay192 Lay194 Lay195 Lay196 Lay199 qexec_seq qexec_skip qexec_exit qexec_ret qexec_block qexec_loop qexec_range qexec_cond qexec_region qexec_drawn qops_nil qops_none qops_some put_some put_none pblk_exit pblk_other newDsts_nil inlDsts_nil isInl sget_cons sget_nil qval_some qbool_some qgs_bool qgs_und qfree_some qgrd_true qgrd_false qif_true qif_false qval_ite qval_itn qand_true map_ite map_some' map_none' qdo_move qdo_assign qdo_binOp qdo_pick qdo_unOp qdo_convert qdo_extract qdo_field qdo_fieldAddr qdo_alloc qdo_box qdo_build qdo_buildSlice qdo_load qdo_store qdo_nilCheck qdo_makeFunc qdo_makeSlice qdo_slice qdo_indexAddr qdo_call qcont_val qcont_new qcont_st qcont_app0 qcont_app qcont_inl qcont_call njSV_val njSV_nil njSV_row njSV_ptr njSV_sub binV_val binV_nil binV_nn binV_ptr bin_np bin_nnp nilCmp bin_add bin_sub bin_mul bin_quo bin_rem bin_and bin_or bin_xor bin_andNot bin_eql bin_neq bin_lss bin_leq bin_gtr bin_geq bin_shl bin_shr bin_seql bin_sneq bin_sadd bin_beql bin_aeql bin_aneq eqAnd_some eqCells_nil eqCells_cons fieldTypes isStruct eqCell bin_bneq un_not un_neg nj_ite Nat.beq stepA stepR isNew opSV constSV RV.sv allSome E_mu E_own qkeyIn_none qkeyIn_some qkeyAt_none qkeyAt_some Bool.or_false Bool.false_or Bool.or_true Bool.true_or cst setB res resSV pstart startL killL kill1 eraL frzL svPV rvPV rvInt rvSlice frzOf close closeL pconv pbuiltin pmax2 partPV setCells fillPV zrow bound newSV PV.cells Bk.cells Bk.with SV.key pres presL_nil presL_tmp presL_cell presC2_some cellPV_ptr presC List.toList_toArray List.size_toArray List.getElem?_drop Nat.mul_one Int.toNat_natCast Nat.not_lt_zero Nat.lt_irrefl decide_true decide_false Nat.not_lt Option.some.injEq PV.lst.injEq PV.int.injEq PV.bool.injEq PV.tuple.injEq List.cons.injEq Option.map_some Option.map_none Option.bind_some Option.toList List.map_cons List.map_nil List.nil_append List.cons_append List.append_nil List.zip_cons_cons List.zip_nil_left List.zip_nil_right List.getElem?_cons_zero List.getElem?_cons_succ List.drop_zero List.drop_succ_cons List.take_succ_cons List.take_zero List.set_cons_zero List.set_cons_succ List.length_cons List.length_nil List.length_set List.replicate_one List.replicate_zero bne_self_eq_false beq_self_eq_true Nat.zero_add Nat.add_zero Nat.zero_mul Bool.false_eq_true Bool.true_eq_false Bool.not_true Bool.not_false and_true true_and false_and and_false or_false false_or or_true true_or not_true_eq_false not_false_eq_true ne_eq gt_iff_lt List.mem_cons List.not_mem_nil
attribute [local go_sem ↓] pseq_normal pseq_ret pseq_exit pblk_normal pblk_ret newDsts_cons inlDsts_cons gdst_zero gdst_succ retQ_normal retQ_ret qneed_nil qneed_cons retM_normal retM_ret endR_normal endR_ret endR_exit
attribute [local go_sem] Int.reduceToNat Int.reduceEq Int.reduceNe Int.reduceLT Int.reduceLE Int.reduceNeg Int.reduceAdd Nat.reduceEqDiff Nat.reduceAdd Nat.reduceSub Nat.reduceMul Nat.reduceLeDiff Nat.reduceLT
attribute [local go_sem ↓] reduceIte reduceCtorEq

/-- Guesses, one less each, till one isn't too great as far as the next word tells. -/
def gsS (top next x0 : Nat) : Nat → Nat → Nat → Nat
  | 0, q, _ => q
  | k + 1, q, r => if q * next ≤ r * W + x0 then q else if r + top < W then gsS top next x0 k (q - 1) (r + top) else q - 1
theorem gsS_ge {top next x0 N t : Nat} (H : ∀ q r, q * top + r = N → r * W + x0 < q * next → t < q) : ∀ k q r, q * top + r = N → t ≤ q → t ≤ gsS top next x0 k q r ∧ gsS top next x0 k q r ≤ q := by
  intro k
  induction k with
  | zero => intro q r _ h; exact ⟨h, Nat.le_refl _⟩
  | succ k ih =>
    intro q r e h
    unfold gsS
    by_cases h1 : q * next ≤ r * W + x0
    · rw [if_pos h1]; exact ⟨h, Nat.le_refl _⟩
    rw [if_neg h1]
    have hq := H q r e (by omega)
    have e2 : (q - 1) * top + (r + top) = N := by
      obtain ⟨p, rfl⟩ : ∃ p, q = p + 1 := ⟨q - 1, by omega⟩
      rw [Nat.add_sub_cancel]
      rw [Nat.add_mul, Nat.one_mul] at e
      omega
    by_cases h2 : r + top < W
    · rw [if_pos h2]
      obtain ⟨g1, g2⟩ := ih (q - 1) (r + top) e2 (by omega)
      exact ⟨g1, by omega⟩
    · rw [if_neg h2]; exact ⟨by omega, by omega⟩
theorem hi_lo {hi lo r x0 M : Nat} (hM : hi * W + lo = M) (hlo : lo < W) (hx : x0 < W) : (hi < r ∨ hi = r ∧ lo ≤ x0) ↔ M ≤ r * W + x0 := by
  rw [← hM]
  constructor
  · rintro (h | ⟨rfl, h⟩)
    · have : (hi + 1) * W ≤ r * W := Nat.mul_le_mul_right _ h
      rw [Nat.add_mul, Nat.one_mul] at this
      omega
    · omega
  · intro h
    rcases Nat.lt_trichotomy hi r with h1 | h1 | h1
    · exact .inl h1
    · subst h1; exact .inr ⟨rfl, by omega⟩
    · have : (r + 1) * W ≤ hi * W := Nat.mul_le_mul_right _ h1
      rw [Nat.add_mul, Nat.one_mul] at this
      omega
set_option maxHeartbeats 4000000 in
theorem d_guess {out : List Nat} {o n top next : Nat} (ho : Ok W out) (hL : o + n + 1 ≤ out.length) (hl : out.length ≤ 200000) (hn : 2 ≤ n) {Z V : Nat} (hZ : dv W ((out.drop o).take (n + 1)) = Z) (hVl : V < W ^ n) (hZV : Z < V * W)
    (ht : V / W ^ (n - 1) = top) (hx : V / W ^ (n - 2) % W = next) : ∃ d, Z / V ≤ d ∧ d < W ∧
    PCM E 159 [.sub 0 o (n + 1), .val (.int .u64 top), .val (.int .u64 next)] [.row 22 1 out.length (U out)] (.val (.int .u64 d)) [.row 22 1 out.length (U out)] := by
  have hW := W0
  have hV0 : 0 < V := Nat.pos_of_ne_zero fun h => by rw [h, Nat.zero_mul] at hZV; omega
  have htW : top < W := by
    rw [← ht, Nat.div_lt_iff_lt_mul (Nat.pow_pos hW), Nat.mul_comm, ← Nat.pow_succ, show (n - 1).succ = n by omega]; exact hVl
  have hxW : next < W := by rw [← hx]; exact Nat.mod_lt _ hW
  -- three words of the part, two of the divisor
  have hd : ∀ i, i < n + 1 → (U out)[o + i]? = some (.int .u64 ((Z / W ^ i % W : Nat) : Int)) := fun i hi => by
    rw [U_get]
    have := part_dig ho (o := o) hi
    rw [hZ, List.getD_eq_getElem?_getD, List.getElem?_eq_getElem (show o + i < out.length by omega), Option.getD_some] at this
    rw [List.getElem?_eq_getElem (show o + i < out.length by omega), ← this]; rfl
  have hP := Nat.pow_pos (n := n - 2) hW
  have e1 : W ^ (n - 1) = W ^ (n - 2) * W := by rw [← Nat.pow_succ]; congr 1; omega
  have e2 : W ^ n = W ^ (n - 2) * W * W := by rw [← e1, ← Nat.pow_succ]; congr 1; omega
  have hZl : Z / W ^ n < W := by
    rw [Nat.div_lt_iff_lt_mul (Nat.pow_pos hW)]
    refine Nat.lt_of_lt_of_le hZV ?_
    rw [Nat.mul_comm]
    exact Nat.mul_le_mul_left _ (Nat.le_of_lt hVl)
  obtain ⟨x2, hx2⟩ : ∃ x, x = Z / W ^ n % W := ⟨_, rfl⟩
  obtain ⟨x1, hx1⟩ : ∃ x, x = Z / W ^ (n - 1) % W := ⟨_, rfl⟩
  obtain ⟨x0, hx0⟩ : ∃ x, x = Z / W ^ (n - 2) % W := ⟨_, rfl⟩
  have d2 := hd n (by omega)
  have d1 := hd (n - 1) (by omega)
  have d0 := hd (n - 2) (by omega)
  rw [← hx2] at d2
  rw [← hx1] at d1
  rw [← hx0] at d0
  have hx2W : x2 < W := by rw [hx2]; exact Nat.mod_lt _ hW
  have hx1W : x1 < W := by rw [hx1]; exact Nat.mod_lt _ hW
  have hx0W : x0 < W := by rw [hx0]; exact Nat.mod_lt _ hW
  have hN : Z / W ^ (n - 1) = x2 * W + x1 := by
    have h1 := Nat.div_add_mod (Z / W ^ (n - 1)) W
    rw [Nat.div_div_eq_div_mul, e1, ← e2, ← e1, ← hx1] at h1
    rw [hx2, Nat.mod_eq_of_lt hZl, Nat.mul_comm _ W]
    exact h1.symm
  have hN2 : Z / W ^ (n - 2) = (x2 * W + x1) * W + x0 := by
    have h1 := Nat.div_add_mod (Z / W ^ (n - 2)) W
    rw [Nat.div_div_eq_div_mul, ← e1, hN, ← hx0, Nat.mul_comm W] at h1
    exact h1.symm
  have hVt : (top * W + next) * W ^ (n - 2) ≤ V := by
    have h1 := Nat.div_add_mod (V / W ^ (n - 2)) W
    rw [Nat.div_div_eq_div_mul, ← e1, ht, hx, Nat.mul_comm W] at h1
    rw [h1]
    exact Nat.div_mul_le_self _ _
  have hVt1 : top * W ^ (n - 1) ≤ V := by rw [← ht]; exact Nat.div_mul_le_self _ _
  have hq0 : Z / V < W := (Nat.div_lt_iff_lt_mul hV0).2 (by rw [Nat.mul_comm]; exact hZV)
  have H : ∀ q r, q * top + r = x2 * W + x1 → r * W + x0 < q * next → Z / V < q := fun q r e h => by
    refine (Nat.div_lt_iff_lt_mul hV0).2 (Nat.not_le.1 fun h2 => ?_)
    have h3 : q * ((top * W + next) * W ^ (n - 2)) ≤ Z := Nat.le_trans (Nat.mul_le_mul_left _ hVt) h2
    rw [← Nat.mul_assoc] at h3
    have h4 := (Nat.le_div_iff_mul_le hP).2 h3
    rw [hN2, ← e, Nat.mul_add, Nat.add_mul, ← Nat.mul_assoc] at h4
    omega
  clear hd hVt hN2 hx0 hx1 hx2 hZl hx ht e1 e2 hP hVl hZ
  by_cases hc : top ≤ x2
  · refine ⟨W - 1, by omega, by omega, ?_⟩
    have w1 : IntKind.wrap .i64 (((n + 1 : Nat) : Int) - 1) = (n : Int) := by rw [wrap64 (by omega) (by omega)]; omega
    have hWm : ((W - 1 : Nat) : Int) = 18446744073709551615 := rfl
    rw [hWm]
    generalize U out = UU at *
    refine PCM.of_body follows Tryd.func159 (by decide +kernel) rfl (by kernel_rfl) (Nat.le_of_ble_eq_true rfl) (Nat.le_refl _) (by simp) (fun k h => by cases h) (fun h => by cases h) (walk ?_)
    simp only [mstart, startS, blkL, shiftSV]
    simp only [Tryd.f159, w1, go_sem]
    refine qand_i (by omega) ?_
    simp only [Tryd.f159, w1, go_sem]
    refine qval_i (congrArg (Option.map _) d2) ?_
    simp only [Tryd.f159, w1, go_sem]
    refine qif_dt (by omega) ?_
    simp only [Tryd.f159, go_sem]
    exact fin1 (by decide) (by simp [sget]) rfl
  have hc : x2 < top := Nat.not_le.1 hc
  have hqN : Z / V ≤ (x2 * W + x1) / top := by
    rw [Nat.le_div_iff_mul_le (by omega), ← hN, Nat.le_div_iff_mul_le (Nat.pow_pos hW), Nat.mul_assoc]
    exact Nat.le_trans (Nat.mul_le_mul_left _ hVt1) (Nat.div_mul_le_self _ _)
  have k1 := c_Div64 (hi := x2) (lo := x1) htW hx1W hc
  have hq0W : (x2 * W + x1) / top < W := by
    rw [Nat.div_lt_iff_lt_mul (by omega)]
    have : (x2 + 1) * W ≤ top * W := Nat.mul_le_mul_right _ hc
    rw [Nat.mul_comm W]
    rw [Nat.add_mul, Nat.one_mul] at this
    omega
  obtain ⟨g1, g2⟩ := gsS_ge H ((x2 * W + x1) / top) ((x2 * W + x1) / top) ((x2 * W + x1) % top) (Nat.div_add_mod' _ _) hqN
  refine ⟨_, g1, by omega, ?_⟩
  have hrW : (x2 * W + x1) % top < W := Nat.lt_trans (Nat.mod_lt _ (by omega)) htW
  have hqr : (x2 * W + x1) / top * top + (x2 * W + x1) % top = x2 * W + x1 := Nat.div_add_mod' _ _
  obtain ⟨D, hD⟩ : ∃ D, gsS top next x0 ((x2 * W + x1) / top) ((x2 * W + x1) / top) ((x2 * W + x1) % top) = D := ⟨_, rfl⟩
  rw [hD]
  obtain ⟨Q, hQ⟩ : ∃ Q, Q = (x2 * W + x1) / top := ⟨_, rfl⟩
  obtain ⟨R, hR⟩ : ∃ R, R = (x2 * W + x1) % top := ⟨_, rfl⟩
  rw [← hQ, ← hR] at k1 hD hqr
  rw [← hQ] at hq0W
  rw [← hR] at hrW
  clear hQ hR g1 g2 hqN hN hVt1 hZV hq0 H hV0
  have w1 : IntKind.wrap .i64 (((n + 1 : Nat) : Int) - 1) = (n : Int) := by rw [wrap64 (by omega) (by omega)]; omega
  have w2 : IntKind.wrap .i64 ((n : Int) - 1) = ((n - 1 : Nat) : Int) := by rw [wrap64 (by omega) (by omega)]; omega
  have w3 : IntKind.wrap .i64 ((n : Int) - 2) = ((n - 2 : Nat) : Int) := by rw [wrap64 (by omega) (by omega)]; omega
  generalize U out = UU at *
  simp only [u] at k1
  refine PCM.of_body follows Tryd.func159 (by decide +kernel) rfl (by kernel_rfl) (Nat.le_of_ble_eq_true rfl) (Nat.le_refl _) (by simp) (fun k h => by cases h) (fun h => by cases h) (walk ?_)
  simp only [mstart, startS, blkL, shiftSV]
  simp only [Tryd.f159, w1, go_sem]
  refine qand_i (by omega) ?_
  simp only [Tryd.f159, w1, go_sem]
  refine qval_i (congrArg (Option.map _) d2) ?_
  simp only [Tryd.f159, w1, w2, go_sem]
  refine qif_df (by omega) ?_
  simp only [Tryd.f159, w1, w2, go_sem]
  repeat' first
    | ((with_reducible refine qand_i (by omega) ?_); simp only [Tryd.f159, w1, w2, go_sem])
    | (refine qval_i (congrArg (Option.map _) d2) ?_; simp only [Tryd.f159, w1, w2, go_sem])
    | (refine qval_i (congrArg (Option.map _) d1) ?_; simp only [Tryd.f159, w1, w2, go_sem])
  refine qcall_i (k1) ?_; simp only [Tryd.f159, w1, w2, go_sem]
  refine PLoop.intro (fun i : Nat × Nat => ⟨[(0, .sub 71 o (n + 1)), (1, .val (.int .u64 top)), (2, .val (.int .u64 next)), (7, .val (.int .i64 n)), (8, .val (.int .u64 i.1)), (9, .val (.int .u64 i.2))], [(71, (.row 22 1 out.length UU, false))]⟩)
    (fun i => i.1 < W ∧ i.2 < W ∧ gsS top next x0 i.1 i.1 i.2 = D) (fun i => i.1) (Q, R) ⟨hq0W, hrW, hD⟩ ?_ fun i hi => walk ?_
  · simp [Wk, sget, killL, kill1, SV.key]
  obtain ⟨q, r⟩ := i
  obtain ⟨j1, j2, j3⟩ := hi
  dsimp only at j1 j2 j3 ⊢
  have k2 := c_Mul64 q next j1 hxW
  have hML := Nat.div_add_mod' (q * next) W
  have hlo := Nat.mod_lt (q * next) hW
  have hiff := hi_lo (r := r) hML hlo hx0W
  have k3 := c_Add64 r top 0 (by decide)
  simp only [Nat.add_zero] at k3
  rw [show u 0 = .int .u64 0 from rfl] at k3
  simp only [u] at k2 k3
  have hgo : ¬ (q * next ≤ r * W + x0) → 0 < q ∧ gsS top next x0 q q r = if r + top < W then gsS top next x0 (q - 1) (q - 1) (r + top) else q - 1 := fun h => by
    have hq : 0 < q := Nat.pos_of_ne_zero fun h0 => h (by rw [h0, Nat.zero_mul]; exact Nat.zero_le _)
    obtain ⟨p, rfl⟩ : ∃ p, q = p + 1 := ⟨q - 1, by omega⟩
    refine ⟨hq, ?_⟩
    conv => lhs; unfold gsS
    rw [if_neg h]; rfl
  have hret : q * next ≤ r * W + x0 → gsS top next x0 q q r = q := fun h => by
    rcases q with _ | q
    · rfl
    · unfold gsS; rw [if_pos h]
  obtain ⟨mh, hmh⟩ : ∃ m, m = q * next / W := ⟨_, rfl⟩
  obtain ⟨ml, hml⟩ : ∃ m, m = q * next % W := ⟨_, rfl⟩
  rw [← hmh, ← hml] at hiff k2
  have wd : 0 < q → IntKind.wrap .u64 ((q : Int) - 1) = ((q - 1 : Nat) : Int) := fun h => by rw [IntKind.wrap_u64]; have : q < 18446744073709551616 := j1; omega
  simp only [Tryd.f159, go_sem]
  refine qcall_i (k2) ?_; simp only [Tryd.f159, go_sem]
  refine qif_d (fun h1 => ?_) (fun h1 => ?_)
  · have hr := hret (hiff.1 (.inl (by omega)))
    simp only [Tryd.f159, go_sem]
    exact fin1 (by decide) (by simp [sget]) (by rw [← j3, hr]; rfl)
  simp only [Tryd.f159, go_sem]
  refine qif_d (fun h2 => ?_) (fun h2 => ?_)
  · simp only [Tryd.f159, w3, go_sem]
    refine qand_i (by omega) ?_
    simp only [Tryd.f159, w3, go_sem]
    refine qval_i (congrArg (Option.map _) d0) ?_
    simp only [Tryd.f159, w3, go_sem]
    refine qif_d (fun h3 => ?_) (fun h3 => ?_)
    · have hr := hret (hiff.1 (.inr ⟨by omega, by omega⟩))
      simp only [Tryd.f159, go_sem]
      exact fin1 (by decide) (by simp [sget]) (by rw [← j3, hr]; rfl)
    · obtain ⟨hq0, hgg⟩ := hgo (fun h => by have := hiff.2 h; omega)
      have wd := wd hq0
      simp only [Tryd.f159, wd, go_sem]
      refine qcall_i (k3) ?_; simp only [Tryd.f159, wd, go_sem]
      refine qif_d (fun h4 => ?_) (fun h4 => ?_)
      · have h5 : ¬ r + top < W := fun h => by rw [Nat.div_eq_of_lt h] at h4; omega
        rw [if_neg h5] at hgg
        simp only [Tryd.f159, go_sem]
        exact fin1 (by decide) (by simp [sget]) (by rw [← j3, hgg]; rfl)
      · have h5 : r + top < W := Nat.not_le.1 fun h => by have := Nat.div_pos h hW; omega
        rw [if_pos h5] at hgg
        rw [Nat.mod_eq_of_lt h5]
        simp only [Tryd.f159, go_sem]
        refine ⟨(q - 1, r + top), ⟨by dsimp only; omega, h5, by dsimp only; rw [← hgg]; exact j3⟩, by dsimp only; omega, ?_⟩
        simp [Wk, sget, killL, kill1, SV.key]
  · obtain ⟨hq0, hgg⟩ := hgo (fun h => by have := hiff.2 h; omega)
    have wd := wd hq0
    simp only [Tryd.f159, wd, go_sem]
    refine qcall_i (k3) ?_; simp only [Tryd.f159, wd, go_sem]
    refine qif_d (fun h4 => ?_) (fun h4 => ?_)
    · have h5 : ¬ r + top < W := fun h => by rw [Nat.div_eq_of_lt h] at h4; omega
      rw [if_neg h5] at hgg
      simp only [Tryd.f159, go_sem]
      exact fin1 (by decide) (by simp [sget]) (by rw [← j3, hgg]; rfl)
    · have h5 : r + top < W := Nat.not_le.1 fun h => by have := Nat.div_pos h hW; omega
      rw [if_pos h5] at hgg
      rw [Nat.mod_eq_of_lt h5]
      simp only [Tryd.f159, go_sem]
      refine ⟨(q - 1, r + top), ⟨by dsimp only; omega, h5, by dsimp only; rw [← hgg]; exact j3⟩, by dsimp only; omega, ?_⟩
      simp [Wk, sget, killL, kill1, SV.key]
end Go.Proofs.YtejmlngnpekagaaDoor
