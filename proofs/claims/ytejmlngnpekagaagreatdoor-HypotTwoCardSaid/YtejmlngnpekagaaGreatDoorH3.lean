/- Several parts in one text. -/
import Derived.Test.YtejmlngnpekagaaGreatDoorRv
import Derived.Test.YtejmlngnpekagaaGreatDoorFd0
import Derived.Test.YtejmlngnpekagaaGreatDoorH1
/- Sums of squares, in plain terms. No program stands here. -/
section
open Go PG Go.Proofs
set_option maxRecDepth 100000
set_option linter.unusedSimpArgs false
set_option linter.unusedVariables false
namespace Go.Proofs.YtejmlngnpekagaaGreatDoor

/-- A sum of squares. -/
def sumQ (l : List Nat) : Dy := l.foldl (fun acc x => addS acc (mulS (fd0 x) (fd0 x))) .zero
theorem sumQ_snoc (l : List Nat) (x : Nat) : sumQ (l ++ [x]) = addS (sumQ l) (mulS (fd0 x) (fd0 x)) := by unfold sumQ; rw [List.foldl_append]; rfl
theorem sumQ_ind {P : List Nat → Prop} (h0 : P []) (h1 : ∀ l x, P l → P (l ++ [x])) (l : List Nat) : P l := by
  obtain ⟨m, hm⟩ : ∃ m : List Nat, m = l.reverse := ⟨_, rfl⟩
  rw [show l = m.reverse by rw [hm, List.reverse_reverse]]
  clear hm
  induction m with
  | nil => exact h0
  | cons x m ih => rw [List.reverse_cons]; exact h1 _ _ ih
theorem sumQ_lim (l : List Nat) (hl : l.length ≤ 1000) : Lim (K0 + l.length) (sumQ l) := by
  revert hl
  refine sumQ_ind (P := fun l => l.length ≤ 1000 → Lim (K0 + l.length) (sumQ l)) (fun _ => (Lim.zero K0).mono (by omega)) (fun l x ih hl => ?_) l
  rw [List.length_append, List.length_singleton] at hl
  rw [sumQ_snoc, List.length_append, List.length_singleton]
  exact (ih (by omega)).add ((prod_limK x x).mono (by omega)) (by rw [K0_eq]; omega)
theorem sumQ_val (l : List Nat) (hl : l.length ≤ 1000) : 0 ≤ (sumQ l).val := by
  revert hl
  refine sumQ_ind (P := fun l => l.length ≤ 1000 → 0 ≤ (sumQ l).val) (fun _ => ?_) (fun l x ih hl => ?_) l
  · rw [show (sumQ []).val = 0 from val_zero rfl]; exact Rat.le_refl
  · rw [List.length_append, List.length_singleton] at hl
    have h1 := (sumQ_lim l (by omega)).mono (J := K0 + 1000) (by omega)
    have h2 := (prod_limK x x).mono (J := K0 + 1000) (by omega)
    rw [sumQ_snoc, h1.val_add h2 (by rw [K0_eq]; decide), val_mul]
    have h3 := ih (by omega)
    have h4 : 0 ≤ (fd0 x).val * (fd0 x).val := by
      by_cases h : 0 ≤ (fd0 x).val
      · exact Rat.mul_nonneg h h
      · have h5 : 0 ≤ -(fd0 x).val := by grind
        have := Rat.mul_nonneg h5 h5
        grind
    exact Rat.add_nonneg h3 h4
theorem s_of_val {d : Dy} (hok : d.ok) (h : 0 ≤ d.val) : d.s = false := by
  by_cases h0 : d.m = 0
  · rw [hok.z h0]; rfl
  have h1 := (sg_val (d := d)).2.1
  cases hs : d.s
  · rfl
  · exfalso
    have h2 : d.sg < 0 := by
      unfold Dy.sg
      rw [if_neg h0, hs]
      decide
    have := h1.1 h2
    grind
/-- What a number is worth, in the smallest units. -/
def E98 : Nat := 2098
theorem fv_top {b : Nat} (hf : fe b < 2047) : fv b < 2 ^ E98 := by
  have h1 := fm_lt b
  unfold fv
  have h2 : 2 ^ (max (fe b) 1 - 1) ≤ 2 ^ (E98 - 53) := Nat.pow_le_pow_right (by decide) (show max (fe b) 1 - 1 ≤ 2045 by omega)
  have h3 : (9007199254740992 : Nat) = 2 ^ 53 := by decide
  rw [h3] at h1
  refine Nat.lt_of_lt_of_le (Nat.mul_lt_mul_of_lt_of_le h1 h2 (Nat.two_pow_pos _)) ?_
  rw [← Nat.pow_add, show 53 + (E98 - 53) = E98 from rfl]
  exact Nat.le_refl _
theorem sq_at (x : Nat) : (mulS (fd0 x) (fd0 x)).ge (-2148) ∧ ((mulS (fd0 x) (fd0 x)).at (-2148)).natAbs < 2 ^ (E98 + E98) := by
  have hg : (fd0 x).ge (-1074) := by
    unfold fd0; split
    · exact fd_ge x
    · exact .inl rfl
  have ha : ((fd0 x).at (-1074)).natAbs < 2 ^ E98 := by
    unfold fd0; split
    · rename_i hf
      rw [fd_at]
      have := fv_top hf
      split <;> omega
    · rw [at_zero (d := Dy.zero) rfl (-1074)]; exact Nat.two_pow_pos _
  have e : (-2148 : Int) = -1074 + -1074 := by decide
  rw [e]
  refine ⟨mulS_ge hg hg, ?_⟩
  rw [mulS_at hg hg, Int.natAbs_mul, Nat.pow_add]
  exact Nat.mul_lt_mul'' ha ha
theorem sumQ_at (l : List Nat) (hl : l.length ≤ 1000) : (sumQ l).ge (-2148) ∧ ((sumQ l).at (-2148)).natAbs ≤ l.length * 2 ^ (E98 + E98) := by
  revert hl
  refine sumQ_ind (P := fun l => l.length ≤ 1000 → (sumQ l).ge (-2148) ∧ ((sumQ l).at (-2148)).natAbs ≤ l.length * 2 ^ (E98 + E98)) (fun _ => ⟨.inl rfl, ?_⟩) (fun l x ih hl => ?_) l
  · rw [show (sumQ []).at (-2148) = 0 from at_zero (d := sumQ []) rfl (-2148)]; simp
  · rw [List.length_append, List.length_singleton] at hl ⊢
    obtain ⟨h1, h2⟩ := ih (by omega)
    obtain ⟨h3, h4⟩ := sq_at x
    have L1 := (sumQ_lim l (by omega)).mono (J := K0 + 1000) (by omega)
    have L2 := (prod_limK x x).mono (J := K0 + 1000) (by omega)
    have f1 := L1.fits (by rw [K0_eq]; decide)
    have f2 := L2.fits (by rw [K0_eq]; decide)
    rw [sumQ_snoc]
    refine ⟨addS_ge L1.ok L2.ok f1 f2 h1 h3, ?_⟩
    rw [addS_at L1.ok L2.ok f1 f2 h1 h3, Nat.add_mul, Nat.one_mul]
    omega
theorem sumQ_bits (l : List Nat) (hl : l.length ≤ 1000) : bitLen (sumQ l).m ≤ 4400 := by
  obtain ⟨h1, h2⟩ := sumQ_at l hl
  rw [natAbs_at] at h2
  have h3 : (sumQ l).m * 1 ≤ (sumQ l).m * 2 ^ ((sumQ l).e - -2148).toNat := Nat.mul_le_mul_left _ (Nat.two_pow_pos _)
  have h4 : l.length * 2 ^ (E98 + E98) < 2 ^ 10 * 2 ^ (E98 + E98) := Nat.mul_lt_mul_of_pos_right (by have : (2 : Nat) ^ 10 = 1024 := by decide
                                                                                                     omega) (Nat.two_pow_pos _)
  rw [← Nat.pow_add] at h4
  exact Nat.le_trans ((bitLen_le _ (10 + (E98 + E98))).2 (by omega)) (by decide)
end Go.Proofs.YtejmlngnpekagaaGreatDoor
end

/- hypot: kinds in a list, roots, lengths. -/
section
open Go PG Go.Proofs
set_option maxRecDepth 100000
set_option linter.unusedSimpArgs false
set_option linter.unusedVariables false
namespace Go.Proofs.YtejmlngnpekagaaGreatDoor
attribute [local go_sem] Lay2 Lay3 Lay4 Lay5 Lay6 Lay7 Lay8 Lay9 Lay10 Lay11 Lay12 Lay13 Lay14 Lay15 Lay16 Lay17 Lay18 Lay19 Lay21 Lay22 Lay23 Lay25 Lay26 Lay27 Lay30 Lay31 Lay32 Lay33 Lay36 Lay37 Lay41 Lay42 Lay43 Lay47 Lay56 Lay57 Lay59 Lay60 Lay65 Lay66 Lay74 Lay75 Lay105 Lay114 Lay145 Lay146 Lay149 Lay150 Lay151 Lay173 Lay185 Lay189 Lay204 Lay205 Lay208 Lay214 Lay215 Lay216 Lay217 Lay218 Lay220 Lay221 Lay223 Lay224 Lay225 Lay228 qexec_seq qexec_skip qexec_exit qexec_ret qexec_block qexec_loop qexec_range qexec_cond qexec_region qexec_drawn qops_nil qops_none qops_some put_some put_none pblk_exit pblk_other newDsts_nil inlDsts_nil isInl sget_cons sget_nil qval_some qbool_some qgs_bool qgs_und qfree_some qgrd_true qgrd_false qif_true qif_false qval_ite qval_itn qand_true map_ite map_some' map_none' qdo_move qdo_assign qdo_binOp qdo_pick qdo_unOp qdo_convert qdo_extract qdo_field qdo_fieldAddr qdo_alloc qdo_box qdo_build qdo_buildSlice qdo_load qdo_store qdo_nilCheck qdo_makeFunc qdo_makeSlice qdo_slice qdo_indexAddr qdo_call qcont_val qcont_new qcont_st qcont_app0 qcont_app qcont_inl qcont_call njSV_val njSV_nil njSV_row njSV_ptr njSV_sub binV_val binV_nil binV_nn binV_ptr bin_np bin_nnp nilCmp bin_add bin_sub bin_mul bin_quo bin_rem bin_and bin_or bin_xor bin_andNot bin_eql bin_neq bin_lss bin_leq bin_gtr bin_geq bin_shl bin_shr bin_seql bin_sneq bin_sadd bin_beql bin_aeql bin_aneq eqAnd_some eqCells_nil eqCells_cons fieldTypes isStruct eqCell bin_bneq un_not un_neg nj_ite Nat.beq stepA stepR isNew opSV constSV RV.sv allSome E_mu E_own qkeyIn_none qkeyIn_some qkeyAt_none qkeyAt_some Bool.or_false Bool.false_or Bool.or_true Bool.true_or cst setB res resSV pstart startL killL kill1 eraL frzL svPV rvPV rvInt rvSlice frzOf close closeL pconv pbuiltin pmax2 partPV setCells fillPV zrow bound newSV PV.cells Bk.cells Bk.with SV.key pres presL_nil presL_tmp presL_cell presC2_some cellPV_ptr presC List.toList_toArray List.size_toArray List.getElem?_drop Nat.mul_one Int.toNat_natCast Nat.not_lt_zero Nat.lt_irrefl decide_true decide_false Nat.not_lt Option.some.injEq PV.lst.injEq PV.int.injEq PV.bool.injEq PV.tuple.injEq List.cons.injEq Option.map_some Option.map_none Option.bind_some Option.toList List.map_cons List.map_nil List.nil_append List.cons_append List.append_nil List.zip_cons_cons List.zip_nil_left List.zip_nil_right List.getElem?_cons_zero List.getElem?_cons_succ List.drop_zero List.drop_succ_cons List.take_succ_cons List.take_zero List.set_cons_zero List.set_cons_succ List.length_cons List.length_nil List.length_set List.replicate_one List.replicate_zero bne_self_eq_false beq_self_eq_true Nat.zero_add Nat.add_zero Nat.zero_mul Bool.false_eq_true Bool.true_eq_false Bool.not_true Bool.not_false and_true true_and false_and and_false or_false false_or or_true true_or not_true_eq_false not_false_eq_true ne_eq gt_iff_lt List.mem_cons List.not_mem_nil
attribute [local go_sem ↓] pseq_normal pseq_ret pseq_exit pblk_normal pblk_ret newDsts_cons inlDsts_cons gdst_zero gdst_succ retQ_normal retQ_ret qneed_nil qneed_cons retM_normal retM_ret endR_normal endR_ret endR_exit
attribute [local go_sem] Int.reduceToNat Int.reduceEq Int.reduceNe Int.reduceLT Int.reduceLE Int.reduceNeg Int.reduceAdd Nat.reduceEqDiff Nat.reduceAdd Nat.reduceSub Nat.reduceMul Nat.reduceLeDiff Nat.reduceLT
attribute [local go_sem ↓] reduceIte reduceCtorEq

theorem h_is (x : Nat) : PC E 114 [u x] (.tuple [.agg [u x, .int .u8 0, .int .i64 0], .int .i64 0]) := by
  refine PC.of_body follows Tryz.func114 (by decide +kernel) rfl (by kernel_rfl) (Nat.le_of_ble_eq_true rfl) (walk ?_)
  simp only [u]
  simp only [Tryz.f114, go_sem]
  try rfl
theorem h_invalid : PC E 113 [] (.tuple [.agg [.int .u64 9221120237041090560, .int .u8 16, .int .i64 0], .int .i64 0]) := by
  refine PC.of_body follows Tryz.func113 (by decide +kernel) rfl (by kernel_rfl) (Nat.le_of_ble_eq_true rfl) (walk ?_)
  simp only [Tryz.f113, go_sem]
  try rfl
theorem h_right (dir : Int) : PC E 111 [.int .i64 dir] (.bool (decide (0 ≤ dir ∧ dir ≤ 3))) := by
  refine PC.of_body follows Tryz.func111 (by decide +kernel) rfl (by kernel_rfl) (Nat.le_of_ble_eq_true rfl) (walk ?_)
  simp only [Tryz.f111, go_sem]
  refine qif_d (fun h => ?_) (fun h => ?_)
  · simp only [Tryz.f111, go_sem]
    exact decide_eq_decide.2 (by omega)
  · simp only [Tryz.f111, go_sem]
    exact (decide_eq_false (by omega)).symm
theorem h_some1 {x : Nat} (hx : x < W) (k : Int) : PC E 162 [u x, .ref [.int .i64 k]] (.bool (decide ((kind x : Int) = k))) := by
  have k1 := c_Kind x hx
  simp only [u] at k1 ⊢
  generalize kind x = a at *
  refine PC.of_body follows Tryz.func162 (by decide +kernel) rfl (by kernel_rfl) (Nat.le_of_ble_eq_true rfl) (walk ?_)
  simp only [Tryz.f162, go_sem]
  refine qcall_i (k1) ?_; simp only [Tryz.f162, go_sem]
  try rfl
theorem h_some {l : List Nat} (ol : Ok W l) (hl : l.length ≤ 100000) (k : Int) : PC E 112 [NL l, .int .i64 k] (.bool (l.any fun x => decide ((kind x : Int) = k))) := by
  have k2 := g_Contains (f := 162) (by kernel_rfl) (cs := [.ref [.int .i64 k]]) (p := fun x => decide ((kind x : Int) = k)) (l := l) (by omega) (fun x hx => h_some1 (ol x hx) k)
  generalize (l.any fun x => decide ((kind x : Int) = k)) = A at *
  refine PC.of_body follows Tryz.func112 (by decide +kernel) rfl (by kernel_rfl) (Nat.le_of_ble_eq_true rfl) (walk ?_)
  simp only [NL] at k2 ⊢
  simp only [Tryz.f112, go_sem]
  refine qcall_i (k2) ?_; simp only [Tryz.f112, go_sem]
  try rfl
/-- A root, or 0. -/
def rootS (d : Dy) (r : Nat) (dir : Int) : Nat × Nat := if d.m = 0 then (0, 0) else toS (rootD d r) (decide (r * r ≠ rootM d)) dir
theorem h_rooted {K : Nat} {d : Dy} (hl : Lim K d) (hK : K ≤ 100000) (hb : bitLen d.m ≤ 4400) (hs : d.s = false) {r : Nat} (hr : Isq (rootM d) r) {dir : Int} (hd : 0 ≤ dir ∧ dir ≤ 3) : PC E 115 [d.pv, .int .i64 dir] (resB (rootS d r dir) 0) := by
  have k1 := r_Sign (hl.RD (by omega))
  have k2 := h_is 0
  have k3 := b_Root (hl.RD (by omega)) hr dir
  have z0 : ((0 : Nat) : Int) = 0 := rfl
  unfold rootB at k3
  unfold rootS
  by_cases h0 : d.m = 0
  · rw [if_pos h0]
    have e1 : d.sg = 0 := if_pos h0
    rw [e1] at k1
    simp only [u, resB, z0, Dy.pv, DP] at k1 k2 ⊢
    refine PC.of_body follows Tryz.func115 (by decide +kernel) rfl (by kernel_rfl) (Nat.le_of_ble_eq_true rfl) (walk ?_)
    simp only [Tryz.f115, go_sem]
    refine qcall_i (k1) ?_; simp only [Tryz.f115, go_sem]
    refine qcall_i (k2) ?_; simp only [Tryz.f115, go_sem]
    try rfl
  · rw [if_neg h0]
    have e1 : ¬ d.sg = 0 := by
      unfold Dy.sg
      rw [if_neg h0, hs]
      decide
    rw [if_pos ⟨⟨hl.fits (by omega), h0, hb⟩, hs, hd⟩] at k3
    generalize toS (rootD d r) (decide (r * r ≠ rootM d)) dir = T at *
    generalize d.sg = sg at *
    simp only [resB, Dy.pv, DP] at k1 k3 ⊢
    refine PC.of_body follows Tryz.func115 (by decide +kernel) rfl (by kernel_rfl) (Nat.le_of_ble_eq_true rfl) (walk ?_)
    simp only [Tryz.f115, go_sem]
    refine qcall_i (k1) ?_; simp only [Tryz.f115, go_sem]
    refine qif_df e1 ?_
    simp only [Tryz.f115, go_sem]
    refine qcall_i (k3) ?_; simp only [Tryz.f115, go_sem]
    try rfl
/-- Bits and flags of a length. -/
def lenS (l : List Nat) (r : Nat) (dir : Int) : Nat × Nat :=
  if (l.any fun x => decide ((kind x : Int) = 5)) = true then (9221120237041090560, 16)
  else if (l.any fun x => decide ((kind x : Int) = 3)) = true then (9218868437227405312, 0)
  else if (l.any fun x => decide ((kind x : Int) = 4)) = true then (9221120237041090560, 0)
  else rootS (sumQ l) r dir
set_option maxHeartbeats 4000000 in
theorem h_Length {l : List Nat} (ol : Ok W l) (hl : l.length ≤ 1000) {r : Nat} (hr : Isq (rootM (sumQ l)) r) {dir : Int} (hd : 0 ≤ dir ∧ dir ≤ 3) : PC E 53 [NL l, .int .i64 dir] (resB (lenS l r dir) 0) := by
  have k1 := h_right dir
  rw [decide_eq_true hd] at k1
  have k5 := h_some ol (by omega) 5
  have k3 := h_some ol (by omega) 3
  have k4 := h_some ol (by omega) 4
  have ki := h_invalid
  have q1 := h_is 9218868437227405312
  have q2 := h_is 9221120237041090560
  have kr := h_rooted ((sumQ_lim l hl).mono (J := 4000) (by rw [K0_eq]; omega)) (by decide) (sumQ_bits l hl) (s_of_val (sumQ_lim l hl).ok (sumQ_val l hl)) hr hd
  have hg : ∀ i, i < l.length → (U l)[i]? = some (.int .u64 (l.getD i 0 : Nat)) := fun i hi => U_getD hi
  have hx : ∀ i, i < l.length → l.getD i 0 < W := fun i hi => by rw [List.getD_eq_getElem?_getD, List.getElem?_eq_getElem hi]; exact ol _ (List.getElem_mem _)
  have hkd : ∀ i, i < l.length → PC E 61 [u (l.getD i 0)] (.tuple [(fd0 (l.getD i 0)).pv, .bool (decide (fe (l.getD i 0) < 2047))]) := fun i hi => r_FDyad (hx i hi)
  have hkm : ∀ x, PC E 29 [(fd0 x).pv, (fd0 x).pv] (.tuple [(mulS (fd0 x) (fd0 x)).pv, .int .i64 0]) := fun x => by
    have := r_Mul ((fd0_lim x).RD (by decide)) ((fd0_lim x).RD (by decide))
    rwa [mulV_lim (fd0_lim x) (fd0_lim x) (by decide)] at this
  have hka : ∀ i, i < l.length → PC E 32 [(sumQ (l.take i)).pv, (mulS (fd0 (l.getD i 0)) (fd0 (l.getD i 0))).pv] (.tuple [(sumQ (l.take (i + 1))).pv, .int .i64 0]) := fun i hi => by
    have hl' : (l.take i).length ≤ 1000 := by rw [List.length_take]; omega
    have h1 := (sumQ_lim (l.take i) hl').mono (J := K0 + 1000) (by omega)
    have h2 := (prod_limK (l.getD i 0) (l.getD i 0)).mono (J := K0 + 1000) (by omega)
    have := r_Add (h1.RD (by rw [K0_eq]; decide)) (h2.RD (by rw [K0_eq]; decide))
    rw [addV_lim h1 h2 (by rw [K0_eq]; decide)] at this
    rwa [List.take_succ_eq_append_getElem hi, sumQ_snoc, show l[i] = l.getD i 0 by rw [List.getD_eq_getElem?_getD, List.getElem?_eq_getElem hi]; rfl]
  have hn : l.take l.length = l := List.take_length
  have h0 : sumQ (l.take 0) = .zero := rfl
  rw [← hn] at kr
  unfold lenS
  rw [show sumQ l = sumQ (l.take l.length) by rw [hn]]
  obtain ⟨S, hS⟩ : ∃ S : Nat → Dy, ∀ i, sumQ (l.take i) = S i := ⟨_, fun _ => rfl⟩
  rw [hn] at kr
  simp only [hS] at h0 hka ⊢
  rw [show sumQ l = S l.length by rw [← hS, hn]] at kr
  generalize rootS (S l.length) r dir = T at *
  obtain ⟨X, hX⟩ : ∃ X : Nat → Nat, ∀ i, l.getD i 0 = X i := ⟨_, fun _ => rfl⟩
  simp only [hX] at hg hkd hka
  have z0 : ((0 : Nat) : Int) = 0 := rfl
  have zp : Dy.zero.pv = .agg [.bool false, .lst 0 [], .int .i64 0] := rfl
  generalize (l.any fun x => decide ((kind x : Int) = 5)) = A5 at *
  generalize (l.any fun x => decide ((kind x : Int) = 3)) = A3 at *
  generalize (l.any fun x => decide ((kind x : Int) = 4)) = A4 at *
  clear hr hX hS hn hx ol
  simp only [NL, u, resB, z0] at k5 k3 k4 q1 q2 kr hkd ⊢
  rw [show ((9218868437227405312 : Nat) : Int) = 9218868437227405312 from rfl] at q1
  rw [show ((9221120237041090560 : Nat) : Int) = 9221120237041090560 from rfl] at q2
  generalize U l = U1 at *
  generalize l.length = n at *
  have hn1 : ((n : Int) > 1000) = False := eq_false (by omega)
  have hn2 : (1000 < (n : Int)) = False := eq_false (by omega)
  refine PC.of_body follows Tryz.func53 (by decide +kernel) rfl (by kernel_rfl) (Nat.le_of_ble_eq_true rfl) (walk ?_)
  simp only [Tryz.f53, go_sem]
  refine qcall_i (k1) ?_; simp only [Tryz.f53, hn1, hn2, go_sem]
  refine qcall_i (k5) ?_; simp only [Tryz.f53, go_sem]
  cases A5
  case true =>
    simp only [Tryz.f53, go_sem]
    refine qcall_i (ki) ?_; simp only [Tryz.f53, go_sem]
    try rfl
  simp only [Tryz.f53, go_sem]
  refine qcall_i (k3) ?_; simp only [Tryz.f53, go_sem]
  cases A3
  case true =>
    simp only [Tryz.f53, go_sem]
    refine qcall_i (q1) ?_; simp only [Tryz.f53, go_sem]
    try rfl
  simp only [Tryz.f53, go_sem]
  refine qcall_i (k4) ?_; simp only [Tryz.f53, go_sem]
  cases A4
  case true =>
    simp only [Tryz.f53, go_sem]
    refine qcall_i (q2) ?_; simp only [Tryz.f53, go_sem]
    try rfl
  simp only [Tryz.f53, go_sem]
  simp only [Dy.pv, DP, NN, NL] at hkd hkm hka kr
  refine PLoop.intro (fun i : Nat => ⟨[(1, .val (.int .i64 dir)), (4, .ptr 4 0), (6, .ptr 6 0), (41, .val (.lst n U1)), (42, .val (.int .i64 n)), (43, .val (.int .i64 i))],
    [(4, (.box [.int .u64 0, .int .u8 0, .int .i64 0], false)), (6, (.box [.bool (S i).s, .lst (dg W (S i).m).length (U (dg W (S i).m)), .int .i64 (S i).e], false))]⟩) (fun i => i ≤ n) (fun i => n - i) 0 (Nat.zero_le _) ?_ fun i hi => walk ?_
  · rw [h0]
    simp [Wk, sget, killL, kill1, SV.key, z0]
    try exact ⟨rfl, ⟨rfl, rfl⟩, rfl⟩
    try rfl
  have wi : IntKind.wrap .i64 ((i : Int) + 1) = ((i + 1 : Nat) : Int) := by rw [wrap64 (by omega) (by omega)]; omega
  simp only [Tryz.f53, go_sem]
  refine qif_d (fun h => ?_) (fun h => ?_)
  · have hin : i < n := by omega
    have x1 := hg i hin
    have k1 := hkd i hin
    have k2 := hkm (X i)
    have k3 := hka i hin
    generalize mulS (fd0 (X i)) (fd0 (X i)) = m at *
    generalize fd0 (X i) = d at *
    simp only [Tryz.f53, go_sem]
    refine qand_i (by first | omega | (simp [V_length, U_length, tab_length, maxLen]; done) | (simp [V_length, U_length, tab_length, maxLen]; omega) | (refine ⟨?_, ?_⟩ <;> first | omega | (simp [V_length, U_length, tab_length, maxLen]; done) | (simp [V_length, U_length, tab_length, maxLen]; omega))) ?_; simp only [Tryz.f53, go_sem]
    refine qval_i (congrArg (Option.map _) x1) ?_
    simp only [Tryz.f53, go_sem]
    refine qcall_i (k1) ?_; simp only [Tryz.f53, go_sem]
    refine qcall_i (k2) ?_; simp only [Tryz.f53, go_sem]
    refine qcall_i (k3) ?_; simp only [Tryz.f53, wi, go_sem]
    refine ⟨i + 1, by omega, by omega, ?_⟩
    simp [Wk, sget, killL, kill1, SV.key]
  · have hin : i = n := by omega
    subst hin
    simp only [Tryz.f53, go_sem]
    refine qcall_i (kr) ?_; simp only [Tryz.f53, go_sem]
    try rfl
theorem h_LengthN {l : List Nat} (hl : l.length ≤ 1000) {dir : Int} (hd : ¬ (0 ≤ dir ∧ dir ≤ 3)) : PC E 53 [NL l, .int .i64 dir] (resB (0, 0) 1) := by
  have k1 := h_right dir
  rw [decide_eq_false hd] at k1
  have z0 : ((0 : Nat) : Int) = 0 := rfl
  simp only [NL, resB, z0]
  refine PC.of_body follows Tryz.func53 (by decide +kernel) rfl (by kernel_rfl) (Nat.le_of_ble_eq_true rfl) (walk ?_)
  simp only [Tryz.f53, go_sem]
  refine qcall_i (k1) ?_; simp only [Tryz.f53, go_sem]
  try rfl
theorem h_Hypot {x y : Nat} (hx : x < W) (hy : y < W) {r : Nat} (hr : Isq (rootM (sumQ [x, y])) r) {dir : Int} (hd : 0 ≤ dir ∧ dir ≤ 3) : PC E 58 [u x, u y, .int .i64 dir] (resB (lenS [x, y] r dir) 0) := by
  have ol : Ok W [x, y] := fun d h => by simp at h; rcases h with rfl | rfl <;> assumption
  have k1 := h_Length ol (by simp) hr hd
  generalize lenS [x, y] r dir = T at *
  simp only [u, NL, U, List.map_cons, List.map_nil, List.length_cons, List.length_nil, resB, Nat.reduceAdd] at k1 ⊢
  refine PC.of_body follows Tryz.func58 (by decide +kernel) rfl (by kernel_rfl) (Nat.le_of_ble_eq_true rfl) (walk ?_)
  simp only [Tryz.f58, List.replicate_succ, go_sem]
  refine qcall_i (k1) ?_; simp only [Tryz.f58, List.replicate_succ, go_sem]
  try rfl
theorem h_HypotN {x y : Nat} {dir : Int} (hd : ¬ (0 ≤ dir ∧ dir ≤ 3)) : PC E 58 [u x, u y, .int .i64 dir] (resB (0, 0) 1) := by
  have k1 := h_LengthN (l := [x, y]) (by simp) hd
  have z0 : ((0 : Nat) : Int) = 0 := rfl
  simp only [u, NL, U, List.map_cons, List.map_nil, List.length_cons, List.length_nil, resB, Nat.reduceAdd, z0] at k1 ⊢
  refine PC.of_body follows Tryz.func58 (by decide +kernel) rfl (by kernel_rfl) (Nat.le_of_ble_eq_true rfl) (walk ?_)
  simp only [Tryz.f58, List.replicate_succ, go_sem]
  refine qcall_i (k1) ?_; simp only [Tryz.f58, List.replicate_succ, go_sem]
  try rfl
end Go.Proofs.YtejmlngnpekagaaGreatDoor
end

/- hypot: the mean by products. -/
section
open Go PG Go.Proofs
set_option maxRecDepth 100000
set_option linter.unusedSimpArgs false
set_option linter.unusedVariables false
namespace Go.Proofs.YtejmlngnpekagaaGreatDoor
attribute [local go_sem] Lay2 Lay3 Lay4 Lay5 Lay6 Lay7 Lay8 Lay9 Lay10 Lay11 Lay12 Lay13 Lay14 Lay15 Lay16 Lay17 Lay18 Lay19 Lay21 Lay22 Lay23 Lay25 Lay26 Lay27 Lay30 Lay31 Lay32 Lay33 Lay36 Lay37 Lay41 Lay42 Lay43 Lay47 Lay56 Lay57 Lay59 Lay60 Lay65 Lay66 Lay74 Lay75 Lay105 Lay114 Lay145 Lay146 Lay149 Lay150 Lay151 Lay173 Lay185 Lay189 Lay204 Lay205 Lay208 Lay214 Lay215 Lay216 Lay217 Lay218 Lay220 Lay221 Lay223 Lay224 Lay225 Lay228 qexec_seq qexec_skip qexec_exit qexec_ret qexec_block qexec_loop qexec_range qexec_cond qexec_region qexec_drawn qops_nil qops_none qops_some put_some put_none pblk_exit pblk_other newDsts_nil inlDsts_nil isInl sget_cons sget_nil qval_some qbool_some qgs_bool qgs_und qfree_some qgrd_true qgrd_false qif_true qif_false qval_ite qval_itn qand_true map_ite map_some' map_none' qdo_move qdo_assign qdo_binOp qdo_pick qdo_unOp qdo_convert qdo_extract qdo_field qdo_fieldAddr qdo_alloc qdo_box qdo_build qdo_buildSlice qdo_load qdo_store qdo_nilCheck qdo_makeFunc qdo_makeSlice qdo_slice qdo_indexAddr qdo_call qcont_val qcont_new qcont_st qcont_app0 qcont_app qcont_inl qcont_call njSV_val njSV_nil njSV_row njSV_ptr njSV_sub binV_val binV_nil binV_nn binV_ptr bin_np bin_nnp nilCmp bin_add bin_sub bin_mul bin_quo bin_rem bin_and bin_or bin_xor bin_andNot bin_eql bin_neq bin_lss bin_leq bin_gtr bin_geq bin_shl bin_shr bin_seql bin_sneq bin_sadd bin_beql bin_aeql bin_aneq eqAnd_some eqCells_nil eqCells_cons fieldTypes isStruct eqCell bin_bneq un_not un_neg nj_ite Nat.beq stepA stepR isNew opSV constSV RV.sv allSome E_mu E_own qkeyIn_none qkeyIn_some qkeyAt_none qkeyAt_some Bool.or_false Bool.false_or Bool.or_true Bool.true_or cst setB res resSV pstart startL killL kill1 eraL frzL svPV rvPV rvInt rvSlice frzOf close closeL pconv pbuiltin pmax2 partPV setCells fillPV zrow bound newSV PV.cells Bk.cells Bk.with SV.key pres presL_nil presL_tmp presL_cell presC2_some cellPV_ptr presC List.toList_toArray List.size_toArray List.getElem?_drop Nat.mul_one Int.toNat_natCast Nat.not_lt_zero Nat.lt_irrefl decide_true decide_false Nat.not_lt Option.some.injEq PV.lst.injEq PV.int.injEq PV.bool.injEq PV.tuple.injEq List.cons.injEq Option.map_some Option.map_none Option.bind_some Option.toList List.map_cons List.map_nil List.nil_append List.cons_append List.append_nil List.zip_cons_cons List.zip_nil_left List.zip_nil_right List.getElem?_cons_zero List.getElem?_cons_succ List.drop_zero List.drop_succ_cons List.take_succ_cons List.take_zero List.set_cons_zero List.set_cons_succ List.length_cons List.length_nil List.length_set List.replicate_one List.replicate_zero bne_self_eq_false beq_self_eq_true Nat.zero_add Nat.add_zero Nat.zero_mul Bool.false_eq_true Bool.true_eq_false Bool.not_true Bool.not_false and_true true_and false_and and_false or_false false_or or_true true_or not_true_eq_false not_false_eq_true ne_eq gt_iff_lt List.mem_cons List.not_mem_nil
attribute [local go_sem ↓] pseq_normal pseq_ret pseq_exit pblk_normal pblk_ret newDsts_cons inlDsts_cons gdst_zero gdst_succ retQ_normal retQ_ret qneed_nil qneed_cons retM_normal retM_ret endR_normal endR_ret endR_exit
attribute [local go_sem] Int.reduceToNat Int.reduceEq Int.reduceNe Int.reduceLT Int.reduceLE Int.reduceNeg Int.reduceAdd Nat.reduceEqDiff Nat.reduceAdd Nat.reduceSub Nat.reduceMul Nat.reduceLeDiff Nat.reduceLT
attribute [local go_sem ↓] reduceIte reduceCtorEq

/-- A product of two of one sign. -/
def prodG (x y : Nat) : Dy := mulS (fd x) (fd y)
/-- Bits and flags of a mean by products. -/
def geoS (x y r : Nat) (dir : Int) : Nat × Nat :=
  if kind x = 5 ∨ kind y = 5 then (9221120237041090560, 16)
  else if kind x = 4 ∨ kind y = 4 then (9221120237041090560, 0)
  else if (kind x = 3 ∨ kind y = 3) ∧ (kind x = 0 ∨ kind y = 0) then (9221120237041090560, 16)
  else if ¬ (kind x = 0 ∨ kind y = 0) ∧ fs x ≠ fs y then (9221120237041090560, 16)
  else if kind x = 3 ∨ kind y = 3 then (9218868437227405312, 0)
  else if kind x = 0 ∨ kind y = 0 then (0, 0)
  else toS (rootD (prodG x y) r) (decide (r * r ≠ rootM (prodG x y))) dir
theorem prodG_facts {x y : Nat} (hx : kind x = 1 ∨ kind x = 2) (hy : kind y = 1 ∨ kind y = 2) (hs : fs x = fs y) : (prodG x y).m ≠ 0 ∧ (prodG x y).s = false ∧ bitLen (prodG x y).m ≤ 4400 ∧ -2148 ≤ (prodG x y).e ∧ (prodG x y).e ≤ 2050 := by
  have h1 := (fd_may hx).2.1
  have h2 := (fd_may hy).2.1
  have e1 := fd_e x
  have e2 := fd_e y
  have b1 := fd_bits x
  have b2 := fd_bits y
  have b3 := bitLen_mul_le (fd x).m (fd y).m
  have s1 := fd_s h1
  have s2 := fd_s h2
  unfold prodG mulS
  rw [if_neg (by omega)]
  refine ⟨Nat.mul_ne_zero h1 h2, ?_, by dsimp only; omega, by dsimp only; omega, by dsimp only; omega⟩
  dsimp only
  rw [s1, s2, hs, bne_self_eq_false]
set_option maxHeartbeats 4000000 in
theorem h_Geometric {x y r : Nat} (hx : x < W) (hy : y < W) (hr : Isq (rootM (prodG x y)) r) {dir : Int} (hd : 0 ≤ dir ∧ dir ≤ 3) : PC E 59 [u x, u y, .int .i64 dir] (resB (geoS x y r dir) 0) := by
  have ol : Ok W [x, y] := fun d h => by simp at h; rcases h with rfl | rfl <;> assumption
  have k1 := h_right dir
  rw [decide_eq_true hd] at k1
  have k3 := h_some ol (by simp) 3
  have k0 := h_some ol (by simp) 0
  have k5 := h_some ol (by simp) 5
  have k4 := h_some ol (by simp) 4
  rw [show ([x, y].any fun x => decide ((kind x : Int) = 3)) = _ from any2 x y 3] at k3
  rw [show ([x, y].any fun x => decide ((kind x : Int) = 0)) = _ from any2 x y 0] at k0
  rw [show ([x, y].any fun x => decide ((kind x : Int) = 5)) = _ from any2 x y 5] at k5
  rw [show ([x, y].any fun x => decide ((kind x : Int) = 4)) = _ from any2 x y 4] at k4
  have kn := c_Neg x hx
  have km := c_Neg y hy
  have ki := h_invalid
  have q1 := h_is 9218868437227405312
  have q2 := h_is 9221120237041090560
  have q3 := h_is 0
  have kdx := r_FDyad hx
  have kdy := r_FDyad hy
  have kp := r_Mul ((fd_lim x).RD (by decide)) ((fd_lim y).RD (by decide))
  rw [mulV_lim (fd_lim x) (fd_lim y) (by decide)] at kp
  rw [show mulS (fd x) (fd y) = prodG x y from rfl] at kp
  have hf : kind x ≤ 2 → fe x < 2047 := fd_fin
  have hf' : kind y ≤ 2 → fe y < 2047 := fd_fin
  have hx5 := kind_le x
  have hy5 := kind_le y
  have kr : (kind x = 1 ∨ kind x = 2) → (kind y = 1 ∨ kind y = 2) → fs x = fs y → PC E 115 [(prodG x y).pv, .int .i64 dir] (resB (toS (rootD (prodG x y) r) (decide (r * r ≠ rootM (prodG x y))) dir) 0) := fun h1 h2 h3 => by
    obtain ⟨p1, p2, p3, -⟩ := prodG_facts h1 h2 h3
    have := h_rooted (d := prodG x y) ((fd_lim x).mul (fd_lim y)) (by decide) p3 p2 hr hd
    unfold rootS at this
    rwa [if_neg p1] at this
  obtain ⟨R, hR⟩ : ∃ R, R = geoS x y r dir := ⟨_, rfl⟩
  rw [← hR]
  unfold geoS at hR
  have z0 : ((0 : Nat) : Int) = 0 := rfl
  clear ol hx hy hr
  generalize toS (rootD (prodG x y) r) (decide (r * r ≠ rootM (prodG x y))) dir = T at *
  generalize prodG x y = P at *
  generalize kind x = a at *
  generalize kind y = b at *
  generalize fs x = sx at *
  generalize fs y = sy at *
  simp only [u, NL, U, List.map_cons, List.map_nil, List.length_cons, List.length_nil, resB, Nat.reduceAdd, z0] at k3 k0 k5 k4 kn km q1 q2 q3 kr kdx kdy ⊢
  rw [show ((9218868437227405312 : Nat) : Int) = 9218868437227405312 from rfl] at q1
  rw [show ((9221120237041090560 : Nat) : Int) = 9221120237041090560 from rfl] at q2
  refine PC.of_body follows Tryz.func59 (by decide +kernel) rfl (by kernel_rfl) (Nat.le_of_ble_eq_true rfl) (walk ?_)
  simp only [Tryz.f59, List.replicate_succ, go_sem]
  refine qcall_i (k3) ?_; simp only [Tryz.f59, List.replicate_succ, go_sem]
  refine qcall_i (k0) ?_; simp only [Tryz.f59, List.replicate_succ, go_sem]
  refine qcall_i (k1) ?_; simp only [Tryz.f59, List.replicate_succ, go_sem]
  refine qcall_i (k5) ?_; simp only [Tryz.f59, List.replicate_succ, go_sem]
  refine qif_d (fun h5 => ?_) (fun h5 => ?_)
  · rw [if_pos h5] at hR
    simp only [Tryz.f59, go_sem]
    refine qcall_i (ki) ?_; simp only [Tryz.f59, go_sem]
    rw [hR]
    try rfl
  rw [if_neg h5] at hR
  simp only [Tryz.f59, List.replicate_succ, go_sem]
  refine qcall_i (k4) ?_; simp only [Tryz.f59, List.replicate_succ, go_sem]
  refine qif_d (fun h4 => ?_) (fun h4 => ?_)
  · rw [if_pos h4] at hR
    simp only [Tryz.f59, go_sem]
    refine qcall_i (q2) ?_; simp only [Tryz.f59, go_sem]
    rw [hR]
    try rfl
  rw [if_neg h4] at hR
  have b00 : (false != false) = false := rfl
  have b01 : (false != true) = true := rfl
  have b10 : (true != false) = true := rfl
  have b11 : (true != true) = false := rfl
  by_cases h3 : a = 3 ∨ b = 3
  · have d3 : decide (a = 3 ∨ b = 3) = true := decide_eq_true h3
    by_cases h0 : a = 0 ∨ b = 0
    · have d0 : decide (a = 0 ∨ b = 0) = true := decide_eq_true h0
      rw [if_pos ⟨h3, h0⟩] at hR
      simp only [Tryz.f59, List.replicate_succ, d3, d0, b00, b01, b10, b11, go_sem]
      refine qcall_i (ki) ?_; simp only [Tryz.f59, List.replicate_succ, d3, d0, b00, b01, b10, b11, go_sem]
      rw [hR]
      try rfl
    · have d0 : decide (a = 0 ∨ b = 0) = false := decide_eq_false h0
      rw [if_neg (fun h => h0 h.2)] at hR
      by_cases hs : sx = sy
      · subst hs
        rw [if_neg (fun h => h.2 rfl), if_pos h3] at hR
        cases sx
        all_goals
          simp only [Tryz.f59, List.replicate_succ, d3, d0, b00, b01, b10, b11, go_sem]
          refine qcall_i (kn) ?_; simp only [Tryz.f59, List.replicate_succ, d3, d0, b00, b01, b10, b11, go_sem]
          refine qcall_i (km) ?_; simp only [Tryz.f59, List.replicate_succ, d3, d0, b00, b01, b10, b11, go_sem]
          refine qcall_i (q1) ?_; simp only [Tryz.f59, List.replicate_succ, d3, d0, b00, b01, b10, b11, go_sem]
          rw [hR]
          try rfl
      · rw [if_pos ⟨h0, hs⟩] at hR
        cases sx <;> cases sy <;> (try exact absurd rfl hs)
        all_goals
          simp only [Tryz.f59, List.replicate_succ, d3, d0, b00, b01, b10, b11, go_sem]
          refine qcall_i (kn) ?_; simp only [Tryz.f59, List.replicate_succ, d3, d0, b00, b01, b10, b11, go_sem]
          refine qcall_i (km) ?_; simp only [Tryz.f59, List.replicate_succ, d3, d0, b00, b01, b10, b11, go_sem]
          refine qcall_i (ki) ?_; simp only [Tryz.f59, List.replicate_succ, d3, d0, b00, b01, b10, b11, go_sem]
          rw [hR]
          try rfl
  · have d3 : decide (a = 3 ∨ b = 3) = false := decide_eq_false h3
    rw [if_neg (fun h => h3 h.1)] at hR
    by_cases h0 : a = 0 ∨ b = 0
    · have d0 : decide (a = 0 ∨ b = 0) = true := decide_eq_true h0
      rw [if_neg (fun h => h.1 h0), if_neg h3, if_pos h0] at hR
      simp only [Tryz.f59, List.replicate_succ, d3, d0, b00, b01, b10, b11, go_sem]
      refine qcall_i (q3) ?_; simp only [Tryz.f59, List.replicate_succ, d3, d0, b00, b01, b10, b11, go_sem]
      rw [hR]
      try rfl
    · have d0 : decide (a = 0 ∨ b = 0) = false := decide_eq_false h0
      by_cases hs : sx = sy
      · subst hs
        rw [if_neg (fun h => h.2 rfl), if_neg h3, if_neg h0] at hR
        have kr' := kr (by omega) (by omega) rfl
        clear kr
        rw [if_pos (hf (by omega))] at kdx
        rw [if_pos (hf' (by omega))] at kdy
        generalize fd x = dx at *
        generalize fd y = dy at *
        simp only [Dy.pv, DP] at kr' kdx kdy kp
        cases sx
        all_goals
          simp only [Tryz.f59, List.replicate_succ, d3, d0, b00, b01, b10, b11, go_sem]
          refine qcall_i (kn) ?_; simp only [Tryz.f59, List.replicate_succ, d3, d0, b00, b01, b10, b11, go_sem]
          refine qcall_i (km) ?_; simp only [Tryz.f59, List.replicate_succ, d3, d0, b00, b01, b10, b11, go_sem]
          refine qcall_i (kdx) ?_; simp only [Tryz.f59, List.replicate_succ, d3, d0, b00, b01, b10, b11, go_sem]
          refine qcall_i (kdy) ?_; simp only [Tryz.f59, List.replicate_succ, d3, d0, b00, b01, b10, b11, go_sem]
          refine qcall_i (kp) ?_; simp only [Tryz.f59, List.replicate_succ, d3, d0, b00, b01, b10, b11, go_sem]
          refine qcall_i (kr') ?_; simp only [Tryz.f59, List.replicate_succ, d3, d0, b00, b01, b10, b11, go_sem]
          rw [hR]
          try rfl
      · rw [if_pos ⟨h0, hs⟩] at hR
        cases sx <;> cases sy <;> (try exact absurd rfl hs)
        all_goals
          simp only [Tryz.f59, List.replicate_succ, d3, d0, b00, b01, b10, b11, go_sem]
          refine qcall_i (kn) ?_; simp only [Tryz.f59, List.replicate_succ, d3, d0, b00, b01, b10, b11, go_sem]
          refine qcall_i (km) ?_; simp only [Tryz.f59, List.replicate_succ, d3, d0, b00, b01, b10, b11, go_sem]
          refine qcall_i (ki) ?_; simp only [Tryz.f59, List.replicate_succ, d3, d0, b00, b01, b10, b11, go_sem]
          rw [hR]
          try rfl
theorem h_GeometricN {x y : Nat} (hx : x < W) (hy : y < W) {dir : Int} (hd : ¬ (0 ≤ dir ∧ dir ≤ 3)) : PC E 59 [u x, u y, .int .i64 dir] (resB (0, 0) 1) := by
  have ol : Ok W [x, y] := fun d h => by simp at h; rcases h with rfl | rfl <;> assumption
  have k1 := h_right dir
  rw [decide_eq_false hd] at k1
  have k3 := h_some ol (by simp) 3
  have k0 := h_some ol (by simp) 0
  generalize ([x, y].any fun x => decide ((kind x : Int) = 3)) = A at *
  generalize ([x, y].any fun x => decide ((kind x : Int) = 0)) = B' at *
  have z0 : ((0 : Nat) : Int) = 0 := rfl
  simp only [u, NL, U, List.map_cons, List.map_nil, List.length_cons, List.length_nil, resB, Nat.reduceAdd, z0] at k3 k0 ⊢
  refine PC.of_body follows Tryz.func59 (by decide +kernel) rfl (by kernel_rfl) (Nat.le_of_ble_eq_true rfl) (walk ?_)
  simp only [Tryz.f59, List.replicate_succ, go_sem]
  refine qcall_i (k3) ?_; simp only [Tryz.f59, List.replicate_succ, go_sem]
  refine qcall_i (k0) ?_; simp only [Tryz.f59, List.replicate_succ, go_sem]
  refine qcall_i (k1) ?_; simp only [Tryz.f59, List.replicate_succ, go_sem]
  try rfl
end Go.Proofs.YtejmlngnpekagaaGreatDoor
end
