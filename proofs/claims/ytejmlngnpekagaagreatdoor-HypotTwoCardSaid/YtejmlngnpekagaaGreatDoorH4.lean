/- Several parts in one text. -/
import Derived.Test.YtejmlngnpekagaaGreatDoorH3
import Derived.Test.YtejmlngnpekagaaGreatDoorH2
/- The document's lengths and means by products. -/
section
open Go PG Go.Proofs
set_option maxRecDepth 100000
set_option linter.unusedSimpArgs false
set_option linter.unusedVariables false
namespace Go.Proofs.YtejmlngnpekagaaGreatDoor
attribute [local go_sem] Lay2 Lay3 Lay4 Lay5 Lay6 Lay7 Lay8 Lay9 Lay10 Lay11 Lay12 Lay13 Lay14 Lay15 Lay16 Lay17 Lay18 Lay19 Lay21 Lay22 Lay23 Lay25 Lay26 Lay27 Lay30 Lay31 Lay32 Lay33 Lay36 Lay37 Lay41 Lay42 Lay43 Lay47 Lay56 Lay57 Lay59 Lay60 Lay65 Lay66 Lay74 Lay75 Lay105 Lay114 Lay145 Lay146 Lay149 Lay150 Lay151 Lay173 Lay185 Lay189 Lay204 Lay205 Lay208 Lay214 Lay215 Lay216 Lay217 Lay218 Lay220 Lay221 Lay223 Lay224 Lay225 Lay228 qexec_seq qexec_skip qexec_exit qexec_ret qexec_block qexec_loop qexec_range qexec_cond qexec_region qexec_drawn qops_nil qops_none qops_some put_some put_none pblk_exit pblk_other newDsts_nil inlDsts_nil isInl sget_cons sget_nil qval_some qbool_some qgs_bool qgs_und qfree_some qgrd_true qgrd_false qif_true qif_false qval_ite qval_itn qand_true map_ite map_some' map_none' qdo_move qdo_assign qdo_binOp qdo_pick qdo_unOp qdo_convert qdo_extract qdo_field qdo_fieldAddr qdo_alloc qdo_box qdo_build qdo_buildSlice qdo_load qdo_store qdo_nilCheck qdo_makeFunc qdo_makeSlice qdo_slice qdo_indexAddr qdo_call qcont_val qcont_new qcont_st qcont_app0 qcont_app qcont_inl qcont_call njSV_val njSV_nil njSV_row njSV_ptr njSV_sub binV_val binV_nil binV_nn binV_ptr bin_np bin_nnp nilCmp bin_add bin_sub bin_mul bin_quo bin_rem bin_and bin_or bin_xor bin_andNot bin_eql bin_neq bin_lss bin_leq bin_gtr bin_geq bin_shl bin_shr bin_seql bin_sneq bin_sadd bin_beql bin_aeql bin_aneq eqAnd_some eqCells_nil eqCells_cons fieldTypes isStruct eqCell bin_bneq un_not un_neg nj_ite Nat.beq stepA stepR isNew opSV constSV RV.sv allSome E_mu E_own qkeyIn_none qkeyIn_some qkeyAt_none qkeyAt_some Bool.or_false Bool.false_or Bool.or_true Bool.true_or cst setB res resSV pstart startL killL kill1 eraL frzL svPV rvPV rvInt rvSlice frzOf close closeL pconv pbuiltin pmax2 partPV setCells fillPV zrow bound newSV PV.cells Bk.cells Bk.with SV.key pres presL_nil presL_tmp presL_cell presC2_some cellPV_ptr presC List.toList_toArray List.size_toArray List.getElem?_drop Nat.mul_one Int.toNat_natCast Nat.not_lt_zero Nat.lt_irrefl decide_true decide_false Nat.not_lt Option.some.injEq PV.lst.injEq PV.int.injEq PV.bool.injEq PV.tuple.injEq List.cons.injEq Option.map_some Option.map_none Option.bind_some Option.toList List.map_cons List.map_nil List.nil_append List.cons_append List.append_nil List.zip_cons_cons List.zip_nil_left List.zip_nil_right List.getElem?_cons_zero List.getElem?_cons_succ List.drop_zero List.drop_succ_cons List.take_succ_cons List.take_zero List.set_cons_zero List.set_cons_succ List.length_cons List.length_nil List.length_set List.replicate_one List.replicate_zero bne_self_eq_false beq_self_eq_true Nat.zero_add Nat.add_zero Nat.zero_mul Bool.false_eq_true Bool.true_eq_false Bool.not_true Bool.not_false and_true true_and false_and and_false or_false false_or or_true true_or not_true_eq_false not_false_eq_true ne_eq gt_iff_lt List.mem_cons List.not_mem_nil
attribute [local go_sem ↓] pseq_normal pseq_ret pseq_exit pblk_normal pblk_ret newDsts_cons inlDsts_cons gdst_zero gdst_succ retQ_normal retQ_ret qneed_nil qneed_cons retM_normal retM_ret endR_normal endR_ret endR_exit
attribute [local go_sem] Int.reduceToNat Int.reduceEq Int.reduceNe Int.reduceLT Int.reduceLE Int.reduceNeg Int.reduceAdd Nat.reduceEqDiff Nat.reduceAdd Nat.reduceSub Nat.reduceMul Nat.reduceLeDiff Nat.reduceLT
attribute [local go_sem ↓] reduceIte reduceCtorEq

/-- A root of what is worth a bare number. -/
theorem c_28RootV {K : Nat} {a a' : Dy} (hl : LimN K a') (hK : K ≤ 100000) (hv : a'.val = a.val) (h' : a'.s = false) (ha : a.m ≠ 0) (hs : a.s = false) (ba : bitLen a.m ≤ 4400) (ea : -20000 ≤ a.e ∧ a.e ≤ 20000) {r : Nat} (hr : Isq (rootM a) r) {dir : Int} (hd : 0 ≤ dir ∧ dir ≤ 3) :
    PC E 46 [a'.nv, .int .i64 dir] (ansB (toS (rootD a r) (decide (r * r ≠ rootM a)) dir)) := by
  have hr1 := isq_pos hr (rootM_pos ha)
  have h1 : (rootD a r).m ≠ 0 := fun h => by have := mkD_m0.1 h; omega
  have h2 : (rootD a r).s = false := mkD_s (by omega)
  have ht : tcOk (fun n => cmpD (mulS n n) a') (rootD a r) (decide (r * r ≠ rootM a)) := fun n hn => by
    have := tc_root ha hs ba ea hr n hn
    dsimp only at this ⊢
    rw [cmp_val_lt, cmp_val_gt] at this ⊢
    rw [hv]
    exact this
  have kb := c_28By h1 (tc := fun n => cmpD (mulS n n) a') (fun n hn => c_TCmpR (s2 := false) (n2 := 0) (l2 := []) (e2 := 0) hl hn hK) ht hd
  rw [h2] at kb
  have kt := @c_28test a'.s false true
  unfold ansB at kb ⊢
  generalize toS (rootD a r) (decide (r * r ≠ rootM a)) dir = T at *
  simp only [Dy.nv, DP, VN, VL] at kb ⊢
  refine PC.of_body follows Tryz.func46 (by decide +kernel) rfl (by kernel_rfl) (Nat.le_of_ble_eq_true rfl) (walk ?_)
  simp only [Tryz.f46, go_sem]
  refine qcall_i (kt) ?_; simp only [Tryz.f46, go_sem]
  refine qcall_i (kb) ?_; simp only [Tryz.f46, go_sem]
  try rfl
theorem c_30Has {l : List Nat} (ol : Ok W l) (hl : l.length ≤ 100000) (k : Int) : PC E 117 [NL l, .int .i64 k] (.bool (l.any fun x => decide ((kind x : Int) = k))) := by
  have hg : ∀ i, i < l.length → (U l)[i]? = some (.int .u64 (l.getD i 0 : Nat)) := fun i hi => U_getD hi
  have hk : ∀ i, i < l.length → PC E 20 [.int .u64 (l.getD i 0 : Nat)] (.int .i64 (kind (l.getD i 0))) := fun i hi =>
    c_rKind _ (by rw [List.getD_eq_getElem?_getD, List.getElem?_eq_getElem hi]; exact ol _ (List.getElem_mem _))
  obtain ⟨w, hw⟩ : ∃ w : Nat → Bool, ∀ i, ((l.take i).any fun x => decide ((kind x : Int) = k)) = w i := ⟨_, fun _ => rfl⟩
  have hs : ∀ i, i < l.length → w (i + 1) = (w i || decide ((kind (l.getD i 0) : Int) = k)) := fun i hi => by
    rw [← hw, ← hw, List.take_succ_eq_append_getElem hi, List.any_append, show l.getD i 0 = l[i] by rw [List.getD_eq_getElem?_getD, List.getElem?_eq_getElem hi]; rfl]
    simp
  have h0 : w 0 = false := (hw 0).symm
  have hm : ∀ i, i ≤ l.length → w i = true → w l.length = true := fun i hi h => by
    rw [← hw, List.any_eq_true] at h
    obtain ⟨x, hx, hx2⟩ := h
    rw [← hw, List.take_length, List.any_eq_true]
    exact ⟨x, List.mem_of_mem_take hx, hx2⟩
  have hn : (l.any fun x => decide ((kind x : Int) = k)) = w l.length := by rw [← hw, List.take_length]
  rw [hn]
  obtain ⟨X, hX⟩ : ∃ X : Nat → Nat, ∀ i, l.getD i 0 = X i := ⟨_, fun _ => rfl⟩
  simp only [hX] at hg hk hs
  simp only [NL]
  clear hX ol hw hn
  generalize U l = U1 at *
  generalize l.length = n at *
  refine PC.of_body follows Tryz.func117 (by decide +kernel) rfl (by kernel_rfl) (Nat.le_of_ble_eq_true rfl) (walk ?_)
  simp only [Tryz.f117, go_sem]
  refine PLoop.intro (fun i : Nat => ⟨[(0, .val (.lst n U1)), (1, .val (.int .i64 k)), (5, .val (.int .i64 i))], []⟩) (fun i => i ≤ n ∧ w i = false) (fun i => n - i) 0 ⟨Nat.zero_le _, h0⟩ ?_ fun i hi => walk ?_
  · simp [Wk, sget, killL, kill1, SV.key]
  have wi : IntKind.wrap .i64 ((i : Int) + 1) = ((i + 1 : Nat) : Int) := by rw [wrap64 (by omega) (by omega)]; omega
  simp only [Tryz.f117, go_sem]
  refine qif_d (fun h => ?_) (fun h => ?_)
  · have hin : i < n := by omega
    have x1 := hg i hin
    have k1 := hk i hin
    have e1 := hs i hin
    rw [hi.2, Bool.false_or] at e1
    have e2 := hm (i + 1) (by omega)
    generalize kind (X i) = a at *
    simp only [Tryz.f117, go_sem]
    refine qand_i (by first | omega | (simp [V_length, U_length, tab_length, maxLen]; done) | (simp [V_length, U_length, tab_length, maxLen]; omega) | (refine ⟨?_, ?_⟩ <;> first | omega | (simp [V_length, U_length, tab_length, maxLen]; done) | (simp [V_length, U_length, tab_length, maxLen]; omega))) ?_; simp only [Tryz.f117, go_sem]
    refine qval_i (congrArg (Option.map _) x1) ?_
    simp only [Tryz.f117, go_sem]
    refine qcall_i (k1) ?_; simp only [Tryz.f117, go_sem]
    refine qif_d (fun h1 => ?_) (fun h1 => ?_)
    · rw [decide_eq_true h1] at e1
      simp only [Tryz.f117, go_sem]
      exact (e2 e1).symm
    · rw [decide_eq_false h1] at e1
      simp only [Tryz.f117, wi, go_sem]
      refine ⟨i + 1, ⟨by omega, e1⟩, by omega, ?_⟩
      simp [Wk, sget, killL, kill1, SV.key]
  · have hin : i = n := by omega
    subst hin
    simp only [Tryz.f117, go_sem]
    exact hi.2.symm
end Go.Proofs.YtejmlngnpekagaaGreatDoor
end

/- The document's lengths. -/
section
open Go PG Go.Proofs
set_option maxRecDepth 100000
set_option linter.unusedSimpArgs false
set_option linter.unusedVariables false
namespace Go.Proofs.YtejmlngnpekagaaGreatDoor
attribute [local go_sem] Lay2 Lay3 Lay4 Lay5 Lay6 Lay7 Lay8 Lay9 Lay10 Lay11 Lay12 Lay13 Lay14 Lay15 Lay16 Lay17 Lay18 Lay19 Lay21 Lay22 Lay23 Lay25 Lay26 Lay27 Lay30 Lay31 Lay32 Lay33 Lay36 Lay37 Lay41 Lay42 Lay43 Lay47 Lay56 Lay57 Lay59 Lay60 Lay65 Lay66 Lay74 Lay75 Lay105 Lay114 Lay145 Lay146 Lay149 Lay150 Lay151 Lay173 Lay185 Lay189 Lay204 Lay205 Lay208 Lay214 Lay215 Lay216 Lay217 Lay218 Lay220 Lay221 Lay223 Lay224 Lay225 Lay228 qexec_seq qexec_skip qexec_exit qexec_ret qexec_block qexec_loop qexec_range qexec_cond qexec_region qexec_drawn qops_nil qops_none qops_some put_some put_none pblk_exit pblk_other newDsts_nil inlDsts_nil isInl sget_cons sget_nil qval_some qbool_some qgs_bool qgs_und qfree_some qgrd_true qgrd_false qif_true qif_false qval_ite qval_itn qand_true map_ite map_some' map_none' qdo_move qdo_assign qdo_binOp qdo_pick qdo_unOp qdo_convert qdo_extract qdo_field qdo_fieldAddr qdo_alloc qdo_box qdo_build qdo_buildSlice qdo_load qdo_store qdo_nilCheck qdo_makeFunc qdo_makeSlice qdo_slice qdo_indexAddr qdo_call qcont_val qcont_new qcont_st qcont_app0 qcont_app qcont_inl qcont_call njSV_val njSV_nil njSV_row njSV_ptr njSV_sub binV_val binV_nil binV_nn binV_ptr bin_np bin_nnp nilCmp bin_add bin_sub bin_mul bin_quo bin_rem bin_and bin_or bin_xor bin_andNot bin_eql bin_neq bin_lss bin_leq bin_gtr bin_geq bin_shl bin_shr bin_seql bin_sneq bin_sadd bin_beql bin_aeql bin_aneq eqAnd_some eqCells_nil eqCells_cons fieldTypes isStruct eqCell bin_bneq un_not un_neg nj_ite Nat.beq stepA stepR isNew opSV constSV RV.sv allSome E_mu E_own qkeyIn_none qkeyIn_some qkeyAt_none qkeyAt_some Bool.or_false Bool.false_or Bool.or_true Bool.true_or cst setB res resSV pstart startL killL kill1 eraL frzL svPV rvPV rvInt rvSlice frzOf close closeL pconv pbuiltin pmax2 partPV setCells fillPV zrow bound newSV PV.cells Bk.cells Bk.with SV.key pres presL_nil presL_tmp presL_cell presC2_some cellPV_ptr presC List.toList_toArray List.size_toArray List.getElem?_drop Nat.mul_one Int.toNat_natCast Nat.not_lt_zero Nat.lt_irrefl decide_true decide_false Nat.not_lt Option.some.injEq PV.lst.injEq PV.int.injEq PV.bool.injEq PV.tuple.injEq List.cons.injEq Option.map_some Option.map_none Option.bind_some Option.toList List.map_cons List.map_nil List.nil_append List.cons_append List.append_nil List.zip_cons_cons List.zip_nil_left List.zip_nil_right List.getElem?_cons_zero List.getElem?_cons_succ List.drop_zero List.drop_succ_cons List.take_succ_cons List.take_zero List.set_cons_zero List.set_cons_succ List.length_cons List.length_nil List.length_set List.replicate_one List.replicate_zero bne_self_eq_false beq_self_eq_true Nat.zero_add Nat.add_zero Nat.zero_mul Bool.false_eq_true Bool.true_eq_false Bool.not_true Bool.not_false and_true true_and false_and and_false or_false false_or or_true true_or not_true_eq_false not_false_eq_true ne_eq gt_iff_lt List.mem_cons List.not_mem_nil
attribute [local go_sem ↓] pseq_normal pseq_ret pseq_exit pblk_normal pblk_ret newDsts_cons inlDsts_cons gdst_zero gdst_succ retQ_normal retQ_ret qneed_nil qneed_cons retM_normal retM_ret endR_normal endR_ret endR_exit
attribute [local go_sem] Int.reduceToNat Int.reduceEq Int.reduceNe Int.reduceLT Int.reduceLE Int.reduceNeg Int.reduceAdd Nat.reduceEqDiff Nat.reduceAdd Nat.reduceSub Nat.reduceMul Nat.reduceLeDiff Nat.reduceLT
attribute [local go_sem ↓] reduceIte reduceCtorEq

/-- The document's sum of squares. -/
def sumN30 (l : List Nat) : Dy := l.foldl (fun acc x => addD acc (mulS (fd x) (fd x))) .zero
theorem sumN30_snoc (l : List Nat) (x : Nat) : sumN30 (l ++ [x]) = addD (sumN30 l) (mulS (fd x) (fd x)) := by unfold sumN30; rw [List.foldl_append]; rfl
theorem sq_s (d : Dy) : (mulS d d).s = false := by
  unfold mulS
  split
  · rfl
  · dsimp only; rw [bne_self_eq_false]
theorem addD_s {a b : Dy} (ha : a.s = false) (hb : b.s = false) : (addD a b).s = false := by
  unfold addD
  rw [ha, hb]
  repeat' split
  all_goals first | exact ha | exact hb | rfl
theorem sumN30_lim (l : List Nat) (hl : l.length ≤ 1000) : LimN (K0 + l.length) (sumN30 l) := by
  revert hl
  refine sumQ_ind (P := fun l => l.length ≤ 1000 → LimN (K0 + l.length) (sumN30 l)) (fun _ => ((Lim.zero K0).N).mono (by omega)) (fun l x ih hl => ?_) l
  rw [List.length_append, List.length_singleton] at hl
  rw [sumN30_snoc, List.length_append, List.length_singleton]
  exact (ih (by omega)).add (((fd_lim x).mul (fd_lim x)).N.mono (by rw [K0_eq]; omega))
theorem sumN30_s (l : List Nat) : (sumN30 l).s = false := by
  refine sumQ_ind (P := fun l => (sumN30 l).s = false) rfl (fun l x ih => ?_) l
  rw [sumN30_snoc]
  exact addD_s ih (sq_s _)
theorem sumN30_val (l : List Nat) (hl : l.length ≤ 1000) (hk : ∀ x, x ∈ l → kind x ≤ 2) : (sumN30 l).val = (sumQ l).val := by
  revert hl hk
  refine sumQ_ind (P := fun l => l.length ≤ 1000 → (∀ x, x ∈ l → kind x ≤ 2) → (sumN30 l).val = (sumQ l).val) (fun _ _ => rfl) (fun l x ih hl hk => ?_) l
  rw [List.length_append, List.length_singleton] at hl
  have h1 := (sumQ_lim l (by omega)).mono (J := K0 + 1000) (by omega)
  have h2 := (prod_limK x x).mono (J := K0 + 1000) (by omega)
  rw [sumN30_snoc, sumQ_snoc, val_addD, h1.val_add h2 (by rw [K0_eq]; decide), ih (by omega) (fun y hy => hk y (List.mem_append_left _ hy)),
    fd0_fin (hk x (List.mem_append_right _ (List.mem_singleton.2 rfl)))]
theorem any_kind {l : List Nat} {k : Nat} (h : (l.any fun x => decide ((kind x : Int) = (k : Int))) = false) {x : Nat} (hx : x ∈ l) : kind x ≠ k := fun h2 => by
  have : (l.any fun x => decide ((kind x : Int) = (k : Int))) = true := List.any_eq_true.2 ⟨x, hx, decide_eq_true (by omega)⟩
  rw [h] at this
  cases this
set_option maxHeartbeats 4000000 in
theorem c_30Length {l : List Nat} (ol : Ok W l) (hl : l.length ≤ 1000) {r : Nat} (hr : Isq (rootM (sumQ l)) r) {dir : Int} (hd : 0 ≤ dir ∧ dir ≤ 3) : PC E 56 [NL l, .int .i64 dir] (ansB (lenS l r dir)) := by
  have k5 := c_30Has ol (by omega) 5
  have k3 := c_30Has ol (by omega) 3
  have k4 := c_30Has ol (by omega) 4
  have hg : ∀ i, i < l.length → (U l)[i]? = some (.int .u64 (l.getD i 0 : Nat)) := fun i hi => U_getD hi
  have hx : ∀ i, i < l.length → l.getD i 0 < W := fun i hi => by rw [List.getD_eq_getElem?_getD, List.getElem?_eq_getElem hi]; exact ol _ (List.getElem_mem _)
  have hkw : ∀ i, i < l.length → PC E 16 [u (l.getD i 0)] (fd (l.getD i 0)).nv := fun i hi => c_Worth _ (hx i hi)
  have hkm : ∀ x, PC E 15 [(fd x).nv, (fd x).nv] (mulS (fd x) (fd x)).nv := fun x => l_28Mul (fd_lim x).N (fd_lim x).N (by decide)
  have hka : ∀ i, i < l.length → PC E 73 [(sumN30 (l.take i)).nv, (mulS (fd (l.getD i 0)) (fd (l.getD i 0))).nv] (sumN30 (l.take (i + 1))).nv := fun i hi => by
    have hl' : (l.take i).length ≤ 1000 := by rw [List.length_take]; omega
    have h1 := (sumN30_lim (l.take i) hl').mono (J := K0 + 1000) (by omega)
    have h2 := ((fd_lim (l.getD i 0)).mul (fd_lim (l.getD i 0))).N.mono (J := K0 + 1000) (by rw [K0_eq]; omega)
    have := l_Add h1 h2 (by rw [K0_eq]; decide)
    rwa [List.take_succ_eq_append_getElem hi, sumN30_snoc, show l[i] = l.getD i 0 by rw [List.getD_eq_getElem?_getD, List.getElem?_eq_getElem hi]; rfl]
  have hn : l.take l.length = l := List.take_length
  have h0 : sumN30 (l.take 0) = .zero := rfl
  have hfin : (l.any fun x => decide ((kind x : Int) = 5)) = false → (l.any fun x => decide ((kind x : Int) = 3)) = false → (l.any fun x => decide ((kind x : Int) = 4)) = false →
      ((sumN30 l).m = 0 ↔ (sumQ l).m = 0) ∧ ((sumQ l).m ≠ 0 → PC E 46 [(sumN30 l).nv, .int .i64 dir] (ansB (toS (rootD (sumQ l) r) (decide (r * r ≠ rootM (sumQ l))) dir))) := fun g5 g3 g4 => by
    have hv := sumN30_val l hl (fun x hx => by
      have h5 := any_kind (k := 5) g5 hx
      have h3 := any_kind (k := 3) g3 hx
      have h4 := any_kind (k := 4) g4 hx
      have := kind_le x
      omega)
    have L := sumQ_lim l hl
    refine ⟨by rw [← val_eq_zero, ← val_eq_zero, hv], fun hm => ?_⟩
    have he := (L.mono (J := 4000) (by rw [K0_eq]; omega)).e0
    exact c_28RootV ((sumN30_lim l hl).mono (J := 4000) (by rw [K0_eq]; omega)) (by decide) hv (sumN30_s l) hm (s_of_val L.ok (sumQ_val l hl)) (sumQ_bits l hl) (by omega) hr hd
  unfold lenS
  unfold rootS
  obtain ⟨S, hS⟩ : ∃ S : Nat → Dy, ∀ i, sumN30 (l.take i) = S i := ⟨_, fun _ => rfl⟩
  rw [show sumN30 l = S l.length by rw [← hS, hn]] at hfin
  simp only [hS] at h0 hka
  generalize toS (rootD (sumQ l) r) (decide (r * r ≠ rootM (sumQ l))) dir = T at *
  generalize (sumQ l).m = qm at *
  obtain ⟨X, hX⟩ : ∃ X : Nat → Nat, ∀ i, l.getD i 0 = X i := ⟨_, fun _ => rfl⟩
  simp only [hX] at hg hkw hka
  generalize (l.any fun x => decide ((kind x : Int) = 5)) = A5 at *
  generalize (l.any fun x => decide ((kind x : Int) = 3)) = A3 at *
  generalize (l.any fun x => decide ((kind x : Int) = 4)) = A4 at *
  clear hr hX hS hn hx ol
  unfold ansB at *
  simp only [NL, u, Dy.nv, DP, VN, VL] at k5 k3 k4 hkw hkm hka hfin ⊢
  generalize U l = U1 at *
  generalize l.length = n at *
  refine PC.of_body follows Tryz.func56 (by decide +kernel) rfl (by kernel_rfl) (Nat.le_of_ble_eq_true rfl) (walk ?_)
  simp only [Tryz.f56, go_sem]
  refine qcall_i (k5) ?_; simp only [Tryz.f56, go_sem]
  cases A5
  case true =>
    simp only [Tryz.f56, go_sem]
    try rfl
  simp only [Tryz.f56, go_sem]
  refine qcall_i (k3) ?_; simp only [Tryz.f56, go_sem]
  cases A3
  case true =>
    simp only [Tryz.f56, go_sem]
    try rfl
  simp only [Tryz.f56, go_sem]
  refine qcall_i (k4) ?_; simp only [Tryz.f56, go_sem]
  cases A4
  case true =>
    simp only [Tryz.f56, go_sem]
    try rfl
  obtain ⟨hz, kr⟩ := hfin rfl rfl rfl
  simp only [Tryz.f56, go_sem]
  refine PLoop.intro (fun i : Nat => ⟨[(0, .val (.lst n U1)), (1, .val (.int .i64 dir)), (4, .ptr 4 0), (5, .ptr 5 0), (6, .val (.int .i64 i))],
    [(4, (.box [.int .u64 0, .int .i64 0], false)), (5, (.box [.bool (S i).s, .lst (dg B (S i).m).length (V (dg B (S i).m)), .int .i64 (S i).e], false))]⟩) (fun i => i ≤ n) (fun i => n - i) 0 (Nat.zero_le _) ?_ fun i hi => walk ?_
  · rw [h0]
    simp [Wk, sget, killL, kill1, SV.key]
    try exact ⟨rfl, ⟨rfl, rfl⟩, rfl⟩
    try rfl
  have wi : IntKind.wrap .i64 ((i : Int) + 1) = ((i + 1 : Nat) : Int) := by rw [wrap64 (by omega) (by omega)]; omega
  simp only [Tryz.f56, go_sem]
  refine qif_d (fun h => ?_) (fun h => ?_)
  · have hin : i < n := by omega
    have x1 := hg i hin
    have k1 := hkw i hin
    have k2 := hkm (X i)
    have k3 := hka i hin
    generalize mulS (fd (X i)) (fd (X i)) = m at *
    generalize fd (X i) = d at *
    simp only [Tryz.f56, go_sem]
    refine qand_i (by first | omega | (simp [V_length, U_length, tab_length, maxLen]; done) | (simp [V_length, U_length, tab_length, maxLen]; omega) | (refine ⟨?_, ?_⟩ <;> first | omega | (simp [V_length, U_length, tab_length, maxLen]; done) | (simp [V_length, U_length, tab_length, maxLen]; omega))) ?_; simp only [Tryz.f56, go_sem]
    refine qval_i (congrArg (Option.map _) x1) ?_
    simp only [Tryz.f56, go_sem]
    refine qcall_i (k1) ?_; simp only [Tryz.f56, go_sem]
    refine qcall_i (k2) ?_; simp only [Tryz.f56, go_sem]
    refine qcall_i (k3) ?_; simp only [Tryz.f56, wi, go_sem]
    refine ⟨i + 1, by omega, by omega, ?_⟩
    simp [Wk, sget, killL, kill1, SV.key]
  · have hin : i = n := by omega
    subst hin
    have hl0 := dgB_len0 (x := (S i).m)
    simp only [Tryz.f56, go_sem]
    refine qif_d (fun h1 => ?_) (fun h1 => ?_)
    · rw [if_pos (hz.1 (hl0.1 (by omega)))]
      simp only [Tryz.f56, go_sem]
      try rfl
    · have hm : qm ≠ 0 := fun h2 => h1 (by have := hl0.2 (hz.2 h2); omega)
      rw [if_neg hm]
      have kr := kr hm
      simp only [Tryz.f56, go_sem]
      refine qcall_i (kr) ?_; simp only [Tryz.f56, go_sem]
      try rfl
end Go.Proofs.YtejmlngnpekagaaGreatDoor
end

/- The document's means by products; hypot's example. -/
section
open Go PG Go.Proofs
set_option maxRecDepth 100000
set_option linter.unusedSimpArgs false
set_option linter.unusedVariables false
namespace Go.Proofs.YtejmlngnpekagaaGreatDoor
attribute [local go_sem] Lay2 Lay3 Lay4 Lay5 Lay6 Lay7 Lay8 Lay9 Lay10 Lay11 Lay12 Lay13 Lay14 Lay15 Lay16 Lay17 Lay18 Lay19 Lay21 Lay22 Lay23 Lay25 Lay26 Lay27 Lay30 Lay31 Lay32 Lay33 Lay36 Lay37 Lay41 Lay42 Lay43 Lay47 Lay56 Lay57 Lay59 Lay60 Lay65 Lay66 Lay74 Lay75 Lay105 Lay114 Lay145 Lay146 Lay149 Lay150 Lay151 Lay173 Lay185 Lay189 Lay204 Lay205 Lay208 Lay214 Lay215 Lay216 Lay217 Lay218 Lay220 Lay221 Lay223 Lay224 Lay225 Lay228 qexec_seq qexec_skip qexec_exit qexec_ret qexec_block qexec_loop qexec_range qexec_cond qexec_region qexec_drawn qops_nil qops_none qops_some put_some put_none pblk_exit pblk_other newDsts_nil inlDsts_nil isInl sget_cons sget_nil qval_some qbool_some qgs_bool qgs_und qfree_some qgrd_true qgrd_false qif_true qif_false qval_ite qval_itn qand_true map_ite map_some' map_none' qdo_move qdo_assign qdo_binOp qdo_pick qdo_unOp qdo_convert qdo_extract qdo_field qdo_fieldAddr qdo_alloc qdo_box qdo_build qdo_buildSlice qdo_load qdo_store qdo_nilCheck qdo_makeFunc qdo_makeSlice qdo_slice qdo_indexAddr qdo_call qcont_val qcont_new qcont_st qcont_app0 qcont_app qcont_inl qcont_call njSV_val njSV_nil njSV_row njSV_ptr njSV_sub binV_val binV_nil binV_nn binV_ptr bin_np bin_nnp nilCmp bin_add bin_sub bin_mul bin_quo bin_rem bin_and bin_or bin_xor bin_andNot bin_eql bin_neq bin_lss bin_leq bin_gtr bin_geq bin_shl bin_shr bin_seql bin_sneq bin_sadd bin_beql bin_aeql bin_aneq eqAnd_some eqCells_nil eqCells_cons fieldTypes isStruct eqCell bin_bneq un_not un_neg nj_ite Nat.beq stepA stepR isNew opSV constSV RV.sv allSome E_mu E_own qkeyIn_none qkeyIn_some qkeyAt_none qkeyAt_some Bool.or_false Bool.false_or Bool.or_true Bool.true_or cst setB res resSV pstart startL killL kill1 eraL frzL svPV rvPV rvInt rvSlice frzOf close closeL pconv pbuiltin pmax2 partPV setCells fillPV zrow bound newSV PV.cells Bk.cells Bk.with SV.key pres presL_nil presL_tmp presL_cell presC2_some cellPV_ptr presC List.toList_toArray List.size_toArray List.getElem?_drop Nat.mul_one Int.toNat_natCast Nat.not_lt_zero Nat.lt_irrefl decide_true decide_false Nat.not_lt Option.some.injEq PV.lst.injEq PV.int.injEq PV.bool.injEq PV.tuple.injEq List.cons.injEq Option.map_some Option.map_none Option.bind_some Option.toList List.map_cons List.map_nil List.nil_append List.cons_append List.append_nil List.zip_cons_cons List.zip_nil_left List.zip_nil_right List.getElem?_cons_zero List.getElem?_cons_succ List.drop_zero List.drop_succ_cons List.take_succ_cons List.take_zero List.set_cons_zero List.set_cons_succ List.length_cons List.length_nil List.length_set List.replicate_one List.replicate_zero bne_self_eq_false beq_self_eq_true Nat.zero_add Nat.add_zero Nat.zero_mul Bool.false_eq_true Bool.true_eq_false Bool.not_true Bool.not_false and_true true_and false_and and_false or_false false_or or_true true_or not_true_eq_false not_false_eq_true ne_eq gt_iff_lt List.mem_cons List.not_mem_nil
attribute [local go_sem ↓] pseq_normal pseq_ret pseq_exit pblk_normal pblk_ret newDsts_cons inlDsts_cons gdst_zero gdst_succ retQ_normal retQ_ret qneed_nil qneed_cons retM_normal retM_ret endR_normal endR_ret endR_exit
attribute [local go_sem] Int.reduceToNat Int.reduceEq Int.reduceNe Int.reduceLT Int.reduceLE Int.reduceNeg Int.reduceAdd Nat.reduceEqDiff Nat.reduceAdd Nat.reduceSub Nat.reduceMul Nat.reduceLeDiff Nat.reduceLT
attribute [local go_sem ↓] reduceIte reduceCtorEq

theorem c_30same {r : Nat × Nat} (hr : r.2 < 256) : PC E 55 [.agg [.int .u64 (r.1 : Int), .int .u8 (r.2 : Int), .int .i64 0], .int .i64 0, ansB r] (.bool true) := by
  have w1 : IntKind.wrap .i64 ((r.2 : Nat) : Int) = (r.2 : Nat) := wrap64 (by omega) (by omega)
  unfold ansB
  refine PC.of_body follows Tryz.func55 (by decide +kernel) rfl (by kernel_rfl) (Nat.le_of_ble_eq_true rfl) (walk ?_)
  simp only [Tryz.f55, w1, go_sem]
  try rfl
theorem rootS_fl (d : Dy) (r : Nat) (dir : Int) : (rootS d r dir).2 < 256 := by
  have h := toS_fl (rootD d r) (decide (r * r ≠ rootM d)) dir
  unfold rootS
  split
  · decide
  · exact h
theorem lenS_fl (l : List Nat) (r : Nat) (dir : Int) : (lenS l r dir).2 < 256 := by
  have h := rootS_fl (sumQ l) r dir
  unfold lenS
  repeat' split
  all_goals first | exact h | simp
theorem geoS_fl (x y r : Nat) (dir : Int) : (geoS x y r dir).2 < 256 := by
  have h := toS_fl (rootD (prodG x y) r) (decide (r * r ≠ rootM (prodG x y))) dir
  unfold geoS
  repeat' split
  all_goals first | exact h | simp
set_option maxHeartbeats 4000000 in
theorem c_30Geometric {x y r : Nat} (hx : x < W) (hy : y < W) (hr : Isq (rootM (prodG x y)) r) {dir : Int} (hd : 0 ≤ dir ∧ dir ≤ 3) : PC E 60 [u x, u y, .int .i64 dir] (ansB (geoS x y r dir)) := by
  have ol : Ok W [x, y] := fun d h => by simp at h; rcases h with rfl | rfl <;> assumption
  have kw := b_Worst ol (by simp)
  have w2 := worst2 x y
  have ke := c_28Early (worstS [x, y])
  have k3 := c_30Has ol (by simp) 3
  have k0 := c_30Has ol (by simp) 0
  rw [show ([x, y].any fun x => decide ((kind x : Int) = 3)) = _ from any2 x y 3] at k3
  rw [show ([x, y].any fun x => decide ((kind x : Int) = 0)) = _ from any2 x y 0] at k0
  have wx := c_Worth x hx
  have wy := c_Worth y hy
  have km := l_28Mul (fd_lim x).N (fd_lim y).N (by decide)
  rw [show mulS (fd x) (fd y) = prodG x y from rfl] at km
  have hx5 := kind_le x
  have hy5 := kind_le y
  have kr : (kind x = 1 ∨ kind x = 2) → (kind y = 1 ∨ kind y = 2) → fs x = fs y → PC E 46 [(prodG x y).nv, .int .i64 dir] (ansB (toS (rootD (prodG x y) r) (decide (r * r ≠ rootM (prodG x y))) dir)) := fun h1 h2 h3 => by
    obtain ⟨p1, p2, p3, p4, p5⟩ := prodG_facts h1 h2 h3
    exact c_28Root p1 p2 p3 (by omega) hr hd
  have gx := ge_fs x
  have gy := ge_fs y
  obtain ⟨R, hR⟩ : ∃ R, R = geoS x y r dir := ⟨_, rfl⟩
  rw [← hR]
  have hE : worstS [x, y] ≠ 0 → R = earlyS (worstS [x, y]) := fun h => by
    rw [hR]
    unfold geoS earlyS
    by_cases hw : worstS [x, y] = 5
    · rw [if_pos (w2.2.1 hw), if_pos hw]
    · rw [if_neg (fun h2 => hw (w2.2.2 h2)), if_neg hw, if_pos (by
        have h3 : ¬ (kind x ≤ 3 ∧ kind y ≤ 3) := fun h2 => h (w2.1.2 h2)
        have h4 : ¬ (kind x = 5 ∨ kind y = 5) := fun h2 => hw (w2.2.2 h2)
        omega)]
  unfold geoS at hR
  clear ol hx hy hr
  generalize worstS [x, y] = w at *
  generalize earlyS w = E1 at *
  generalize toS (rootD (prodG x y) r) (decide (r * r ≠ rootM (prodG x y))) dir = T at *
  generalize prodG x y = P at *
  generalize fd x = dx at *
  generalize fd y = dy at *
  generalize kind x = a at *
  generalize kind y = b at *
  generalize fs x = sx at *
  generalize fs y = sy at *
  unfold ansB at *
  simp only [u, NL, U, List.map_cons, List.map_nil, List.length_cons, List.length_nil, Nat.reduceAdd, Dy.nv, DP, VN, VL] at k3 k0 kw ke wx wy km kr ⊢
  refine PC.of_body follows Tryz.func60 (by decide +kernel) rfl (by kernel_rfl) (Nat.le_of_ble_eq_true rfl) (walk ?_)
  simp only [Tryz.f60, List.replicate_succ, go_sem]
  refine qcall_i (kw) ?_; simp only [Tryz.f60, List.replicate_succ, go_sem]
  refine qif_d (fun hw => ?_) (fun hw => ?_)
  · rw [hE (by omega)]
    simp only [Tryz.f60, go_sem]
    refine qcall_i (ke) ?_; simp only [Tryz.f60, go_sem]
    try rfl
  have h33 := w2.1.1 (by omega)
  rw [if_neg (by omega), if_neg (by omega)] at hR
  clear hE w2 ke kw
  have b00 : (false != false) = false := rfl
  have b01 : (false != true) = true := rfl
  have b10 : (true != false) = true := rfl
  have b11 : (true != true) = false := rfl
  by_cases h3 : a = 3 ∨ b = 3
  · have d3 : decide (a = 3 ∨ b = 3) = true := decide_eq_true h3
    by_cases h0 : a = 0 ∨ b = 0
    · have d0 : decide (a = 0 ∨ b = 0) = true := decide_eq_true h0
      rw [if_pos ⟨h3, h0⟩] at hR
      simp only [Tryz.f60, gx, gy, List.replicate_succ, d3, d0, b00, b01, b10, b11, go_sem]
      refine qcall_i (k3) ?_; simp only [Tryz.f60, gx, gy, List.replicate_succ, d3, d0, b00, b01, b10, b11, go_sem]
      refine qcall_i (k0) ?_; simp only [Tryz.f60, gx, gy, List.replicate_succ, d3, d0, b00, b01, b10, b11, go_sem]
      rw [hR]
      try rfl
    · have d0 : decide (a = 0 ∨ b = 0) = false := decide_eq_false h0
      rw [if_neg (fun h => h0 h.2)] at hR
      by_cases hs : sx = sy
      · subst hs
        rw [if_neg (fun h => h.2 rfl), if_pos h3] at hR
        cases sx
        all_goals
          simp only [Tryz.f60, gx, gy, List.replicate_succ, d3, d0, b00, b01, b10, b11, go_sem]
          refine qcall_i (k3) ?_; simp only [Tryz.f60, gx, gy, List.replicate_succ, d3, d0, b00, b01, b10, b11, go_sem]
          refine qcall_i (k0) ?_; simp only [Tryz.f60, gx, gy, List.replicate_succ, d3, d0, b00, b01, b10, b11, go_sem]
          refine qcall_i (k0) ?_; simp only [Tryz.f60, gx, gy, List.replicate_succ, d3, d0, b00, b01, b10, b11, go_sem]
          refine qcall_i (k3) ?_; simp only [Tryz.f60, gx, gy, List.replicate_succ, d3, d0, b00, b01, b10, b11, go_sem]
          rw [hR]
          try rfl
      · rw [if_pos ⟨h0, hs⟩] at hR
        cases sx <;> cases sy <;> (try exact absurd rfl hs)
        all_goals
          simp only [Tryz.f60, gx, gy, List.replicate_succ, d3, d0, b00, b01, b10, b11, go_sem]
          refine qcall_i (k3) ?_; simp only [Tryz.f60, gx, gy, List.replicate_succ, d3, d0, b00, b01, b10, b11, go_sem]
          refine qcall_i (k0) ?_; simp only [Tryz.f60, gx, gy, List.replicate_succ, d3, d0, b00, b01, b10, b11, go_sem]
          refine qcall_i (k0) ?_; simp only [Tryz.f60, gx, gy, List.replicate_succ, d3, d0, b00, b01, b10, b11, go_sem]
          rw [hR]
          try rfl
  · have d3 : decide (a = 3 ∨ b = 3) = false := decide_eq_false h3
    rw [if_neg (fun h => h3 h.1)] at hR
    by_cases h0 : a = 0 ∨ b = 0
    · have d0 : decide (a = 0 ∨ b = 0) = true := decide_eq_true h0
      rw [if_neg (fun h => h.1 h0), if_neg h3, if_pos h0] at hR
      simp only [Tryz.f60, gx, gy, List.replicate_succ, d3, d0, b00, b01, b10, b11, go_sem]
      refine qcall_i (k3) ?_; simp only [Tryz.f60, gx, gy, List.replicate_succ, d3, d0, b00, b01, b10, b11, go_sem]
      refine qcall_i (k0) ?_; simp only [Tryz.f60, gx, gy, List.replicate_succ, d3, d0, b00, b01, b10, b11, go_sem]
      refine qcall_i (k3) ?_; simp only [Tryz.f60, gx, gy, List.replicate_succ, d3, d0, b00, b01, b10, b11, go_sem]
      refine qcall_i (k0) ?_; simp only [Tryz.f60, gx, gy, List.replicate_succ, d3, d0, b00, b01, b10, b11, go_sem]
      rw [hR]
      try rfl
    · have d0 : decide (a = 0 ∨ b = 0) = false := decide_eq_false h0
      by_cases hs : sx = sy
      · subst hs
        rw [if_neg (fun h => h.2 rfl), if_neg h3, if_neg h0] at hR
        have kr' := kr (by omega) (by omega) rfl
        clear kr
        cases sx
        all_goals
          simp only [Tryz.f60, gx, gy, List.replicate_succ, d3, d0, b00, b01, b10, b11, go_sem]
          refine qcall_i (k3) ?_; simp only [Tryz.f60, gx, gy, List.replicate_succ, d3, d0, b00, b01, b10, b11, go_sem]
          refine qcall_i (k0) ?_; simp only [Tryz.f60, gx, gy, List.replicate_succ, d3, d0, b00, b01, b10, b11, go_sem]
          refine qcall_i (k3) ?_; simp only [Tryz.f60, gx, gy, List.replicate_succ, d3, d0, b00, b01, b10, b11, go_sem]
          refine qcall_i (k0) ?_; simp only [Tryz.f60, gx, gy, List.replicate_succ, d3, d0, b00, b01, b10, b11, go_sem]
          refine qcall_i (wx) ?_; simp only [Tryz.f60, gx, gy, List.replicate_succ, d3, d0, b00, b01, b10, b11, go_sem]
          refine qcall_i (wy) ?_; simp only [Tryz.f60, gx, gy, List.replicate_succ, d3, d0, b00, b01, b10, b11, go_sem]
          refine qcall_i (km) ?_; simp only [Tryz.f60, gx, gy, List.replicate_succ, d3, d0, b00, b01, b10, b11, go_sem]
          refine qcall_i (kr') ?_; simp only [Tryz.f60, gx, gy, List.replicate_succ, d3, d0, b00, b01, b10, b11, go_sem]
          rw [hR]
          try rfl
      · rw [if_pos ⟨h0, hs⟩] at hR
        cases sx <;> cases sy <;> (try exact absurd rfl hs)
        all_goals
          simp only [Tryz.f60, gx, gy, List.replicate_succ, d3, d0, b00, b01, b10, b11, go_sem]
          refine qcall_i (k3) ?_; simp only [Tryz.f60, gx, gy, List.replicate_succ, d3, d0, b00, b01, b10, b11, go_sem]
          refine qcall_i (k0) ?_; simp only [Tryz.f60, gx, gy, List.replicate_succ, d3, d0, b00, b01, b10, b11, go_sem]
          rw [hR]
          try rfl
theorem h_MeanNil (dir : Int) : PC E 54 [.lst 0 [], .int .i64 dir] (resB (0, 0) 1) := by
  have k1 := h_right dir
  have z0 : ((0 : Nat) : Int) = 0 := rfl
  simp only [resB, z0]
  refine PC.of_body follows Tryz.func54 (by decide +kernel) rfl (by kernel_rfl) (Nat.le_of_ble_eq_true rfl) (walk ?_)
  simp only [Tryz.f54, go_sem]
  by_cases hd : 0 ≤ dir ∧ dir ≤ 3
  · rw [decide_eq_true hd] at k1
    refine qcall_i (k1) ?_; simp only [Tryz.f54, z0, go_sem]
    try rfl
  · rw [decide_eq_false hd] at k1
    refine qcall_i (k1) ?_; simp only [Tryz.f54, z0, go_sem]
    try rfl
theorem c_alive30 : PC E 52 [] (.bool true) := by
  have k1 := h_Hypot (x := 4613937818241073152) (y := 13839561654909534208) (by decide) (by decide) (r := 1475739525896764129280) (by
    have e : rootM (sumQ [4613937818241073152, 13839561654909534208]) = 2177807148294006166165597487563316553318400 := by decide +kernel
    rw [e]
    exact ⟨by decide, by decide⟩) (dir := 2) (by decide)
  have e1 : lenS [4613937818241073152, 13839561654909534208] 1475739525896764129280 2 = (4617315517961601024, 0) := by decide +kernel
  have k2 := h_MeanNil 0
  rw [e1] at k1
  have z0 : ((0 : Nat) : Int) = 0 := rfl
  simp only [u, resB, z0] at k1 k2
  rw [show ((4613937818241073152 : Nat) : Int) = 4613937818241073152 from rfl, show ((13839561654909534208 : Nat) : Int) = 13839561654909534208 from rfl, show ((4617315517961601024 : Nat) : Int) = 4617315517961601024 from rfl] at k1
  refine PC.of_body follows Tryz.func52 (by decide +kernel) rfl (by kernel_rfl) (Nat.le_of_ble_eq_true rfl) (walk ?_)
  simp only [Tryz.f52, go_sem]
  refine qcall_i (k1) ?_; simp only [Tryz.f52, go_sem]
  refine qcall_i (k2) ?_; simp only [Tryz.f52, Bool.and_self, go_sem]
  try rfl
end Go.Proofs.YtejmlngnpekagaaGreatDoor
end
