/- poly.Over, and the document's: a polynomial over an interval. -/
import Derived.Test.YtejmlngnpekagaaGreatDoorPr1
import Derived.Test.YtejmlngnpekagaaGreatDoorPol2
import Derived.Test.YtejmlngnpekagaaGreatDoorIv2
open Go PG Go.Proofs
set_option maxRecDepth 100000
set_option linter.unusedSimpArgs false
set_option linter.unusedVariables false
namespace Go.Proofs.YtejmlngnpekagaaGreatDoor
attribute [local go_sem] Lay2 Lay3 Lay4 Lay5 Lay6 Lay7 Lay8 Lay9 Lay10 Lay11 Lay12 Lay13 Lay14 Lay15 Lay16 Lay17 Lay18 Lay19 Lay21 Lay22 Lay23 Lay25 Lay26 Lay27 Lay30 Lay31 Lay32 Lay33 Lay36 Lay37 Lay41 Lay42 Lay43 Lay47 Lay56 Lay57 Lay59 Lay60 Lay65 Lay66 Lay74 Lay75 Lay105 Lay114 Lay145 Lay146 Lay149 Lay150 Lay151 Lay173 Lay185 Lay189 Lay204 Lay205 Lay208 Lay214 Lay215 Lay216 Lay217 Lay218 Lay220 Lay221 Lay223 Lay224 Lay225 Lay228 qexec_seq qexec_skip qexec_exit qexec_ret qexec_block qexec_loop qexec_range qexec_cond qexec_region qexec_drawn qops_nil qops_none qops_some put_some put_none pblk_exit pblk_other newDsts_nil sget_cons sget_nil qval_some qbool_some qgs_bool qgs_und qfree_some qgrd_true qgrd_false qif_true qif_false qval_ite qval_itn qand_true map_ite map_some' map_none' qdo_move qdo_assign qdo_binOp qdo_pick qdo_unOp qdo_convert qdo_extract qdo_field qdo_fieldAddr qdo_alloc qdo_box qdo_build qdo_buildSlice qdo_load qdo_store qdo_nilCheck qdo_makeFunc qdo_makeSlice qdo_slice qdo_indexAddr qdo_call qcont_val qcont_new qcont_st qcont_app0 qcont_app qcont_inl qcont_call njSV_val njSV_nil njSV_row njSV_ptr njSV_sub binV_val binV_nil binV_nn binV_ptr bin_np bin_nnp nilCmp bin_add bin_sub bin_mul bin_quo bin_rem bin_and bin_or bin_xor bin_andNot bin_eql bin_neq bin_lss bin_leq bin_gtr bin_geq bin_shl bin_shr bin_seql bin_sneq bin_sadd bin_beql bin_aeql bin_aneq eqAnd_some eqCells_nil eqCells_cons fieldTypes isStruct eqCell bin_bneq un_not un_neg nj_ite Nat.beq stepA stepR isNew opSV constSV RV.sv allSome E_mu E_own qkeyIn_none qkeyIn_some qkeyAt_none qkeyAt_some Bool.or_false Bool.false_or Bool.or_true Bool.true_or cst setB res resSV pstart startL killL kill1 eraL frzL svPV rvPV rvInt rvSlice frzOf close closeL pconv pbuiltin pmax2 partPV setCells fillPV zrow bound newSV PV.cells Bk.cells Bk.with SV.key pres presL_nil presL_tmp presL_cell presC2_some cellPV_ptr presC List.toList_toArray List.size_toArray List.getElem?_drop Nat.mul_one Int.toNat_natCast Nat.not_lt_zero Nat.lt_irrefl decide_true decide_false Nat.not_lt Option.some.injEq PV.lst.injEq PV.int.injEq PV.bool.injEq PV.tuple.injEq List.cons.injEq Option.map_some Option.map_none Option.bind_some Option.toList List.map_cons List.map_nil List.nil_append List.cons_append List.append_nil List.zip_cons_cons List.zip_nil_left List.zip_nil_right List.getElem?_cons_zero List.getElem?_cons_succ List.drop_zero List.drop_succ_cons List.take_succ_cons List.take_zero List.set_cons_zero List.set_cons_succ List.length_cons List.length_nil List.length_set List.replicate_one List.replicate_zero bne_self_eq_false beq_self_eq_true Nat.zero_add Nat.add_zero Nat.zero_mul Bool.false_eq_true Bool.true_eq_false Bool.not_true Bool.not_false and_true true_and false_and and_false or_false false_or or_true true_or not_true_eq_false not_false_eq_true ne_eq gt_iff_lt List.mem_cons List.not_mem_nil
attribute [local go_sem ↓] pseq_normal pseq_ret pseq_exit pblk_normal pblk_ret newDsts_cons gdst_zero gdst_succ retQ_normal retQ_ret qneed_nil qneed_cons retM_normal retM_ret endR_normal endR_ret endR_exit

theorem p_short {p : PV} {d : Dy} (h : RD p d) (hf : d.fits) (hb : bitLen d.m ≤ 2000) (he : -3000 ≤ d.e ∧ d.e ≤ 3000) : PC E 78 [p] (.bool true) := by
  have k1 := r_Bare h
  unfold okD at k1
  rw [if_pos hf] at k1
  have k2 := k_Bits (x := d.m) (p := NN d.m) (num_bits (by omega))
  obtain ⟨s1, P, x1, e1, rfl, -⟩ := h
  simp only [Dy.pv, DP] at k1 ⊢
  refine PC.of_body follows Tryz.func78 (by decide +kernel) rfl (by kernel_rfl) (Nat.le_of_ble_eq_true rfl) (walk ?_)
  simp only [Tryz.f78, go_sem, Int.reduceToNat, Int.reduceEq, Int.reduceNe, Int.reduceLT, Int.reduceLE, Int.reduceNeg, Int.reduceAdd, ↓reduceIte, ↓reduceCtorEq, Nat.reduceEqDiff, Nat.reduceAdd, Nat.reduceSub, Nat.reduceMul, Nat.reduceLeDiff, Nat.reduceLT]
  refine qcall_i (k1) ?_; simp only [Tryz.f78, go_sem, Int.reduceToNat, Int.reduceEq, Int.reduceNe, Int.reduceLT, Int.reduceLE, Int.reduceNeg, Int.reduceAdd, ↓reduceIte, ↓reduceCtorEq, Nat.reduceEqDiff, Nat.reduceAdd, Nat.reduceSub, Nat.reduceMul, Nat.reduceLeDiff, Nat.reduceLT]
  refine qcall_i (k2) ?_; simp only [Tryz.f78, go_sem, Int.reduceToNat, Int.reduceEq, Int.reduceNe, Int.reduceLT, Int.reduceLE, Int.reduceNeg, Int.reduceAdd, ↓reduceIte, ↓reduceCtorEq, Nat.reduceEqDiff, Nat.reduceAdd, Nat.reduceSub, Nat.reduceMul, Nat.reduceLeDiff, Nat.reduceLT]
  refine qif_dt (by omega) ?_
  simp only [Tryz.f78, go_sem, Int.reduceToNat, Int.reduceEq, Int.reduceNe, Int.reduceLT, Int.reduceLE, Int.reduceNeg, Int.reduceAdd, ↓reduceIte, ↓reduceCtorEq, Nat.reduceEqDiff, Nat.reduceAdd, Nat.reduceSub, Nat.reduceMul, Nat.reduceLeDiff, Nat.reduceLT]
  refine qif_dt (by omega) ?_
  simp only [Tryz.f78, go_sem, Int.reduceToNat, Int.reduceEq, Int.reduceNe, Int.reduceLT, Int.reduceLE, Int.reduceNeg, Int.reduceAdd, ↓reduceIte, ↓reduceCtorEq, Nat.reduceEqDiff, Nat.reduceAdd, Nat.reduceSub, Nat.reduceMul, Nat.reduceLeDiff, Nat.reduceLT]
  exact decide_eq_true (by omega)
theorem p_Over {l : List Nat} (ol : Ok W l) (hn : l.length ≤ 1000000) {p : PV} {v : Iv} {J : Nat} (hp : RI p v) (hl : v.lim J) (hJ : J ≤ 1300)
    (h1 : bitLen v.lo.m ≤ 2000 ∧ -3000 ≤ v.lo.e ∧ v.lo.e ≤ 3000) (h2 : bitLen v.hi.m ≤ 2000 ∧ -3000 ≤ v.hi.e ∧ v.hi.e ≤ 3000) :
    PC E 25 [NL l, p] (if rightP l ∧ v.right then .tuple [(hornS l v).pv, .int .i64 0] else .tuple [Iv.zero.pv, .int .i64 1]) := by
  have k1 := p_right ol hn
  have k2 := q_Right hp
  have hp' := hp
  obtain ⟨s1, P1, e1, s2, P2, e2, rfl, r1, r2⟩ := hp
  have k3 := p_short r1 (hl.1.fits (by omega)) h1.1 h1.2
  have k4 := p_short r2 (hl.2.fits (by omega)) h2.1 h2.2
  by_cases hr : rightP l
  case neg =>
    rw [if_neg (fun h => hr h.1)]
    rw [decide_eq_false hr] at k1
    simp only [NL, DP] at k1 ⊢
    refine PC.of_body follows Tryz.func25 (by decide +kernel) rfl (by kernel_rfl) (Nat.le_of_ble_eq_true rfl) (walk ?_)
    simp only [Tryz.f25, go_sem, Int.reduceToNat, Int.reduceEq, Int.reduceNe, Int.reduceLT, Int.reduceLE, Int.reduceNeg, Int.reduceAdd, ↓reduceIte, ↓reduceCtorEq, Nat.reduceEqDiff, Nat.reduceAdd, Nat.reduceSub, Nat.reduceMul, Nat.reduceLeDiff, Nat.reduceLT]
    refine qcall_i (k1) ?_; simp only [Tryz.f25, go_sem, Int.reduceToNat, Int.reduceEq, Int.reduceNe, Int.reduceLT, Int.reduceLE, Int.reduceNeg, Int.reduceAdd, ↓reduceIte, ↓reduceCtorEq, Nat.reduceEqDiff, Nat.reduceAdd, Nat.reduceSub, Nat.reduceMul, Nat.reduceLeDiff, Nat.reduceLT]
    try rfl
  rw [decide_eq_true hr] at k1
  by_cases hv : v.right
  case neg =>
    rw [if_neg (fun h => hv h.2)]
    rw [decide_eq_false hv] at k2
    simp only [NL, DP] at k1 k2 ⊢
    refine PC.of_body follows Tryz.func25 (by decide +kernel) rfl (by kernel_rfl) (Nat.le_of_ble_eq_true rfl) (walk ?_)
    simp only [Tryz.f25, go_sem, Int.reduceToNat, Int.reduceEq, Int.reduceNe, Int.reduceLT, Int.reduceLE, Int.reduceNeg, Int.reduceAdd, ↓reduceIte, ↓reduceCtorEq, Nat.reduceEqDiff, Nat.reduceAdd, Nat.reduceSub, Nat.reduceMul, Nat.reduceLeDiff, Nat.reduceLT]
    refine qcall_i (k1) ?_; simp only [Tryz.f25, go_sem, Int.reduceToNat, Int.reduceEq, Int.reduceNe, Int.reduceLT, Int.reduceLE, Int.reduceNeg, Int.reduceAdd, ↓reduceIte, ↓reduceCtorEq, Nat.reduceEqDiff, Nat.reduceAdd, Nat.reduceSub, Nat.reduceMul, Nat.reduceLeDiff, Nat.reduceLT]
    refine qcall_i (k2) ?_; simp only [Tryz.f25, go_sem, Int.reduceToNat, Int.reduceEq, Int.reduceNe, Int.reduceLT, Int.reduceLE, Int.reduceNeg, Int.reduceAdd, ↓reduceIte, ↓reduceCtorEq, Nat.reduceEqDiff, Nat.reduceAdd, Nat.reduceSub, Nat.reduceMul, Nat.reduceLeDiff, Nat.reduceLT]
    try rfl
  rw [decide_eq_true hv] at k2
  rw [if_pos ⟨hr, hv⟩]
  have k5 := p_horner ol hr.1 hp' hl hv hJ
  generalize hornS l v = H at *
  simp only [NL, DP, Iv.pv] at k1 k2 k3 k4 k5 ⊢
  refine PC.of_body follows Tryz.func25 (by decide +kernel) rfl (by kernel_rfl) (Nat.le_of_ble_eq_true rfl) (walk ?_)
  simp only [Tryz.f25, go_sem, Int.reduceToNat, Int.reduceEq, Int.reduceNe, Int.reduceLT, Int.reduceLE, Int.reduceNeg, Int.reduceAdd, ↓reduceIte, ↓reduceCtorEq, Nat.reduceEqDiff, Nat.reduceAdd, Nat.reduceSub, Nat.reduceMul, Nat.reduceLeDiff, Nat.reduceLT]
  refine qcall_i (k1) ?_; simp only [Tryz.f25, go_sem, Int.reduceToNat, Int.reduceEq, Int.reduceNe, Int.reduceLT, Int.reduceLE, Int.reduceNeg, Int.reduceAdd, ↓reduceIte, ↓reduceCtorEq, Nat.reduceEqDiff, Nat.reduceAdd, Nat.reduceSub, Nat.reduceMul, Nat.reduceLeDiff, Nat.reduceLT]
  refine qcall_i (k2) ?_; simp only [Tryz.f25, go_sem, Int.reduceToNat, Int.reduceEq, Int.reduceNe, Int.reduceLT, Int.reduceLE, Int.reduceNeg, Int.reduceAdd, ↓reduceIte, ↓reduceCtorEq, Nat.reduceEqDiff, Nat.reduceAdd, Nat.reduceSub, Nat.reduceMul, Nat.reduceLeDiff, Nat.reduceLT]
  refine qcall_i (k3) ?_; simp only [Tryz.f25, go_sem, Int.reduceToNat, Int.reduceEq, Int.reduceNe, Int.reduceLT, Int.reduceLE, Int.reduceNeg, Int.reduceAdd, ↓reduceIte, ↓reduceCtorEq, Nat.reduceEqDiff, Nat.reduceAdd, Nat.reduceSub, Nat.reduceMul, Nat.reduceLeDiff, Nat.reduceLT]
  refine qcall_i (k4) ?_; simp only [Tryz.f25, go_sem, Int.reduceToNat, Int.reduceEq, Int.reduceNe, Int.reduceLT, Int.reduceLE, Int.reduceNeg, Int.reduceAdd, ↓reduceIte, ↓reduceCtorEq, Nat.reduceEqDiff, Nat.reduceAdd, Nat.reduceSub, Nat.reduceMul, Nat.reduceLeDiff, Nat.reduceLT]
  refine qcall_i (k5) ?_; simp only [Tryz.f25, go_sem, Int.reduceToNat, Int.reduceEq, Int.reduceNe, Int.reduceLT, Int.reduceLE, Int.reduceNeg, Int.reduceAdd, ↓reduceIte, ↓reduceCtorEq, Nat.reduceEqDiff, Nat.reduceAdd, Nat.reduceSub, Nat.reduceMul, Nat.reduceLeDiff, Nat.reduceLT]
  try rfl

/-- The document's steps: numbers need not be bare. -/
def ovN (l : List Nat) (i : Iv) : Iv := l.foldr (fun b s => ⟨addD (mulI s i).lo (fd b), addD (mulI s i).hi (fd b)⟩) Iv.zero
theorem ovN_cons (b : Nat) (l : List Nat) (i : Iv) : ovN (b :: l) i = ⟨addD (mulI (ovN l i) i).lo (fd b), addD (mulI (ovN l i) i).hi (fd b)⟩ := rfl
theorem mulI_limN {s i : Iv} {K J : Nat} (h1 : LimN K s.lo) (h2 : LimN K s.hi) (h3 : LimN J i.lo) (h4 : LimN J i.hi) : LimN (K + J) (mulI s i).lo ∧ LimN (K + J) (mulI s i).hi :=
  mulI_P (P := LimN (K + J)) (h1.mul h3) (h1.mul h4) (h2.mul h3) (h2.mul h4)
theorem ovN_lim {i : Iv} {J : Nat} (h3 : LimN J i.lo) (h4 : LimN J i.hi) : ∀ l : List Nat, LimN (hB J l.length) (ovN l i).lo ∧ LimN (hB J l.length) (ovN l i).hi := by
  intro l
  induction l with
  | nil => exact ⟨(Lim.zero _).N, (Lim.zero _).N⟩
  | cons b l ih =>
    obtain ⟨g1, g2⟩ := mulI_limN ih.1 ih.2 h3 h4
    have hc : LimN (hB J l.length + J) (fd b) := (fd_lim b).N.mono (by unfold hB; omega)
    rw [List.length_cons, hB_succ]
    exact ⟨g1.add hc, g2.add hc⟩
def minR (a b : Rat) : Rat := if b < a then b else a
def maxR (a b : Rat) : Rat := if a < b then b else a
theorem val_minD (a b : Dy) : (minD a b).val = minR a.val b.val := by
  unfold minD minR
  by_cases h : cmpD b a < 0
  · rw [if_pos h, if_pos (cmp_val_lt.1 h)]
  · rw [if_neg h, if_neg (fun h2 => h (cmp_val_lt.2 h2))]
theorem val_maxD (a b : Dy) : (maxD a b).val = maxR a.val b.val := by
  unfold maxD maxR
  by_cases h : 0 < cmpD b a
  · rw [if_pos h, if_pos (cmp_val_gt.1 h)]
  · rw [if_neg h, if_neg (fun h2 => h (cmp_val_gt.2 h2))]
theorem mulI_congr {s s' i : Iv} (h1 : s.lo.val = s'.lo.val) (h2 : s.hi.val = s'.hi.val) : (mulI s i).lo.val = (mulI s' i).lo.val ∧ (mulI s i).hi.val = (mulI s' i).hi.val := by
  unfold mulI min4 max4
  simp only [val_minD, val_maxD, val_mul, h1, h2, and_self]
theorem ovN_val {i : Iv} {J : Nat} (hl : i.lim J) (hJ : J ≤ 1300) : ∀ l : List Nat, l.length ≤ 16 → (∀ b ∈ l, fe b < 2047) → (ovN l i).lo.val = (hornS l i).lo.val ∧ (ovN l i).hi.val = (hornS l i).hi.val := by
  intro l
  induction l with
  | nil => intro _ _; exact ⟨rfl, rfl⟩
  | cons b l ih =>
    intro hn hf
    rw [List.length_cons] at hn
    obtain ⟨g1, g2⟩ := ih (by omega) (fun x hx => hf x (List.mem_cons_of_mem _ hx))
    obtain ⟨q1, q2⟩ := mulI_congr (i := i) g1 g2
    obtain ⟨h1, h2⟩ := hornS_spec hl hJ l (by omega)
    have hb := hB_le hJ (show l.length ≤ 16 by omega)
    have hm := h1.mul hl
    have hc := (fd_lim b).mono (J := hB J l.length + J) (by unfold hB; omega)
    rw [ovN_cons, hornS_cons, fd0_fin (hf b (List.mem_cons_self ..))]
    refine ⟨?_, ?_⟩
    · show (addD _ _).val = (addS _ _).val
      rw [val_addD, q1, Lim.val_add hm.1 hc (by omega)]
    · show (addD _ _).val = (addS _ _).val
      rw [val_addD, q2, Lim.val_add hm.2 hc (by omega)]
theorem ovN_drop {l : List Nat} {i : Nat} (hi : i < l.length) (v : Iv) : ovN (l.drop i) v = ⟨addD (mulI (ovN (l.drop (i + 1)) v) v).lo (fd (l.getD i 0)), addD (mulI (ovN (l.drop (i + 1)) v) v).hi (fd (l.getD i 0))⟩ := by
  rw [List.drop_eq_getElem_cons hi, ovN_cons, List.getD_eq_getElem?_getD, List.getElem?_eq_getElem hi, Option.getD_some]
theorem c_35Over {l : List Nat} (ol : Ok W l) (hn : l.length ≤ 16) {v : Iv} {J : Nat} (h3 : LimN J v.lo) (h4 : LimN J v.hi) (hJ : J ≤ 1300) : PC E 27 [NL l, v.nv] (ovN l v).nv := by
  have hg : ∀ i, i < l.length → (U l)[i]? = some (.int .u64 (l.getD i 0 : Nat)) := fun i hi => U_getD hi
  obtain ⟨S, hS⟩ : ∃ S : Nat → Iv, ∀ i, ovN (l.drop i) v = S i := ⟨_, fun _ => rfl⟩
  have hst : ∀ i, i < l.length → PC E 81 [(S (i + 1)).nv, v.nv] (mulI (S (i + 1)) v).nv ∧ PC E 16 [.int .u64 (l.getD i 0 : Nat)] (fd (l.getD i 0)).nv ∧
      PC E 73 [(mulI (S (i + 1)) v).lo.nv, (fd (l.getD i 0)).nv] (S i).lo.nv ∧ PC E 73 [(mulI (S (i + 1)) v).hi.nv, (fd (l.getD i 0)).nv] (S i).hi.nv := fun i hi => by
    have hL := ovN_lim h3 h4 (l.drop (i + 1))
    have hb := hB_le hJ (show (l.drop (i + 1)).length ≤ 16 by rw [List.length_drop]; omega)
    have hd := ovN_drop hi v
    rw [hS, hS] at hd
    rw [hS] at hL
    have hM := mulI_limN hL.1 hL.2 h3 h4
    have hc : LimN (hB J (l.drop (i + 1)).length + J) (fd (l.getD i 0)) := (fd_lim _).N.mono (by unfold hB; omega)
    have k3 := l_Add hM.1 hc (by omega)
    have k4 := l_Add hM.2 hc (by omega)
    rw [hd]
    exact ⟨l_Ends hL.1 hL.2 h3 h4 (by omega), c_Worth _ (by rw [List.getD_eq_getElem?_getD, List.getElem?_eq_getElem hi]; exact ol _ (List.getElem_mem _)), k3, k4⟩
  have h0 : ovN l v = S 0 := by rw [← hS, List.drop_zero]
  have hz : S l.length = Iv.zero := by rw [← hS, List.drop_length]; rfl
  rw [h0]
  clear h0 hS ol h3 h4
  obtain ⟨M, hM⟩ : ∃ M : Nat → Iv, ∀ i, mulI (S (i + 1)) v = M i := ⟨_, fun _ => rfl⟩
  obtain ⟨Fd, hFd⟩ : ∃ Fd : Nat → Dy, ∀ i, fd (l.getD i 0) = Fd i := ⟨_, fun _ => rfl⟩
  simp only [hM, hFd] at hst
  clear hM hFd
  have z1 : (S l.length).lo.s = false ∧ VN (S l.length).lo.m = .lst 0 [] ∧ (S l.length).lo.e = 0 ∧ (S l.length).hi.s = false ∧ VN (S l.length).hi.m = .lst 0 [] ∧ (S l.length).hi.e = 0 := by
    rw [hz]; exact ⟨rfl, rfl, rfl, rfl, rfl, rfl⟩
  obtain ⟨z1, z2, z3, z4, z5, z6⟩ := z1
  have wl : IntKind.wrap .i64 ((l.length : Int) - 1) = (l.length : Int) - 1 := wrap64 (by omega) (by omega)
  simp only [NL, Iv.nv, Dy.nv, DP] at hst ⊢
  generalize U l = U1 at *
  refine PC.of_body follows Tryz.func27 (by decide +kernel) rfl (by kernel_rfl) (Nat.le_of_ble_eq_true rfl) (walk ?_)
  simp only [Tryz.f27, wl, go_sem, Int.reduceToNat, Int.reduceEq, Int.reduceNe, Int.reduceLT, Int.reduceLE, Int.reduceNeg, Int.reduceAdd, ↓reduceIte, ↓reduceCtorEq, Nat.reduceEqDiff, Nat.reduceAdd, Nat.reduceSub, Nat.reduceMul, Nat.reduceLeDiff, Nat.reduceLT]
  refine PLoop.intro (fun i : Nat => ⟨[(0, .val (.lst l.length U1)), (3, .ptr 3 0), (4, .ptr 4 0), (5, .ptr 5 0), (6, .val (.int .i64 ((i : Int) - 1)))],
    [(3, (.box [.bool v.lo.s, VN v.lo.m, .int .i64 v.lo.e, .bool v.hi.s, VN v.hi.m, .int .i64 v.hi.e], false)), (4, (.box [.bool false, .lst 0 [], .int .i64 0, .bool false, .lst 0 [], .int .i64 0], false)),
     (5, (.box [.bool (S i).lo.s, VN (S i).lo.m, .int .i64 (S i).lo.e, .bool (S i).hi.s, VN (S i).hi.m, .int .i64 (S i).hi.e], false))]⟩) (fun i => i ≤ l.length) (fun i => i) l.length (Nat.le_refl _) ?_ fun i hi => walk ?_
  · simp [Wk, sget, killL, kill1, SV.key, z1, z2, z3, z4, z5, z6]
  rcases i with _ | i
  · simp only [Tryz.f27, go_sem, Int.reduceToNat, Int.reduceEq, Int.reduceNe, Int.reduceLT, Int.reduceLE, Int.reduceNeg, Int.reduceAdd, ↓reduceIte, ↓reduceCtorEq, Nat.reduceEqDiff, Nat.reduceAdd, Nat.reduceSub, Nat.reduceMul, Nat.reduceLeDiff, Nat.reduceLT]
    refine qif_df (by omega) ?_
    simp only [Tryz.f27, go_sem, Int.reduceToNat, Int.reduceEq, Int.reduceNe, Int.reduceLT, Int.reduceLE, Int.reduceNeg, Int.reduceAdd, ↓reduceIte, ↓reduceCtorEq, Nat.reduceEqDiff, Nat.reduceAdd, Nat.reduceSub, Nat.reduceMul, Nat.reduceLeDiff, Nat.reduceLT]
    try rfl
  have wi : IntKind.wrap .i64 (((i + 1 : Nat) : Int) - 1 - 1) = (i : Int) - 1 := by rw [wrap64 (by omega) (by omega)]; omega
  have we : ((i + 1 : Nat) : Int) - 1 = (i : Int) := by omega
  rw [we] at wi
  have x1 := hg i (by omega)
  obtain ⟨k1, k2, k3, k4⟩ := hst i (by omega)
  simp only [Tryz.f27, we, go_sem, Int.reduceToNat, Int.reduceEq, Int.reduceNe, Int.reduceLT, Int.reduceLE, Int.reduceNeg, Int.reduceAdd, ↓reduceIte, ↓reduceCtorEq, Nat.reduceEqDiff, Nat.reduceAdd, Nat.reduceSub, Nat.reduceMul, Nat.reduceLeDiff, Nat.reduceLT]
  refine qif_dt (by omega) ?_
  simp only [Tryz.f27, we, go_sem, Int.reduceToNat, Int.reduceEq, Int.reduceNe, Int.reduceLT, Int.reduceLE, Int.reduceNeg, Int.reduceAdd, ↓reduceIte, ↓reduceCtorEq, Nat.reduceEqDiff, Nat.reduceAdd, Nat.reduceSub, Nat.reduceMul, Nat.reduceLeDiff, Nat.reduceLT]
  refine qcall_i (k1) ?_; simp only [Tryz.f27, we, go_sem, Int.reduceToNat, Int.reduceEq, Int.reduceNe, Int.reduceLT, Int.reduceLE, Int.reduceNeg, Int.reduceAdd, ↓reduceIte, ↓reduceCtorEq, Nat.reduceEqDiff, Nat.reduceAdd, Nat.reduceSub, Nat.reduceMul, Nat.reduceLeDiff, Nat.reduceLT]
  refine qand_i (by first | omega | (simp [V_length, U_length, tab_length, maxLen]; done) | (simp [V_length, U_length, tab_length, maxLen]; omega) | (refine ⟨?_, ?_⟩ <;> first | omega | (simp [V_length, U_length, tab_length, maxLen]; done) | (simp [V_length, U_length, tab_length, maxLen]; omega))) ?_; simp only [Tryz.f27, we, go_sem, Int.reduceToNat, Int.reduceEq, Int.reduceNe, Int.reduceLT, Int.reduceLE, Int.reduceNeg, Int.reduceAdd, ↓reduceIte, ↓reduceCtorEq, Nat.reduceEqDiff, Nat.reduceAdd, Nat.reduceSub, Nat.reduceMul, Nat.reduceLeDiff, Nat.reduceLT]
  refine qval_i (congrArg (Option.map _) x1) ?_
  simp only [Tryz.f27, we, go_sem, Int.reduceToNat, Int.reduceEq, Int.reduceNe, Int.reduceLT, Int.reduceLE, Int.reduceNeg, Int.reduceAdd, ↓reduceIte, ↓reduceCtorEq, Nat.reduceEqDiff, Nat.reduceAdd, Nat.reduceSub, Nat.reduceMul, Nat.reduceLeDiff, Nat.reduceLT]
  refine qcall_i (k2) ?_; simp only [Tryz.f27, we, go_sem, Int.reduceToNat, Int.reduceEq, Int.reduceNe, Int.reduceLT, Int.reduceLE, Int.reduceNeg, Int.reduceAdd, ↓reduceIte, ↓reduceCtorEq, Nat.reduceEqDiff, Nat.reduceAdd, Nat.reduceSub, Nat.reduceMul, Nat.reduceLeDiff, Nat.reduceLT]
  refine qcall_i (k3) ?_; simp only [Tryz.f27, we, go_sem, Int.reduceToNat, Int.reduceEq, Int.reduceNe, Int.reduceLT, Int.reduceLE, Int.reduceNeg, Int.reduceAdd, ↓reduceIte, ↓reduceCtorEq, Nat.reduceEqDiff, Nat.reduceAdd, Nat.reduceSub, Nat.reduceMul, Nat.reduceLeDiff, Nat.reduceLT]
  refine qcall_i (k4) ?_; simp only [Tryz.f27, we, wi, go_sem, Int.reduceToNat, Int.reduceEq, Int.reduceNe, Int.reduceLT, Int.reduceLE, Int.reduceNeg, Int.reduceAdd, ↓reduceIte, ↓reduceCtorEq, Nat.reduceEqDiff, Nat.reduceAdd, Nat.reduceSub, Nat.reduceMul, Nat.reduceLeDiff, Nat.reduceLT]
  refine ⟨i, by omega, by omega, ?_⟩
  simp [Wk, sget, killL, kill1, SV.key, setCells]
end Go.Proofs.YtejmlngnpekagaaGreatDoor
