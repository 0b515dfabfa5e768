/- What cmp.Compare, nat.Cmp and nat.Sub hand back. -/
import Derived.Test.YtflpcgcgeffolaaDoorNat4
import Derived.Test.YtflpcgcgeffolaaDoorBack
open Go PG Go.Proofs
set_option maxRecDepth 100000
set_option linter.unusedSimpArgs false
set_option linter.unusedVariables false
namespace Go.Proofs.YtflpcgcgeffolaaDoor
attribute [local go_sem] Lay2 Lay3 Lay4 Lay5 Lay6 Lay7 Lay8 Lay9 Lay10 Lay11 Lay12 Lay13 Lay14 Lay21 Lay22 Lay24 Lay25 Lay26 Lay27 Lay36 Lay37 Lay38 Lay39 Lay40 Lay41 Lay43 Lay46 Lay47 Lay66 Lay103 Lay105 Lay159 Lay164 Lay165 Lay166 Lay168 Lay169 Lay172 Lay173 qexec_seq qexec_skip qexec_exit qexec_ret qexec_block qexec_loop qexec_range qexec_cond qexec_region qops_nil qops_none qops_some put_some put_none pblk_exit pblk_other newDsts_nil sget_cons qval_some qbool_some qgs_bool qgs_und qfree_some qgrd_true qgrd_false qif_true qif_false qval_ite qval_itn qand_true map_ite map_some' map_none' qdo_move qdo_assign qdo_binOp qdo_pick qdo_unOp qdo_convert qdo_extract qdo_field qdo_fieldAddr qdo_alloc qdo_box qdo_build qdo_buildSlice qdo_load qdo_store qdo_nilCheck qdo_makeFunc qdo_makeSlice qdo_slice qdo_indexAddr qdo_call qcont_val qcont_new qcont_st qcont_app0 qcont_app qcont_inl qcont_call njSV_val njSV_nil njSV_row njSV_ptr njSV_sub binV_val binV_nil binV_nn nilCmp bin_add bin_sub bin_mul bin_quo bin_rem bin_and bin_or bin_xor bin_andNot bin_eql bin_neq bin_lss bin_leq bin_gtr bin_geq bin_shl bin_shr bin_seql bin_sneq bin_sadd bin_beql bin_aeql bin_aneq eqAnd_some eqCells_nil eqCells_cons fieldTypes isStruct eqCell bin_bneq un_not un_neg nj_ite Nat.beq stepA stepR isNew opSV constSV RV.sv allSome E_mu Bool.or_false Bool.false_or Bool.or_true Bool.true_or cst setB res resSV pstart startL killL kill1 eraL frzL svPV rvPV rvInt rvSlice frzOf close closeL pconv pbuiltin pmax2 partPV setCells fillPV zrow bound newSV PV.cells Bk.cells Bk.with SV.key pres presL_nil presL_tmp presL_cell presC2_some cellPV_ptr presC List.toList_toArray List.size_toArray List.getElem?_drop Nat.mul_one Int.toNat_natCast Nat.not_lt_zero Nat.lt_irrefl decide_true decide_false Nat.not_lt Option.some.injEq PV.lst.injEq PV.int.injEq PV.bool.injEq PV.tuple.injEq List.cons.injEq Option.map_some Option.map_none Option.bind_some Option.toList List.map_cons List.map_nil List.nil_append List.cons_append List.append_nil List.zip_cons_cons List.zip_nil_left List.zip_nil_right List.getElem?_cons_zero List.getElem?_cons_succ List.drop_zero List.drop_succ_cons List.take_succ_cons List.take_zero List.set_cons_zero List.set_cons_succ List.length_cons List.length_nil List.length_set List.replicate_one List.replicate_zero bne_self_eq_false beq_self_eq_true Nat.zero_add Nat.add_zero Nat.zero_mul Bool.false_eq_true Bool.true_eq_false Bool.not_true Bool.not_false and_true true_and false_and and_false or_false false_or or_true true_or not_true_eq_false not_false_eq_true ne_eq gt_iff_lt List.mem_cons List.not_mem_nil
attribute [local go_sem ↓] pseq_normal pseq_ret pseq_exit pblk_normal pblk_ret newDsts_cons gdst_zero gdst_succ retQ_normal retQ_ret retM_normal retM_ret endR_normal endR_ret endR_exit

/-- -1, 0, 1. -/
def sgn (a b : Int) : Int := if a < b then -1 else if b < a then 1 else 0

theorem c_isNaN_int (x : Int) : PC E 125 [.int .i64 x] (.bool false) := by
  refine PC.of_body follows Tryd.func125 (by decide +kernel) rfl (by kernel_rfl) (Nat.le_of_ble_eq_true rfl) (walk ?_)
  simp only [Tryd.f125, go_sem, Int.reduceToNat, Int.reduceEq, Int.reduceNe, Int.reduceLT, Int.reduceLE, Int.reduceNeg, Int.reduceAdd, ↓reduceIte, ↓reduceCtorEq, Nat.reduceEqDiff, Nat.reduceAdd, Nat.reduceSub, Nat.reduceMul, Nat.reduceLeDiff, Nat.reduceLT]

theorem c_isNaN_u64 (x : Nat) : PC E 140 [u x] (.bool false) := by
  refine PC.of_body follows Tryd.func140 (by decide +kernel) rfl (by kernel_rfl) (Nat.le_of_ble_eq_true rfl) (walk ?_)
  simp only [Tryd.f140, u, go_sem, Int.reduceToNat, Int.reduceEq, Int.reduceNe, Int.reduceLT, Int.reduceLE, Int.reduceNeg, Int.reduceAdd, ↓reduceIte, ↓reduceCtorEq, Nat.reduceEqDiff, Nat.reduceAdd, Nat.reduceSub, Nat.reduceMul, Nat.reduceLeDiff, Nat.reduceLT]

theorem c_Compare_int (x y : Int) : PC E 94 [.int .i64 x, .int .i64 y] (.int .i64 (sgn x y)) := by
  refine PC.of_body follows Tryd.func94 (by decide +kernel) rfl (by kernel_rfl) (Nat.le_of_ble_eq_true rfl) (walk ?_)
  simp only [Tryd.f94, go_sem, Int.reduceToNat, Int.reduceEq, Int.reduceNe, Int.reduceLT, Int.reduceLE, Int.reduceNeg, Int.reduceAdd, ↓reduceIte, ↓reduceCtorEq, Nat.reduceEqDiff, Nat.reduceAdd, Nat.reduceSub, Nat.reduceMul, Nat.reduceLeDiff, Nat.reduceLT]
  refine qcall_i (c_isNaN_int x) ?_
  simp only [Tryd.f94, go_sem, Int.reduceToNat, Int.reduceEq, Int.reduceNe, Int.reduceLT, Int.reduceLE, Int.reduceNeg, Int.reduceAdd, ↓reduceIte, ↓reduceCtorEq, Nat.reduceEqDiff, Nat.reduceAdd, Nat.reduceSub, Nat.reduceMul, Nat.reduceLeDiff, Nat.reduceLT]
  refine qcall_i (c_isNaN_int y) ?_
  simp only [Tryd.f94, go_sem, Int.reduceToNat, Int.reduceEq, Int.reduceNe, Int.reduceLT, Int.reduceLE, Int.reduceNeg, Int.reduceAdd, ↓reduceIte, ↓reduceCtorEq, Nat.reduceEqDiff, Nat.reduceAdd, Nat.reduceSub, Nat.reduceMul, Nat.reduceLeDiff, Nat.reduceLT]
  refine qif_d (fun h => ?_) (fun h => ?_)
  · simp only [Tryd.f94, go_sem, Int.reduceToNat, Int.reduceEq, Int.reduceNe, Int.reduceLT, Int.reduceLE, Int.reduceNeg, Int.reduceAdd, ↓reduceIte, ↓reduceCtorEq, Nat.reduceEqDiff, Nat.reduceAdd, Nat.reduceSub, Nat.reduceMul, Nat.reduceLeDiff, Nat.reduceLT]
    simp [sgn, h]
  · simp only [Tryd.f94, go_sem, Int.reduceToNat, Int.reduceEq, Int.reduceNe, Int.reduceLT, Int.reduceLE, Int.reduceNeg, Int.reduceAdd, ↓reduceIte, ↓reduceCtorEq, Nat.reduceEqDiff, Nat.reduceAdd, Nat.reduceSub, Nat.reduceMul, Nat.reduceLeDiff, Nat.reduceLT]
    refine qif_d (fun h' => ?_) (fun h' => ?_)
    · simp only [Tryd.f94, go_sem, Int.reduceToNat, Int.reduceEq, Int.reduceNe, Int.reduceLT, Int.reduceLE, Int.reduceNeg, Int.reduceAdd, ↓reduceIte, ↓reduceCtorEq, Nat.reduceEqDiff, Nat.reduceAdd, Nat.reduceSub, Nat.reduceMul, Nat.reduceLeDiff, Nat.reduceLT]
      simp [sgn, h, h']
    · simp only [Tryd.f94, go_sem, Int.reduceToNat, Int.reduceEq, Int.reduceNe, Int.reduceLT, Int.reduceLE, Int.reduceNeg, Int.reduceAdd, ↓reduceIte, ↓reduceCtorEq, Nat.reduceEqDiff, Nat.reduceAdd, Nat.reduceSub, Nat.reduceMul, Nat.reduceLeDiff, Nat.reduceLT]
      simp [sgn, h, h']

theorem c_Compare_u64 (x y : Nat) : PC E 129 [u x, u y] (.int .i64 (sgn x y)) := by
  refine PC.of_body follows Tryd.func129 (by decide +kernel) rfl (by kernel_rfl) (Nat.le_of_ble_eq_true rfl) (walk ?_)
  simp only [Tryd.f129, u, go_sem, Int.reduceToNat, Int.reduceEq, Int.reduceNe, Int.reduceLT, Int.reduceLE, Int.reduceNeg, Int.reduceAdd, ↓reduceIte, ↓reduceCtorEq, Nat.reduceEqDiff, Nat.reduceAdd, Nat.reduceSub, Nat.reduceMul, Nat.reduceLeDiff, Nat.reduceLT]
  refine qcall_i (c_isNaN_u64 x) ?_
  simp only [Tryd.f129, u, go_sem, Int.reduceToNat, Int.reduceEq, Int.reduceNe, Int.reduceLT, Int.reduceLE, Int.reduceNeg, Int.reduceAdd, ↓reduceIte, ↓reduceCtorEq, Nat.reduceEqDiff, Nat.reduceAdd, Nat.reduceSub, Nat.reduceMul, Nat.reduceLeDiff, Nat.reduceLT]
  refine qcall_i (c_isNaN_u64 y) ?_
  simp only [Tryd.f129, u, go_sem, Int.reduceToNat, Int.reduceEq, Int.reduceNe, Int.reduceLT, Int.reduceLE, Int.reduceNeg, Int.reduceAdd, ↓reduceIte, ↓reduceCtorEq, Nat.reduceEqDiff, Nat.reduceAdd, Nat.reduceSub, Nat.reduceMul, Nat.reduceLeDiff, Nat.reduceLT]
  refine qif_d (fun h => ?_) (fun h => ?_)
  · simp only [Tryd.f129, u, go_sem, Int.reduceToNat, Int.reduceEq, Int.reduceNe, Int.reduceLT, Int.reduceLE, Int.reduceNeg, Int.reduceAdd, ↓reduceIte, ↓reduceCtorEq, Nat.reduceEqDiff, Nat.reduceAdd, Nat.reduceSub, Nat.reduceMul, Nat.reduceLeDiff, Nat.reduceLT]
    simp [sgn, h]
  · simp only [Tryd.f129, u, go_sem, Int.reduceToNat, Int.reduceEq, Int.reduceNe, Int.reduceLT, Int.reduceLE, Int.reduceNeg, Int.reduceAdd, ↓reduceIte, ↓reduceCtorEq, Nat.reduceEqDiff, Nat.reduceAdd, Nat.reduceSub, Nat.reduceMul, Nat.reduceLeDiff, Nat.reduceLT]
    refine qif_d (fun h' => ?_) (fun h' => ?_)
    · simp only [Tryd.f129, u, go_sem, Int.reduceToNat, Int.reduceEq, Int.reduceNe, Int.reduceLT, Int.reduceLE, Int.reduceNeg, Int.reduceAdd, ↓reduceIte, ↓reduceCtorEq, Nat.reduceEqDiff, Nat.reduceAdd, Nat.reduceSub, Nat.reduceMul, Nat.reduceLeDiff, Nat.reduceLT]
      simp [sgn, h, h']
    · simp only [Tryd.f129, u, go_sem, Int.reduceToNat, Int.reduceEq, Int.reduceNe, Int.reduceLT, Int.reduceLE, Int.reduceNeg, Int.reduceAdd, ↓reduceIte, ↓reduceCtorEq, Nat.reduceEqDiff, Nat.reduceAdd, Nat.reduceSub, Nat.reduceMul, Nat.reduceLeDiff, Nat.reduceLT]
      simp [sgn, h, h']

theorem dv_eq_of {b : Nat} : ∀ (l r : List Nat), l.length = r.length → (∀ i, i < l.length → l.getD i 0 = r.getD i 0) → dv b l = dv b r
  | [], [], _, _ => rfl
  | [], _ :: _, h, _ => by simp at h
  | _ :: _, [], h, _ => by simp at h
  | d :: l, e :: r, h, ha => by
    have h0 := ha 0 (by simp)
    simp at h0
    simp only [dv]
    rw [h0, dv_eq_of l r (by simpa using h) fun i hi => by have := ha (i + 1) (by simpa using hi); simpa using this]

theorem dv_lt_of {b : Nat} : ∀ (l r : List Nat) (i : Nat), Ok b l → l.length = r.length → i < l.length → l.getD i 0 < r.getD i 0 → (∀ j, i < j → j < l.length → l.getD j 0 = r.getD j 0) → dv b l < dv b r
  | [], _, i, _, _, hi, _, _ => by simp at hi
  | _ :: _, [], _, _, h, _, _, _ => by simp at h
  | d :: l, e :: r, 0, ho, h, hi, hlt, ha => by
    simp at hlt
    simp only [dv]
    rw [dv_eq_of l r (by simpa using h) fun i hi => by have := ha (i + 1) (by omega) (by simpa using hi); simpa using this]
    omega
  | d :: l, e :: r, i + 1, ho, h, hi, hlt, ha => by
    have ih := dv_lt_of l r i ho.tail (by simpa using h) (by simpa using hi) (by simpa using hlt) fun j hj hjl => by have := ha (j + 1) (by omega) (by simpa using hjl); simpa using this
    have hd := ho.head
    simp only [dv]
    have : b * (dv b l + 1) ≤ b * dv b r := Nat.mul_le_mul_left _ ih
    rw [Nat.mul_add, Nat.mul_one] at this
    omega

theorem mem_back {n : Nat} {j : Nat} : ∀ k, k ≤ n → (j ∈ (back (n := n) k).map (·.1) ↔ n - k ≤ j ∧ j < n)
  | 0, _ => by simp [back]
  | k + 1, h => by
    rw [back_succ h, List.map_append, List.mem_append, mem_back k (by omega)]
    simp only [List.map_cons, List.map_nil, List.mem_singleton]
    omega

theorem sgn_of_len {x y : Nat} (h : (dg W x).length ≠ (dg W y).length) : sgn ((dg W x).length : Int) ((dg W y).length : Int) = sgn x y := by
  have hx := (dg_length_le W2 _ x).1 (Nat.le_refl _)
  have hy := (dg_length_le W2 _ y).1 (Nat.le_refl _)
  unfold sgn
  rcases Nat.lt_or_gt_of_ne h with hlt | hlt
  · have hxy : x < y := by
      refine Nat.lt_of_not_le fun hle => ?_
      have := (dg_length_le W2 (dg W x).length y).2 (Nat.lt_of_le_of_lt hle hx)
      omega
    rw [if_pos (by omega), if_pos (by omega)]
  · have hxy : y < x := by
      refine Nat.lt_of_not_le fun hle => ?_
      have := (dg_length_le W2 (dg W y).length x).2 (Nat.lt_of_le_of_lt hle hy)
      omega
    rw [if_neg (by omega), if_pos (by omega), if_neg (by omega), if_pos (by omega)]

theorem c_Cmp (a b : List Nat) (ha : a.length ≤ 1048576) (hb : b.length ≤ 1048576) (oa : Ok W a) (ob : Ok W b) : PC E 102 [NL a, NL b] (.int .i64 (sgn (vl a) (vl b))) := by
  refine PC.of_body follows Tryd.func102 (by decide +kernel) rfl (by kernel_rfl) (Nat.le_of_ble_eq_true rfl) (walk ?_)
  simp only [NL]
  simp only [Tryd.f102, go_sem, Int.reduceToNat, Int.reduceEq, Int.reduceNe, Int.reduceLT, Int.reduceLE, Int.reduceNeg, Int.reduceAdd, ↓reduceIte, ↓reduceCtorEq, Nat.reduceEqDiff, Nat.reduceAdd, Nat.reduceSub, Nat.reduceMul, Nat.reduceLeDiff, Nat.reduceLT]
  refine qcall_i (n_Bare a (by omega) oa) ?_
  simp only [Tryd.f102, go_sem, Int.reduceToNat, Int.reduceEq, Int.reduceNe, Int.reduceLT, Int.reduceLE, Int.reduceNeg, Int.reduceAdd, ↓reduceIte, ↓reduceCtorEq, Nat.reduceEqDiff, Nat.reduceAdd, Nat.reduceSub, Nat.reduceMul, Nat.reduceLeDiff, Nat.reduceLT]
  refine qcall_i (n_Bare b (by omega) ob) ?_
  have hla : (dg W (vl a)).length ≤ a.length := (dg_length_le W2 _ _).2 (dv_lt a oa)
  have hlb : (dg W (vl b)).length ≤ b.length := (dg_length_le W2 _ _).2 (dv_lt b ob)
  generalize vl a = x at *
  generalize vl b = y at *
  have hx := dv_dg W2 x
  have hy := dv_dg W2 y
  have ox := ok_dg W2 x
  have oy := ok_dg W2 y
  have hlen := @sgn_of_len x y
  simp only [NN, NL]
  generalize dg W x = l at *
  generalize dg W y = r at *
  simp only [Tryd.f102, go_sem, Int.reduceToNat, Int.reduceEq, Int.reduceNe, Int.reduceLT, Int.reduceLE, Int.reduceNeg, Int.reduceAdd, ↓reduceIte, ↓reduceCtorEq, Nat.reduceEqDiff, Nat.reduceAdd, Nat.reduceSub, Nat.reduceMul, Nat.reduceLeDiff, Nat.reduceLT]
  refine qcall_i (c_Compare_int _ _) ?_
  simp only [Tryd.f102, go_sem, Int.reduceToNat, Int.reduceEq, Int.reduceNe, Int.reduceLT, Int.reduceLE, Int.reduceNeg, Int.reduceAdd, ↓reduceIte, ↓reduceCtorEq, Nat.reduceEqDiff, Nat.reduceAdd, Nat.reduceSub, Nat.reduceMul, Nat.reduceLeDiff, Nat.reduceLT]
  refine qif_d (fun h => ?_) (fun h => ?_)
  · have hne : l.length ≠ r.length := fun e => h (by simp [sgn, e])
    simp only [Tryd.f102, go_sem, Int.reduceToNat, Int.reduceEq, Int.reduceNe, Int.reduceLT, Int.reduceLE, Int.reduceNeg, Int.reduceAdd, ↓reduceIte, ↓reduceCtorEq, Nat.reduceEqDiff, Nat.reduceAdd, Nat.reduceSub, Nat.reduceMul, Nat.reduceLeDiff, Nat.reduceLT]
    rw [hlen hne]
  · have hll : l.length = r.length := by
      unfold sgn at h
      split at h
      · simp at h
      · split at h
        · simp at h
        · omega
    simp only [Tryd.f102, go_sem, Int.reduceToNat, Int.reduceEq, Int.reduceNe, Int.reduceLT, Int.reduceLE, Int.reduceNeg, Int.reduceAdd, ↓reduceIte, ↓reduceCtorEq, Nat.reduceEqDiff, Nat.reduceAdd, Nat.reduceSub, Nat.reduceMul, Nat.reduceLeDiff, Nat.reduceLT]
    refine qcall_i (c_Backward _ _) ?_
    simp only [Tryd.f102, go_sem, Int.reduceToNat, Int.reduceEq, Int.reduceNe, Int.reduceLT, Int.reduceLE, Int.reduceNeg, Int.reduceAdd, ↓reduceIte, ↓reduceCtorEq, Nat.reduceEqDiff, Nat.reduceAdd, Nat.reduceSub, Nat.reduceMul, Nat.reduceLeDiff, Nat.reduceLT]
    let St : Int → List (Nat × (Bk × Bool)) := fun c => [(2, (.box [.lst l.length (U l)], false)), (3, (.box [.lst r.length (U r)], false)), (4, (.box [.int .i64 c], false))]
    refine PRange.intro (iter_back l (by omega)) rfl (by decide) (by decide) (by decide) (by decide) (.inl rfl) (by omega) (fun _ => St 0) (fun pre => ∀ i ∈ pre, l.getD i 0 = r.getD i 0)
      (fun pre e σ => e = .ret ∧ ∃ p0 i, pre = p0 ++ [i] ∧ i < l.length ∧ (∀ i ∈ p0, l.getD i 0 = r.getD i 0) ∧ l.getD i 0 ≠ r.getD i 0 ∧ σ = St (sgn (l.getD i 0 : Nat) (r.getD i 0 : Nat))) (by simp) ?_ (fun pre i hJ hp hi => walk ?_) (fun hJ => ?_) (fun k e σx hk hq => ?_)
    · simp [St, sget]
    · have hxl : (U l)[i]? = some (u (l.getD i 0)) := by
        rw [U_get, List.getD_eq_getElem?_getD, List.getElem?_eq_getElem hi]; rfl
      have hxr : (U r)[i]? = some (u (r.getD i 0)) := by
        rw [U_get, List.getD_eq_getElem?_getD, List.getElem?_eq_getElem (show i < r.length by omega)]; rfl
      simp only [St, shiftT, shiftSV, shiftB]
      simp only [Tryd.f102, go_sem, Int.reduceToNat, Int.reduceEq, Int.reduceNe, Int.reduceLT, Int.reduceLE, Int.reduceNeg, Int.reduceAdd, ↓reduceIte, ↓reduceCtorEq, Nat.reduceEqDiff, Nat.reduceAdd, Nat.reduceSub, Nat.reduceMul, Nat.reduceLeDiff, Nat.reduceLT]
      refine qand_i (by omega) ?_
      simp only [Tryd.f102, hxl, go_sem, Int.reduceToNat, Int.reduceEq, Int.reduceNe, Int.reduceLT, Int.reduceLE, Int.reduceNeg, Int.reduceAdd, ↓reduceIte, ↓reduceCtorEq, Nat.reduceEqDiff, Nat.reduceAdd, Nat.reduceSub, Nat.reduceMul, Nat.reduceLeDiff, Nat.reduceLT]
      refine qand_i (by omega) ?_
      simp only [Tryd.f102, hxr, go_sem, Int.reduceToNat, Int.reduceEq, Int.reduceNe, Int.reduceLT, Int.reduceLE, Int.reduceNeg, Int.reduceAdd, ↓reduceIte, ↓reduceCtorEq, Nat.reduceEqDiff, Nat.reduceAdd, Nat.reduceSub, Nat.reduceMul, Nat.reduceLeDiff, Nat.reduceLT]
      refine qcall_i (c_Compare_u64 _ _) ?_
      simp only [Tryd.f102, go_sem, Int.reduceToNat, Int.reduceEq, Int.reduceNe, Int.reduceLT, Int.reduceLE, Int.reduceNeg, Int.reduceAdd, ↓reduceIte, ↓reduceCtorEq, Nat.reduceEqDiff, Nat.reduceAdd, Nat.reduceSub, Nat.reduceMul, Nat.reduceLeDiff, Nat.reduceLT]
      refine qif_d (fun hc => ?_) (fun hc => ?_)
      · simp only [Tryd.f102, go_sem, Int.reduceToNat, Int.reduceEq, Int.reduceNe, Int.reduceLT, Int.reduceLE, Int.reduceNeg, Int.reduceAdd, ↓reduceIte, ↓reduceCtorEq, Nat.reduceEqDiff, Nat.reduceAdd, Nat.reduceSub, Nat.reduceMul, Nat.reduceLeDiff, Nat.reduceLT]
        refine ⟨St (sgn (l.getD i 0 : Nat) (r.getD i 0 : Nat)), ⟨pre, i, rfl, hi, hJ, fun e => hc (by rw [e]; simp [sgn]), rfl⟩, by simp [St, sget]⟩
      · simp only [Tryd.f102, go_sem, Int.reduceToNat, Int.reduceEq, Int.reduceNe, Int.reduceLT, Int.reduceLE, Int.reduceNeg, Int.reduceAdd, ↓reduceIte, ↓reduceCtorEq, Nat.reduceEqDiff, Nat.reduceAdd, Nat.reduceSub, Nat.reduceMul, Nat.reduceLeDiff, Nat.reduceLT]
        refine ⟨fun j hj => ?_, by simp [St, sget]⟩
        rcases List.mem_append.1 hj with hj | hj
        · exact hJ j hj
        · simp only [List.mem_singleton] at hj
          subst hj
          unfold sgn at hc
          split at hc
          · simp at hc
          · split at hc
            · simp at hc
            · omega
    · have e : x = y := by
        rw [← hx, ← hy]
        exact dv_eq_of l r hll fun i hi => hJ i ((mem_back _ (Nat.le_refl _)).2 (by omega))
      subst e
      simp only [St]
      simp only [Tryd.f102, go_sem, Int.reduceToNat, Int.reduceEq, Int.reduceNe, Int.reduceLT, Int.reduceLE, Int.reduceNeg, Int.reduceAdd, ↓reduceIte, ↓reduceCtorEq, Nat.reduceEqDiff, Nat.reduceAdd, Nat.reduceSub, Nat.reduceMul, Nat.reduceLeDiff, Nat.reduceLT]
      simp [sgn]
    · obtain ⟨rfl, p0, i, hpre, hi, hJ, hne, rfl⟩ := hq
      have hk0 : 0 < k := by
        cases k with
        | zero => simp [back] at hpre
        | succ k => omega
      obtain ⟨k, rfl⟩ : ∃ j, k = j + 1 := ⟨k - 1, by omega⟩
      rw [back_succ hk, List.map_append] at hpre
      obtain ⟨rfl, hi'⟩ := List.append_inj' hpre rfl
      simp only [List.map_cons, List.map_nil, List.cons.injEq, and_true] at hi'
      have hup : ∀ j, i < j → j < l.length → l.getD j 0 = r.getD j 0 := fun j h1 h2 => hJ j ((mem_back _ (by omega)).2 (by omega))
      have e : sgn (l.getD i 0 : Nat) (r.getD i 0 : Nat) = sgn x y := by
        unfold sgn
        rcases Nat.lt_or_gt_of_ne hne with hlt | hlt
        · have := dv_lt_of (b := W) l r i ox hll hi hlt hup
          rw [hx, hy] at this
          rw [if_pos (by omega), if_pos (by omega)]
        · have := dv_lt_of (b := W) r l i oy hll.symm (by omega) hlt (fun j h1 h2 => (hup j h1 (by omega)).symm)
          rw [hx, hy] at this
          rw [if_neg (by omega), if_pos (by omega), if_neg (by omega), if_pos (by omega)]
      rw [e]
      simp only [St]
      simp only [Tryd.f102, go_sem, Int.reduceToNat, Int.reduceEq, Int.reduceNe, Int.reduceLT, Int.reduceLE, Int.reduceNeg, Int.reduceAdd, ↓reduceIte, ↓reduceCtorEq, Nat.reduceEqDiff, Nat.reduceAdd, Nat.reduceSub, Nat.reduceMul, Nat.reduceLeDiff, Nat.reduceLT]


theorem borrow_le (A B M : Nat) : borrow A B M ≤ 1 := by unfold borrow; split <;> omega

theorem c_Sub (a b : List Nat) (ha : a.length ≤ 1048576) (hb : b.length ≤ 1048576) (oa : Ok W a) (ob : Ok W b) :
    PC E 103 [NL a, NL b] (if vl a < vl b then .tuple [.lst 0 [], .int .i64 1] else .tuple [NN (vl a - vl b), .int .i64 0]) := by
  refine PC.of_body follows Tryd.func103 (by decide +kernel) rfl (by kernel_rfl) (Nat.le_of_ble_eq_true rfl) (walk ?_)
  simp only [Tryd.f103, go_sem, Int.reduceToNat, Int.reduceEq, Int.reduceNe, Int.reduceLT, Int.reduceLE, Int.reduceNeg, Int.reduceAdd, ↓reduceIte, ↓reduceCtorEq, Nat.reduceEqDiff, Nat.reduceAdd, Nat.reduceSub, Nat.reduceMul, Nat.reduceLeDiff, Nat.reduceLT]
  refine qcall_i (c_Cmp a b ha hb oa ob) ?_
  simp only [NL]
  simp only [Tryd.f103, go_sem, Int.reduceToNat, Int.reduceEq, Int.reduceNe, Int.reduceLT, Int.reduceLE, Int.reduceNeg, Int.reduceAdd, ↓reduceIte, ↓reduceCtorEq, Nat.reduceEqDiff, Nat.reduceAdd, Nat.reduceSub, Nat.reduceMul, Nat.reduceLeDiff, Nat.reduceLT]
  refine qif_d (fun h => ?_) (fun h => ?_)
  · have hlt : vl a < vl b := by
      unfold sgn at h
      split at h
      · omega
      · split at h <;> simp at h
    simp only [Tryd.f103, go_sem, Int.reduceToNat, Int.reduceEq, Int.reduceNe, Int.reduceLT, Int.reduceLE, Int.reduceNeg, Int.reduceAdd, ↓reduceIte, ↓reduceCtorEq, Nat.reduceEqDiff, Nat.reduceAdd, Nat.reduceSub, Nat.reduceMul, Nat.reduceLeDiff, Nat.reduceLT]
    rw [if_pos hlt]
  · have hge : ¬ vl a < vl b := fun hlt => h (by unfold sgn; rw [if_pos (by omega)]; decide)
    rw [if_neg hge]
    have hA : vl a < W ^ a.length := dv_lt a oa
    simp only [Tryd.f103, go_sem, Int.reduceToNat, Int.reduceEq, Int.reduceNe, Int.reduceLT, Int.reduceLE, Int.reduceNeg, Int.reduceAdd, ↓reduceIte, ↓reduceCtorEq, Nat.reduceEqDiff, Nat.reduceAdd, Nat.reduceSub, Nat.reduceMul, Nat.reduceLeDiff, Nat.reduceLT]
    refine qand_i (by omega) ?_
    simp only [Tryd.f103, go_sem, Int.reduceToNat, Int.reduceEq, Int.reduceNe, Int.reduceLT, Int.reduceLE, Int.reduceNeg, Int.reduceAdd, ↓reduceIte, ↓reduceCtorEq, Nat.reduceEqDiff, Nat.reduceAdd, Nat.reduceSub, Nat.reduceMul, Nat.reduceLeDiff, Nat.reduceLT]
    generalize hA0 : vl a = A at *
    generalize hB0 : vl b = B at *
    have hM1 : A - B < W ^ a.length := by omega
    refine PLoop.intro (fun i : Nat => ⟨[(0, .val (NL a)), (1, .val (NL b)), (6, .row 15), (7, .val (u (borrow A B (W ^ i)))), (17, .val (.int .i64 a.length)), (18, .val (.int .i64 i))],
      [(15, (.row 22 1 a.length (U (tab W (A - B) i ++ List.replicate (a.length - i) 0)), false))]⟩) (fun i => i ≤ a.length) (fun i => a.length - i) 0 (by omega) ?_ fun i hi => walk ?_
    · simp [Wk, sget, NL, borrow_one, u, U, tab]
    · simp only [NL]
      simp only [Tryd.f103, go_sem, Int.reduceToNat, Int.reduceEq, Int.reduceNe, Int.reduceLT, Int.reduceLE, Int.reduceNeg, Int.reduceAdd, ↓reduceIte, ↓reduceCtorEq, Nat.reduceEqDiff, Nat.reduceAdd, Nat.reduceSub, Nat.reduceMul, Nat.reduceLeDiff, Nat.reduceLT]
      refine qif_d (fun h => ?_) (fun h => ?_)
      · have hMi : 0 < W ^ i := Nat.pow_pos W0
        have hwi : IntKind.wrap .i64 ((i : Int) + 1) = ((i + 1 : Nat) : Int) := by rw [wrap64 (by omega) (by omega)]; omega
        have hx : (U a)[i]? = some (u (A / W ^ i % W)) := by
          rw [U_get, ← hA0, ← dv_get W0 _ oa i, List.getD_eq_getElem?_getD, List.getElem?_eq_getElem (show i < a.length by omega)]; rfl
        simp only [Tryd.f103, go_sem, Int.reduceToNat, Int.reduceEq, Int.reduceNe, Int.reduceLT, Int.reduceLE, Int.reduceNeg, Int.reduceAdd, ↓reduceIte, ↓reduceCtorEq, Nat.reduceEqDiff, Nat.reduceAdd, Nat.reduceSub, Nat.reduceMul, Nat.reduceLeDiff, Nat.reduceLT]
        refine qand_i (by omega) ?_
        simp only [Tryd.f103, go_sem, Int.reduceToNat, Int.reduceEq, Int.reduceNe, Int.reduceLT, Int.reduceLE, Int.reduceNeg, Int.reduceAdd, ↓reduceIte, ↓reduceCtorEq, Nat.reduceEqDiff, Nat.reduceAdd, Nat.reduceSub, Nat.reduceMul, Nat.reduceLeDiff, Nat.reduceLT]
        refine qval_i (congrArg (Option.map _) hx) ?_
        simp only [Tryd.f103, go_sem, Int.reduceToNat, Int.reduceEq, Int.reduceNe, Int.reduceLT, Int.reduceLE, Int.reduceNeg, Int.reduceAdd, ↓reduceIte, ↓reduceCtorEq, Nat.reduceEqDiff, Nat.reduceAdd, Nat.reduceSub, Nat.reduceMul, Nat.reduceLeDiff, Nat.reduceLT]
        refine qcall_i (n_limb b ob i) ?_
        simp only [Tryd.f103, go_sem, Int.reduceToNat, Int.reduceEq, Int.reduceNe, Int.reduceLT, Int.reduceLE, Int.reduceNeg, Int.reduceAdd, ↓reduceIte, ↓reduceCtorEq, Nat.reduceEqDiff, Nat.reduceAdd, Nat.reduceSub, Nat.reduceMul, Nat.reduceLeDiff, Nat.reduceLT]
        rw [hB0, lb_nat]
        refine qcall_i (c_Sub64 _ _ _ (borrow_le _ _ _)) ?_
        simp only [Tryd.f103, go_sem, Int.reduceToNat, Int.reduceEq, Int.reduceNe, Int.reduceLT, Int.reduceLE, Int.reduceNeg, Int.reduceAdd, ↓reduceIte, ↓reduceCtorEq, Nat.reduceEqDiff, Nat.reduceAdd, Nat.reduceSub, Nat.reduceMul, Nat.reduceLeDiff, Nat.reduceLT]
        refine qand_i (by omega) ?_
        simp only [Tryd.f103, u, go_sem, Int.reduceToNat, Int.reduceEq, Int.reduceNe, Int.reduceLT, Int.reduceLE, Int.reduceNeg, Int.reduceAdd, ↓reduceIte, ↓reduceCtorEq, Nat.reduceEqDiff, Nat.reduceAdd, Nat.reduceSub, Nat.reduceMul, Nat.reduceLeDiff, Nat.reduceLT]
        refine qand_i (by simp [U, tab]; omega) ?_
        simp only [Tryd.f103, hwi, go_sem, Int.reduceToNat, Int.reduceEq, Int.reduceNe, Int.reduceLT, Int.reduceLE, Int.reduceNeg, Int.reduceAdd, ↓reduceIte, ↓reduceCtorEq, Nat.reduceEqDiff, Nat.reduceAdd, Nat.reduceSub, Nat.reduceMul, Nat.reduceLeDiff, Nat.reduceLT]
        refine ⟨i + 1, by omega, by omega, ?_⟩
        have e1 := borrow_digit (W := W) hMi (show B ≤ A by omega) W0
        have e2 : (A / W ^ i % W + W - B / W ^ i % W - borrow A B (W ^ i)) % W = (A - B) / W ^ i % W := by
          rw [← e1]
          have h1 : B / W ^ i % W < W := Nat.mod_lt _ W0
          have h2 := borrow_le A B (W ^ i)
          have : A / W ^ i % W + W + W - B / W ^ i % W - borrow A B (W ^ i) = (A / W ^ i % W + W - B / W ^ i % W - borrow A B (W ^ i)) + W := by omega
          rw [this, Nat.add_mod_right]
        rw [e2, ← borrow_next hMi, ← Nat.pow_succ]
        simp [Wk, sget, u, NL]
        rw [← fill_set (by omega), ← U_set]
        rfl
      · have e : i = a.length := by omega
        subst e
        simp only [Tryd.f103, go_sem, Int.reduceToNat, Int.reduceEq, Int.reduceNe, Int.reduceLT, Int.reduceLE, Int.reduceNeg, Int.reduceAdd, ↓reduceIte, ↓reduceCtorEq, Nat.reduceEqDiff, Nat.reduceAdd, Nat.reduceSub, Nat.reduceMul, Nat.reduceLeDiff, Nat.reduceLT]
        rw [Nat.sub_self, List.replicate_zero, List.append_nil]
        refine qcall_i (r := NN (A - B)) (PC.at_list (n_Bare (tab W (A - B) a.length) (by rw [tab_length]; omega) (ok_tab W0 _ _)) (tab_length _ _ _) ((dv_tab _ _).trans (Nat.mod_eq_of_lt hM1))) ?_
        simp only [Tryd.f103, go_sem, Int.reduceToNat, Int.reduceEq, Int.reduceNe, Int.reduceLT, Int.reduceLE, Int.reduceNeg, Int.reduceAdd, ↓reduceIte, ↓reduceCtorEq, Nat.reduceEqDiff, Nat.reduceAdd, Nat.reduceSub, Nat.reduceMul, Nat.reduceLeDiff, Nat.reduceLT]
end Go.Proofs.YtflpcgcgeffolaaDoor
