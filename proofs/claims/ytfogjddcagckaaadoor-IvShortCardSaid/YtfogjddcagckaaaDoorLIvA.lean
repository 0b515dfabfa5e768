/- Intervals: the laws' example; how a law's interval reads. -/
import Derived.Test.YtfogjddcagckaaaDoorIv2
import Derived.Test.YtfogjddcagckaaaDoorCut
open Go PG Go.Proofs Go.RowKit
set_option maxRecDepth 100000
set_option linter.unusedSimpArgs false
set_option linter.unusedVariables false
namespace Go.Proofs.YtfogjddcagckaaaDoor
attribute [local go_sem] Lay2 Lay3 Lay4 Lay5 Lay6 Lay7 Lay8 Lay9 Lay10 Lay11 Lay12 Lay13 Lay14 Lay21 Lay22 Lay23 Lay24 Lay27 Lay28 Lay29 Lay35 Lay36 Lay38 Lay39 Lay40 Lay42 Lay43 Lay45 Lay46 Lay67 Lay81 Lay82 Lay83 Lay84 Lay85 Lay86 Lay87 Lay90 Lay93 Lay94 Lay116 Lay132 Lay138 Lay145 Lay162 Lay163 Lay201 qexec_seq qexec_skip qexec_exit qexec_ret qexec_block qexec_loop qexec_range qexec_cond qexec_region qexec_drawn qops_nil qops_none qops_some put_some put_none pblk_exit pblk_other newDsts_nil sget_cons sget_nil qval_some qbool_some qgs_bool qgs_und qfree_some qgrd_true qgrd_false qif_true qif_false qval_ite qval_itn qand_true map_ite map_some' map_none' qdo_move qdo_assign qdo_binOp qdo_pick qdo_unOp qdo_convert qdo_extract qdo_field qdo_fieldAddr qdo_alloc qdo_box qdo_build qdo_buildSlice qdo_load qdo_store qdo_nilCheck qdo_makeFunc qdo_makeSlice qdo_slice qdo_indexAddr qdo_call qcont_val qcont_new qcont_st qcont_app0 qcont_app qcont_inl qcont_call njSV_val njSV_nil njSV_row njSV_ptr njSV_sub binV_val binV_nil binV_nn nilCmp bin_add bin_sub bin_mul bin_quo bin_rem bin_and bin_or bin_xor bin_andNot bin_eql bin_neq bin_lss bin_leq bin_gtr bin_geq bin_shl bin_shr bin_seql bin_sneq bin_sadd bin_beql bin_aeql bin_aneq eqAnd_some eqCells_nil eqCells_cons fieldTypes isStruct eqCell bin_bneq un_not un_neg nj_ite Nat.beq stepA stepR isNew opSV constSV RV.sv allSome E_mu E_own qkeyIn_none qkeyIn_some qkeyAt_none qkeyAt_some Bool.or_false Bool.false_or Bool.or_true Bool.true_or cst setB res resSV pstart startL killL kill1 eraL frzL svPV rvPV rvInt rvSlice frzOf close closeL pconv pbuiltin pmax2 partPV setCells fillPV zrow bound newSV PV.cells Bk.cells Bk.with SV.key pres presL_nil presL_tmp presL_cell presC2_some cellPV_ptr presC List.toList_toArray List.size_toArray List.getElem?_drop Nat.mul_one Int.toNat_natCast Nat.not_lt_zero Nat.lt_irrefl decide_true decide_false Nat.not_lt Option.some.injEq PV.lst.injEq PV.int.injEq PV.bool.injEq PV.tuple.injEq List.cons.injEq Option.map_some Option.map_none Option.bind_some Option.toList List.map_cons List.map_nil List.nil_append List.cons_append List.append_nil List.zip_cons_cons List.zip_nil_left List.zip_nil_right List.getElem?_cons_zero List.getElem?_cons_succ List.drop_zero List.drop_succ_cons List.take_succ_cons List.take_zero List.set_cons_zero List.set_cons_succ List.length_cons List.length_nil List.length_set List.replicate_one List.replicate_zero bne_self_eq_false beq_self_eq_true Nat.zero_add Nat.add_zero Nat.zero_mul Bool.false_eq_true Bool.true_eq_false Bool.not_true Bool.not_false and_true true_and false_and and_false or_false false_or or_true true_or not_true_eq_false not_false_eq_true ne_eq gt_iff_lt List.mem_cons List.not_mem_nil
attribute [local go_sem ↓] pseq_normal pseq_ret pseq_exit pblk_normal pblk_ret newDsts_cons gdst_zero gdst_succ retQ_normal retQ_ret qneed_nil qneed_cons retM_normal retM_ret endR_normal endR_ret endR_exit

theorem c_alive15 : PC E 20 [] (.bool true) := by
  have a1 := c_dOf (-1) (by decide) (by decide)
  have a2 := c_dOf 2 (by decide) (by decide)
  have a3 := c_dOf 3 (by decide) (by decide)
  have a4 := c_dOf 4 (by decide) (by decide)
  have a5 := c_dOf 1 (by decide) (by decide)
  have a6 := c_dOf (-4) (by decide) (by decide)
  have a7 := c_dOf 8 (by decide) (by decide)
  have l1 : Lim 10 (norm (-1) 0) := Lim.norm (by decide) (by decide)
  have l2 : Lim 10 (norm 2 0) := Lim.norm (by decide) (by decide)
  have l3 : Lim 10 (norm 3 0) := Lim.norm (by decide) (by decide)
  have l4 : Lim 10 (norm 4 0) := Lim.norm (by decide) (by decide)
  have l5 : Lim 10 (norm 1 0) := Lim.norm (by decide) (by decide)
  have l6 : Lim 10 (norm (-4) 0) := Lim.norm (by decide) (by decide)
  have l7 : Lim 10 (norm 8 0) := Lim.norm (by decide) (by decide)
  have i1 : Iv.lim 10 ⟨norm (-1) 0, norm 2 0⟩ := ⟨l1, l2⟩
  have i2 : Iv.lim 10 ⟨norm 3 0, norm 4 0⟩ := ⟨l3, l4⟩
  have i3 : Iv.lim 10 ⟨norm 2 0, norm 1 0⟩ := ⟨l2, l5⟩
  have i4 : Iv.lim 10 Iv.zero := ⟨Lim.zero _, Lim.zero _⟩
  have k1 := q_Mul (i1.RI (by decide)) (i2.RI (by decide)) i1 i2 (by decide)
  have k2 := q_Add (i3.RI (by decide)) (i4.RI (by decide)) i3 i4 (by decide)
  have e1 : mulI ⟨norm (-1) 0, norm 2 0⟩ ⟨norm 3 0, norm 4 0⟩ = ⟨norm (-4) 0, norm 8 0⟩ := by
    have h1 : (mulI ⟨norm (-1) 0, norm 2 0⟩ ⟨norm 3 0, norm 4 0⟩).lo = norm (-4) 0 := by decide +kernel
    have h2 : (mulI ⟨norm (-1) 0, norm 2 0⟩ ⟨norm 3 0, norm 4 0⟩).hi = norm 8 0 := by decide +kernel
    rw [← h1, ← h2]
  rw [e1] at k1
  unfold ivV at k1 k2
  rw [if_pos (by decide +kernel)] at k1
  rw [if_neg (by decide +kernel)] at k2
  have k3 := r_Cmp (l6.RD (by decide)) (l6.RD (by decide))
  have k4 := r_Cmp (l7.RD (by decide)) (l7.RD (by decide))
  rw [cmp_self] at k3 k4
  have z1 : NN 0 = .lst 0 [] := rfl
  simp only [Dy.pv, Iv.pv, Iv.zero, Dy.zero, DP, z1] at a1 a2 a3 a4 a5 a6 a7 k1 k2 k3 k4
  refine PC.of_body follows Tryd.func20 (by decide +kernel) rfl (by kernel_rfl) (Nat.le_of_ble_eq_true rfl) (walk ?_)
  generalize norm (-1) 0 = n1 at *
  generalize norm 2 0 = n2 at *
  generalize norm 3 0 = n3 at *
  generalize norm 4 0 = n4 at *
  generalize norm 1 0 = n5 at *
  generalize norm (-4) 0 = n6 at *
  generalize norm 8 0 = n7 at *
  simp only [Tryd.f20, go_sem, Int.reduceToNat, Int.reduceEq, Int.reduceNe, Int.reduceLT, Int.reduceLE, Int.reduceNeg, Int.reduceAdd, ↓reduceIte, ↓reduceCtorEq, Nat.reduceEqDiff, Nat.reduceAdd, Nat.reduceSub, Nat.reduceMul, Nat.reduceLeDiff, Nat.reduceLT]
  refine qcall_i a1 ?_
  simp only [Tryd.f20, go_sem, Int.reduceToNat, Int.reduceEq, Int.reduceNe, Int.reduceLT, Int.reduceLE, Int.reduceNeg, Int.reduceAdd, ↓reduceIte, ↓reduceCtorEq, Nat.reduceEqDiff, Nat.reduceAdd, Nat.reduceSub, Nat.reduceMul, Nat.reduceLeDiff, Nat.reduceLT]
  refine qcall_i a2 ?_
  simp only [Tryd.f20, go_sem, Int.reduceToNat, Int.reduceEq, Int.reduceNe, Int.reduceLT, Int.reduceLE, Int.reduceNeg, Int.reduceAdd, ↓reduceIte, ↓reduceCtorEq, Nat.reduceEqDiff, Nat.reduceAdd, Nat.reduceSub, Nat.reduceMul, Nat.reduceLeDiff, Nat.reduceLT]
  refine qcall_i a3 ?_
  simp only [Tryd.f20, go_sem, Int.reduceToNat, Int.reduceEq, Int.reduceNe, Int.reduceLT, Int.reduceLE, Int.reduceNeg, Int.reduceAdd, ↓reduceIte, ↓reduceCtorEq, Nat.reduceEqDiff, Nat.reduceAdd, Nat.reduceSub, Nat.reduceMul, Nat.reduceLeDiff, Nat.reduceLT]
  refine qcall_i a4 ?_
  simp only [Tryd.f20, go_sem, Int.reduceToNat, Int.reduceEq, Int.reduceNe, Int.reduceLT, Int.reduceLE, Int.reduceNeg, Int.reduceAdd, ↓reduceIte, ↓reduceCtorEq, Nat.reduceEqDiff, Nat.reduceAdd, Nat.reduceSub, Nat.reduceMul, Nat.reduceLeDiff, Nat.reduceLT]
  refine qcall_i k1 ?_
  simp only [Tryd.f20, go_sem, Int.reduceToNat, Int.reduceEq, Int.reduceNe, Int.reduceLT, Int.reduceLE, Int.reduceNeg, Int.reduceAdd, ↓reduceIte, ↓reduceCtorEq, Nat.reduceEqDiff, Nat.reduceAdd, Nat.reduceSub, Nat.reduceMul, Nat.reduceLeDiff, Nat.reduceLT]
  refine qcall_i a2 ?_
  simp only [Tryd.f20, go_sem, Int.reduceToNat, Int.reduceEq, Int.reduceNe, Int.reduceLT, Int.reduceLE, Int.reduceNeg, Int.reduceAdd, ↓reduceIte, ↓reduceCtorEq, Nat.reduceEqDiff, Nat.reduceAdd, Nat.reduceSub, Nat.reduceMul, Nat.reduceLeDiff, Nat.reduceLT]
  refine qcall_i a5 ?_
  simp only [Tryd.f20, go_sem, Int.reduceToNat, Int.reduceEq, Int.reduceNe, Int.reduceLT, Int.reduceLE, Int.reduceNeg, Int.reduceAdd, ↓reduceIte, ↓reduceCtorEq, Nat.reduceEqDiff, Nat.reduceAdd, Nat.reduceSub, Nat.reduceMul, Nat.reduceLeDiff, Nat.reduceLT]
  refine qcall_i k2 ?_
  simp only [Tryd.f20, go_sem, Int.reduceToNat, Int.reduceEq, Int.reduceNe, Int.reduceLT, Int.reduceLE, Int.reduceNeg, Int.reduceAdd, ↓reduceIte, ↓reduceCtorEq, Nat.reduceEqDiff, Nat.reduceAdd, Nat.reduceSub, Nat.reduceMul, Nat.reduceLeDiff, Nat.reduceLT]
  refine qcall_i a6 ?_
  simp only [Tryd.f20, go_sem, Int.reduceToNat, Int.reduceEq, Int.reduceNe, Int.reduceLT, Int.reduceLE, Int.reduceNeg, Int.reduceAdd, ↓reduceIte, ↓reduceCtorEq, Nat.reduceEqDiff, Nat.reduceAdd, Nat.reduceSub, Nat.reduceMul, Nat.reduceLeDiff, Nat.reduceLT]
  refine qcall_i k3 ?_
  simp only [Tryd.f20, go_sem, Int.reduceToNat, Int.reduceEq, Int.reduceNe, Int.reduceLT, Int.reduceLE, Int.reduceNeg, Int.reduceAdd, ↓reduceIte, ↓reduceCtorEq, Nat.reduceEqDiff, Nat.reduceAdd, Nat.reduceSub, Nat.reduceMul, Nat.reduceLeDiff, Nat.reduceLT]
  refine qcall_i a7 ?_
  simp only [Tryd.f20, go_sem, Int.reduceToNat, Int.reduceEq, Int.reduceNe, Int.reduceLT, Int.reduceLE, Int.reduceNeg, Int.reduceAdd, ↓reduceIte, ↓reduceCtorEq, Nat.reduceEqDiff, Nat.reduceAdd, Nat.reduceSub, Nat.reduceMul, Nat.reduceLeDiff, Nat.reduceLT]
  refine qcall_i k4 ?_
  simp only [Tryd.f20, go_sem, Int.reduceToNat, Int.reduceEq, Int.reduceNe, Int.reduceLT, Int.reduceLE, Int.reduceNeg, Int.reduceAdd, ↓reduceIte, ↓reduceCtorEq, Nat.reduceEqDiff, Nat.reduceAdd, Nat.reduceSub, Nat.reduceMul, Nat.reduceLeDiff, Nat.reduceLT]

/-- Two dyads as they come. -/
def qJ (p : PV) : Prop := ∃ (s1 : Bool) (l1 : List Nat) (e1 : Int) (s2 : Bool) (l2 : List Nat) (e2 : Int), p = .agg [.bool s1, NL l1, .int .i64 e1, .bool s2, NL l2, .int .i64 e2] ∧ Ok W l1 ∧ Ok W l2
theorem fields2 {P : Program} {w : World} {l : List Field} {a b : TypeId} {n : Nat} {A B : List PV → Prop} (h : l.map (fun f => (f.type, f.offset)) = [(a, 0), (b, n)])
    (ca : P.cellsOf a = n) (ra : Rd P w a A) (rb : Rd P w b B) : FieldsRd P w 0 l [A, B] := by
  rcases l with _ | ⟨f, _ | ⟨g, _ | ⟨k, l⟩⟩⟩
  · cases h
  · simp at h
  · simp only [List.map_cons, List.map_nil, List.cons.injEq, Prod.mk.injEq, and_true] at h
    obtain ⟨⟨h1, h2⟩, h3, h4⟩ := h
    exact ⟨h2, h1 ▸ ra, by rw [h1, ca, Nat.zero_add]; exact h4, h3 ▸ rb, trivial⟩
  · simp at h
theorem a_J {t d a b c e : TypeId} (w : World) (ht : E.P.underlying t = some (.struct (E.P.fieldsOf t))) (hf : (E.P.fieldsOf t).toList.map (fun f => (f.type, f.offset)) = [(d, 0), (d, 3)]) (hw : widths E.P 0 (E.P.fieldsOf t).toList = E.P.cellsOf t)
    (hd : E.P.underlying d = some (.struct (E.P.fieldsOf d))) (hdf : (E.P.fieldsOf d).toList.map (fun f => (f.type, f.offset)) = [(a, 0), (b, 1), (c, 2)]) (hdw : widths E.P 0 (E.P.fieldsOf d).toList = E.P.cellsOf d) (cd : E.P.cellsOf d = 3)
    (ca : E.P.cellsOf a = 1) (cb : E.P.cellsOf b = 1) (ta : E.P.underlying a = some .bool) (tb : E.P.underlying b = some (.slice e)) (ce : E.P.cellsOf e = 1) (te : E.P.underlying e = some (.int .u64)) (tc : E.P.underlying c = some (.int .i64)) : ArgRd E.P w t qJ := by
  have hD := Rd.struct (w := w) hd (fields3 hdf ca cb (Rd.bool ta) (Rd.slice tb ce (Rd.int te)) (Rd.int tc)) hdw
  have hF := fields2 hf cd hD hD
  have one : ∀ r, Parts [fun l => ∃ b, l = [.bool b], fun l => ∃ els : List (List PV), l = [.lst els.length els.flatten] ∧ ∀ x ∈ els, (∃ n, x = [.int .u64 n] ∧ IntKind.u64.min ≤ n ∧ n ≤ IntKind.u64.max) ∧ x.length = 1, fun l => ∃ n, l = [.int .i64 n] ∧ IntKind.i64.min ≤ n ∧ n ≤ IntKind.i64.max] r →
      ∃ (s : Bool) (v : List Nat) (n : Int), r = [.bool s, NL v, .int .i64 n] ∧ Ok W v := by
    rintro l ⟨x, r, h1, ⟨s, rfl⟩, y, r2, h2, ⟨els, rfl, hels⟩, z, r3, h3, ⟨n, rfl, hn1, hn2⟩, h4⟩
    obtain ⟨v, hv, ov⟩ := u64s_of els hels
    refine ⟨s, v, n, ?_, ov⟩
    subst h4 h3 h2 h1
    rw [← hv]
    rfl
  refine arg_imp (ArgRd.struct ht hF hw) fun p ⟨l, hl, hp⟩ => ?_
  obtain ⟨x, r, h1, hx, y, r2, h2, hy, h3⟩ := hp
  obtain ⟨s1, v1, n1, rfl, o1⟩ := one x hx
  obtain ⟨s2, v2, n2, rfl, o2⟩ := one y hy
  refine ⟨s1, v1, n1, s2, v2, n2, ?_, o1, o2⟩
  subst h3 h2 h1
  rw [hl]
  rfl
end Go.Proofs.YtfogjddcagckaaaDoor
