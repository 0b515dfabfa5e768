/- What math/bits.Add64 and Sub64, nat.Add, nat.Of and nat.Small hand back, told in numbers. -/
import Derived.Test.YtflpcgcgeffolaaDoorNat1
import Derived.Test.YtflpcgcgeffolaaDoorShift
import Derived.Shelf.Spec.BitsCarry
open Go PG Go.Proofs
set_option maxRecDepth 100000
set_option linter.unusedSimpArgs false
set_option linter.unusedVariables false
namespace Go.Proofs.YtflpcgcgeffolaaDoor
attribute [local go_sem] Lay2 Lay3 Lay4 Lay5 Lay6 Lay7 Lay8 Lay9 Lay10 Lay11 Lay12 Lay13 Lay14 Lay21 Lay22 Lay24 Lay25 Lay26 Lay27 Lay36 Lay37 Lay38 Lay39 Lay40 Lay41 Lay43 Lay46 Lay47 Lay66 Lay103 Lay105 Lay159 Lay164 Lay165 Lay166 Lay168 Lay169 Lay172 Lay173 qexec_seq qexec_skip qexec_exit qexec_ret qexec_block qexec_loop qexec_range qexec_cond qexec_region qops_nil qops_none qops_some put_some put_none pblk_exit pblk_other newDsts_nil sget_cons qval_some qbool_some qgs_bool qgs_und qfree_some qgrd_true qgrd_false qif_true qif_false qval_ite qval_itn qand_true map_ite map_some' map_none' qdo_move qdo_assign qdo_binOp qdo_pick qdo_unOp qdo_convert qdo_extract qdo_field qdo_fieldAddr qdo_alloc qdo_box qdo_build qdo_buildSlice qdo_load qdo_store qdo_nilCheck qdo_makeFunc qdo_makeSlice qdo_slice qdo_indexAddr qdo_call qcont_val qcont_new qcont_st qcont_app0 qcont_app qcont_inl qcont_call njSV_val njSV_nil njSV_row njSV_ptr njSV_sub binV_val binV_nil binV_nn nilCmp bin_add bin_sub bin_mul bin_quo bin_rem bin_and bin_or bin_xor bin_andNot bin_eql bin_neq bin_lss bin_leq bin_gtr bin_geq bin_shl bin_shr bin_seql bin_sneq bin_sadd bin_beql bin_aeql bin_aneq eqAnd_some eqCells_nil eqCells_cons fieldTypes isStruct eqCell bin_bneq un_not un_neg nj_ite Nat.beq stepA stepR isNew opSV constSV RV.sv allSome E_mu Bool.or_false Bool.false_or Bool.or_true Bool.true_or cst setB res resSV pstart startL killL kill1 eraL frzL svPV rvPV rvInt rvSlice frzOf close closeL pconv pbuiltin pmax2 partPV setCells fillPV zrow bound newSV PV.cells Bk.cells Bk.with SV.key pres presL_nil presL_tmp presL_cell presC2_some cellPV_ptr presC List.toList_toArray List.size_toArray List.getElem?_drop Nat.mul_one Int.toNat_natCast Nat.not_lt_zero Nat.lt_irrefl decide_true decide_false Nat.not_lt Option.some.injEq PV.lst.injEq PV.int.injEq PV.bool.injEq PV.tuple.injEq List.cons.injEq Option.map_some Option.map_none Option.bind_some Option.toList List.map_cons List.map_nil List.nil_append List.cons_append List.append_nil List.zip_cons_cons List.zip_nil_left List.zip_nil_right List.getElem?_cons_zero List.getElem?_cons_succ List.drop_zero List.drop_succ_cons List.take_succ_cons List.take_zero List.set_cons_zero List.set_cons_succ List.length_cons List.length_nil List.length_set List.replicate_one List.replicate_zero bne_self_eq_false beq_self_eq_true Nat.zero_add Nat.add_zero Nat.zero_mul Bool.false_eq_true Bool.true_eq_false Bool.not_true Bool.not_false and_true true_and false_and and_false or_false false_or or_true true_or not_true_eq_false not_false_eq_true ne_eq gt_iff_lt List.mem_cons List.not_mem_nil
attribute [local go_sem ↓] pseq_normal pseq_ret pseq_exit pblk_normal pblk_ret newDsts_cons gdst_zero gdst_succ retQ_normal retQ_ret retM_normal retM_ret endR_normal endR_ret endR_exit

/-- A number as a slice of limbs; the worth of a list of limbs. -/
def NN (x : Nat) : PV := NL (dg W x)
abbrev vl (l : List Nat) : Nat := dv W l

theorem NN_zero : NN 0 = .lst 0 [] := rfl

theorem PC.cast {f : FuncId} {args : List PV} {r r' : PV} (h : PC E f args r) (e : r = r') : PC E f args r' := e ▸ h

theorem n_Bare (l : List Nat) (hl : l.length ≤ 17592186044416) (ho : Ok W l) : PC E 105 [NL l] (NN (vl l)) :=
  PC.cast (c_Bare l hl) (by rw [strip_eq W2 l ho]; rfl)

theorem lb_eq (l : List Nat) (ho : Ok W l) (i : Int) : limbAt l i = lb (vl l) i := by
  unfold limbAt lb
  split
  · rfl
  · exact dv_get W0 l ho _

theorem n_limb (l : List Nat) (ho : Ok W l) (i : Int) : PC E 124 [NL l, .int .i64 i] (u (lb (vl l) i)) :=
  PC.cast (c_limb l i) (by rw [lb_eq l ho])

theorem three_args {g : Addr → Option Value} {a b c : Nat} {vs : Array Value} (hs : vs.size = 3) (h : ∀ (j : Nat) p x, [u a, u b, u c][j]? = some p → vs[j]? = some x → Rep g p x) :
    vs = #[.int .u64 a, .int .u64 b, .int .u64 c] := by
  have h0 := (h 0 _ _ rfl (Array.getElem?_eq_getElem (by omega)) : Rep g (u a) vs[0]).int_inv
  have h1 := (h 1 _ _ rfl (Array.getElem?_eq_getElem (by omega)) : Rep g (u b) vs[1]).int_inv
  have h2 := (h 2 _ _ rfl (Array.getElem?_eq_getElem (by omega)) : Rep g (u c) vs[2]).int_inv
  refine Array.ext (by simp [hs]) fun i hi hj => ?_
  have : i = 0 ∨ i = 1 ∨ i = 2 := by omega
  rcases this with rfl | rfl | rfl <;> simp [h0, h1, h2]

theorem c_Add64 (a b c : Nat) (hc : c ≤ 1) : PC E 127 [u a, u b, u c] (.tuple [u ((a + b + c) % W), u ((a + b + c) / W)]) := by
  refine PC.of_value (xs := #[.int .u64 a, .int .u64 b, .int .u64 c]) (v := .tuple #[.int .u64 (((a + b + c) % W : Nat) : Int), .int .u64 (((a + b + c) / W : Nat) : Int)]) (fun g vs hs h => three_args hs h) (fun w => ?_)
    (fun g => Rep.tuple _ _ rfl fun j p x hp hx => ?_)
  · rw [run_callFunc_extern (P := E.P) Tryd.func127 (by kernel_rfl) (by kernel_rfl) (by kernel_rfl) (e := add64Entry) (by kernel_rfl), run_add64 a b c (by omega) (by omega) (by omega) (by omega)]
    simp only [Result.andThen, W]
    congr 5 <;> omega
  · match j with
    | 0 => cases hp; cases hx; exact .int _ _
    | 1 => cases hp; cases hx; exact .int _ _
    | j + 2 => simp at hp

theorem c_Sub64 (a b c : Nat) (hc : c ≤ 1) : PC E 130 [u a, u b, u c] (.tuple [u ((a + W - b - c) % W), u (if a < b + c then 1 else 0)]) := by
  refine PC.of_value (xs := #[.int .u64 a, .int .u64 b, .int .u64 c]) (v := .tuple #[.int .u64 (((a + W - b - c) % W : Nat) : Int), .int .u64 ((if a < b + c then 1 else 0 : Nat) : Int)]) (fun g vs hs h => three_args hs h) (fun w => ?_)
    (fun g => Rep.tuple _ _ rfl fun j p x hp hx => ?_)
  · rw [run_callFunc_extern (P := E.P) Tryd.func130 (by kernel_rfl) (by kernel_rfl) (by kernel_rfl) (e := sub64Entry) (by kernel_rfl), run_sub64 a b c hc]
    rfl
  · match j with
    | 0 => cases hp; cases hx; exact .int _ _
    | 1 => cases hp; cases hx; exact .int _ _
    | j + 2 => simp at hp

theorem U_set (l : List Nat) (i d : Nat) : (U l).set i (u d) = U (l.set i d) := by simp [U, List.map_set]

/-- A contract at a list whose length and worth are known otherwise. -/
theorem PC.at_list {f : FuncId} {l : List Nat} {n x y : Nat} (h : PC E f [NL l] (NN x)) (hn : l.length = n) (e : x = y) : PC E f [.lst n (U l)] (NN y) := by
  subst hn; subst e; exact h

theorem c_Of (n : Nat) (hn : n < W) : PC E 123 [u n] (NN n) := by
  refine PC.of_body follows Tryd.func123 (by decide +kernel) rfl (by kernel_rfl) (Nat.le_of_ble_eq_true rfl) (walk ?_)
  simp only [Tryd.f123, u, List.replicate_succ, List.replicate_zero, go_sem, Int.reduceToNat, Int.reduceEq, Int.reduceNe, Int.reduceLT, Int.reduceLE, Int.reduceNeg, Int.reduceAdd, ↓reduceIte, ↓reduceCtorEq, Nat.reduceEqDiff, Nat.reduceAdd, Nat.reduceSub, Nat.reduceMul, Nat.reduceLeDiff, Nat.reduceLT]
  refine qcall_i (n_Bare [n] (by simp) (Ok.cons hn Ok.nil)) ?_
  simp only [Tryd.f123, go_sem, Int.reduceToNat, Int.reduceEq, Int.reduceNe, Int.reduceLT, Int.reduceLE, Int.reduceNeg, Int.reduceAdd, ↓reduceIte, ↓reduceCtorEq, Nat.reduceEqDiff, Nat.reduceAdd, Nat.reduceSub, Nat.reduceMul, Nat.reduceLeDiff, Nat.reduceLT]
  simp [dv]

theorem c_Small (l : List Nat) (hl : l.length ≤ 17592186044416) (ho : Ok W l) : PC E 93 [NL l] (.tuple [u (if vl l < W then vl l else 0), .bool (decide (vl l < W))]) := by
  refine PC.of_body follows Tryd.func93 (by decide +kernel) rfl (by kernel_rfl) (Nat.le_of_ble_eq_true rfl) (walk ?_)
  simp only [Tryd.f93, go_sem, Int.reduceToNat, Int.reduceEq, Int.reduceNe, Int.reduceLT, Int.reduceLE, Int.reduceNeg, Int.reduceAdd, ↓reduceIte, ↓reduceCtorEq, Nat.reduceEqDiff, Nat.reduceAdd, Nat.reduceSub, Nat.reduceMul, Nat.reduceLeDiff, Nat.reduceLT]
  refine qcall_i (n_Bare l hl ho) ?_
  simp only [NN, NL]
  simp only [Tryd.f93, go_sem, Int.reduceToNat, Int.reduceEq, Int.reduceNe, Int.reduceLT, Int.reduceLE, Int.reduceNeg, Int.reduceAdd, ↓reduceIte, ↓reduceCtorEq, Nat.reduceEqDiff, Nat.reduceAdd, Nat.reduceSub, Nat.reduceMul, Nat.reduceLeDiff, Nat.reduceLT]
  have h1 := dg_length_le W2 1 (vl l)
  rw [Nat.pow_one] at h1
  refine qif_d (fun h => ?_) (fun h => ?_)
  · have h0 : vl l = 0 := by
      have := (dg_length_le W2 0 (vl l)).1 (by omega)
      rw [Nat.pow_zero] at this
      omega
    simp only [Tryd.f93, go_sem, Int.reduceToNat, Int.reduceEq, Int.reduceNe, Int.reduceLT, Int.reduceLE, Int.reduceNeg, Int.reduceAdd, ↓reduceIte, ↓reduceCtorEq, Nat.reduceEqDiff, Nat.reduceAdd, Nat.reduceSub, Nat.reduceMul, Nat.reduceLeDiff, Nat.reduceLT]
    simp [h0, u]
  · simp only [Tryd.f93, go_sem, Int.reduceToNat, Int.reduceEq, Int.reduceNe, Int.reduceLT, Int.reduceLE, Int.reduceNeg, Int.reduceAdd, ↓reduceIte, ↓reduceCtorEq, Nat.reduceEqDiff, Nat.reduceAdd, Nat.reduceSub, Nat.reduceMul, Nat.reduceLeDiff, Nat.reduceLT]
    refine qif_d (fun h' => ?_) (fun h' => ?_)
    · have hlt : vl l < W := h1.1 (by omega)
      have h0 : vl l ≠ 0 := fun h0 => h (by rw [h0]; rfl)
      have hx : (U (dg W (vl l)))[0]? = some (u (vl l)) := by
        rw [dg_pos W2 h0, Nat.mod_eq_of_lt hlt]; rfl
      simp only [Tryd.f93, hx, go_sem, Int.reduceToNat, Int.reduceEq, Int.reduceNe, Int.reduceLT, Int.reduceLE, Int.reduceNeg, Int.reduceAdd, ↓reduceIte, ↓reduceCtorEq, Nat.reduceEqDiff, Nat.reduceAdd, Nat.reduceSub, Nat.reduceMul, Nat.reduceLeDiff, Nat.reduceLT]
      refine qand_i (by omega) ?_
      simp only [Tryd.f93, go_sem, Int.reduceToNat, Int.reduceEq, Int.reduceNe, Int.reduceLT, Int.reduceLE, Int.reduceNeg, Int.reduceAdd, ↓reduceIte, ↓reduceCtorEq, Nat.reduceEqDiff, Nat.reduceAdd, Nat.reduceSub, Nat.reduceMul, Nat.reduceLeDiff, Nat.reduceLT]
      refine qval_i (congrArg (Option.map _) hx) ?_
      simp only [Tryd.f93, go_sem, Int.reduceToNat, Int.reduceEq, Int.reduceNe, Int.reduceLT, Int.reduceLE, Int.reduceNeg, Int.reduceAdd, ↓reduceIte, ↓reduceCtorEq, Nat.reduceEqDiff, Nat.reduceAdd, Nat.reduceSub, Nat.reduceMul, Nat.reduceLeDiff, Nat.reduceLT]
      simp [hlt]
    · have hlt : ¬ vl l < W := fun h2 => by have := h1.2 h2; omega
      simp only [Tryd.f93, go_sem, Int.reduceToNat, Int.reduceEq, Int.reduceNe, Int.reduceLT, Int.reduceLE, Int.reduceNeg, Int.reduceAdd, ↓reduceIte, ↓reduceCtorEq, Nat.reduceEqDiff, Nat.reduceAdd, Nat.reduceSub, Nat.reduceMul, Nat.reduceLeDiff, Nat.reduceLT]
      simp [hlt, u]

theorem c_Add (a b : List Nat) (ha : a.length ≤ 1048576) (hb : b.length ≤ 1048576) (oa : Ok W a) (ob : Ok W b) : PC E 101 [NL a, NL b] (NN (vl a + vl b)) := by
  refine PC.of_body follows Tryd.func101 (by decide +kernel) rfl (by kernel_rfl) (Nat.le_of_ble_eq_true rfl) (walk ?_)
  have hw : IntKind.wrap .i64 (max (a.length : Int) (b.length : Int) + 1) = ((max a.length b.length + 1 : Nat) : Int) := by rw [wrap64 (by omega) (by omega)]; omega
  have hA := dv_lt a oa
  have hB := dv_lt b ob
  have hA' : vl a < W ^ max a.length b.length := Nat.lt_of_lt_of_le hA (Nat.pow_le_pow_right W0 (by omega))
  have hB' : vl b < W ^ max a.length b.length := Nat.lt_of_lt_of_le hB (Nat.pow_le_pow_right W0 (by omega))
  have hAB : vl a + vl b < W ^ (max a.length b.length + 1) := by
    rw [Nat.pow_succ]
    have : W ^ max a.length b.length * 2 ≤ W ^ max a.length b.length * W := Nat.mul_le_mul_left _ (by decide)
    omega
  simp only [NL]
  simp only [Tryd.f101, hw, go_sem, Int.reduceToNat, Int.reduceEq, Int.reduceNe, Int.reduceLT, Int.reduceLE, Int.reduceNeg, Int.reduceAdd, ↓reduceIte, ↓reduceCtorEq, Nat.reduceEqDiff, Nat.reduceAdd, Nat.reduceSub, Nat.reduceMul, Nat.reduceLeDiff, Nat.reduceLT]
  generalize hn : max a.length b.length + 1 = n at *
  generalize hA0 : vl a = A at *
  generalize hB0 : vl b = B at *
  refine qand_i (by omega) ?_
  simp only [Tryd.f101, hw, go_sem, Int.reduceToNat, Int.reduceEq, Int.reduceNe, Int.reduceLT, Int.reduceLE, Int.reduceNeg, Int.reduceAdd, ↓reduceIte, ↓reduceCtorEq, Nat.reduceEqDiff, Nat.reduceAdd, Nat.reduceSub, Nat.reduceMul, Nat.reduceLeDiff, Nat.reduceLT]
  refine PLoop.intro (fun i : Nat => ⟨[(0, .val (NL a)), (1, .val (NL b)), (5, .row 14), (6, .val (u (carry A B (W ^ i)))), (16, .val (.int .i64 n)), (17, .val (.int .i64 i))],
    [(14, (.row 22 1 n (U (tab W (A + B) i ++ List.replicate (n - i) 0)), false))]⟩) (fun i => i ≤ n) (fun i => n - i) 0 (by omega) ?_ fun i hi => walk ?_
  · simp [Wk, sget, NL, carry_one, u, U, tab]
  simp only [Tryd.f101, go_sem, Int.reduceToNat, Int.reduceEq, Int.reduceNe, Int.reduceLT, Int.reduceLE, Int.reduceNeg, Int.reduceAdd, ↓reduceIte, ↓reduceCtorEq, Nat.reduceEqDiff, Nat.reduceAdd, Nat.reduceSub, Nat.reduceMul, Nat.reduceLeDiff, Nat.reduceLT]
  refine qif_d (fun h => ?_) (fun h => ?_)
  · have hMi : 0 < W ^ i := Nat.pow_pos W0
    have hwi : IntKind.wrap .i64 ((i : Int) + 1) = ((i + 1 : Nat) : Int) := by rw [wrap64 (by omega) (by omega)]; omega
    simp only [Tryd.f101, go_sem, Int.reduceToNat, Int.reduceEq, Int.reduceNe, Int.reduceLT, Int.reduceLE, Int.reduceNeg, Int.reduceAdd, ↓reduceIte, ↓reduceCtorEq, Nat.reduceEqDiff, Nat.reduceAdd, Nat.reduceSub, Nat.reduceMul, Nat.reduceLeDiff, Nat.reduceLT]
    refine qcall_i (n_limb a oa i) ?_
    simp only [Tryd.f101, go_sem, Int.reduceToNat, Int.reduceEq, Int.reduceNe, Int.reduceLT, Int.reduceLE, Int.reduceNeg, Int.reduceAdd, ↓reduceIte, ↓reduceCtorEq, Nat.reduceEqDiff, Nat.reduceAdd, Nat.reduceSub, Nat.reduceMul, Nat.reduceLeDiff, Nat.reduceLT]
    refine qcall_i (n_limb b ob i) ?_
    simp only [Tryd.f101, go_sem, Int.reduceToNat, Int.reduceEq, Int.reduceNe, Int.reduceLT, Int.reduceLE, Int.reduceNeg, Int.reduceAdd, ↓reduceIte, ↓reduceCtorEq, Nat.reduceEqDiff, Nat.reduceAdd, Nat.reduceSub, Nat.reduceMul, Nat.reduceLeDiff, Nat.reduceLT]
    rw [hA0, hB0, lb_nat, lb_nat]
    refine qcall_i (c_Add64 _ _ _ (carry_le hMi)) ?_
    simp only [Tryd.f101, go_sem, Int.reduceToNat, Int.reduceEq, Int.reduceNe, Int.reduceLT, Int.reduceLE, Int.reduceNeg, Int.reduceAdd, ↓reduceIte, ↓reduceCtorEq, Nat.reduceEqDiff, Nat.reduceAdd, Nat.reduceSub, Nat.reduceMul, Nat.reduceLeDiff, Nat.reduceLT]
    refine qand_i (by omega) ?_
    simp only [Tryd.f101, u, go_sem, Int.reduceToNat, Int.reduceEq, Int.reduceNe, Int.reduceLT, Int.reduceLE, Int.reduceNeg, Int.reduceAdd, ↓reduceIte, ↓reduceCtorEq, Nat.reduceEqDiff, Nat.reduceAdd, Nat.reduceSub, Nat.reduceMul, Nat.reduceLeDiff, Nat.reduceLT]
    refine qand_i (by simp [U, tab]; omega) ?_
    simp only [Tryd.f101, hwi, go_sem, Int.reduceToNat, Int.reduceEq, Int.reduceNe, Int.reduceLT, Int.reduceLE, Int.reduceNeg, Int.reduceAdd, ↓reduceIte, ↓reduceCtorEq, Nat.reduceEqDiff, Nat.reduceAdd, Nat.reduceSub, Nat.reduceMul, Nat.reduceLeDiff, Nat.reduceLT]
    refine ⟨i + 1, by omega, by omega, ?_⟩
    rw [carry_digit hMi, carry_next hMi, ← Nat.pow_succ]
    simp [Wk, sget, u, NL]
    rw [← fill_set (by omega), ← U_set]
    rfl
  · have e : i = n := by omega
    subst e
    simp only [Tryd.f101, go_sem, Int.reduceToNat, Int.reduceEq, Int.reduceNe, Int.reduceLT, Int.reduceLE, Int.reduceNeg, Int.reduceAdd, ↓reduceIte, ↓reduceCtorEq, Nat.reduceEqDiff, Nat.reduceAdd, Nat.reduceSub, Nat.reduceMul, Nat.reduceLeDiff, Nat.reduceLT]
    rw [Nat.sub_self, List.replicate_zero, List.append_nil]
    refine qcall_i (r := NN (A + B)) (PC.at_list (n_Bare (tab W (A + B) i) (by rw [tab_length]; omega) (ok_tab W0 _ _)) (tab_length _ _ _) ((dv_tab _ _).trans (Nat.mod_eq_of_lt hAB))) ?_
    simp only [Tryd.f101, go_sem, Int.reduceToNat, Int.reduceEq, Int.reduceNe, Int.reduceLT, Int.reduceLE, Int.reduceNeg, Int.reduceAdd, ↓reduceIte, ↓reduceCtorEq, Nat.reduceEqDiff, Nat.reduceAdd, Nat.reduceSub, Nat.reduceMul, Nat.reduceLeDiff, Nat.reduceLT]
end Go.Proofs.YtflpcgcgeffolaaDoor
