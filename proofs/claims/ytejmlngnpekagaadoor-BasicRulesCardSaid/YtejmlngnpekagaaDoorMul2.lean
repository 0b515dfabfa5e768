/- Products: prod.row (it writes what it is handed). -/
import Derived.Test.YtejmlngnpekagaaDoorMul1
open Go PG Go.Proofs
set_option maxRecDepth 100000
set_option linter.unusedSimpArgs false
set_option linter.unusedVariables false
namespace Go.Proofs.YtejmlngnpekagaaDoor
attribute [local go_sem] Lay2 Lay3 Lay4 Lay5 Lay6 Lay7 Lay8 Lay9 Lay10 Lay11 Lay12 Lay13 Lay14 Lay15 Lay16 Lay17 Lay18 Lay19 Lay21 Lay22 Lay23 Lay24 Lay25 Lay30 Lay33 Lay36 Lay37 Lay46 Lay47 Lay48 Lay53 Lay54 Lay55 Lay59 Lay100 Lay101 Lay127 Lay146 Lay162 Lay168 Lay169 Lay173 Lay185 Lay186 Lay187 Lay188 Lay189 Lay191 Lay192 Lay194 Lay195 Lay196 Lay199 qexec_seq qexec_skip qexec_exit qexec_ret qexec_block qexec_loop qexec_range qexec_cond qexec_region qexec_drawn qops_nil qops_none qops_some put_some put_none pblk_exit pblk_other newDsts_nil inlDsts_nil isInl sget_cons sget_nil qval_some qbool_some qgs_bool qgs_und qfree_some qgrd_true qgrd_false qif_true qif_false qval_ite qval_itn qand_true map_ite map_some' map_none' qdo_move qdo_assign qdo_binOp qdo_pick qdo_unOp qdo_convert qdo_extract qdo_field qdo_fieldAddr qdo_alloc qdo_box qdo_build qdo_buildSlice qdo_load qdo_store qdo_nilCheck qdo_makeFunc qdo_makeSlice qdo_slice qdo_indexAddr qdo_call qcont_val qcont_new qcont_st qcont_app0 qcont_app qcont_inl qcont_call njSV_val njSV_nil njSV_row njSV_ptr njSV_sub binV_val binV_nil binV_nn binV_ptr bin_np bin_nnp nilCmp bin_add bin_sub bin_mul bin_quo bin_rem bin_and bin_or bin_xor bin_andNot bin_eql bin_neq bin_lss bin_leq bin_gtr bin_geq bin_shl bin_shr bin_seql bin_sneq bin_sadd bin_beql bin_aeql bin_aneq eqAnd_some eqCells_nil eqCells_cons fieldTypes isStruct eqCell bin_bneq un_not un_neg nj_ite Nat.beq stepA stepR isNew opSV constSV RV.sv allSome E_mu E_own qkeyIn_none qkeyIn_some qkeyAt_none qkeyAt_some Bool.or_false Bool.false_or Bool.or_true Bool.true_or cst setB res resSV pstart startL killL kill1 eraL frzL svPV rvPV rvInt rvSlice frzOf close closeL pconv pbuiltin pmax2 partPV setCells fillPV zrow bound newSV PV.cells Bk.cells Bk.with SV.key pres presL_nil presL_tmp presL_cell presC2_some cellPV_ptr presC List.toList_toArray List.size_toArray List.getElem?_drop Nat.mul_one Int.toNat_natCast Nat.not_lt_zero Nat.lt_irrefl decide_true decide_false Nat.not_lt Option.some.injEq PV.lst.injEq PV.int.injEq PV.bool.injEq PV.tuple.injEq List.cons.injEq Option.map_some Option.map_none Option.bind_some Option.toList List.map_cons List.map_nil List.nil_append List.cons_append List.append_nil List.zip_cons_cons List.zip_nil_left List.zip_nil_right List.getElem?_cons_zero List.getElem?_cons_succ List.drop_zero List.drop_succ_cons List.take_succ_cons List.take_zero List.set_cons_zero List.set_cons_succ List.length_cons List.length_nil List.length_set List.replicate_one List.replicate_zero bne_self_eq_false beq_self_eq_true Nat.zero_add Nat.add_zero Nat.zero_mul Bool.false_eq_true Bool.true_eq_false Bool.not_true Bool.not_false and_true true_and false_and and_false or_false false_or or_true true_or not_true_eq_false not_false_eq_true ne_eq gt_iff_lt List.mem_cons List.not_mem_nil
attribute [local go_sem ↓] pseq_normal pseq_ret pseq_exit pblk_normal pblk_ret newDsts_cons inlDsts_cons gdst_zero gdst_succ retQ_normal retQ_ret qneed_nil qneed_cons retM_normal retM_ret endR_normal endR_ret endR_exit
attribute [local go_sem] Int.reduceToNat Int.reduceEq Int.reduceNe Int.reduceLT Int.reduceLE Int.reduceNeg Int.reduceAdd Nat.reduceEqDiff Nat.reduceAdd Nat.reduceSub Nat.reduceMul Nat.reduceLeDiff Nat.reduceLT
attribute [local go_sem ↓] reduceIte reduceCtorEq

/-- The row behind so many steps. -/
def rowL (out : List Nat) (o T i : Nat) : List Nat := out.take o ++ (tab W T i ++ out.drop (o + i))
/-- What prod.row is told to add. -/
def rowT (out a : List Nat) (o n : Nat) : Nat := dv W ((out.drop o).take a.length) + vl a * n

theorem rowL_len {out : List Nat} {o T i : Nat} (h : o + i ≤ out.length) : (rowL out o T i).length = out.length := by
  unfold rowL
  simp [tab_length]
  omega
theorem rowL_get {out : List Nat} {o T i : Nat} (h : o + i < out.length) : (U (rowL out o T i))[o + i]? = some (u (out.getD (o + i) 0)) := by
  have hl : (out.take o).length = o := by simp; omega
  rw [U_get]
  unfold rowL
  rw [List.getElem?_append_right (by omega), hl, List.getElem?_append_right (by rw [tab_length]; omega), tab_length, List.getElem?_drop, show o + i + (o + i - o - i) = o + i by omega, List.getElem?_eq_getElem h, List.getD_eq_getElem?_getD, List.getElem?_eq_getElem h]
  rfl
theorem rowL_set {out : List Nat} {o T i : Nat} (h : o + i < out.length) : (U (rowL out o T i)).set (o + i) (u (T / W ^ i % W)) = U (rowL out o T (i + 1)) := by
  have hl : (out.take o).length = o := by simp; omega
  unfold rowL U
  rw [← List.map_set]
  congr 1
  rw [List.set_append_right _ _ (by omega), hl, List.set_append_right _ _ (by rw [tab_length]; omega), tab_length, show o + i - o - i = 0 by omega, tab_succ, List.append_assoc]
  congr 2
  rw [List.drop_eq_getElem_cons h]
  rfl
theorem row_arith {M c y x n : Nat} (hM : M = x * n) (hx : x < W) (hn : n < W) (hc : c < W) (hy : y < W) :
    (y + (M % W + c + 0) % W + 0) % W = (c + y + M) % W ∧ M / W + (M % W + c + 0) / W < W ∧
    M / W + (M % W + c + 0) / W + (y + (M % W + c + 0) % W + 0) / W = (c + y + M) / W ∧ (c + y + M) / W < W := by
  have hx' : x < 18446744073709551616 := hx
  have hn' : n < 18446744073709551616 := hn
  have hc' : c < 18446744073709551616 := hc
  have hy' : y < 18446744073709551616 := hy
  have h1 : M ≤ 18446744073709551615 * 18446744073709551615 := by rw [hM]; exact Nat.mul_le_mul (by omega) (by omega)
  have key : (y + (M % 18446744073709551616 + c + 0) % 18446744073709551616 + 0) % 18446744073709551616 = (c + y + M) % 18446744073709551616 ∧ M / 18446744073709551616 + (M % 18446744073709551616 + c + 0) / 18446744073709551616 < 18446744073709551616 ∧
    M / 18446744073709551616 + (M % 18446744073709551616 + c + 0) / 18446744073709551616 + (y + (M % 18446744073709551616 + c + 0) % 18446744073709551616 + 0) / 18446744073709551616 = (c + y + M) / 18446744073709551616 ∧ (c + y + M) / 18446744073709551616 < 18446744073709551616 := by
    clear hM hx hn hc hy hx' hn'
    omega
  exact key
theorem c_row (out a : List Nat) (o n : Nat) (ho : Ok W out) (ha : Ok W a) (hn : n < W) (hL : o + a.length + 1 ≤ out.length) (hl : out.length ≤ 1048576) :
    PCM E 153 [.sub 0 o (out.length - o), .val (NL a), .val (u n)] [.row 22 1 out.length (U out)] (.val (.tuple [])) [.row 22 1 out.length (U (rowL out o (rowT out a o n) (a.length + 1)))] := by
  refine PCM.of_body follows Tryd.func153 (by decide +kernel) rfl (by kernel_rfl) (Nat.le_of_ble_eq_true rfl) (Nat.le_refl _) (by simp) (fun k h => by cases h) (fun h => by cases h) (walk ?_)
  simp only [mstart, startS, blkL, shiftSV]
  have hla := dv_lt a ha
  have hget : ∀ i, i < a.length → (U a)[i]? = some (u (vl a / W ^ i % W)) := fun i hi => by
    rw [U_get, ← dv_get W0 _ ha i, List.getD_eq_getElem?_getD, List.getElem?_eq_getElem hi]; rfl
  have hok : Ok W ((out.drop o).take a.length) := fun d hd => ho d (List.mem_of_mem_drop (List.mem_of_mem_take hd))
  have hog : ∀ i, i < a.length → out.getD (o + i) 0 = dv W ((out.drop o).take a.length) / W ^ i % W := fun i hi => by
    rw [← dv_get W0 _ hok i, List.getD_eq_getElem?_getD, List.getD_eq_getElem?_getD, List.getElem?_take, if_pos hi, List.getElem?_drop]
  unfold rowT
  generalize hY : dv W ((out.drop o).take a.length) = Y at *
  generalize hA : vl a = A at *
  simp only [NL]
  simp only [Tryd.f153, go_sem]
  refine PLoop.intro (fun i : Nat => ⟨[(0, .sub 55 o (out.length - o)), (1, .val (.lst a.length (U a))), (2, .val (u n)), (6, .val (u ((Y % W ^ i + A % W ^ i * n) / W ^ i))), (12, .val (.lst a.length (U a))), (13, .val (.int .i64 a.length)), (14, .val (.int .i64 i))],
    [(55, (.row 22 1 out.length (U (rowL out o (Y + A * n) i)), false))]⟩) (fun i => i ≤ a.length) (fun i => a.length - i) 0 (Nat.zero_le _) ?_ fun i hi => walk ?_
  · have e0 : rowL out o (Y + A * n) 0 = out := by unfold rowL; simp [tab]
    rw [e0]
    simp [Wk, sget, killL, kill1, SV.key, u, Nat.mod_one]
  have hstep := row_step (Y := Y) (A := A) (n := n) (i := i) hn
  obtain ⟨t1, t2, t3⟩ := hstep
  have wi : IntKind.wrap .i64 ((i : Int) + 1) = ((i + 1 : Nat) : Int) := by rw [wrap64 (by omega) (by omega)]; omega
  have hx : i < a.length → A / W ^ i % W < W := fun _ => Nat.mod_lt _ W0
  have hyW : Y / W ^ i % W < W := Nat.mod_lt _ W0
  generalize hc : (Y % W ^ i + A % W ^ i * n) / W ^ i = c at *
  generalize hxx : A / W ^ i % W = x at *
  have hgi := hget i
  have hoi := hog i
  rw [hxx] at hgi
  generalize hyy : Y / W ^ i % W = y at *
  simp only [Tryd.f153, u, go_sem]
  refine qif_d (fun h1 => ?_) (fun h1 => ?_)
  · have hxW := hx (by omega)
    have k1 := c_Mul64 x n hxW hn
    have k2 := c_Add64 (x * n % W) c 0 (by decide)
    have k3 := c_Add64 y ((x * n % W + c + 0) % W) 0 (by decide)
    have hgo := rowL_get (out := out) (o := o) (T := Y + A * n) (i := i) (by omega)
    have hgs := rowL_set (out := out) (o := o) (T := Y + A * n) (i := i) (by omega)
    rw [hoi (by omega)] at hgo
    obtain ⟨r1, r2, r3, r4⟩ := row_arith (M := x * n) rfl hxW hn t1 hyW
    generalize x * n = M at *
    have d1 : (y + (M % W + c + 0) % W + 0) % W = (Y + A * n) / W ^ i % W := by rw [← t2]; exact r1
    have d2 : IntKind.wrap .u64 (((M / W : Nat) : Int) + (((M % W + c + 0) / W : Nat) : Int)) = ((M / W + (M % W + c + 0) / W : Nat) : Int) := by
      rw [← Int.natCast_add]; exact wrap_nat64 r2
    have d3 : IntKind.wrap .u64 (((M / W + (M % W + c + 0) / W : Nat) : Int) + (((y + (M % W + c + 0) % W + 0) / W : Nat) : Int)) = (((Y % W ^ (i + 1) + A % W ^ (i + 1) * n) / W ^ (i + 1) : Nat) : Int) := by
      rw [← t3, ← Int.natCast_add, r3]
      exact wrap_nat64 r4
    clear r1 r2 r3 r4
    rw [d1] at k3
    generalize (Y + A * n) / W ^ i % W = dgt at k3 hgs
    generalize hcn : (Y % W ^ (i + 1) + A % W ^ (i + 1) * n) / W ^ (i + 1) = cn at *
    clear t1 t2 t3 d1 hyW hxW hx
    simp only [Nat.add_zero] at d2 d3 k2 k3
    generalize M / W = q1 at *
    generalize M % W = q2 at *
    generalize (q2 + c) / W = q3 at *
    generalize (q2 + c) % W = q4 at *
    generalize (y + q4) / W = q5 at *
    simp only [u] at k1 k2 k3 hgo hgs
    simp only [Tryd.f153, u, go_sem]
    refine qand_i (by first | omega | (simp [V_length, U_length, tab_length, maxLen]; done) | (simp [V_length, U_length, tab_length, maxLen]; omega) | (refine ⟨?_, ?_⟩ <;> first | omega | (simp [V_length, U_length, tab_length, maxLen]; done) | (simp [V_length, U_length, tab_length, maxLen]; omega))) ?_; simp only [Tryd.f153, u, go_sem]
    refine qval_i (congrArg (Option.map _) (hgi (by omega))) ?_
    simp only [Tryd.f153, u, go_sem]
    refine qcall_i (k1) ?_; simp only [Tryd.f153, u, go_sem]
    refine qcall_i (k2) ?_; simp only [Tryd.f153, u, d2, go_sem]
    refine qand_i (by omega) ?_
    simp only [Tryd.f153, u, d2, go_sem]
    refine qval_i (congrArg (Option.map _) hgo) ?_
    simp only [Tryd.f153, u, d2, go_sem]
    refine qcall_i (k3) ?_; simp only [Tryd.f153, u, d2, d3, go_sem]
    refine qand_i (by omega) ?_
    simp only [Tryd.f153, u, d2, d3, wi, go_sem]
    have hul : (U (rowL out o (Y + A * n) i)).length = out.length := by unfold U; rw [List.length_map, rowL_len (by omega)]
    refine qand_i (by rw [hul]; omega) ?_
    simp only [Tryd.f153, u, d2, d3, wi, go_sem]
    refine ⟨i + 1, by omega, by omega, ?_⟩
    rw [hcn]
    generalize Y + A * n = TT at *
    simp [Wk, sget, killL, kill1, SV.key, u, setCells, hgs]
  · have hil : i = a.length := by omega
    subst hil
    have hY2 : Y < W ^ a.length := by
      rw [← hY]
      refine Nat.lt_of_lt_of_le (dv_lt _ hok) (Nat.pow_le_pow_right W0 ?_)
      rw [List.length_take]; omega
    have hla' : A < W ^ a.length := by rw [← hA]; exact hla
    rw [Nat.mod_eq_of_lt hY2, Nat.mod_eq_of_lt hla'] at hc
    have hcd : c = (Y + A * n) / W ^ a.length % W := by rw [hc, Nat.mod_eq_of_lt t1]
    have hgs := rowL_set (out := out) (o := o) (T := Y + A * n) (i := a.length) (by omega)
    have hul : (U (rowL out o (Y + A * n) a.length)).length = out.length := by unfold U; rw [List.length_map, rowL_len (by omega)]
    rw [← hcd] at hgs
    simp only [Tryd.f153, u, go_sem]
    refine qand_i (by omega) ?_
    simp only [Tryd.f153, u, go_sem]
    refine qand_i (by rw [hul]; omega) ?_
    simp only [Tryd.f153, u, go_sem]
    refine ⟨0, by decide, fun i b hb => ?_, .inl ⟨.tuple [], [], rfl, rfl, fun _ _ h => by cases h⟩⟩
    simp only [u] at hgs
    match i, hb with
    | 0, hb =>
      simp only [List.getElem?_cons_zero, Option.some.injEq] at hb
      subst hb
      simp [keyM, sget, setCells, hgs]
    | i + 1, hb => simp at hb
end Go.Proofs.YtejmlngnpekagaaDoor
