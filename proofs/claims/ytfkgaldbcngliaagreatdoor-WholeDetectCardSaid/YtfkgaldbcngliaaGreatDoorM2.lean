/- Several parts in one text. -/
import Derived.Test.YtfkgaldbcngliaaGreatDoorM1
import Derived.Lib.Mul64
import Derived.Test.YtfkgaldbcngliaaGreatDoorG3
open Go PG Go.Proofs
set_option linter.unusedSimpArgs false
set_option linter.unusedVariables false
set_option maxRecDepth 100000
namespace Go.Proofs.YtfkgaldbcngliaaGreatDoor
attribute [local go_sem] Lay2 Lay3 Lay4 Lay5 Lay6 Lay7 Lay8 Lay9 Lay10 Lay11 Lay12 Lay13 Lay14 Lay15 Lay16 Lay17 Lay18 Lay19 Lay20 Lay21 Lay22 Lay26 Lay27 Lay28 Lay29 Lay31 Lay32 Lay33 Lay34 Lay35 Lay41 Lay42 Lay43 Lay47 Lay48 Lay60 Lay61 Lay62 Lay63 Lay64 Lay72 Lay73 Lay74 Lay83 Lay84 Lay86 Lay90 Lay91 Lay92 Lay93 Lay102 Lay103 Lay139 Lay143 Lay149 Lay158 Lay159 Lay160 Lay161 Lay162 Lay174 Lay175 Lay193 Lay207 Lay208 Lay209 Lay210 Lay228 Lay229 Lay237 Lay238 Lay265 Lay287 Lay295 Lay296 Lay297 Lay299 Lay301 Lay302 Lay303 Lay304 Lay305 Lay307 Lay308 Lay310 Lay311 Lay312 Lay315 Lay316 Lay317 qexec_seq qexec_skip qexec_exit qexec_ret qexec_block qexec_loop qexec_range qexec_cond qexec_region qexec_drawn qops_nil qops_none qops_some put_some put_none pblk_exit pblk_other newDsts_nil inlDsts_nil isInl sget_cons sget_nil qval_some qbool_some qgs_bool qgs_und qfree_some qgrd_true qgrd_false qif_true qif_false qval_ite qval_itn qand_true map_ite map_some' map_none' qdo_move qdo_assign qdo_binOp qdo_pick qdo_unOp qdo_convert qdo_extract qdo_makeInterface qdo_field qdo_fieldAddr qdo_alloc qdo_box qdo_build qdo_buildSlice qdo_load qdo_store qdo_nilCheck qdo_makeFunc qdo_makeSlice qdo_slice qdo_indexAddr qdo_call qcont_val qcont_new qcont_st qcont_app0 qcont_app qcont_inl qcont_call njSV_val njSV_nil njSV_row njSV_ptr njSV_sub binV_val binV_nil binV_nn binV_ptr bin_np bin_nnp nilCmp bin_add bin_sub bin_mul bin_quo bin_rem bin_and bin_or bin_xor bin_andNot bin_eql bin_neq bin_lss bin_leq bin_gtr bin_geq bin_shl bin_shr bin_seql bin_sneq bin_sadd bin_beql bin_aeql bin_aneq eqAnd_some eqCells_nil eqCells_cons fieldTypes isStruct eqCell bin_bneq un_not un_neg nj_ite Nat.beq stepA stepR isNew opSV constSV RV.sv allSome E_mu E_own qkeyIn_none qkeyIn_some qkeyAt_none qkeyAt_some Bool.or_false Bool.false_or Bool.or_true Bool.true_or cst setB res resSV pstart startL killL kill1 eraL frzL svPV rvPV rvInt rvSlice rvBytes frzOf close closeL pconv pbuiltin pmax2 partPV setCells fillPV zrow bound newSV PV.cells Bk.cells Bk.with SV.key pres presL_nil presL_tmp presL_cell presC2_some cellPV_ptr presC List.toList_toArray List.size_toArray List.getElem?_drop Nat.mul_one Int.toNat_natCast Nat.not_lt_zero Nat.lt_irrefl decide_true decide_false Nat.not_lt Option.some.injEq PV.lst.injEq PV.int.injEq PV.bool.injEq PV.tuple.injEq List.cons.injEq Option.map_some Option.map_none Option.bind_some Option.toList List.map_cons List.map_nil List.nil_append List.cons_append List.append_nil List.zip_cons_cons List.zip_nil_left List.zip_nil_right List.getElem?_cons_zero List.getElem?_cons_succ List.drop_zero List.drop_succ_cons List.take_succ_cons List.take_zero List.set_cons_zero List.set_cons_succ List.length_cons List.length_nil List.length_set List.replicate_one List.replicate_zero bne_self_eq_false beq_self_eq_true Nat.zero_add Nat.add_zero Nat.zero_mul Bool.false_eq_true Bool.true_eq_false Bool.not_true Bool.not_false and_true true_and false_and and_false or_false false_or or_true true_or not_true_eq_false not_false_eq_true ne_eq gt_iff_lt List.mem_cons List.not_mem_nil
attribute [local go_sem ↓] pseq_normal pseq_ret pseq_exit pblk_normal pblk_ret newDsts_cons inlDsts_cons gdst_zero gdst_succ retQ_normal retQ_ret qneed_nil qneed_cons retM_normal retM_ret endR_normal endR_ret endR_exit
attribute [local go_sem] Int.reduceToNat Int.reduceEq Int.reduceNe Int.reduceLT Int.reduceLE Int.reduceNeg Int.reduceAdd Nat.reduceEqDiff Nat.reduceAdd Nat.reduceSub Nat.reduceMul Nat.reduceLeDiff Nat.reduceLT
attribute [local go_sem ↓] reduceIte reduceCtorEq
section
section
open Go PG Go.Proofs
theorem c_Mul64 (x y : Nat) (hx : x < W) (hy : y < W) : PC E 195 [u x, u y] (.tuple [u (x * y / W), u (x * y % W)]) := by
  refine PC.of_body follows Tryz.func195 (by decide +kernel) rfl (by kernel_rfl) (Nat.le_of_ble_eq_true rfl) (walk ?_)
  have hx' : x < 18446744073709551616 := hx
  have hy' : y < 18446744073709551616 := hy
  obtain ⟨m1, m2, m3, m4⟩ := Lib.mul64_hi x y hx' hy'
  have a1 : bits .and .u64 (x : Int) 4294967295 = ((x % 2 ^ 32 : Nat) : Int) := m_and x 32 4294967295 hx (by decide) (by decide)
  have a2 : bits .and .u64 (y : Int) 4294967295 = ((y % 2 ^ 32 : Nat) : Int) := m_and y 32 4294967295 hy (by decide) (by decide)
  have s1 := b_shr hx 32
  have s2 := b_shr hy 32
  rw [show (2 : Nat) ^ 32 = 4294967296 by decide] at a1 a2 s1 s2
  generalize hx0 : x % 4294967296 = x0 at *
  generalize hx1 : x / 4294967296 = x1 at *
  generalize hy0 : y % 4294967296 = y0 at *
  generalize hy1 : y / 4294967296 = y1 at *
  have w1 : IntKind.wrap .u64 ((x0 : Int) * (y0 : Int)) = ((x0 * y0 : Nat) : Int) := by rw [← Int.natCast_mul]; exact wrap_nat64 m1
  have s3 := b_shr (a := x0 * y0) m1 32
  rw [show (2 : Nat) ^ 32 = 4294967296 by decide] at s3
  have w2 : IntKind.wrap .u64 ((x1 : Int) * (y0 : Int)) = ((x1 * y0 : Nat) : Int) := by rw [← Int.natCast_mul]; exact wrap_nat64 (show _ < 18446744073709551616 by omega)
  have w3 : IntKind.wrap .u64 (((x1 * y0 : Nat) : Int) + ((x0 * y0 / 4294967296 : Nat) : Int)) = ((x1 * y0 + x0 * y0 / 4294967296 : Nat) : Int) := by rw [← Int.natCast_add]; exact wrap_nat64 m2
  generalize ht : x1 * y0 + x0 * y0 / 4294967296 = t at *
  have a3 : bits .and .u64 (t : Int) 4294967295 = ((t % 2 ^ 32 : Nat) : Int) := m_and t 32 4294967295 m2 (by decide) (by decide)
  have s4 := b_shr (a := t) m2 32
  rw [show (2 : Nat) ^ 32 = 4294967296 by decide] at a3 s4
  have w4 : IntKind.wrap .u64 ((x0 : Int) * (y1 : Int)) = ((x0 * y1 : Nat) : Int) := by rw [← Int.natCast_mul]; exact wrap_nat64 (show _ < 18446744073709551616 by omega)
  have w5 : IntKind.wrap .u64 (((t % 4294967296 : Nat) : Int) + ((x0 * y1 : Nat) : Int)) = ((t % 4294967296 + x0 * y1 : Nat) : Int) := by rw [← Int.natCast_add]; exact wrap_nat64 m3
  have s5 := b_shr (a := t % 4294967296 + x0 * y1) m3 32
  rw [show (2 : Nat) ^ 32 = 4294967296 by decide] at s5
  have hhi : x * y / 18446744073709551616 < 18446744073709551616 := by
    rw [Nat.div_lt_iff_lt_mul (by decide)]
    exact Nat.mul_lt_mul'' hx' hy'
  have w6 : IntKind.wrap .u64 ((x1 : Int) * (y1 : Int)) = ((x1 * y1 : Nat) : Int) := by rw [← Int.natCast_mul]; exact wrap_nat64 (show _ < 18446744073709551616 by omega)
  have w7 : IntKind.wrap .u64 (((x1 * y1 : Nat) : Int) + ((t / 4294967296 : Nat) : Int)) = ((x1 * y1 + t / 4294967296 : Nat) : Int) := by rw [← Int.natCast_add]; exact wrap_nat64 (show _ < 18446744073709551616 by omega)
  have w8 : IntKind.wrap .u64 (((x1 * y1 + t / 4294967296 : Nat) : Int) + (((t % 4294967296 + x0 * y1) / 4294967296 : Nat) : Int)) = ((x * y / W : Nat) : Int) := by
    rw [← Int.natCast_add, m4]; exact wrap_nat64 hhi
  have w9 : IntKind.wrap .u64 ((x : Int) * (y : Int)) = ((x * y % W : Nat) : Int) := by
    rw [IntKind.wrap_u64, ← Int.natCast_mul]; rfl
  simp only [Tryz.f195, u, a1, a2, s1, s2, w1, s3, w2, w3, a3, s4, w4, w5, s5, w6, w7, w8, w9, go_sem]
theorem row_step {Y A n i : Nat} (hn : n < W) :
    (Y % W ^ i + A % W ^ i * n) / W ^ i < W ∧
    ((Y % W ^ i + A % W ^ i * n) / W ^ i + Y / W ^ i % W + A / W ^ i % W * n) % W = (Y + A * n) / W ^ i % W ∧
    ((Y % W ^ i + A % W ^ i * n) / W ^ i + Y / W ^ i % W + A / W ^ i % W * n) / W = (Y % W ^ (i + 1) + A % W ^ (i + 1) * n) / W ^ (i + 1) := by
  have hP := Nat.pow_pos (n := i) W0
  have y1 := Nat.mod_lt Y hP
  have a1 := Nat.mod_lt A hP
  have ey := Nat.mod_add_div Y (W ^ i)
  have ea := Nat.mod_add_div A (W ^ i)
  have ey2 : Y % W ^ (i + 1) = Y % W ^ i + W ^ i * (Y / W ^ i % W) := by rw [Nat.pow_succ, Nat.mod_mul]
  have ea2 : A % W ^ (i + 1) = A % W ^ i + W ^ i * (A / W ^ i % W) := by rw [Nat.pow_succ, Nat.mod_mul]
  rw [ey2, ea2]
  generalize hP2 : W ^ i = P at *
  generalize Y % P = yl at *
  generalize A % P = al at *
  generalize hyh : Y / P = yh at *
  generalize hah : A / P = ah at *
  refine ⟨?_, ?_, ?_⟩
  · rw [Nat.div_lt_iff_lt_mul hP]
    have h1 : al * n ≤ (P - 1) * (W - 1) := Nat.mul_le_mul (by omega) (by omega)
    have h2 : (P - 1) * (W - 1) + (P - 1) + (P - 1) + (W - 1) + 1 = P * W + (P - 1) := by
      obtain ⟨p, rfl⟩ : ∃ p, P = p + 1 := ⟨P - 1, by omega⟩
      obtain ⟨w, hw⟩ : ∃ w, W = w + 1 := ⟨W - 1, rfl⟩
      rw [hw]
      simp only [Nat.add_sub_cancel, Nat.add_mul, Nat.mul_add, Nat.mul_one, Nat.one_mul]
      omega
    have hW := W2
    rw [Nat.mul_comm W P]
    omega
  · have e : Y + A * n = (yl + al * n) + P * (yh + ah * n) := by
      rw [← ey, ← ea, Nat.add_mul, Nat.mul_add, Nat.mul_assoc]; omega
    rw [e, Nat.add_mul_div_left _ _ hP]
    generalize (yl + al * n) / P = c
    simp [Nat.add_mod, Nat.mul_mod, Nat.add_assoc]
  · have e : yl + P * (yh % W) + (al + P * (ah % W)) * n = (yl + al * n) + P * (yh % W + ah % W * n) := by
      rw [Nat.add_mul, Nat.mul_add, Nat.mul_assoc]; omega
    rw [e, Nat.pow_succ, hP2, ← Nat.div_div_eq_div_mul, Nat.add_mul_div_left _ _ hP, Nat.add_assoc]
end
section
open Go PG Go.Proofs
def rowL (out : List Nat) (o T i : Nat) : List Nat := out.take o ++ (tab W T i ++ out.drop (o + i))
def rowT (out a : List Nat) (o n : Nat) : Nat := dv W ((out.drop o).take a.length) + vl a * n
theorem rowL_len {out : List Nat} {o T i : Nat} (h : o + i ≤ out.length) : (rowL out o T i).length = out.length := by
  unfold rowL
  simp [tab_length]
  omega
theorem rowL_get {out : List Nat} {o T i : Nat} (h : o + i < out.length) : (U (rowL out o T i))[o + i]? = some (u (out.getD (o + i) 0)) := by
  have hl : (out.take o).length = o := by simp; omega
  rw [U_get]
  unfold rowL
  rw [List.getElem?_append_right (by omega), hl, List.getElem?_append_right (by rw [tab_length]; omega), tab_length, List.getElem?_drop, show o + i + (o + i - o - i) = o + i by omega, List.getElem?_eq_getElem h, List.getD_eq_getElem?_getD, List.getElem?_eq_getElem h]
  rfl
theorem rowL_set {out : List Nat} {o T i : Nat} (h : o + i < out.length) : (U (rowL out o T i)).set (o + i) (u (T / W ^ i % W)) = U (rowL out o T (i + 1)) := by
  have hl : (out.take o).length = o := by simp; omega
  unfold rowL U
  rw [← List.map_set]
  congr 1
  rw [List.set_append_right _ _ (by omega), hl, List.set_append_right _ _ (by rw [tab_length]; omega), tab_length, show o + i - o - i = 0 by omega, tab_succ, List.append_assoc]
  congr 2
  rw [List.drop_eq_getElem_cons h]
  rfl
theorem row_arith {M c y x n : Nat} (hM : M = x * n) (hx : x < W) (hn : n < W) (hc : c < W) (hy : y < W) :
    (y + (M % W + c + 0) % W + 0) % W = (c + y + M) % W ∧ M / W + (M % W + c + 0) / W < W ∧
    M / W + (M % W + c + 0) / W + (y + (M % W + c + 0) % W + 0) / W = (c + y + M) / W ∧ (c + y + M) / W < W := by
  have hx' : x < 18446744073709551616 := hx
  have hn' : n < 18446744073709551616 := hn
  have hc' : c < 18446744073709551616 := hc
  have hy' : y < 18446744073709551616 := hy
  have h1 : M ≤ 18446744073709551615 * 18446744073709551615 := by rw [hM]; exact Nat.mul_le_mul (by omega) (by omega)
  have key : (y + (M % 18446744073709551616 + c + 0) % 18446744073709551616 + 0) % 18446744073709551616 = (c + y + M) % 18446744073709551616 ∧ M / 18446744073709551616 + (M % 18446744073709551616 + c + 0) / 18446744073709551616 < 18446744073709551616 ∧
    M / 18446744073709551616 + (M % 18446744073709551616 + c + 0) / 18446744073709551616 + (y + (M % 18446744073709551616 + c + 0) % 18446744073709551616 + 0) / 18446744073709551616 = (c + y + M) / 18446744073709551616 ∧ (c + y + M) / 18446744073709551616 < 18446744073709551616 := by
    clear hM hx hn hc hy hx' hn'
    omega
  exact key
theorem c_row (out a : List Nat) (o n : Nat) (ho : Ok W out) (ha : Ok W a) (hn : n < W) (hL : o + a.length + 1 ≤ out.length) (hl : out.length ≤ 1048576) :
    PCM E 237 [.sub 0 o (out.length - o), .val (NL a), .val (u n)] [.row 22 1 out.length (U out)] (.val (.tuple [])) [.row 22 1 out.length (U (rowL out o (rowT out a o n) (a.length + 1)))] := by
  refine PCM.of_body follows Tryz.func237 (by decide +kernel) rfl (by kernel_rfl) (Nat.le_of_ble_eq_true rfl) (Nat.le_refl _) (by simp) (fun k h => by cases h) (fun h => by cases h) (walk ?_)
  simp only [mstart, startS, blkL, shiftSV]
  have hla := dv_lt a ha
  have hget : ∀ i, i < a.length → (U a)[i]? = some (u (vl a / W ^ i % W)) := fun i hi => by
    rw [U_get, ← dv_get W0 _ ha i, List.getD_eq_getElem?_getD, List.getElem?_eq_getElem hi]; rfl
  have hok : Ok W ((out.drop o).take a.length) := fun d hd => ho d (List.mem_of_mem_drop (List.mem_of_mem_take hd))
  have hog : ∀ i, i < a.length → out.getD (o + i) 0 = dv W ((out.drop o).take a.length) / W ^ i % W := fun i hi => by
    rw [← dv_get W0 _ hok i, List.getD_eq_getElem?_getD, List.getD_eq_getElem?_getD, List.getElem?_take, if_pos hi, List.getElem?_drop]
  unfold rowT
  generalize hY : dv W ((out.drop o).take a.length) = Y at *
  generalize hA : vl a = A at *
  simp only [NL]
  simp only [Tryz.f237, go_sem]
  refine PLoop.intro (fun i : Nat => ⟨[(0, .sub 55 o (out.length - o)), (1, .val (.lst a.length (U a))), (2, .val (u n)), (6, .val (u ((Y % W ^ i + A % W ^ i * n) / W ^ i))), (12, .val (.lst a.length (U a))), (13, .val (.int .i64 a.length)), (14, .val (.int .i64 i))],
    [(55, (.row 22 1 out.length (U (rowL out o (Y + A * n) i)), false))]⟩) (fun i => i ≤ a.length) (fun i => a.length - i) 0 (Nat.zero_le _) ?_ fun i hi => walk ?_
  · have e0 : rowL out o (Y + A * n) 0 = out := by unfold rowL; simp [tab]
    rw [e0]
    simp [Wk, sget, killL, kill1, SV.key, u, Nat.mod_one]
  have hstep := row_step (Y := Y) (A := A) (n := n) (i := i) hn
  obtain ⟨t1, t2, t3⟩ := hstep
  have wi : IntKind.wrap .i64 ((i : Int) + 1) = ((i + 1 : Nat) : Int) := by rw [wrap64 (by omega) (by omega)]; omega
  have hx : i < a.length → A / W ^ i % W < W := fun _ => Nat.mod_lt _ W0
  have hyW : Y / W ^ i % W < W := Nat.mod_lt _ W0
  generalize hc : (Y % W ^ i + A % W ^ i * n) / W ^ i = c at *
  generalize hxx : A / W ^ i % W = x at *
  have hgi := hget i
  have hoi := hog i
  rw [hxx] at hgi
  generalize hyy : Y / W ^ i % W = y at *
  simp only [Tryz.f237, u, go_sem]
  refine qif_d (fun h1 => ?_) (fun h1 => ?_)
  · have hxW := hx (by omega)
    have k1 := c_Mul64 x n hxW hn
    have k2 := c_Add64 (x * n % W) c 0 (by decide)
    have k3 := c_Add64 y ((x * n % W + c + 0) % W) 0 (by decide)
    have hgo := rowL_get (out := out) (o := o) (T := Y + A * n) (i := i) (by omega)
    have hgs := rowL_set (out := out) (o := o) (T := Y + A * n) (i := i) (by omega)
    rw [hoi (by omega)] at hgo
    obtain ⟨r1, r2, r3, r4⟩ := row_arith (M := x * n) rfl hxW hn t1 hyW
    generalize x * n = M at *
    have d1 : (y + (M % W + c + 0) % W + 0) % W = (Y + A * n) / W ^ i % W := by rw [← t2]; exact r1
    have d2 : IntKind.wrap .u64 (((M / W : Nat) : Int) + (((M % W + c + 0) / W : Nat) : Int)) = ((M / W + (M % W + c + 0) / W : Nat) : Int) := by
      rw [← Int.natCast_add]; exact wrap_nat64 r2
    have d3 : IntKind.wrap .u64 (((M / W + (M % W + c + 0) / W : Nat) : Int) + (((y + (M % W + c + 0) % W + 0) / W : Nat) : Int)) = (((Y % W ^ (i + 1) + A % W ^ (i + 1) * n) / W ^ (i + 1) : Nat) : Int) := by
      rw [← t3, ← Int.natCast_add, r3]
      exact wrap_nat64 r4
    clear r1 r2 r3 r4
    rw [d1] at k3
    generalize (Y + A * n) / W ^ i % W = dgt at k3 hgs
    generalize hcn : (Y % W ^ (i + 1) + A % W ^ (i + 1) * n) / W ^ (i + 1) = cn at *
    clear t1 t2 t3 d1 hyW hxW hx
    simp only [Nat.add_zero] at d2 d3 k2 k3
    generalize M / W = q1 at *
    generalize M % W = q2 at *
    generalize (q2 + c) / W = q3 at *
    generalize (q2 + c) % W = q4 at *
    generalize (y + q4) / W = q5 at *
    simp only [u] at k1 k2 k3 hgo hgs
    simp only [Tryz.f237, u, go_sem]
    refine qand_i (by first | omega | (simp [V_length, U_length, tab_length, maxLen]; done) | (simp [V_length, U_length, tab_length, maxLen]; omega) | (refine ⟨?_, ?_⟩ <;> first | omega | (simp [V_length, U_length, tab_length, maxLen]; done) | (simp [V_length, U_length, tab_length, maxLen]; omega))) ?_; simp only [Tryz.f237, u, go_sem]
    refine qval_i (congrArg (Option.map _) (hgi (by omega))) ?_
    simp only [Tryz.f237, u, go_sem]
    refine qcall_i (k1) ?_; simp only [Tryz.f237, u, go_sem]
    refine qcall_i (k2) ?_; simp only [Tryz.f237, u, d2, go_sem]
    refine qand_i (by omega) ?_
    simp only [Tryz.f237, u, d2, go_sem]
    refine qval_i (congrArg (Option.map _) hgo) ?_
    simp only [Tryz.f237, u, d2, go_sem]
    refine qcall_i (k3) ?_; simp only [Tryz.f237, u, d2, d3, go_sem]
    refine qand_i (by omega) ?_
    simp only [Tryz.f237, u, d2, d3, wi, go_sem]
    have hul : (U (rowL out o (Y + A * n) i)).length = out.length := by unfold U; rw [List.length_map, rowL_len (by omega)]
    refine qand_i (by rw [hul]; omega) ?_
    simp only [Tryz.f237, u, d2, d3, wi, go_sem]
    refine ⟨i + 1, by omega, by omega, ?_⟩
    rw [hcn]
    generalize Y + A * n = TT at *
    simp [Wk, sget, killL, kill1, SV.key, u, setCells, hgs]
  · have hil : i = a.length := by omega
    subst hil
    have hY2 : Y < W ^ a.length := by
      rw [← hY]
      refine Nat.lt_of_lt_of_le (dv_lt _ hok) (Nat.pow_le_pow_right W0 ?_)
      rw [List.length_take]; omega
    have hla' : A < W ^ a.length := by rw [← hA]; exact hla
    rw [Nat.mod_eq_of_lt hY2, Nat.mod_eq_of_lt hla'] at hc
    have hcd : c = (Y + A * n) / W ^ a.length % W := by rw [hc, Nat.mod_eq_of_lt t1]
    have hgs := rowL_set (out := out) (o := o) (T := Y + A * n) (i := a.length) (by omega)
    have hul : (U (rowL out o (Y + A * n) a.length)).length = out.length := by unfold U; rw [List.length_map, rowL_len (by omega)]
    rw [← hcd] at hgs
    simp only [Tryz.f237, u, go_sem]
    refine qand_i (by omega) ?_
    simp only [Tryz.f237, u, go_sem]
    refine qand_i (by rw [hul]; omega) ?_
    simp only [Tryz.f237, u, go_sem]
    refine ⟨0, by decide, fun i b hb => ?_, .inl ⟨.tuple [], [], rfl, rfl, fun _ _ h => by cases h⟩⟩
    simp only [u] at hgs
    match i, hb with
    | 0, hb =>
      simp only [List.getElem?_cons_zero, Option.some.injEq] at hb
      subst hb
      simp [keyM, sget, setCells, hgs]
    | i + 1, hb => simp at hb
end
section
open Go PG Go.Proofs
theorem tab_of {l : List Nat} (h : Ok W l) : l = tab W (dv W l) l.length := by
  apply List.ext_getElem?
  intro i
  by_cases hi : i < l.length
  · have hg := dv_get W0 l h i
    rw [List.getD_eq_getElem?_getD, List.getElem?_eq_getElem hi] at hg
    rw [List.getElem?_eq_getElem hi]
    simp only [Option.getD_some] at hg
    simp [tab, hi, hg]
  · rw [List.getElem?_eq_none (by omega), List.getElem?_eq_none (by rw [tab_length]; omega)]
theorem dv_take (l : List Nat) (h : Ok W l) (i : Nat) : dv W (l.take i) = dv W l % W ^ i ∧ dv W (l.drop i) = dv W l / W ^ i := by
  by_cases hi : i ≤ l.length
  · have h1 := dv_append (b := W) (l.take i) (l.drop i)
    rw [List.take_append_drop, List.length_take, Nat.min_eq_left hi] at h1
    have h2 : dv W (l.take i) < W ^ i := by
      have := dv_lt (l.take i) (fun d hd => h d (List.mem_of_mem_take hd))
      rwa [List.length_take, Nat.min_eq_left hi] at this
    have hp := Nat.pow_pos (n := i) W0
    constructor
    · rw [h1, Nat.add_mul_mod_self_left, Nat.mod_eq_of_lt h2]
    · rw [h1, Nat.add_mul_div_left _ _ hp, Nat.div_eq_of_lt h2, Nat.zero_add]
  · have h1 : dv W l < W ^ i := Nat.lt_of_lt_of_le (dv_lt l h) (Nat.pow_le_pow_right W0 (by omega))
    rw [List.take_of_length_le (by omega), List.drop_eq_nil_of_le (by omega), Nat.mod_eq_of_lt h1, Nat.div_eq_of_lt h1]
    exact ⟨rfl, rfl⟩
theorem rowL_tab {P bi i m : Nat} {a : List Nat} (ha : Ok W a) (hP : P < W ^ (a.length + i)) (hm : i + a.length + 1 ≤ m) (hb : bi < W) :
    rowL (tab W P m) i (rowT (tab W P m) a i bi) (a.length + 1) = tab W (P + W ^ i * (vl a * bi)) m := by
  have okP := ok_tab W0 P m
  have hPm : P < W ^ m := Nat.lt_of_lt_of_le hP (Nat.pow_le_pow_right W0 (by omega))
  have dP : dv W (tab W P m) = P := (dv_tab P m).trans (Nat.mod_eq_of_lt hPm)
  have hA := dv_lt a ha
  have hi := Nat.pow_pos (n := i) W0
  have hPi : P / W ^ i < W ^ a.length := by
    rw [Nat.div_lt_iff_lt_mul hi, ← Nat.pow_add]; exact hP
  have okd : Ok W ((tab W P m).drop i) := fun d hd => okP d (List.mem_of_mem_drop hd)
  have hT : rowT (tab W P m) a i bi = P / W ^ i + vl a * bi := by
    unfold rowT
    rw [(dv_take _ okd _).1, (dv_take _ okP _).2, dP, Nat.mod_eq_of_lt hPi]
  rw [hT]
  have hTl : P / W ^ i + vl a * bi < W ^ (a.length + 1) := by
    have h1 : vl a * bi ≤ (W ^ a.length - 1) * (W - 1) := Nat.mul_le_mul (by have : vl a < W ^ a.length := hA; omega) (by omega)
    have hq := Nat.pow_pos (n := a.length) W0
    rw [Nat.pow_succ]
    clear hT dP hPm okd
    generalize P / W ^ i = Z at *
    generalize W ^ a.length = Q at *
    obtain ⟨q, rfl⟩ : ∃ q, Q = q + 1 := ⟨Q - 1, by omega⟩
    obtain ⟨w, hw⟩ : ∃ w, W = w + 1 := ⟨W - 1, by have := W0; omega⟩
    rw [hw] at h1 ⊢
    simp only [Nat.add_sub_cancel] at h1
    rw [Nat.add_mul, Nat.mul_add, Nat.mul_one, Nat.one_mul]
    omega
  have hd0 : P / W ^ (i + (a.length + 1)) = 0 := Nat.div_eq_of_lt (Nat.lt_of_lt_of_le hP (Nat.pow_le_pow_right W0 (by omega)))
  generalize hTT : P / W ^ i + vl a * bi = T at *
  have okR : Ok W (rowL (tab W P m) i T (a.length + 1)) := by
    intro d hd
    unfold rowL at hd
    rcases List.mem_append.1 hd with hd | hd
    · exact okP d (List.mem_of_mem_take hd)
    · rcases List.mem_append.1 hd with hd | hd
      · exact ok_tab W0 _ _ d hd
      · exact okP d (List.mem_of_mem_drop hd)
  have hlen : (rowL (tab W P m) i T (a.length + 1)).length = m := by rw [rowL_len (by rw [tab_length]; omega), tab_length]
  have hdv : dv W (rowL (tab W P m) i T (a.length + 1)) = P + W ^ i * (vl a * bi) := by
    unfold rowL
    rw [dv_append, dv_append, (dv_take _ okP _).1, (dv_take _ okP _).2, dP, dv_tab, tab_length, List.length_take, tab_length, Nat.min_eq_left (by omega), hd0, Nat.mul_zero, Nat.add_zero, Nat.mod_eq_of_lt hTl, ← hTT, Nat.mul_add, ← Nat.add_assoc, Nat.mod_add_div]
  have := tab_of okR
  rw [hdv, hlen] at this
  exact this
end
section
open Go PG Go.Proofs
def mixL (b T P n m : Nat) : List Nat := (List.range m).map fun j => (if j < n then T else P) / b ^ j % b
end
section
open Go PG Go.Proofs
def pR (a b : List Nat) (i : Nat) : List PV := U (tab W (vl a * (vl b % W ^ i)) (a.length + b.length + 1))
def pD (b : List Nat) (i : Nat) : Nat := vl b / W ^ i % W
theorem pR_zero (a b : List Nat) : pR a b 0 = List.replicate (a.length + b.length + 1) (.int .u64 0) := by
  unfold pR
  rw [Nat.pow_zero, Nat.mod_one, Nat.mul_zero]
  have e0 : tab W 0 (a.length + b.length + 1) = List.replicate (a.length + b.length + 1) 0 := by
    unfold tab
    simp [List.map_const']
  rw [e0, U_replicate]
theorem pD_get {b : List Nat} (hb : Ok W b) (i : Nat) (hi : i < b.length) : (U b)[i]? = some (.int .u64 (pD b i : Int)) := by
  unfold pD
  rw [U_get, ← dv_get W0 _ hb i, List.getD_eq_getElem?_getD, List.getElem?_eq_getElem hi]; rfl
theorem pR_row {a b : List Nat} (ha : Ok W a) (hb : Ok W b) (la : a.length ≤ 100000) (lb : b.length ≤ 100000) (i : Nat) (hi : i < b.length) :
    PCM E 237 [.sub 0 i (a.length + b.length + 1 - i), .val (NL a), .val (.int .u64 (pD b i : Int))] [.row 22 1 (a.length + b.length + 1) (pR a b i)] (.val (.tuple [])) [.row 22 1 (a.length + b.length + 1) (pR a b (i + 1))] := by
  have hA : vl a < W ^ a.length := dv_lt a ha
  have hP : vl a * (vl b % W ^ i) < W ^ (a.length + i) := by
    rw [Nat.pow_add]
    exact Nat.mul_lt_mul'' hA (Nat.mod_lt _ (Nat.pow_pos W0))
  have hxW : vl b / W ^ i % W < W := Nat.mod_lt _ W0
  have hnext : vl a * (vl b % W ^ i) + W ^ i * (vl a * (vl b / W ^ i % W)) = vl a * (vl b % W ^ (i + 1)) := by
    rw [Nat.pow_succ, Nat.mod_mul, Nat.mul_add, Nat.mul_left_comm]
  have hrow := rowL_tab (m := a.length + b.length + 1) ha hP (by omega) hxW
  rw [hnext] at hrow
  have krow := c_row (tab W (vl a * (vl b % W ^ i)) (a.length + b.length + 1)) a i (vl b / W ^ i % W) (ok_tab W0 _ _) ha hxW (by rw [tab_length]; omega) (by rw [tab_length]; omega)
  rw [hrow] at krow
  simp only [tab_length] at krow
  exact krow
theorem pR_bare {a b : List Nat} (ha : Ok W a) (hb : Ok W b) (la : a.length ≤ 100000) (lb : b.length ≤ 100000) : PC E 119 [.lst (a.length + b.length + 1) (pR a b b.length)] (NN (vl a * vl b)) := by
  have hA : vl a < W ^ a.length := dv_lt a ha
  have hBB : vl b % W ^ b.length = vl b := Nat.mod_eq_of_lt (dv_lt b hb)
  have hP : vl a * vl b < W ^ (a.length + b.length + 1) := by
    refine Nat.lt_of_lt_of_le ?_ (Nat.pow_le_pow_right W0 (Nat.le_succ _))
    rw [Nat.pow_add]
    exact Nat.mul_lt_mul'' hA (dv_lt b hb)
  unfold pR
  rw [hBB]
  exact PC.at_list (n_Bare (tab W (vl a * vl b) (a.length + b.length + 1)) (by rw [tab_length]; omega) (ok_tab W0 _ _)) (tab_length _ _ _) ((dv_tab _ _).trans (Nat.mod_eq_of_lt hP))
theorem c_product (a b : List Nat) (ha : Ok W a) (hb : Ok W b) (la : a.length ≤ 100000) (lb : b.length ≤ 100000) : PC E 221 [NL a, NL b] (NN (vl a * vl b)) := by
  refine PC.of_body follows Tryz.func221 (by decide +kernel) rfl (by kernel_rfl) (Nat.le_of_ble_eq_true rfl) (walk ?_)
  have w1 : IntKind.wrap .i64 ((a.length : Int) + (b.length : Int)) = ((a.length + b.length : Nat) : Int) := by rw [wrap64 (by omega) (by omega)]; omega
  have w2 : IntKind.wrap .i64 (((a.length + b.length : Nat) : Int) + 1) = ((a.length + b.length + 1 : Nat) : Int) := by rw [wrap64 (by omega) (by omega)]; omega
  have r0 := pR_zero a b
  have rrow := pR_row ha hb la lb
  have rbare := pR_bare ha hb la lb
  have rget := pD_get hb
  simp only [NL, NN] at rrow rbare ⊢
  generalize pR a b = R at *
  generalize pD b = D at *
  generalize vl a * vl b = AB at *
  generalize hm : a.length + b.length + 1 = m at *
  simp only [Tryz.f221, w1, w2, go_sem]
  refine qand_i (by omega) ?_
  simp only [Tryz.f221, w1, w2, go_sem]
  refine PLoop.intro (fun i : Nat => ⟨[(0, .val (.lst a.length (U a))), (5, .row 14), (15, .val (.lst b.length (U b))), (16, .val (.int .i64 b.length)), (17, .val (.int .i64 i))],
    [(14, (.row 22 1 m (R i), false))]⟩) (fun i => i ≤ b.length) (fun i => b.length - i) 0 (Nat.zero_le _) ?_ fun i hi => walk ?_
  · rw [r0]
    simp [Wk, sget, killL, kill1, SV.key]
  have wi : IntKind.wrap .i64 ((i : Int) + 1) = ((i + 1 : Nat) : Int) := by rw [wrap64 (by omega) (by omega)]; omega
  simp only [Tryz.f221, go_sem]
  refine qif_d (fun h1 => ?_) (fun h1 => ?_)
  · have kr := rrow i (by omega)
    simp only [Tryz.f221, go_sem]
    refine qand_i (by first | omega | (simp [V_length, U_length, tab_length, maxLen]; done) | (simp [V_length, U_length, tab_length, maxLen]; omega) | (refine ⟨?_, ?_⟩ <;> first | omega | (simp [V_length, U_length, tab_length, maxLen]; done) | (simp [V_length, U_length, tab_length, maxLen]; omega))) ?_; simp only [Tryz.f221, go_sem]
    refine qval_i (congrArg (Option.map _) (rget i (by omega))) ?_
    simp only [Tryz.f221, go_sem]
    refine qand_i (by omega) ?_
    simp only [Tryz.f221, go_sem]
    refine qinl_i [14] kr rfl (by decide) rfl (fun j bb k hb hk => ?_) (fun d h => by cases h; decide) (fun h => by cases h) ?_
    · match j, hb, hk with
      | 0, hb, hk =>
        simp only [List.getElem?_cons_zero, Option.some.injEq] at hb hk
        subst hb hk
        simp [sget]
      | j + 1, hb, hk => simp at hb
    simp only [Tryz.f221, wi, go_sem]
    simp only [ren, SV.key, eraO, eraL]
    simp only [Tryz.f221, wi, go_sem]
    refine ⟨i + 1, by omega, by omega, ?_⟩
    simp [Wk, sget, killL, kill1, SV.key]
  · have hil : i = b.length := by omega
    subst hil
    simp only [Tryz.f221, go_sem]
    refine qcall_i rbare ?_
    simp only [Tryz.f221, go_sem]
    try rfl
end
section
open Go PG Go.Proofs
theorem bitLen_mul_le (x y : Nat) : bitLen (x * y) ≤ bitLen x + bitLen y := by
  rw [bitLen_le, Nat.pow_add]
  exact Nat.mul_lt_mul'' ((bitLen_le x _).1 (Nat.le_refl _)) ((bitLen_le y _).1 (Nat.le_refl _))
def pmV (x y : Nat) : PV := if x = 0 ∨ y = 0 then .tuple [.lst 0 [], .int .i64 0] else if bitLen x + bitLen y ≤ 65536 then .tuple [NN (x * y), .int .i64 0] else .tuple [.lst 0 [], .int .i64 2]
theorem k_prodMul {p q : PV} {x y : Nat} (h : Num p x) (h' : Num q y) (bx : bitLen x ≤ 1000000) (by' : bitLen y ≤ 1000000) : PC E 176 [p, q] (pmV x y) := by
  have k1 := k_Bare h
  have k2 := k_Bare h'
  have k3 := k_Bits (num_bits bx)
  have k4 := k_Bits (num_bits by')
  have lx := w_of_bits (x := x) (n := 15625) (by omega)
  have ly := w_of_bits (x := y) (n := 15625) (by omega)
  have k5 := c_product (dg W x) (dg W y) (ok_dg W2 x) (ok_dg W2 y) (by omega) (by omega)
  rw [show vl (dg W x) = x from dv_dg W2 x, show vl (dg W y) = y from dv_dg W2 y] at k5
  have w1 : IntKind.wrap .i64 ((bitLen x : Int) + (bitLen y : Int)) = ((bitLen x + bitLen y : Nat) : Int) := by rw [wrap64 (by omega) (by omega)]; omega
  obtain ⟨l, rfl, -⟩ := h
  obtain ⟨l', rfl, -⟩ := h'
  have d1 := dg_nil (x := x)
  have d2 := dg_nil (x := y)
  refine PC.of_body follows Tryz.func176 (by decide +kernel) rfl (by kernel_rfl) (Nat.le_of_ble_eq_true rfl) (walk ?_)
  unfold pmV
  by_cases hx : x = 0
  · rw [if_pos (.inl hx)]
    have e1 : dg W x = [] := by rw [hx]; rfl
    simp only [NN, NL, e1] at k1 k2 k3 k4 k5 ⊢
    simp only [Tryz.f176, go_sem]
    refine qcall_i (k1) ?_; simp only [Tryz.f176, go_sem]
    refine qcall_i (k2) ?_; simp only [Tryz.f176, go_sem]
    try (refine qif_dt (by simp) ?_)
    simp only [Tryz.f176, go_sem]
    try rfl
  by_cases hy : y = 0
  · rw [if_pos (.inr hy)]
    have e1 : dg W y = [] := by rw [hy]; rfl
    simp only [NN, NL, e1] at k1 k2 k3 k4 k5 ⊢
    simp only [Tryz.f176, go_sem]
    refine qcall_i (k1) ?_; simp only [Tryz.f176, go_sem]
    refine qcall_i (k2) ?_; simp only [Tryz.f176, go_sem]
    refine qif_df (fun h => hx (d1 (by omega))) ?_
    simp only [Tryz.f176, go_sem]
    try (refine qif_dt (by simp) ?_)
    simp only [Tryz.f176, go_sem]
    try rfl
  rw [if_neg (by omega)]
  simp only [NN, NL] at k1 k2 k3 k4 k5 ⊢
  simp only [Tryz.f176, go_sem]
  refine qcall_i (k1) ?_; simp only [Tryz.f176, go_sem]
  refine qcall_i (k2) ?_; simp only [Tryz.f176, go_sem]
  refine qif_df (fun h => hx (d1 (by omega))) ?_
  simp only [Tryz.f176, go_sem]
  refine qif_df (fun h => hy (d2 (by omega))) ?_
  simp only [Tryz.f176, w1, go_sem]
  refine qcall_i (k3) ?_; simp only [Tryz.f176, w1, go_sem]
  refine qcall_i (k4) ?_; simp only [Tryz.f176, w1, go_sem]
  refine qif_d (fun h => ?_) (fun h => ?_)
  · rw [if_neg (by omega)]
    simp only [Tryz.f176, go_sem]
    try rfl
  · rw [if_pos (by omega)]
    simp only [Tryz.f176, go_sem]
    refine qcall_i (k5) ?_; simp only [Tryz.f176, go_sem]
    try rfl
def mulE (a b : Dy) : Prop := a.fits ∧ b.fits ∧ (a.m ≠ 0 → b.m ≠ 0 → bitLen a.m + bitLen b.m ≤ 65536) ∧ (mulS a b).fits
instance (a b : Dy) : Decidable (mulE a b) := inferInstanceAs (Decidable (_ ∧ _))
def mulV (a b : Dy) : PV := if mulE a b then .tuple [(mulS a b).pv, .int .i64 0] else .tuple [Dy.zero.pv, .int .i64 2]
theorem mk_mul {a b : Dy} (oa : a.ok) (ob : b.ok) (fa : a.fits) (fb : b.fits) : mkD (a.s != b.s) (a.m * b.m) (a.e + b.e) = mulS a b := by
  unfold mulS
  by_cases h : a.m = 0 ∨ b.m = 0
  · rw [if_pos h]
    have : a.m * b.m = 0 := by rcases h with h | h <;> rw [h] <;> simp
    rw [this]; rfl
  · rw [if_neg h]
    have := fa.1; have := fa.2; have := fb.1; have := fb.2
    exact mkD_odd (odd_mul (oa.odd fun h0 => h (.inl h0)) (ob.odd fun h0 => h (.inr h0))) (by omega) (by omega)
theorem r_Mul {p q : PV} {a b : Dy} (ha : RD p a) (hb : RD q b) : PC E 249 [p, q] (mulV a b) := by
  have k1 := r_Bare ha
  have k2 := r_Bare hb
  have oa := ha.ok
  have ob := hb.ok
  have ba := ha.bits
  have bb := hb.bits
  obtain ⟨s1, P, x1, e1, rfl, -⟩ := ha
  obtain ⟨s2, Q, x2, e2, rfl, -⟩ := hb
  refine PC.of_body follows Tryz.func249 (by decide +kernel) rfl (by kernel_rfl) (Nat.le_of_ble_eq_true rfl) (walk ?_)
  unfold okD at k1 k2
  by_cases fa : a.fits
  case neg =>
    rw [if_neg fa] at k1
    unfold mulV
    rw [if_neg (fun h => fa h.1)]
    simp only [Dy.pv, Dy.zero, DP, NN, NL] at k1 ⊢
    simp only [Tryz.f249, go_sem]
    refine qcall_i (k1) ?_; simp only [Tryz.f249, go_sem]
    try rfl
  rw [if_pos fa] at k1
  by_cases fb : b.fits
  case neg =>
    rw [if_neg fb] at k2
    unfold mulV
    rw [if_neg (fun h => fb h.2.1)]
    simp only [Dy.pv, Dy.zero, DP, NN, NL] at k1 k2 ⊢
    simp only [Tryz.f249, go_sem]
    refine qcall_i (k1) ?_; simp only [Tryz.f249, go_sem]
    refine qcall_i (k2) ?_; simp only [Tryz.f249, go_sem]
    try rfl
  rw [if_pos fb] at k2
  have k3 := k_prodMul (num_bits ba) (num_bits bb) ba bb
  have fa1 := fa.1
  have fa2 := fa.2
  have fb1 := fb.1
  have fb2 := fb.2
  have w1 : IntKind.wrap .i64 (a.e + b.e) = a.e + b.e := wrap64 (by omega) (by omega)
  have hm := mk_mul oa ob fa fb
  unfold pmV at k3
  by_cases h0 : a.m = 0 ∨ b.m = 0
  · rw [if_pos h0] at k3
    have k4 := r_Make (q := .lst 0 []) num_nil (by decide) (a.s != b.s) (a.e + b.e)
    have e0 : okD (mkD (a.s != b.s) 0 (a.e + b.e)) = .tuple [Dy.zero.pv, .int .i64 0] := rfl
    rw [e0] at k4
    have hms : mulS a b = .zero := if_pos h0
    have e1 : mulV a b = .tuple [Dy.zero.pv, .int .i64 0] := by
      unfold mulV
      rw [if_pos ⟨fa, fb, fun h h' => absurd h0 (by omega), by rw [hms]; decide⟩, hms]
    rw [e1]
    simp only [Dy.pv, Dy.zero, DP, NN, NL] at k1 k2 k3 k4 ⊢
    simp only [Tryz.f249, go_sem]
    refine qcall_i (k1) ?_; simp only [Tryz.f249, go_sem]
    refine qcall_i (k2) ?_; simp only [Tryz.f249, go_sem]
    refine qcall_i (k3) ?_; simp only [Tryz.f249, w1, go_sem]
    refine qcall_i (k4) ?_; simp only [Tryz.f249, go_sem]
    try rfl
  · rw [if_neg h0] at k3
    by_cases hl : bitLen a.m + bitLen b.m ≤ 65536
    · rw [if_pos hl] at k3
      have hbl := bitLen_mul_le a.m b.m
      have k4 := r_Make (num_bits (x := a.m * b.m) (by omega)) (by omega) (a.s != b.s) (a.e + b.e)
      rw [hm] at k4
      have e1 : mulV a b = okD (mulS a b) := by
        unfold mulV okD
        by_cases hf : (mulS a b).fits
        · rw [if_pos hf, if_pos ⟨fa, fb, fun _ _ => hl, hf⟩]
        · rw [if_neg hf, if_neg (fun h => hf h.2.2.2)]
      rw [e1]
      obtain ⟨S1, S2, S3, S4, S5, hS⟩ := okD_ex (mulS a b)
      rw [hS] at k4 ⊢
      simp only [Dy.pv, Dy.zero, DP, NN, NL] at k1 k2 k3 k4 ⊢
      simp only [Tryz.f249, go_sem]
      refine qcall_i (k1) ?_; simp only [Tryz.f249, go_sem]
      refine qcall_i (k2) ?_; simp only [Tryz.f249, go_sem]
      refine qcall_i (k3) ?_; simp only [Tryz.f249, w1, go_sem]
      refine qcall_i (k4) ?_; simp only [Tryz.f249, go_sem]
      try rfl
    · rw [if_neg hl] at k3
      unfold mulV
      rw [if_neg (fun h => hl (h.2.2.1 (fun h1 => h0 (.inl h1)) (fun h1 => h0 (.inr h1))))]
      simp only [Dy.pv, Dy.zero, DP, NN, NL] at k1 k2 k3 ⊢
      simp only [Tryz.f249, go_sem]
      refine qcall_i (k1) ?_; simp only [Tryz.f249, go_sem]
      refine qcall_i (k2) ?_; simp only [Tryz.f249, go_sem]
      refine qcall_i (k3) ?_; simp only [Tryz.f249, w1, go_sem]
      try rfl
theorem c_dOf (n : Int) (h0 : -9223372036854775808 ≤ n) (h1 : n < 9223372036854775808) : PC E 44 [.int .i64 n] (norm n 0).pv := by
  refine PC.of_body follows Tryz.func44 (by decide +kernel) rfl (by kernel_rfl) (Nat.le_of_ble_eq_true rfl) (walk ?_)
  have k1 := c_bare (p := .lst 1 [.int .u64 (n.natAbs : Int)]) (num_one (show n.natAbs < W by show n.natAbs < 18446744073709551616; omega)) (Nat.le_trans ((bitLen_le n.natAbs 64).2 (by show n.natAbs < 18446744073709551616; omega)) (by decide)) (decide (n < 0)) 0
  have w1 : ¬ n < 0 → IntKind.wrap .u64 n = (n.natAbs : Int) := fun h => by rw [IntKind.wrap_u64]; omega
  have w2 : n < 0 → IntKind.wrap .u64 (0 - IntKind.wrap .u64 n) = (n.natAbs : Int) := fun h => by rw [IntKind.wrap_u64, IntKind.wrap_u64]; omega
  unfold norm
  simp only [Dy.pv, DP, NN, NL] at k1 ⊢
  by_cases hn : n < 0
  · have w2 := w2 hn
    simp only [Tryz.f44, go_sem]
    refine qif_dt hn ?_
    simp only [Tryz.f44, w2, go_sem]
    refine qcall_i (k1) ?_; simp only [Tryz.f44, go_sem]
    try rfl
  · have w1 := w1 hn
    simp only [Tryz.f44, go_sem]
    refine qif_df hn ?_
    simp only [Tryz.f44, w1, go_sem]
    refine qcall_i (k1) ?_; simp only [Tryz.f44, go_sem]
    try rfl
theorem norm_bits (z k : Int) : bitLen (norm z k).m ≤ bitLen z.natAbs := mkD_bits _ _ _
theorem addS_bits {a b : Dy} (oa : a.ok) (ob : b.ok) (h : addE a b) : bitLen (addS a b).m ≤ max 65537 (max (bitLen a.m) (bitLen b.m)) := by
  obtain ⟨fa, fb, hs, -⟩ := h
  by_cases za : a.m = 0
  · rw [addS_zl ob fa fb za]; omega
  by_cases zb : b.m = 0
  · rw [addS_zr oa fa fb zb]; omega
  have hs := hs za zb
  have ta := top_of za
  have tb := top_of zb
  have pa := bitLen_pos za
  have pb := bitLen_pos zb
  have h1 := natAbs_at' a (min a.e b.e)
  have h2 := natAbs_at' b (min a.e b.e)
  have s1 := bitLen_shl_le a.m (a.e - min a.e b.e).toNat
  have s2 := bitLen_shl_le b.m (b.e - min a.e b.e).toNat
  rw [← h1] at s1
  rw [← h2] at s2
  have s3 := bitLen_add (x := (a.at (min a.e b.e)).natAbs) (y := (b.at (min a.e b.e)).natAbs) (n := 65536) (by omega) (by omega)
  have s4 := norm_bits (a.at (min a.e b.e) + b.at (min a.e b.e)) (min a.e b.e)
  have s5 : bitLen (a.at (min a.e b.e) + b.at (min a.e b.e)).natAbs ≤ bitLen ((a.at (min a.e b.e)).natAbs + (b.at (min a.e b.e)).natAbs) := bitLen_mono (by omega)
  have : bitLen (addS a b).m ≤ bitLen (a.at (min a.e b.e) + b.at (min a.e b.e)).natAbs := s4
  omega
theorem mulS_bits (a b : Dy) : bitLen (mulS a b).m ≤ bitLen a.m + bitLen b.m := by
  unfold mulS
  split
  · exact Nat.zero_le _
  · exact bitLen_mul_le _ _
theorem RD.add {a b : Dy} (oa : a.ok) (ob : b.ok) (ba : bitLen a.m ≤ 900000) (bb : bitLen b.m ≤ 900000) (h : addE a b) : RD (addS a b).pv (addS a b) :=
  RD.fit (addS_ok a b) (by have := addS_bits oa ob h; omega) h.2.2.2
theorem RD.mul {a b : Dy} (oa : a.ok) (ob : b.ok) (h : mulE a b) : RD (mulS a b).pv (mulS a b) :=
  RD.fit (mulS_ok oa ob) (by
    by_cases h0 : a.m = 0 ∨ b.m = 0
    · rw [show mulS a b = .zero from if_pos h0]; decide
    · have := mulS_bits a b
      have := h.2.2.1 (fun h1 => h0 (.inl h1)) (fun h1 => h0 (.inr h1))
      omega) h.2.2.2
end
end
section
section
open Go PG Go.Proofs
theorem dq_lt {B a u y q : Nat} (h : a * B + u < q * y) (hy : 0 < y) : (a * B + u) / y < q := (Nat.div_lt_iff_lt_mul hy).2 h
theorem dq_keep {B n1 n0 q r a v : Nat} (h0 : n0 < B) (hv : v < B) (e : q * n1 + r = a) (hq : (a * B + v) / (n1 * B + n0) ≤ q) (hlt : a < n1 * B + n0) (hc : B ≤ q ∨ B * r + v < q * n0) :
    (a * B + v) / (n1 * B + n0) ≤ q - 1 ∧ 0 < q ∧ (q - 1) * n1 + (r + n1) = a := by
  have hy : 0 < n1 * B + n0 := by omega
  have key : (a * B + v) / (n1 * B + n0) < q := by
    rcases hc with hc | hc
    · refine Nat.lt_of_lt_of_le (dq_lt (q := B) ?_ hy) hc
      have : (a + 1) * B ≤ (n1 * B + n0) * B := Nat.mul_le_mul_right B hlt
      rw [Nat.mul_comm B]
      rw [Nat.add_mul, Nat.one_mul] at this
      omega
    · refine dq_lt ?_ hy
      have e1 : q * (n1 * B + n0) = q * n1 * B + q * n0 := by rw [Nat.mul_add, Nat.mul_assoc]
      have e2 : a * B = q * n1 * B + B * r := by rw [← e, Nat.add_mul, Nat.mul_comm r]
      omega
  have hq0 : 0 < q := Nat.lt_of_le_of_lt (Nat.zero_le _) key
  refine ⟨by omega, hq0, ?_⟩
  obtain ⟨p, rfl⟩ : ∃ p, q = p + 1 := ⟨q - 1, by omega⟩
  rw [Nat.add_sub_cancel]
  rw [Nat.add_mul, Nat.one_mul] at e
  omega
theorem dq_done {B n1 n0 q r a v : Nat} (e : q * n1 + r = a) (hq : (a * B + v) / (n1 * B + n0) ≤ q) (hy : 0 < n1 * B + n0) (hc : q * n0 ≤ B * r + v) : (a * B + v) / (n1 * B + n0) = q := by
  refine Nat.le_antisymm hq ((Nat.le_div_iff_mul_le hy).2 ?_)
  have e1 : q * (n1 * B + n0) = q * n1 * B + q * n0 := by rw [Nat.mul_add, Nat.mul_assoc]
  have e2 : a * B = q * n1 * B + B * r := by rw [← e, Nat.add_mul, Nat.mul_comm r]
  omega
theorem dq_first {B n1 n0 a v : Nat} (h1 : 0 < n1) (hv : v < B) : (a * B + v) / (n1 * B + n0) ≤ a / n1 := by
  have hB : 0 < B := by omega
  have hy : 0 < n1 * B := Nat.mul_pos h1 hB
  refine Nat.le_trans (Nat.div_le_div_left (Nat.le_add_right _ n0) hy) ?_
  rw [Nat.mul_comm n1, ← Nat.div_div_eq_div_mul]
  refine Nat.div_le_div_right ?_
  rw [Nat.mul_comm a, Nat.mul_add_div hB, Nat.div_eq_of_lt hv, Nat.add_zero]
  exact Nat.le_refl _
theorem dq_up {B n1 n0 a : Nat} (h1 : B ≤ 2 * n1) (h0 : n0 < B) (hlt : a < n1 * B + n0) : a / n1 ≤ B + 1 := by
  have hn : 0 < n1 := by omega
  refine Nat.le_of_lt_succ ((Nat.div_lt_iff_lt_mul hn).2 ?_)
  have : (B + 1 + 1) * n1 = n1 * B + 2 * n1 := by rw [Nat.add_mul, Nat.add_mul, Nat.mul_comm B]; omega
  show a < (B + 1 + 1) * n1
  omega
theorem dq_two {B a v w y : Nat} (hy : 0 < y) (hw : w < B) (ha : a < y) (hv : v < B) :
    ((a * B + v) * B + w) / y = (a * B + v) / y * B + ((a * B + v) % y * B + w) / y ∧ ((a * B + v) * B + w) % y = ((a * B + v) % y * B + w) % y := by
  have hd := Nat.div_add_mod (a * B + v) y
  generalize (a * B + v) / y = q at *
  generalize (a * B + v) % y = r at *
  have e : (a * B + v) * B + w = y * (q * B) + (r * B + w) := by
    rw [← hd, Nat.add_mul, Nat.mul_assoc, Nat.add_assoc]
  rw [e]
  exact ⟨by rw [Nat.mul_add_div hy], by rw [Nat.mul_add_mod]⟩
theorem dq_shift {n y s : Nat} : n * 2 ^ s / (y * 2 ^ s) = n / y ∧ n * 2 ^ s % (y * 2 ^ s) / 2 ^ s = n % y := by
  have hp := Nat.two_pow_pos s
  exact ⟨Nat.mul_div_mul_right _ _ hp, by rw [Nat.mul_mod_mul_right, Nat.mul_div_cancel _ hp]⟩
end
section
open Go PG Go.Proofs
theorem c_Lead (x : Nat) (hx : x < W) : PC E 239 [u x] (.int .i64 (64 - (bitLen x : Int))) := by
  have k1 := c_Len64 x hx
  have hb := (bitLen_le x 64).2 hx
  have w1 : IntKind.wrap .i64 (64 - (bitLen x : Int)) = 64 - (bitLen x : Int) := wrap64 (by omega) (by omega)
  simp only [u] at k1 ⊢
  refine PC.of_body follows Tryz.func239 (by decide +kernel) rfl (by kernel_rfl) (Nat.le_of_ble_eq_true rfl) (walk ?_)
  simp only [Tryz.f239, go_sem]
  refine qcall_i (k1) ?_; simp only [Tryz.f239, w1, go_sem]
  try rfl
theorem or_low {a b s : Nat} (h : b < 2 ^ s) : a * 2 ^ s ||| b = a * 2 ^ s + b := by
  rw [Nat.mul_comm, Nat.two_pow_add_eq_or_of_lt h]
theorem norm_top {y : Nat} (h0 : y ≠ 0) (hy : y < W) : bitLen y ≤ 64 ∧ 9223372036854775808 ≤ y * 2 ^ (64 - bitLen y) ∧ y * 2 ^ (64 - bitLen y) < W := by
  have hb := (bitLen_le y 64).2 hy
  have hp := bitLen_pos h0
  have h1 := (bitLen_le y (bitLen y)).1 (Nat.le_refl _)
  have h2 : 2 ^ (bitLen y - 1) ≤ y := Nat.not_lt.1 fun h => by have := (bitLen_le y (bitLen y - 1)).2 h; omega
  refine ⟨hb, ?_, ?_⟩
  · have : 2 ^ (bitLen y - 1) * 2 ^ (64 - bitLen y) = 9223372036854775808 := by
      rw [← Nat.pow_add, show bitLen y - 1 + (64 - bitLen y) = 63 by omega]
    rw [← this]
    exact Nat.mul_le_mul_right _ h2
  · have : 2 ^ bitLen y * 2 ^ (64 - bitLen y) = W := by
      rw [← Nat.pow_add, show bitLen y + (64 - bitLen y) = 64 by omega]
    rw [← this]
    exact Nat.mul_lt_mul_of_pos_right h1 (Nat.two_pow_pos _)
set_option maxHeartbeats 4000000 in
theorem c_Div64 {hi lo y : Nat} (hy : y < W) (hl : lo < W) (hh : hi < y) : PC E 238 [u hi, u lo, u y] (.tuple [u ((hi * W + lo) / y), u ((hi * W + lo) % y)]) := by
  have hy' : y < 18446744073709551616 := hy
  have hl' : lo < 18446744073709551616 := hl
  have hy0 : ¬ (y : Int) = 0 := by omega
  by_cases h0 : hi = 0
  · subst h0
    rw [Nat.zero_mul, Nat.zero_add]
    have d1 : IntKind.wrap .u64 ((lo : Int).tdiv (y : Int)) = ((lo / y : Nat) : Int) := by
      rw [n_tdiv]; exact wrap_nat64 (Nat.lt_of_le_of_lt (Nat.div_le_self _ _) hl)
    have d2 : (lo : Int).tmod (y : Int) = ((lo % y : Nat) : Int) := n_tmod lo y
    simp only [u]
    refine PC.of_body follows Tryz.func238 (by decide +kernel) rfl (by kernel_rfl) (Nat.le_of_ble_eq_true rfl) (walk ?_)
    simp only [Tryz.f238, Int.cast_ofNat_Int, go_sem]
    refine qif_df hy0 ?_
    simp only [Tryz.f238, Int.cast_ofNat_Int, go_sem]
    refine qif_df (by omega) ?_
    simp only [Tryz.f238, Int.cast_ofNat_Int, d1, d2, go_sem]
    refine qand_i hy0 ?_
    simp only [Tryz.f238, Int.cast_ofNat_Int, d1, d2, go_sem]
    refine qand_i hy0 ?_
    simp only [Tryz.f238, Int.cast_ofNat_Int, d1, d2, go_sem]
    try exact ⟨rfl, rfl⟩
    try rfl
  obtain ⟨b1, b2, b3⟩ := norm_top (y := y) (by omega) hy
  have kl := c_Lead y hy
  have hbp := bitLen_pos (x := y) (by omega)
  obtain ⟨s, hs⟩ : ∃ s, s = 64 - bitLen y := ⟨_, rfl⟩
  rw [show (64 : Int) - (bitLen y : Int) = (s : Int) by omega] at kl
  rw [← hs] at b2 b3
  have hs63 : s ≤ 63 := by omega
  have hp := Nat.two_pow_pos s
  -- the shifted numbers
  have hN : (hi * W + lo) * 2 ^ s = (hi * 2 ^ s + lo / 2 ^ (64 - s)) * W + lo * 2 ^ s % W := by
    have hW : W = 2 ^ (64 - s) * 2 ^ s := by rw [← Nat.pow_add, show 64 - s + s = 64 by omega]
    have e1 : lo * 2 ^ s % W = lo % 2 ^ (64 - s) * 2 ^ s := by rw [hW, Nat.mul_mod_mul_right]
    have e2 := Nat.div_add_mod lo (2 ^ (64 - s))
    rw [e1, Nat.add_mul, Nat.add_mul, Nat.mul_right_comm, Nat.add_assoc]
    congr 1
    conv => lhs; rw [← e2]
    rw [Nat.add_mul]
    congr 1
    rw [hW, Nat.mul_comm (2 ^ (64 - s)) (lo / _), Nat.mul_assoc]
  have hlow : lo / 2 ^ (64 - s) < 2 ^ s := by
    rw [Nat.div_lt_iff_lt_mul (Nat.two_pow_pos _), ← Nat.pow_add, show s + (64 - s) = 64 by omega]
    exact hl
  have hA : hi * 2 ^ s + lo / 2 ^ (64 - s) < y * 2 ^ s := by
    have : (hi + 1) * 2 ^ s ≤ y * 2 ^ s := Nat.mul_le_mul_right _ hh
    rw [Nat.add_mul, Nat.one_mul] at this
    omega
  have hdv := dq_shift (n := hi * W + lo) (y := y) (s := s)
  rw [hN] at hdv
  rw [← hdv.1, ← hdv.2]
  have hhi : hi * 2 ^ s < W := Nat.lt_of_le_of_lt (Nat.le_add_right _ _) (Nat.lt_trans hA b3)
  have s1 : IntKind.wrap .u64 ((y : Int) * 2 ^ (min s 64)) = ((y * 2 ^ s : Nat) : Int) := by rw [b_shl, Nat.mod_eq_of_lt b3]
  have s2 : IntKind.wrap .u64 ((hi : Int) * 2 ^ (min s 64)) = ((hi * 2 ^ s : Nat) : Int) := by rw [b_shl, Nat.mod_eq_of_lt hhi]
  have s3 : IntKind.wrap .u64 (64 - (s : Int)) = ((64 - s : Nat) : Int) := by rw [IntKind.wrap_u64]; omega
  have s4 : (lo : Int).fdiv (2 ^ (min (64 - s) 64)) = ((lo / 2 ^ (64 - s) : Nat) : Int) := b_shr hl (64 - s)
  have s5 : bits .or .u64 ((hi * 2 ^ s : Nat) : Int) ((lo / 2 ^ (64 - s) : Nat) : Int) = ((hi * 2 ^ s + lo / 2 ^ (64 - s) : Nat) : Int) := by
    rw [b_or hhi (Nat.lt_of_lt_of_le hlow (by have := Nat.pow_le_pow_right (show 0 < 2 by decide) (show s ≤ 64 by omega); exact this)), or_low hlow]
  have s6 : IntKind.wrap .u64 ((lo : Int) * 2 ^ (min s 64)) = ((lo * 2 ^ s % W : Nat) : Int) := b_shl lo s
  have hYm : lo * 2 ^ s % W < W := Nat.mod_lt _ W0
  have w8 : IntKind.wrap .u64 (s : Int) = (s : Int) := wrap_nat64 (show s < 18446744073709551616 by omega)
  generalize hi * 2 ^ s + lo / 2 ^ (64 - s) = A at *
  generalize lo * 2 ^ s % W = v at *
  generalize y * 2 ^ s = Y at *
  generalize hi * 2 ^ s = hs2 at *
  generalize lo / 2 ^ (64 - s) = ls2 at *
  have b3' : Y < 18446744073709551616 := b3
  have hYm' : v < 18446744073709551616 := hYm
  -- halves of words
  have a1 := b_shr b3 32
  have a2 : bits .and .u64 (Y : Int) 4294967295 = ((Y % 2 ^ 32 : Nat) : Int) := m_and Y 32 4294967295 b3 (by decide) (by decide)
  have a3 := b_shr hYm 32
  have a4 : bits .and .u64 (v : Int) 4294967295 = ((v % 2 ^ 32 : Nat) : Int) := m_and v 32 4294967295 hYm (by decide) (by decide)
  rw [show (2 : Nat) ^ 32 = 4294967296 by decide] at a1 a2 a3 a4
  have hYe := Nat.div_add_mod Y 4294967296
  have hve := Nat.div_add_mod v 4294967296
  have hn0 := Nat.mod_lt Y (show 4294967296 > 0 by decide)
  have hv0 := Nat.mod_lt v (show 4294967296 > 0 by decide)
  have hv1 : v / 4294967296 < 4294967296 := by omega
  have hn1 : 4294967296 ≤ 2 * (Y / 4294967296) := by omega
  have htwo := dq_two (B := 4294967296) (a := A) (v := v / 4294967296) (w := v % 4294967296) (y := Y) (by omega) hv0 hA hv1
  have hW2 : A * W + v = (A * 4294967296 + v / 4294967296) * 4294967296 + v % 4294967296 := by
    have hW0 : W = 18446744073709551616 := rfl
    have hW : W = 4294967296 * 4294967296 := by omega
    rw [hW, Nat.add_mul, Nat.mul_assoc]
    omega
  rw [hW2, htwo.1, htwo.2]
  have hYd : Y / 4294967296 * 4294967296 + Y % 4294967296 = Y := Nat.div_add_mod' Y 4294967296
  generalize hN1 : Y / 4294967296 = n1 at *
  generalize hN0 : Y % 4294967296 = n0 at *
  generalize v / 4294967296 = v1 at *
  generalize v % 4294967296 = v0 at *
  clear hN hlow hdv hW2 htwo hYe hve hs hN1 hN0
  obtain ⟨Q1, hQ1⟩ : ∃ Q, Q = (A * 4294967296 + v1) / Y := ⟨_, rfl⟩
  obtain ⟨R1, hR1⟩ : ∃ R, R = (A * 4294967296 + v1) % Y := ⟨_, rfl⟩
  obtain ⟨Q0, hQ0⟩ : ∃ Q, Q = (R1 * 4294967296 + v0) / Y := ⟨_, rfl⟩
  rw [← hQ1, ← hR1, ← hQ0]
  have hR1Y : R1 < Y := by rw [hR1]; exact Nat.mod_lt _ (by omega)
  have hd1 := Nat.div_add_mod (A * 4294967296 + v1) Y
  have hd0 := Nat.div_add_mod (R1 * 4294967296 + v0) Y
  rw [← hQ1, ← hR1] at hd1
  rw [← hQ0] at hd0
  have hR0Y : (R1 * 4294967296 + v0) % Y < Y := Nat.mod_lt _ (by omega)
  obtain ⟨R0, hR0⟩ : ∃ R, R = (R1 * 4294967296 + v0) % Y := ⟨_, rfl⟩
  rw [← hR0] at hd0 hR0Y ⊢
  obtain ⟨QQ, hQQ⟩ : ∃ Q, Q = Q1 * 4294967296 + Q0 := ⟨_, rfl⟩
  rw [← hQQ]
  obtain ⟨RR, hRR⟩ : ∃ R, R = R0 / 2 ^ s := ⟨_, rfl⟩
  rw [← hRR]
  refine PC.of_sem Tryz.func238 (by decide +kernel) rfl (Nat.le_of_ble_eq_true rfl) ?_
  refine PSem.cut follows (by kernel_rfl) 15 (fun _ : Unit => ⟨[(2, .val (.int .u64 Y)), (8, .val (.int .u64 s)), (9, .val (.int .u64 n1)), (10, .val (.int .u64 n0)), (11, .val (.int .u64 A)), (13, .val (.int .u64 v1)), (14, .val (.int .u64 v0)), (15, .val (.int .u64 Q1))], []⟩)
    (fun _ => True) ?_ (fun _ _ => ?_)
  · simp only [u] at kl ⊢
    have d1 : IntKind.wrap .u64 ((A : Int).tdiv (n1 : Int)) = ((A / n1 : Nat) : Int) := by
      rw [n_tdiv]; exact wrap_nat64 (Nat.lt_of_le_of_lt (Nat.div_le_self _ _) (show A < 18446744073709551616 by omega))
    have d2 : IntKind.wrap .u64 ((A : Int) - IntKind.wrap .u64 (((A / n1 : Nat) : Int) * (n1 : Int))) = ((A % n1 : Nat) : Int) := by
      have e := Nat.div_add_mod A n1
      have e2 : ((A / n1 : Nat) : Int) * (n1 : Int) = ((n1 * (A / n1) : Nat) : Int) := by rw [Nat.mul_comm]; simp
      rw [e2, wrap_nat64 (show _ < 18446744073709551616 by omega), IntKind.wrap_u64]
      omega
    simp only [Tryz.f238, qfirst_succ, qfirst_zero, after_succ, after_zero, Int.cast_ofNat_Int, go_sem]
    refine qif_df hy0 ?_
    simp only [Tryz.f238, qfirst_succ, qfirst_zero, after_succ, after_zero, Int.cast_ofNat_Int, go_sem]
    refine qif_df (by omega) ?_
    simp only [Tryz.f238, qfirst_succ, qfirst_zero, after_succ, after_zero, Int.cast_ofNat_Int, go_sem]
    refine qif_df (by omega) ?_
    simp only [Tryz.f238, qfirst_succ, qfirst_zero, after_succ, after_zero, Int.cast_ofNat_Int, go_sem]
    refine qcall_i (kl) ?_; simp only [Tryz.f238, qfirst_succ, qfirst_zero, after_succ, after_zero, Int.cast_ofNat_Int, w8, s1, s2, s3, s4, s5, s6, a1, a2, a3, a4, d1, d2, go_sem]
    repeat' ((with_reducible refine qand_i (by omega) ?_); simp only [Tryz.f238, qfirst_succ, qfirst_zero, after_succ, after_zero, Int.cast_ofNat_Int, w8, s1, s2, s3, s4, s5, s6, a1, a2, a3, a4, d1, d2, go_sem])
    refine PLoop.intro (fun i : Nat × Nat => ⟨[(2, .val (.int .u64 Y)), (8, .val (.int .u64 s)), (9, .val (.int .u64 n1)), (10, .val (.int .u64 n0)), (11, .val (.int .u64 A)), (13, .val (.int .u64 v1)), (14, .val (.int .u64 v0)), (15, .val (.int .u64 i.1)), (16, .val (.int .u64 i.2))], []⟩)
      (fun i => i.1 * n1 + i.2 = A ∧ Q1 ≤ i.1 ∧ i.1 ≤ 4294967297 ∧ i.2 < 4294967296) (fun i => i.1) (A / n1, A % n1) ⟨Nat.div_add_mod' A n1, by rw [hQ1, ← hYd]; exact dq_first (by omega) hv1, dq_up hn1 hn0 (by omega), by have := Nat.mod_lt A (show n1 > 0 by omega); dsimp only; omega⟩ ?_ fun i hi => walk ?_
    · simp [Wk, sget, killL, kill1, SV.key]
    obtain ⟨q, r⟩ := i
    obtain ⟨j1, j2, j3, j4⟩ := hi
    dsimp only at j1 j2 j3 j4 ⊢
    have hQ1' : Q1 = (A * 4294967296 + v1) / (n1 * 4294967296 + n0) := by rw [hYd]; exact hQ1
    have hAy : A < n1 * 4294967296 + n0 := by omega
    have wq : q < 4294967296 → IntKind.wrap .u64 ((q : Int) * (n0 : Int)) = ((q * n0 : Nat) : Int) := fun h => by
      rw [← Int.natCast_mul]
      refine wrap_nat64 ?_
      have : q * n0 ≤ 4294967295 * 4294967295 := Nat.mul_le_mul (by omega) (by omega)
      show q * n0 < 18446744073709551616
      omega
    have wr : IntKind.wrap .u64 (4294967296 * (r : Int)) = ((4294967296 * r : Nat) : Int) := by rw [IntKind.wrap_u64]; omega
    have wa : IntKind.wrap .u64 (((4294967296 * r : Nat) : Int) + (v1 : Int)) = ((4294967296 * r + v1 : Nat) : Int) := by rw [IntKind.wrap_u64]; omega
    have wd : 0 < q → IntKind.wrap .u64 ((q : Int) - 1) = ((q - 1 : Nat) : Int) := fun h => by rw [IntKind.wrap_u64]; omega
    have we : IntKind.wrap .u64 ((r : Int) + (n1 : Int)) = ((r + n1 : Nat) : Int) := by rw [IntKind.wrap_u64]; omega
    have hdone : q * n0 ≤ 4294967296 * r + v1 → Q1 = q := fun h => by rw [hQ1']; exact dq_done j1 (by rw [← hQ1']; exact j2) (by omega) h
    have hkeep : 4294967296 ≤ q ∨ 4294967296 * r + v1 < q * n0 → Q1 ≤ q - 1 ∧ 0 < q ∧ (q - 1) * n1 + (r + n1) = A := fun h => by
      have := dq_keep hn0 hv1 j1 (by rw [← hQ1']; exact j2) hAy h
      rwa [← hQ1'] at this
    have hlast : (4294967296 ≤ q ∨ 4294967296 * r + v1 < q * n0) → 4294967296 ≤ r + n1 → Q1 = q - 1 := fun h h2 => by
      obtain ⟨g1, g2, g3⟩ := hkeep h
      rw [hQ1']
      refine dq_done g3 (by rw [← hQ1']; exact g1) (by omega) ?_
      have m1 : (q - 1) * n0 ≤ 4294967296 * n0 := Nat.mul_le_mul_right _ (by omega)
      have m2 : 4294967296 * n0 ≤ 4294967296 * (r + n1) := Nat.mul_le_mul_left _ (by omega)
      omega
    have hgo : (4294967296 ≤ q ∨ 4294967296 * r + v1 < q * n0) → ∃ i : Nat × Nat, (i.1 * n1 + i.2 = A ∧ Q1 ≤ i.1 ∧ i.1 ≤ 4294967297) ∧ i = (q - 1, r + n1) ∧ i.1 < q := fun h => by
      obtain ⟨g1, g2, g3⟩ := hkeep h
      exact ⟨_, ⟨g3, g1, by dsimp only; omega⟩, rfl, by dsimp only; omega⟩
    by_cases h1 : 4294967296 ≤ q
    · obtain ⟨-, g2, -⟩ := hkeep (.inl h1)
      have wd := wd g2
      simp only [Tryz.f238, go_sem]
      refine qif_dt (by omega) ?_
      simp only [Tryz.f238, wd, we, go_sem]
      refine qif_d (fun h3 => ?_) (fun h3 => ?_)
      · have := hlast (.inl h1) (by omega)
        simp only [Tryz.f238, go_sem]
        refine ⟨(), ?_⟩
        simp [Wk, sget, killL, kill1, SV.key, this]
      · obtain ⟨_, ⟨f1, f2, f3⟩, rfl, f4⟩ := hgo (.inl h1)
        simp only [Tryz.f238, go_sem]
        refine ⟨(q - 1, r + n1), ⟨f1, f2, f3, by dsimp only; omega⟩, f4, ?_⟩
        simp [Wk, sget, killL, kill1, SV.key]
    have wq := wq (by omega)
    simp only [Tryz.f238, go_sem]
    refine qif_df (by omega) ?_
    simp only [Tryz.f238, wq, wr, wa, go_sem]
    refine qif_d (fun h2 => ?_) (fun h2 => ?_)
    · have h2' : 4294967296 * r + v1 < q * n0 := by omega
      obtain ⟨-, g2, -⟩ := hkeep (.inr h2')
      have wd := wd g2
      simp only [Tryz.f238, wd, we, go_sem]
      refine qif_d (fun h3 => ?_) (fun h3 => ?_)
      · have := hlast (.inr h2') (by omega)
        simp only [Tryz.f238, go_sem]
        refine ⟨(), ?_⟩
        simp [Wk, sget, killL, kill1, SV.key, this]
      · obtain ⟨_, ⟨f1, f2, f3⟩, rfl, f4⟩ := hgo (.inr h2')
        simp only [Tryz.f238, go_sem]
        refine ⟨(q - 1, r + n1), ⟨f1, f2, f3, by dsimp only; omega⟩, f4, ?_⟩
        simp [Wk, sget, killL, kill1, SV.key]
    · have := hdone (by omega)
      simp only [Tryz.f238, go_sem]
      refine ⟨(), ?_⟩
      simp [Wk, sget, killL, kill1, SV.key, this]
  have hAv : (A : Int) * 4294967296 + v1 - (Q1 : Int) * Y = R1 := by
    have : ((Y * Q1 + R1 : Nat) : Int) = ((A * 4294967296 + v1 : Nat) : Int) := by rw [hd1]
    simp only [Int.natCast_add, Int.natCast_mul] at this
    rw [Int.mul_comm (Y : Int)] at this
    have e : ((4294967296 : Nat) : Int) = 4294967296 := rfl
    rw [e] at this
    omega
  have w17 : IntKind.wrap .u64 (IntKind.wrap .u64 (IntKind.wrap .u64 ((A : Int) * 4294967296) + (v1 : Int)) - IntKind.wrap .u64 ((Q1 : Int) * (Y : Int))) = (R1 : Int) := by
    rw [IntKind.wrap_u64, IntKind.wrap_u64, IntKind.wrap_u64, IntKind.wrap_u64]
    generalize (Q1 : Int) * (Y : Int) = QY at *
    omega
  refine PSem.cut follows (by kernel_rfl) 4 (fun _ : Unit => ⟨[(2, .val (.int .u64 Y)), (8, .val (.int .u64 s)), (14, .val (.int .u64 v0)), (15, .val (.int .u64 Q1)), (17, .val (.int .u64 R1)), (18, .val (.int .u64 Q0))], []⟩)
    (fun _ => True) ?_ (fun _ _ => ?_)
  · have d1 : IntKind.wrap .u64 ((R1 : Int).tdiv (n1 : Int)) = ((R1 / n1 : Nat) : Int) := by
      rw [n_tdiv]; exact wrap_nat64 (Nat.lt_of_le_of_lt (Nat.div_le_self _ _) (show R1 < 18446744073709551616 by omega))
    have d2 : IntKind.wrap .u64 ((R1 : Int) - IntKind.wrap .u64 (((R1 / n1 : Nat) : Int) * (n1 : Int))) = ((R1 % n1 : Nat) : Int) := by
      have e := Nat.div_add_mod R1 n1
      have e2 : ((R1 / n1 : Nat) : Int) * (n1 : Int) = ((n1 * (R1 / n1) : Nat) : Int) := by rw [Nat.mul_comm]; simp
      rw [e2, wrap_nat64 (show _ < 18446744073709551616 by omega), IntKind.wrap_u64]
      omega
    simp only [Tryz.f238, after_succ, after_zero, qfirst_succ, qfirst_zero, after_succ, after_zero, Int.cast_ofNat_Int, w17, d1, d2, go_sem]
    repeat' ((with_reducible refine qand_i (by omega) ?_); simp only [Tryz.f238, qfirst_succ, qfirst_zero, after_succ, after_zero, Int.cast_ofNat_Int, w17, d1, d2, go_sem])
    refine PLoop.intro (fun i : Nat × Nat => ⟨[(2, .val (.int .u64 Y)), (8, .val (.int .u64 s)), (9, .val (.int .u64 n1)), (10, .val (.int .u64 n0)), (14, .val (.int .u64 v0)), (15, .val (.int .u64 Q1)), (16, .val (.int .u64 i.2)), (17, .val (.int .u64 R1)), (18, .val (.int .u64 i.1))], []⟩)
      (fun i => i.1 * n1 + i.2 = R1 ∧ Q0 ≤ i.1 ∧ i.1 ≤ 4294967297 ∧ i.2 < 4294967296) (fun i => i.1) (R1 / n1, R1 % n1) ⟨Nat.div_add_mod' R1 n1, by rw [hQ0, ← hYd]; exact dq_first (by omega) hv0, dq_up hn1 hn0 (by omega), by have := Nat.mod_lt R1 (show n1 > 0 by omega); dsimp only; omega⟩ ?_ fun i hi => walk ?_
    · simp [Wk, sget, killL, kill1, SV.key]
    obtain ⟨q, r⟩ := i
    obtain ⟨j1, j2, j3, j4⟩ := hi
    dsimp only at j1 j2 j3 j4 ⊢
    have hQ0' : Q0 = (R1 * 4294967296 + v0) / (n1 * 4294967296 + n0) := by rw [hYd]; exact hQ0
    have hRy : R1 < n1 * 4294967296 + n0 := by omega
    have wq : q < 4294967296 → IntKind.wrap .u64 ((q : Int) * (n0 : Int)) = ((q * n0 : Nat) : Int) := fun h => by
      rw [← Int.natCast_mul]
      refine wrap_nat64 ?_
      have : q * n0 ≤ 4294967295 * 4294967295 := Nat.mul_le_mul (by omega) (by omega)
      show q * n0 < 18446744073709551616
      omega
    have wr : IntKind.wrap .u64 (4294967296 * (r : Int)) = ((4294967296 * r : Nat) : Int) := by rw [IntKind.wrap_u64]; omega
    have wa : IntKind.wrap .u64 (((4294967296 * r : Nat) : Int) + (v0 : Int)) = ((4294967296 * r + v0 : Nat) : Int) := by rw [IntKind.wrap_u64]; omega
    have wd : 0 < q → IntKind.wrap .u64 ((q : Int) - 1) = ((q - 1 : Nat) : Int) := fun h => by rw [IntKind.wrap_u64]; omega
    have we : IntKind.wrap .u64 ((r : Int) + (n1 : Int)) = ((r + n1 : Nat) : Int) := by rw [IntKind.wrap_u64]; omega
    have hdone : q * n0 ≤ 4294967296 * r + v0 → Q0 = q := fun h => by rw [hQ0']; exact dq_done j1 (by rw [← hQ0']; exact j2) (by omega) h
    have hkeep : 4294967296 ≤ q ∨ 4294967296 * r + v0 < q * n0 → Q0 ≤ q - 1 ∧ 0 < q ∧ (q - 1) * n1 + (r + n1) = R1 := fun h => by
      have := dq_keep hn0 hv0 j1 (by rw [← hQ0']; exact j2) hRy h
      rwa [← hQ0'] at this
    have hlast : (4294967296 ≤ q ∨ 4294967296 * r + v0 < q * n0) → 4294967296 ≤ r + n1 → Q0 = q - 1 := fun h h2 => by
      obtain ⟨g1, g2, g3⟩ := hkeep h
      rw [hQ0']
      refine dq_done g3 (by rw [← hQ0']; exact g1) (by omega) ?_
      have m1 : (q - 1) * n0 ≤ 4294967296 * n0 := Nat.mul_le_mul_right _ (by omega)
      have m2 : 4294967296 * n0 ≤ 4294967296 * (r + n1) := Nat.mul_le_mul_left _ (by omega)
      omega
    have hgo : (4294967296 ≤ q ∨ 4294967296 * r + v0 < q * n0) → ∃ i : Nat × Nat, (i.1 * n1 + i.2 = R1 ∧ Q0 ≤ i.1 ∧ i.1 ≤ 4294967297) ∧ i = (q - 1, r + n1) ∧ i.1 < q := fun h => by
      obtain ⟨g1, g2, g3⟩ := hkeep h
      exact ⟨_, ⟨g3, g1, by dsimp only; omega⟩, rfl, by dsimp only; omega⟩
    by_cases h1 : 4294967296 ≤ q
    · obtain ⟨-, g2, -⟩ := hkeep (.inl h1)
      have wd := wd g2
      simp only [Tryz.f238, go_sem]
      refine qif_dt (by omega) ?_
      simp only [Tryz.f238, wd, we, go_sem]
      refine qif_d (fun h3 => ?_) (fun h3 => ?_)
      · have := hlast (.inl h1) (by omega)
        simp only [Tryz.f238, go_sem]
        refine ⟨(), ?_⟩
        simp [Wk, sget, killL, kill1, SV.key, this]
      · obtain ⟨_, ⟨f1, f2, f3⟩, rfl, f4⟩ := hgo (.inl h1)
        simp only [Tryz.f238, go_sem]
        refine ⟨(q - 1, r + n1), ⟨f1, f2, f3, by dsimp only; omega⟩, f4, ?_⟩
        simp [Wk, sget, killL, kill1, SV.key]
    have wq := wq (by omega)
    simp only [Tryz.f238, go_sem]
    refine qif_df (by omega) ?_
    simp only [Tryz.f238, wq, wr, wa, go_sem]
    refine qif_d (fun h2 => ?_) (fun h2 => ?_)
    · have h2' : 4294967296 * r + v0 < q * n0 := by omega
      obtain ⟨-, g2, -⟩ := hkeep (.inr h2')
      have wd := wd g2
      simp only [Tryz.f238, wd, we, go_sem]
      refine qif_d (fun h3 => ?_) (fun h3 => ?_)
      · have := hlast (.inr h2') (by omega)
        simp only [Tryz.f238, go_sem]
        refine ⟨(), ?_⟩
        simp [Wk, sget, killL, kill1, SV.key, this]
      · obtain ⟨_, ⟨f1, f2, f3⟩, rfl, f4⟩ := hgo (.inr h2')
        simp only [Tryz.f238, go_sem]
        refine ⟨(q - 1, r + n1), ⟨f1, f2, f3, by dsimp only; omega⟩, f4, ?_⟩
        simp [Wk, sget, killL, kill1, SV.key]
    · have := hdone (by omega)
      simp only [Tryz.f238, go_sem]
      refine ⟨(), ?_⟩
      simp [Wk, sget, killL, kill1, SV.key, this]
  have hRv : (R1 : Int) * 4294967296 + v0 - (Q0 : Int) * Y = R0 := by
    have : ((Y * Q0 + R0 : Nat) : Int) = ((R1 * 4294967296 + v0 : Nat) : Int) := by rw [hd0]
    simp only [Int.natCast_add, Int.natCast_mul] at this
    rw [Int.mul_comm (Y : Int)] at this
    have e : ((4294967296 : Nat) : Int) = 4294967296 := rfl
    rw [e] at this
    omega
  have x1 : IntKind.wrap .u64 (IntKind.wrap .u64 (IntKind.wrap .u64 ((R1 : Int) * 4294967296) + (v0 : Int)) - IntKind.wrap .u64 ((Q0 : Int) * (Y : Int))) = (R0 : Int) := by
    rw [IntKind.wrap_u64, IntKind.wrap_u64, IntKind.wrap_u64, IntKind.wrap_u64]
    generalize (Q0 : Int) * (Y : Int) = QY at *
    omega
  have q1B : Q1 < 4294967296 := by
    rw [hQ1, Nat.div_lt_iff_lt_mul (by omega)]
    have : (A + 1) * 4294967296 ≤ Y * 4294967296 := Nat.mul_le_mul_right _ hA
    rw [Nat.mul_comm 4294967296 Y]
    omega
  have q0B : Q0 < 4294967296 := by
    rw [hQ0, Nat.div_lt_iff_lt_mul (by omega)]
    have : (R1 + 1) * 4294967296 ≤ Y * 4294967296 := Nat.mul_le_mul_right _ hR1Y
    rw [Nat.mul_comm 4294967296 Y]
    omega
  have x2 : IntKind.wrap .u64 (IntKind.wrap .u64 ((Q1 : Int) * 4294967296) + (Q0 : Int)) = (QQ : Int) := by
    rw [IntKind.wrap_u64, IntKind.wrap_u64]; omega
  have x3 : (R0 : Int).fdiv (2 ^ (min s 64)) = (RR : Int) := by rw [hRR]; exact b_shr (show R0 < 18446744073709551616 by omega) s
  refine PSem.last follows (by kernel_rfl) ?_
  simp only [Tryz.f238, after_succ, after_zero, x1, x2, x3, go_sem]
  repeat' ((with_reducible refine qand_i (by omega) ?_); simp only [Tryz.f238, x1, x2, x3, go_sem])
  try exact ⟨rfl, rfl⟩
  try rfl
end
section
open Go PG Go.Proofs
def outL (X n i : Nat) : List Nat := (List.range n).map fun j => if j < i then 0 else X / W ^ j % W
theorem outL_len (X n i : Nat) : (outL X n i).length = n := by simp [outL]
theorem outL_all (X n : Nat) : outL X n n = List.replicate n 0 := by
  unfold outL
  apply List.ext_getElem
  · simp
  · intro j h1 h2
    simp at h1
    simp [h1]
theorem outL_zero (X n : Nat) : outL X n 0 = tab W X n := by
  unfold outL tab
  simp
theorem outL_set {X n i : Nat} (hi : i < n) : (U (outL X n (i + 1))).set i (.int .u64 ((X / W ^ i % W : Nat) : Int)) = U (outL X n i) := by
  unfold U
  show (List.map u _).set i (u (X / W ^ i % W)) = _
  rw [← List.map_set]
  congr 1
  unfold outL
  apply List.ext_getElem
  · simp
  · intro j h1 h2
    simp at h1 h2
    rw [List.getElem_set]
    by_cases hj : i = j
    · subst hj; simp
    · simp only [hj, if_false, List.getElem_map, List.getElem_range]
      by_cases h3 : j < i
      · rw [if_pos (by omega), if_pos h3]
      · rw [if_neg (by omega), if_neg h3]
theorem small_step {X n i : Nat} (hn : 0 < n) : (X / W ^ (i + 1) % n * W + X / W ^ i % W) / n = X / n / W ^ i % W ∧ (X / W ^ (i + 1) % n * W + X / W ^ i % W) % n = X / W ^ i % n := by
  have e1 : X / W ^ (i + 1) = X / W ^ i / W := by rw [Nat.pow_succ, Nat.div_div_eq_div_mul]
  have e2 : X / n / W ^ i = X / W ^ i / n := by rw [Nat.div_div_eq_div_mul, Nat.div_div_eq_div_mul, Nat.mul_comm]
  rw [e1, e2]
  generalize X / W ^ i = Y
  have h1 := Nat.div_add_mod Y W
  have h2 := Nat.div_add_mod (Y / W) n
  have h3 : Y / W % n * W + Y % W < n * W := by
    have a := Nat.mod_lt (Y / W) hn
    have b := Nat.mod_lt Y W0
    have : (Y / W % n + 1) * W ≤ n * W := Nat.mul_le_mul_right _ a
    rw [Nat.add_mul, Nat.one_mul] at this
    omega
  have e3 : Y = n * (Y / W / n * W) + (Y / W % n * W + Y % W) := by
    conv => lhs; rw [← h1, ← h2]
    rw [Nat.mul_comm W, Nat.add_mul, Nat.mul_assoc, Nat.add_assoc]
  have hq : (Y / W % n * W + Y % W) / n < W := (Nat.div_lt_iff_lt_mul hn).2 (by rw [Nat.mul_comm W]; exact h3)
  constructor
  · conv => rhs; rw [e3]
    rw [Nat.mul_add_div hn, Nat.mul_comm (Y / W / n), Nat.mul_add_mod, Nat.mod_eq_of_lt hq]
  · conv => rhs; rw [e3]
    rw [Nat.mul_add_mod]
theorem digit_at {l : List Nat} (ol : Ok W l) {i : Nat} (hi : i < l.length) : (U l)[i]? = some (.int .u64 ((vl l / W ^ i % W : Nat) : Int)) := by
  have hv : vl l = dv W l := rfl
  rw [U_get, hv, ← dv_get W0 l ol i, List.getD_eq_getElem?_getD, List.getElem?_eq_getElem hi]; rfl
theorem d_Small {l : List Nat} (ol : Ok W l) (hl : l.length ≤ 100000) {n : Nat} (hn : n < W) (h0 : n ≠ 0) : PC E 222 [NL l, u n] (.tuple [NN (vl l / n), u (vl l % n), .int .i64 0]) := by
  have hX : vl l < W ^ l.length := dv_lt l ol
  have hst : ∀ i, i < l.length → PC E 238 [.int .u64 ((vl l / W ^ (i + 1) % n : Nat) : Int), .int .u64 ((vl l / W ^ i % W : Nat) : Int), .int .u64 (n : Int)] (.tuple [.int .u64 ((vl l / n / W ^ i % W : Nat) : Int), .int .u64 ((vl l / W ^ i % n : Nat) : Int)]) := fun i hi => by
    have h1 := c_Div64 (hi := vl l / W ^ (i + 1) % n) (lo := vl l / W ^ i % W) hn (Nat.mod_lt _ W0) (Nat.mod_lt _ (by omega))
    obtain ⟨e1, e2⟩ := small_step (X := vl l) (i := i) (n := n) (by omega)
    rw [e1, e2] at h1
    exact h1
  have hg := fun i hi => digit_at ol (i := i) hi
  have hz : vl l / W ^ l.length % n = 0 := by rw [Nat.div_eq_of_lt hX, Nat.zero_mod]
  have hbare : PC E 119 [.lst l.length (U (outL (vl l / n) l.length 0))] (NN (vl l / n)) := by
    rw [outL_zero]
    exact PC.at_list (n_Bare (tab W (vl l / n) l.length) (by rw [tab_length]; omega) (ok_tab W0 _ _)) (tab_length _ _ _) ((dv_tab _ _).trans (Nat.mod_eq_of_lt (Nat.lt_of_le_of_lt (Nat.div_le_self _ _) hX)))
  have hout0 : U (outL (vl l / n) l.length l.length) = List.replicate l.length (.int .u64 0) := by rw [outL_all, U_replicate]
  have hset := fun i (hi : i < l.length) => outL_set (X := vl l / n) hi
  have hlenU : ∀ i, (U (outL (vl l / n) l.length i)).length = l.length := fun i => by unfold U; rw [List.length_map, outL_len]
  have hfin : vl l / W ^ 0 % n = vl l % n := by rw [Nat.pow_zero, Nat.div_one]
  generalize vl l / n = Q at *
  obtain ⟨O, hO⟩ : ∃ O : Nat → List PV, ∀ i, U (outL Q l.length i) = O i := ⟨_, fun _ => rfl⟩
  obtain ⟨R, hR⟩ : ∃ R : Nat → Nat, ∀ i, vl l / W ^ i % n = R i := ⟨_, fun _ => rfl⟩
  obtain ⟨D, hD⟩ : ∃ D : Nat → Nat, ∀ i, vl l / W ^ i % W = D i := ⟨_, fun _ => rfl⟩
  obtain ⟨G, hG⟩ : ∃ G : Nat → Nat, ∀ i, Q / W ^ i % W = G i := ⟨_, fun _ => rfl⟩
  simp only [hO, hR, hD, hG] at hst hg hz hbare hout0 hset hlenU hfin
  rw [← hfin]
  clear hO hR hD hG hfin hX ol
  simp only [NL, u] at hbare ⊢
  generalize U l = U1 at *
  have wl : IntKind.wrap .i64 ((l.length : Int) - 1) = (l.length : Int) - 1 := wrap64 (by omega) (by omega)
  refine PC.of_body follows Tryz.func222 (by decide +kernel) rfl (by kernel_rfl) (Nat.le_of_ble_eq_true rfl) (walk ?_)
  simp only [Tryz.f222, wl, go_sem]
  refine qif_df (by omega) ?_
  simp only [Tryz.f222, wl, go_sem]
  refine qand_i (by omega) ?_
  simp only [Tryz.f222, wl, go_sem]
  refine PLoop.intro (fun i : Nat => ⟨[(0, .val (.lst l.length U1)), (1, .val (.int .u64 n)), (7, .row 14), (8, .val (.int .u64 (R i))), (9, .val (.int .i64 ((i : Int) - 1)))], [(14, (.row 22 1 l.length (O i), false))]⟩) (fun i => i ≤ l.length) (fun i => i) l.length (Nat.le_refl _) ?_ fun i hi => walk ?_
  · rw [hout0]
    simp [Wk, sget, killL, kill1, SV.key, hz]
  rcases i with _ | i
  · simp only [Tryz.f222, go_sem]
    refine qif_df (by omega) ?_
    simp only [Tryz.f222, go_sem]
    refine qcall_i (hbare) ?_; simp only [Tryz.f222, go_sem]
    try rfl
  have we : ((i + 1 : Nat) : Int) - 1 = (i : Int) := by omega
  have wi : IntKind.wrap .i64 ((i : Int) - 1) = (i : Int) - 1 := wrap64 (by omega) (by omega)
  have x1 := hg i (by omega)
  have k1 := hst i (by omega)
  have x2 := hset i (by omega)
  have x3 := hlenU (i + 1)
  simp only [Tryz.f222, we, go_sem]
  refine qif_dt (by omega) ?_
  simp only [Tryz.f222, we, go_sem]
  refine qand_i (by omega) ?_
  simp only [Tryz.f222, we, go_sem]
  refine qval_i (congrArg (Option.map _) x1) ?_
  simp only [Tryz.f222, we, go_sem]
  refine qcall_i (k1) ?_; simp only [Tryz.f222, we, wi, go_sem]
  refine qand_i (by omega) ?_
  simp only [Tryz.f222, we, wi, go_sem]
  refine qand_i (by rw [x3]; omega) ?_
  simp only [Tryz.f222, we, wi, go_sem]
  refine ⟨i, by omega, by omega, ?_⟩
  simp [Wk, sget, killL, kill1, SV.key, setCells, x2]
end
section
open Go PG Go.Proofs
theorem tab_getU {P m j : Nat} (h : j < m) : (U (tab W P m))[j]? = some (.int .u64 ((P / W ^ j % W : Nat) : Int)) := by
  rw [U_get]
  unfold tab
  simp [h, u]
theorem tab_set2 {P c i m : Nat} (hi : i + 1 < m) (hP : P / W ^ (i + 1) = 0) (hc : P / W ^ i + c < W * W) :
    ((U (tab W P m)).set i (.int .u64 (((P / W ^ i + c) % W : Nat) : Int))).set (i + 1) (.int .u64 (((P / W ^ i + c) / W : Nat) : Int)) = U (tab W (P + W ^ i * c) m) := by
  unfold U
  show ((List.map u _).set i (u ((P / W ^ i + c) % W))).set (i + 1) (u ((P / W ^ i + c) / W)) = _
  rw [← List.map_set, ← List.map_set]
  congr 1
  apply List.ext_getElem
  · simp [tab]
  · intro j h1 h2
    simp only [List.length_set, tab_length] at h1
    have hWi := Nat.pow_pos (n := i) W0
    have ht : ∀ X, (tab W X m)[j]'(by rw [tab_length]; exact h1) = X / W ^ j % W := fun X => by simp [tab]
    rw [ht, List.getElem_set, List.getElem_set]
    have hd : (P + W ^ i * c) / W ^ i = P / W ^ i + c := Nat.add_mul_div_left _ _ hWi
    by_cases e1 : i + 1 = j
    · subst e1
      rw [if_pos rfl, Nat.pow_succ, ← Nat.div_div_eq_div_mul, hd, Nat.mod_eq_of_lt]
      exact (Nat.div_lt_iff_lt_mul W0).2 hc
    · rw [if_neg e1]
      by_cases e2 : i = j
      · subst e2
        rw [if_pos rfl, hd]
      · rw [if_neg e2, ht]
        rcases Nat.lt_or_gt_of_ne e2 with h3 | h3
        · obtain ⟨k, rfl⟩ : ∃ k, j = i + 2 + k := ⟨j - i - 2, by omega⟩
          have p1 : P / W ^ (i + 2 + k) = 0 := by
            rw [show i + 2 + k = i + 1 + (1 + k) by omega, Nat.pow_add, ← Nat.div_div_eq_div_mul, hP, Nat.zero_div]
          have p2 : (P + W ^ i * c) / W ^ (i + 2 + k) = 0 := by
            rw [show i + 2 + k = i + (2 + k) by omega, Nat.pow_add, ← Nat.div_div_eq_div_mul, hd]
            refine Nat.div_eq_of_lt (Nat.lt_of_lt_of_le hc ?_)
            rw [Nat.pow_add, show W ^ 2 = W * W from Nat.pow_two W]
            exact Nat.le_mul_of_pos_right _ (Nat.pow_pos W0)
          rw [p1, p2]
        · obtain ⟨k, rfl⟩ : ∃ k, i = j + (k + 1) := ⟨i - j - 1, by omega⟩
          have e3 : W ^ (j + (k + 1)) * c = W ^ j * (W * (W ^ k * c)) := by
            rw [Nat.pow_add, Nat.pow_succ, Nat.mul_assoc, Nat.mul_comm (W ^ k) W, Nat.mul_assoc]
          rw [e3, Nat.add_mul_div_left _ _ (Nat.pow_pos W0), Nat.add_mul_mod_self_left]
theorem left_step {A i s : Nat} (hs : s ≤ 63) :
    A % W ^ i * 2 ^ s / W ^ i < 2 ^ s ∧ A % W ^ i * 2 ^ s / W ^ (i + 1) = 0 ∧ A % W ^ (i + 1) * 2 ^ s = A % W ^ i * 2 ^ s + W ^ i * (A / W ^ i % W * 2 ^ s) := by
  have hWi := Nat.pow_pos (n := i) W0
  have h1 : A % W ^ i * 2 ^ s < W ^ i * 2 ^ s := Nat.mul_lt_mul_of_pos_right (Nat.mod_lt _ hWi) (Nat.two_pow_pos _)
  have h2 : (2 : Nat) ^ s < W := by
    have : (2 : Nat) ^ s ≤ 2 ^ 63 := Nat.pow_le_pow_right (by decide) hs
    have h63 : (2 : Nat) ^ 63 = 9223372036854775808 := by decide
    show (2 : Nat) ^ s < 18446744073709551616
    omega
  refine ⟨(Nat.div_lt_iff_lt_mul hWi).2 (by rw [Nat.mul_comm (2 ^ s)]; exact h1), Nat.div_eq_of_lt (Nat.lt_trans h1 ?_), ?_⟩
  · rw [Nat.pow_succ]; exact Nat.mul_lt_mul_of_pos_left h2 hWi
  · rw [Nat.pow_succ, Nat.mod_mul, Nat.add_mul, Nat.mul_assoc]
theorem left_or {d x s : Nat} (hs : s ≤ 63) (hd : d < 2 ^ s) (hx : x < W) : bits .or .u64 (d : Int) ((x * 2 ^ s % W : Nat) : Int) = (((d + x * 2 ^ s) % W : Nat) : Int) ∧ (d + x * 2 ^ s) / W = x / 2 ^ (64 - s) ∧ d + x * 2 ^ s < W * W := by
  have hW : W = 2 ^ (64 - s) * 2 ^ s := by rw [← Nat.pow_add, show 64 - s + s = 64 by omega]
  have hp := Nat.two_pow_pos (64 - s)
  have hps := Nat.two_pow_pos s
  have hm := Nat.mod_lt x hp
  have e1 : x * 2 ^ s % W = x % 2 ^ (64 - s) * 2 ^ s := by rw [hW, Nat.mul_mod_mul_right]
  have hlt : x % 2 ^ (64 - s) * 2 ^ s + d < W := by
    have : (x % 2 ^ (64 - s) + 1) * 2 ^ s ≤ 2 ^ (64 - s) * 2 ^ s := Nat.mul_le_mul_right _ hm
    rw [Nat.add_mul, Nat.one_mul, ← hW] at this
    omega
  have e2 : d + x * 2 ^ s = W * (x / 2 ^ (64 - s)) + (x % 2 ^ (64 - s) * 2 ^ s + d) := by
    have := Nat.div_add_mod x (2 ^ (64 - s))
    conv => lhs; rw [← this]
    rw [Nat.add_mul, hW, Nat.mul_right_comm]
    omega
  have hdW : d < W := by omega
  refine ⟨?_, ?_, ?_⟩
  · rw [b_or hdW (Nat.mod_lt _ W0), e1, Nat.or_comm, or_low hd, e2, Nat.mul_add_mod, Nat.mod_eq_of_lt hlt]
  · rw [e2, Nat.mul_add_div W0, Nat.div_eq_of_lt hlt, Nat.add_zero]
  · have h1 : x * 2 ^ s ≤ (W - 1) * 2 ^ s := Nat.mul_le_mul_right _ (by omega)
    have h2 : (W - 1) * 2 ^ s + 2 ^ s = W * 2 ^ s := by
      rw [← Nat.succ_mul]; congr 1
    have h3 : W * 2 ^ s ≤ W * W := Nat.mul_le_mul_left _ (by rw [hW]; exact Nat.le_mul_of_pos_left _ hp)
    omega
theorem d_left {a : List Nat} (oa : Ok W a) (hl : a.length ≤ 100000) {s : Nat} (hs : s ≤ 63) :
    PCM E 240 [.val (NL a), .val (.int .i64 s)] [] (.row 0) [.row 22 1 (a.length + 1) (U (tab W (vl a * 2 ^ s) (a.length + 1)))] := by
  have hA : vl a < W ^ a.length := dv_lt a oa
  have hg := fun i hi => digit_at oa (i := i) hi
  have w1 : IntKind.wrap .i64 ((a.length : Int) + 1) = ((a.length + 1 : Nat) : Int) := by rw [wrap64 (by omega) (by omega)]; omega
  have hst : ∀ i, i < a.length → (U (tab W (vl a % W ^ i * 2 ^ s) (a.length + 1)))[i]? = some (.int .u64 ((vl a % W ^ i * 2 ^ s / W ^ i : Nat) : Int)) ∧
      IntKind.wrap .u64 (((vl a / W ^ i % W : Nat) : Int) * 2 ^ (min s 64)) = ((vl a / W ^ i % W * 2 ^ s % W : Nat) : Int) ∧
      bits .or .u64 ((vl a % W ^ i * 2 ^ s / W ^ i : Nat) : Int) ((vl a / W ^ i % W * 2 ^ s % W : Nat) : Int) = (((vl a % W ^ i * 2 ^ s / W ^ i + vl a / W ^ i % W * 2 ^ s) % W : Nat) : Int) ∧
      ((vl a / W ^ i % W : Nat) : Int).fdiv (2 ^ (min (64 - s) 64)) = (((vl a % W ^ i * 2 ^ s / W ^ i + vl a / W ^ i % W * 2 ^ s) / W : Nat) : Int) ∧
      ((U (tab W (vl a % W ^ i * 2 ^ s) (a.length + 1))).set i (.int .u64 (((vl a % W ^ i * 2 ^ s / W ^ i + vl a / W ^ i % W * 2 ^ s) % W : Nat) : Int))).set (i + 1) (.int .u64 (((vl a % W ^ i * 2 ^ s / W ^ i + vl a / W ^ i % W * 2 ^ s) / W : Nat) : Int)) = U (tab W (vl a % W ^ (i + 1) * 2 ^ s) (a.length + 1)) := fun i hi => by
    obtain ⟨h1, h2, h3⟩ := left_step (A := vl a) (i := i) hs
    have hxW : vl a / W ^ i % W < W := Nat.mod_lt _ W0
    obtain ⟨g1, g2, g3⟩ := left_or hs h1 hxW
    have h4 : vl a % W ^ i * 2 ^ s / W ^ i < W := Nat.lt_trans h1 (by
      have : (2 : Nat) ^ s ≤ 2 ^ 63 := Nat.pow_le_pow_right (by decide) hs
      have h63 : (2 : Nat) ^ 63 = 9223372036854775808 := by decide
      show (2 : Nat) ^ s < 18446744073709551616
      omega)
    refine ⟨?_, b_shl _ s, g1, ?_, ?_⟩
    · rw [tab_getU (by omega), Nat.mod_eq_of_lt h4]
    · rw [g2]; exact b_shr hxW (64 - s)
    · rw [h3]; exact tab_set2 (by omega) h2 g3
  have h0 : U (tab W (vl a % W ^ 0 * 2 ^ s) (a.length + 1)) = List.replicate (a.length + 1) (.int .u64 0) := by
    rw [Nat.pow_zero, Nat.mod_one, Nat.zero_mul]
    have e0 : tab W 0 (a.length + 1) = List.replicate (a.length + 1) 0 := by unfold tab; simp [List.map_const']
    rw [e0, U_replicate]
  have hend : vl a % W ^ a.length * 2 ^ s = vl a * 2 ^ s := by rw [Nat.mod_eq_of_lt hA]
  have hlen : ∀ i, (U (tab W (vl a % W ^ i * 2 ^ s) (a.length + 1))).length = a.length + 1 := fun i => by unfold U; rw [List.length_map, tab_length]
  rw [← hend]
  clear hend hA oa
  obtain ⟨R, hR⟩ : ∃ R : Nat → List PV, ∀ i, U (tab W (vl a % W ^ i * 2 ^ s) (a.length + 1)) = R i := ⟨_, fun _ => rfl⟩
  obtain ⟨D, hD⟩ : ∃ D : Nat → Nat, ∀ i, vl a / W ^ i % W = D i := ⟨_, fun _ => rfl⟩
  obtain ⟨F, hF⟩ : ∃ F : Nat → Nat, ∀ i, vl a % W ^ i * 2 ^ s / W ^ i = F i := ⟨_, fun _ => rfl⟩
  simp only [hR, hD, hF] at hg hst h0 hlen ⊢
  clear hR hD hF
  have ws : IntKind.wrap .i64 (64 - (s : Int)) = ((64 - s : Nat) : Int) := by rw [wrap64 (by omega) (by omega)]; omega
  simp only [NL]
  generalize U a = U1 at *
  refine PCM.of_body follows Tryz.func240 (by decide +kernel) rfl (by kernel_rfl) (Nat.le_of_ble_eq_true rfl) (by simp) (by simp) (fun k h => by cases h; exact ⟨rfl, rfl⟩) (fun h => by cases h) (walk ?_)
  simp only [mstart, startS, blkL, shiftSV]
  simp only [Tryz.f240, w1, go_sem]
  refine qand_i (by omega) ?_
  simp only [Tryz.f240, w1, go_sem]
  refine PLoop.intro (fun i : Nat => ⟨[(1, .val (.int .i64 s)), (5, .row 11), (12, .val (.lst a.length U1)), (13, .val (.int .i64 a.length)), (14, .val (.int .i64 i))], [(11, (.row 22 1 (a.length + 1) (R i), false))]⟩) (fun i => i ≤ a.length) (fun i => a.length - i) 0 (Nat.zero_le _) ?_ fun i hi => walk ?_
  · rw [h0]
    simp [Wk, sget, killL, kill1, SV.key]
  have wi : IntKind.wrap .i64 ((i : Int) + 1) = ((i + 1 : Nat) : Int) := by rw [wrap64 (by omega) (by omega)]; omega
  simp only [Tryz.f240, go_sem]
  refine qif_d (fun h => ?_) (fun h => ?_)
  · have hin : i < a.length := by omega
    have x1 := hg i hin
    obtain ⟨x2, x3, x4, x5, x6⟩ := hst i hin
    have x7 := hlen i
    simp only [Tryz.f240, go_sem]
    refine qand_i (by omega) ?_
    simp only [Tryz.f240, go_sem]
    refine qval_i (congrArg (Option.map _) x1) ?_
    simp only [Tryz.f240, go_sem]
    refine qand_i (by omega) ?_
    simp only [Tryz.f240, go_sem]
    refine qval_i (congrArg (Option.map _) x2) ?_
    simp only [Tryz.f240, x3, x4, go_sem]
    repeat' ((with_reducible refine qand_i (by first | omega | (rw [x7]; omega) | (simp [x7]; omega)) ?_); simp only [Tryz.f240, x3, x4, x5, ws, wi, go_sem])
    refine ⟨i + 1, by omega, by omega, ?_⟩
    rw [x6]
    simp [Wk, sget, killL, kill1, SV.key]
  · have hin : i = a.length := by omega
    subst hin
    simp only [Tryz.f240, go_sem]
    refine ⟨11, by decide, fun j b hb => ?_, .inr ⟨4, rfl, rfl, .inr ⟨rfl, rfl⟩⟩⟩
    match j, hb with
    | 0, hb =>
      simp only [List.getElem?_cons_zero, Option.some.injEq] at hb
      subst hb
      rfl
    | j + 1, hb => simp at hb
theorem part_dig {out : List Nat} (ho : Ok W out) {o k i : Nat} (hi : i < k) : out.getD (o + i) 0 = dv W ((out.drop o).take k) / W ^ i % W := by
  have hok : Ok W ((out.drop o).take k) := fun d hd => ho d (List.mem_of_mem_drop (List.mem_of_mem_take hd))
  rw [← dv_get W0 _ hok i, List.getD_eq_getElem?_getD, List.getD_eq_getElem?_getD, List.getElem?_take, if_pos hi, List.getElem?_drop]
theorem take_dig {vv : List Nat} (ho : Ok W vv) {k i : Nat} (hi : i < k) (hk : k ≤ vv.length) : (U vv)[i]? = some (.int .u64 ((dv W (vv.take k) / W ^ i % W : Nat) : Int)) := by
  have hok : Ok W (vv.take k) := fun d hd => ho d (List.mem_of_mem_take hd)
  rw [U_get, ← dv_get W0 _ hok i, List.getD_eq_getElem?_getD, List.getElem?_take, if_pos hi, List.getElem?_eq_getElem (by omega)]; rfl
theorem big_dig {Z n i : Nat} (hi : i ≤ n) : (Z + W ^ (n + 1)) / W ^ i % W = Z / W ^ i % W := by
  obtain ⟨k, rfl⟩ : ∃ k, n = i + k := ⟨n - i, by omega⟩
  rw [show i + k + 1 = i + (k + 1) by omega, Nat.pow_add, Nat.add_mul_div_left _ _ (Nat.pow_pos W0), Nat.pow_succ, Nat.mul_comm (W ^ k), Nat.add_mul_mod_self_left]
theorem big_mod {Z n : Nat} : (Z + W ^ (n + 1)) % W ^ (n + 1) = Z % W ^ (n + 1) := Nat.add_mod_right _ _
theorem prod_step {V q i : Nat} (hq : q < W) :
    V % W ^ i * q / W ^ i < W ∧ (V / W ^ i % W * q % W + V % W ^ i * q / W ^ i + 0) % W = V * q / W ^ i % W ∧ V / W ^ i % W * q / W + (V / W ^ i % W * q % W + V % W ^ i * q / W ^ i + 0) / W = V % W ^ (i + 1) * q / W ^ (i + 1) ∧ V % W ^ (i + 1) * q / W ^ (i + 1) < W := by
  obtain ⟨t1, t2, t3⟩ := row_step (Y := 0) (A := V) (n := q) (i := i) hq
  obtain ⟨t4, -, -⟩ := row_step (Y := 0) (A := V) (n := q) (i := i + 1) hq
  simp only [Nat.zero_mod, Nat.zero_div, Nat.zero_add, Nat.add_zero] at t1 t2 t3 t4
  have hx : V / W ^ i % W < W := Nat.mod_lt _ W0
  obtain ⟨r1, r2, r3, r4⟩ := row_arith (M := V / W ^ i % W * q) (c := V % W ^ i * q / W ^ i) (y := 0) rfl hx hq t1 W0
  simp only [Nat.zero_add, Nat.add_zero] at r1 r2 r3 ⊢
  rw [Nat.mod_mod] at r1
  have hz : (V / W ^ i % W * q % W + V % W ^ i * q / W ^ i) % W / W = 0 := Nat.div_eq_of_lt (Nat.mod_lt _ W0)
  rw [hz, Nat.add_zero] at r3
  exact ⟨t1, r1.trans t2, r3.trans t3, t4⟩
set_option maxHeartbeats 4000000 in
theorem d_takeOff {out vv : List Nat} {o n q : Nat} (ho : Ok W out) (hv : Ok W vv) (hq : q < W) (hL : o + n + 1 ≤ out.length) (hl : out.length ≤ 200000) (hn : n ≤ vv.length) (hl2 : vv.length ≤ 200000) {Z V : Nat} (hZ : dv W ((out.drop o).take (n + 1)) = Z) (hV : dv W (vv.take n) = V) :
    PCM E 242 [.sub 0 o (n + 1), .sub 1 0 n, .val (.int .u64 q)] [.row 22 1 out.length (U out), .row 22 1 vv.length (U vv)] (.val (.bool (decide (Z < V * q))))
      [.row 22 1 out.length (U (rowL out o (Z + W ^ (n + 1) - V * q) (n + 1))), .row 22 1 vv.length (U vv)] := by
  have hZl : Z < W ^ (n + 1) := by
    rw [← hZ]
    refine Nat.lt_of_lt_of_le (dv_lt _ (fun d hd => ho d (List.mem_of_mem_drop (List.mem_of_mem_take hd)))) (Nat.pow_le_pow_right W0 ?_)
    rw [List.length_take]; omega
  have hVl : V < W ^ n := by
    rw [← hV]
    refine Nat.lt_of_lt_of_le (dv_lt _ (fun d hd => hv d (List.mem_of_mem_take hd))) (Nat.pow_le_pow_right W0 ?_)
    rw [List.length_take]; omega
  have hMl : V * q < W ^ (n + 1) := by rw [Nat.pow_succ]; exact Nat.mul_lt_mul'' hVl hq
  have hle : V * q ≤ Z + W ^ (n + 1) := by omega
  have hst : ∀ i, i ≤ n → (U (rowL out o (Z + W ^ (n + 1) - V * q) i))[o + i]? = some (.int .u64 ((Z / W ^ i % W : Nat) : Int)) ∧
      (U (rowL out o (Z + W ^ (n + 1) - V * q) i)).length = out.length ∧
      (U (rowL out o (Z + W ^ (n + 1) - V * q) i)).set (o + i) (.int .u64 (((Z / W ^ i % W + W - V * q / W ^ i % W - borrow (Z + W ^ (n + 1)) (V * q) (W ^ i)) % W : Nat) : Int)) = U (rowL out o (Z + W ^ (n + 1) - V * q) (i + 1)) ∧
      (if Z / W ^ i % W < V * q / W ^ i % W + borrow (Z + W ^ (n + 1)) (V * q) (W ^ i) then 1 else 0) = borrow (Z + W ^ (n + 1)) (V * q) (W ^ (i + 1)) := fun i hi => by
    have g1 := rowL_get (out := out) (o := o) (T := Z + W ^ (n + 1) - V * q) (i := i) (by omega)
    have g2 := rowL_set (out := out) (o := o) (T := Z + W ^ (n + 1) - V * q) (i := i) (by omega)
    rw [part_dig ho (show i < n + 1 by omega), hZ] at g1
    have hWi := Nat.pow_pos (n := i) W0
    have e1 := borrow_digit (W := W) hWi hle W0
    have e3 := borrow_next (A := Z + W ^ (n + 1)) (B := V * q) (W := W) hWi
    rw [big_dig hi] at e1 e3
    have hb := borrow_le (Z + W ^ (n + 1)) (V * q) (W ^ i)
    have hx : V * q / W ^ i % W < W := Nat.mod_lt _ W0
    refine ⟨g1, by unfold U; rw [List.length_map, rowL_len (by omega)], ?_, by rw [← e3, ← Nat.pow_succ]⟩
    have e2 : (Z / W ^ i % W + W - V * q / W ^ i % W - borrow (Z + W ^ (n + 1)) (V * q) (W ^ i)) % W = (Z + W ^ (n + 1) - V * q) / W ^ i % W := by
      rw [← e1]
      generalize borrow (Z + W ^ (n + 1)) (V * q) (W ^ i) = br at *
      generalize V * q / W ^ i % W = y at *
      generalize Z / W ^ i % W = x
      have : x + W + W - y - br = (x + W - y - br) + W := by omega
      rw [this, Nat.add_mod_right]
    rw [e2]
    exact g2
  have hb0 : borrow (Z + W ^ (n + 1)) (V * q) (W ^ 0) = 0 := by rw [Nat.pow_zero]; exact borrow_one _ _
  have hbE : borrow (Z + W ^ (n + 1)) (V * q) (W ^ (n + 1)) = if Z < V * q then 1 else 0 := by
    unfold borrow
    rw [big_mod, Nat.mod_eq_of_lt hZl, Nat.mod_eq_of_lt hMl]
  have hbl := borrow_le (Z + W ^ (n + 1)) (V * q)
  have hvd := fun i (hi : i < n) => take_dig hv hi hn
  rw [hV] at hvd
  have hps := fun i => prod_step (V := V) (q := q) (i := i) hq
  have hc0 : V % W ^ 0 * q / W ^ 0 = 0 := by rw [Nat.pow_zero, Nat.mod_one, Nat.zero_mul, Nat.zero_div]
  have hcn : V % W ^ n * q / W ^ n = V * q / W ^ n % W := by
    rw [Nat.mod_eq_of_lt hVl, Nat.mod_eq_of_lt]
    rw [Nat.div_lt_iff_lt_mul (Nat.pow_pos W0), Nat.mul_comm W, ← Nat.pow_succ]
    exact hMl
  have hrl0 : rowL out o (Z + W ^ (n + 1) - V * q) 0 = out := by unfold rowL; simp [tab]
  have hr0 : U out = U (rowL out o (Z + W ^ (n + 1) - V * q) 0) := by rw [hrl0]
  generalize Z + W ^ (n + 1) - V * q = T at *
  obtain ⟨R, hR⟩ : ∃ R : Nat → List PV, ∀ i, U (rowL out o T i) = R i := ⟨_, fun _ => rfl⟩
  obtain ⟨Bo, hBo⟩ : ∃ Bo : Nat → Nat, ∀ i, borrow (Z + W ^ (n + 1)) (V * q) (W ^ i) = Bo i := ⟨_, fun _ => rfl⟩
  have hbl2 : ∀ i, Bo i ≤ 1 := fun i => by rw [← hBo]; exact hbl _
  obtain ⟨X, hX⟩ : ∃ X : Nat → Nat, ∀ i, Z / W ^ i % W = X i := ⟨_, fun _ => rfl⟩
  obtain ⟨M, hM⟩ : ∃ M : Nat → Nat, ∀ i, V * q / W ^ i % W = M i := ⟨_, fun _ => rfl⟩
  obtain ⟨C, hC⟩ : ∃ C : Nat → Nat, ∀ i, V % W ^ i * q / W ^ i = C i := ⟨_, fun _ => rfl⟩
  obtain ⟨D, hD⟩ : ∃ D : Nat → Nat, ∀ i, V / W ^ i % W = D i := ⟨_, fun _ => rfl⟩
  have hDW : ∀ i, D i < W := fun i => by rw [← hD]; exact Nat.mod_lt _ W0
  simp only [hR, hBo, hX, hM, hC, hD] at hst hb0 hbE hvd hps hc0 hcn hr0 ⊢
  rw [hr0]
  clear hR hBo hX hM hC hD hZ hV ho hv hbl hZl hVl hMl hle hr0 hrl0
  have hbd : decide (Z < V * q) = decide ((Bo (n + 1) : Int) > 0) := by
    rw [hbE]
    by_cases h : Z < V * q
    · rw [if_pos h, decide_eq_true h]; rfl
    · rw [if_neg h, decide_eq_false h]; rfl
  rw [hbd]
  clear hbd hbE
  generalize U vv = VV at *
  refine PCM.of_body follows Tryz.func242 (by decide +kernel) rfl (by kernel_rfl) (Nat.le_of_ble_eq_true rfl) (Nat.le_refl _) (by simp) (fun k h => by cases h) (fun h => by cases h) (walk ?_)
  simp only [mstart, startS, blkL, shiftSV]
  simp only [Tryz.f242, Int.cast_ofNat_Int, go_sem]
  refine PLoop.intro (fun i : Nat => ⟨[(0, .sub 68 o (n + 1)), (1, .sub 69 0 n), (2, .val (.int .u64 q)), (7, .val (.int .u64 (C i))), (8, .val (.int .u64 (Bo i))), (15, .sub 69 0 n), (16, .val (.int .i64 n)), (17, .val (.int .i64 i))],
    [(68, (.row 22 1 out.length (R i), false)), (69, (.row 22 1 vv.length VV, false))]⟩) (fun i => i ≤ n) (fun i => n - i) 0 (Nat.zero_le _) ?_ fun i hi => walk ?_
  · simp [Wk, sget, killL, kill1, SV.key, hc0, hb0]
  have wi : IntKind.wrap .i64 ((i : Int) + 1) = ((i + 1 : Nat) : Int) := by rw [wrap64 (by omega) (by omega)]; omega
  simp only [Tryz.f242, go_sem]
  refine qif_d (fun h => ?_) (fun h => ?_)
  · have hin : i < n := by omega
    have x1 := hvd i hin
    obtain ⟨x2, x3, x4, x5⟩ := hst i hi
    obtain ⟨p1, p2, p3, p4⟩ := hps i
    have k1 := c_Mul64 (D i) q (hDW i) hq
    have k2 := c_Add64 (D i * q % W) (C i) 0 (by decide)
    have k3 := c_Sub64 (X i) (M i) (Bo i) (hbl2 i)
    rw [p2] at k2
    rw [x5] at k3
    have w1 : IntKind.wrap .u64 (((D i * q / W : Nat) : Int) + (((D i * q % W + C i + 0) / W : Nat) : Int)) = ((C (i + 1) : Nat) : Int) := by
      rw [← Int.natCast_add, p3]; exact wrap_nat64 p4
    rw [show u 0 = .int .u64 0 from rfl] at k2
    simp only [u, Nat.add_zero] at k1 k2 k3 w1
    clear p2 p3
    generalize D i * q / W = m1 at *
    generalize D i * q % W = m2 at *
    generalize (m2 + C i) / W = m3 at *
    simp only [Tryz.f242, go_sem]
    refine qand_i (by omega) ?_
    simp only [Tryz.f242, go_sem]
    refine qval_i (congrArg (Option.map _) x1) ?_
    simp only [Tryz.f242, go_sem]
    refine qcall_i (k1) ?_; simp only [Tryz.f242, go_sem]
    refine qcall_i (k2) ?_; simp only [Tryz.f242, w1, go_sem]
    refine qand_i (by omega) ?_
    simp only [Tryz.f242, w1, go_sem]
    refine qval_i (congrArg (Option.map _) x2) ?_
    simp only [Tryz.f242, w1, go_sem]
    refine qcall_i (k3) ?_; simp only [Tryz.f242, wi, go_sem]
    repeat' ((with_reducible refine qand_i (by first | omega | (rw [x3]; omega) | (simp [x3]; omega)) ?_); simp only [Tryz.f242, wi, go_sem])
    refine ⟨i + 1, by omega, by omega, ?_⟩
    rw [x4]
    simp [Wk, sget, killL, kill1, SV.key]
  · have hin : i = n := by omega
    subst hin
    obtain ⟨x2, x3, x4, x5⟩ := hst i hi
    have k3 := c_Sub64 (X i) (M i) (Bo i) (hbl2 i)
    rw [x5, ← hcn] at k3
    simp only [u] at k3
    simp only [Tryz.f242, go_sem]
    refine qand_i (by omega) ?_
    simp only [Tryz.f242, go_sem]
    refine qval_i (congrArg (Option.map _) x2) ?_
    simp only [Tryz.f242, go_sem]
    refine qcall_i (k3) ?_; simp only [Tryz.f242, go_sem]
    rw [← hcn] at x4
    repeat' ((with_reducible refine qand_i (by first | omega | (rw [x3]; omega) | (simp [x3]; omega)) ?_); simp only [Tryz.f242, x4, go_sem])
    exact fin2 (by decide) (by simp [sget, x4]) (by simp [sget]) rfl
set_option maxHeartbeats 4000000 in
theorem d_putBack {out vv : List Nat} {o n : Nat} (ho : Ok W out) (hv : Ok W vv) (hL : o + n + 1 ≤ out.length) (hl : out.length ≤ 200000) (hn : n ≤ vv.length) (hl2 : vv.length ≤ 200000) {Z V : Nat} (hZ : dv W ((out.drop o).take (n + 1)) = Z) (hV : dv W (vv.take n) = V) :
    PCM E 243 [.sub 0 o (n + 1), .sub 1 0 n] [.row 22 1 out.length (U out), .row 22 1 vv.length (U vv)] (.val (.bool (decide (W ^ (n + 1) ≤ Z + V))))
      [.row 22 1 out.length (U (rowL out o (Z + V) (n + 1))), .row 22 1 vv.length (U vv)] := by
  have hZl : Z < W ^ (n + 1) := by
    rw [← hZ]
    refine Nat.lt_of_lt_of_le (dv_lt _ (fun d hd => ho d (List.mem_of_mem_drop (List.mem_of_mem_take hd)))) (Nat.pow_le_pow_right W0 ?_)
    rw [List.length_take]; omega
  have hVl : V < W ^ n := by
    rw [← hV]
    refine Nat.lt_of_lt_of_le (dv_lt _ (fun d hd => hv d (List.mem_of_mem_take hd))) (Nat.pow_le_pow_right W0 ?_)
    rw [List.length_take]; omega
  have hst : ∀ i, i ≤ n → (U (rowL out o (Z + V) i))[o + i]? = some (.int .u64 ((Z / W ^ i % W : Nat) : Int)) ∧
      (U (rowL out o (Z + V) i)).length = out.length ∧
      (U (rowL out o (Z + V) i)).set (o + i) (.int .u64 (((Z / W ^ i % W + V / W ^ i % W + carry Z V (W ^ i)) % W : Nat) : Int)) = U (rowL out o (Z + V) (i + 1)) ∧
      (Z / W ^ i % W + V / W ^ i % W + carry Z V (W ^ i)) / W = carry Z V (W ^ (i + 1)) := fun i hi => by
    have g1 := rowL_get (out := out) (o := o) (T := Z + V) (i := i) (by omega)
    have g2 := rowL_set (out := out) (o := o) (T := Z + V) (i := i) (by omega)
    rw [part_dig ho (show i < n + 1 by omega), hZ] at g1
    have hWi := Nat.pow_pos (n := i) W0
    refine ⟨g1, by unfold U; rw [List.length_map, rowL_len (by omega)], ?_, by rw [Nat.pow_succ, carry_next hWi]⟩
    rw [carry_digit hWi]
    exact g2
  have hb0 : carry Z V (W ^ 0) = 0 := by rw [Nat.pow_zero]; exact carry_one _ _
  have hcl := fun i => carry_le (A := Z) (B := V) (Nat.pow_pos (n := i) W0)
  have hVn : V / W ^ n % W = 0 := by rw [Nat.div_eq_of_lt hVl, Nat.zero_mod]
  have hVl2 : V < W ^ (n + 1) := Nat.lt_of_lt_of_le hVl (Nat.pow_le_pow_right W0 (Nat.le_succ _))
  have hbE : carry Z V (W ^ (n + 1)) = if W ^ (n + 1) ≤ Z + V then 1 else 0 := by
    unfold carry
    rw [Nat.mod_eq_of_lt hZl, Nat.mod_eq_of_lt hVl2]
    by_cases h : W ^ (n + 1) ≤ Z + V
    · rw [if_pos h]
      refine Nat.div_eq_of_lt_le (by omega) ?_
      rw [Nat.succ_mul, Nat.one_mul]; omega
    · rw [if_neg h]; exact Nat.div_eq_of_lt (by omega)
  have hvd := fun i (hi : i < n) => take_dig hv hi hn
  rw [hV] at hvd
  have hrl0 : rowL out o (Z + V) 0 = out := by unfold rowL; simp [tab]
  have hr0 : U out = U (rowL out o (Z + V) 0) := by rw [hrl0]
  have hbd : decide (W ^ (n + 1) ≤ Z + V) = decide ((carry Z V (W ^ (n + 1)) : Int) > 0) := by
    rw [hbE]
    by_cases h : W ^ (n + 1) ≤ Z + V
    · rw [if_pos h, decide_eq_true h]; rfl
    · rw [if_neg h, decide_eq_false h]; rfl
  rw [hbd]
  obtain ⟨R, hR⟩ : ∃ R : Nat → List PV, ∀ i, U (rowL out o (Z + V) i) = R i := ⟨_, fun _ => rfl⟩
  obtain ⟨Bo, hBo⟩ : ∃ Bo : Nat → Nat, ∀ i, carry Z V (W ^ i) = Bo i := ⟨_, fun _ => rfl⟩
  obtain ⟨X, hX⟩ : ∃ X : Nat → Nat, ∀ i, Z / W ^ i % W = X i := ⟨_, fun _ => rfl⟩
  obtain ⟨D, hD⟩ : ∃ D : Nat → Nat, ∀ i, V / W ^ i % W = D i := ⟨_, fun _ => rfl⟩
  simp only [hR, hBo, hX, hD] at hst hb0 hcl hVn hvd hr0 ⊢
  rw [hr0]
  clear hR hBo hX hD hZ hV ho hv hZl hVl hVl2 hbd hbE hr0 hrl0
  generalize U vv = VV at *
  refine PCM.of_body follows Tryz.func243 (by decide +kernel) rfl (by kernel_rfl) (Nat.le_of_ble_eq_true rfl) (Nat.le_refl _) (by simp) (fun k h => by cases h) (fun h => by cases h) (walk ?_)
  simp only [mstart, startS, blkL, shiftSV]
  simp only [Tryz.f243, Int.cast_ofNat_Int, go_sem]
  refine PLoop.intro (fun i : Nat => ⟨[(0, .sub 46 o (n + 1)), (1, .sub 47 0 n), (5, .val (.int .u64 (Bo i))), (9, .sub 47 0 n), (10, .val (.int .i64 n)), (11, .val (.int .i64 i))],
    [(46, (.row 22 1 out.length (R i), false)), (47, (.row 22 1 vv.length VV, false))]⟩) (fun i => i ≤ n) (fun i => n - i) 0 (Nat.zero_le _) ?_ fun i hi => walk ?_
  · simp [Wk, sget, killL, kill1, SV.key, hb0]
  have wi : IntKind.wrap .i64 ((i : Int) + 1) = ((i + 1 : Nat) : Int) := by rw [wrap64 (by omega) (by omega)]; omega
  simp only [Tryz.f243, go_sem]
  refine qif_d (fun h => ?_) (fun h => ?_)
  · have hin : i < n := by omega
    have x1 := hvd i hin
    obtain ⟨x2, x3, x4, x5⟩ := hst i hi
    have k2 := c_Add64 (X i) (D i) (Bo i) (hcl i)
    rw [x5] at k2
    simp only [u] at k2
    simp only [Tryz.f243, go_sem]
    refine qand_i (by omega) ?_
    simp only [Tryz.f243, go_sem]
    refine qval_i (congrArg (Option.map _) x1) ?_
    simp only [Tryz.f243, go_sem]
    refine qand_i (by omega) ?_
    simp only [Tryz.f243, go_sem]
    refine qval_i (congrArg (Option.map _) x2) ?_
    simp only [Tryz.f243, go_sem]
    refine qcall_i (k2) ?_; simp only [Tryz.f243, wi, go_sem]
    repeat' ((with_reducible refine qand_i (by first | omega | (rw [x3]; omega) | (simp [x3]; omega)) ?_); simp only [Tryz.f243, wi, go_sem])
    refine ⟨i + 1, by omega, by omega, ?_⟩
    rw [x4]
    simp [Wk, sget, killL, kill1, SV.key]
  · have hin : i = n := by omega
    subst hin
    obtain ⟨x2, x3, x4, x5⟩ := hst i hi
    have k3 := c_Add64 (X i) 0 (Bo i) (hcl i)
    rw [hVn] at x4 x5
    rw [x5] at k3
    rw [show u 0 = .int .u64 0 from rfl] at k3
    simp only [u, Nat.add_zero] at k3 x4
    simp only [Tryz.f243, go_sem]
    refine qand_i (by omega) ?_
    simp only [Tryz.f243, go_sem]
    refine qval_i (congrArg (Option.map _) x2) ?_
    simp only [Tryz.f243, go_sem]
    refine qcall_i (k3) ?_; simp only [Tryz.f243, go_sem]
    repeat' ((with_reducible refine qand_i (by first | omega | (rw [x3]; omega) | (simp [x3]; omega)) ?_); simp only [Tryz.f243, x4, go_sem])
    exact fin2 (by decide) (by simp [sget, x4]) (by simp [sget]) rfl
end
section
open Go PG Go.Proofs
def gsS (top next x0 : Nat) : Nat → Nat → Nat → Nat
  | 0, q, _ => q
  | k + 1, q, r => if q * next ≤ r * W + x0 then q else if r + top < W then gsS top next x0 k (q - 1) (r + top) else q - 1
theorem gsS_ge {top next x0 N t : Nat} (H : ∀ q r, q * top + r = N → r * W + x0 < q * next → t < q) : ∀ k q r, q * top + r = N → t ≤ q → t ≤ gsS top next x0 k q r ∧ gsS top next x0 k q r ≤ q := by
  intro k
  induction k with
  | zero => intro q r _ h; exact ⟨h, Nat.le_refl _⟩
  | succ k ih =>
    intro q r e h
    unfold gsS
    by_cases h1 : q * next ≤ r * W + x0
    · rw [if_pos h1]; exact ⟨h, Nat.le_refl _⟩
    rw [if_neg h1]
    have hq := H q r e (by omega)
    have e2 : (q - 1) * top + (r + top) = N := by
      obtain ⟨p, rfl⟩ : ∃ p, q = p + 1 := ⟨q - 1, by omega⟩
      rw [Nat.add_sub_cancel]
      rw [Nat.add_mul, Nat.one_mul] at e
      omega
    by_cases h2 : r + top < W
    · rw [if_pos h2]
      obtain ⟨g1, g2⟩ := ih (q - 1) (r + top) e2 (by omega)
      exact ⟨g1, by omega⟩
    · rw [if_neg h2]; exact ⟨by omega, by omega⟩
theorem hi_lo {hi lo r x0 M : Nat} (hM : hi * W + lo = M) (hlo : lo < W) (hx : x0 < W) : (hi < r ∨ hi = r ∧ lo ≤ x0) ↔ M ≤ r * W + x0 := by
  rw [← hM]
  constructor
  · rintro (h | ⟨rfl, h⟩)
    · have : (hi + 1) * W ≤ r * W := Nat.mul_le_mul_right _ h
      rw [Nat.add_mul, Nat.one_mul] at this
      omega
    · omega
  · intro h
    rcases Nat.lt_trichotomy hi r with h1 | h1 | h1
    · exact .inl h1
    · subst h1; exact .inr ⟨rfl, by omega⟩
    · have : (r + 1) * W ≤ hi * W := Nat.mul_le_mul_right _ h1
      rw [Nat.add_mul, Nat.one_mul] at this
      omega
set_option maxHeartbeats 4000000 in
theorem d_guess {out : List Nat} {o n top next : Nat} (ho : Ok W out) (hL : o + n + 1 ≤ out.length) (hl : out.length ≤ 200000) (hn : 2 ≤ n) {Z V : Nat} (hZ : dv W ((out.drop o).take (n + 1)) = Z) (hVl : V < W ^ n) (hZV : Z < V * W)
    (ht : V / W ^ (n - 1) = top) (hx : V / W ^ (n - 2) % W = next) : ∃ d, Z / V ≤ d ∧ d < W ∧
    PCM E 241 [.sub 0 o (n + 1), .val (.int .u64 top), .val (.int .u64 next)] [.row 22 1 out.length (U out)] (.val (.int .u64 d)) [.row 22 1 out.length (U out)] := by
  have hW := W0
  have hV0 : 0 < V := Nat.pos_of_ne_zero fun h => by rw [h, Nat.zero_mul] at hZV; omega
  have htW : top < W := by
    rw [← ht, Nat.div_lt_iff_lt_mul (Nat.pow_pos hW), Nat.mul_comm, ← Nat.pow_succ, show (n - 1).succ = n by omega]; exact hVl
  have hxW : next < W := by rw [← hx]; exact Nat.mod_lt _ hW
  -- three words of the part, two of the divisor
  have hd : ∀ i, i < n + 1 → (U out)[o + i]? = some (.int .u64 ((Z / W ^ i % W : Nat) : Int)) := fun i hi => by
    rw [U_get]
    have := part_dig ho (o := o) hi
    rw [hZ, List.getD_eq_getElem?_getD, List.getElem?_eq_getElem (show o + i < out.length by omega), Option.getD_some] at this
    rw [List.getElem?_eq_getElem (show o + i < out.length by omega), ← this]; rfl
  have hP := Nat.pow_pos (n := n - 2) hW
  have e1 : W ^ (n - 1) = W ^ (n - 2) * W := by rw [← Nat.pow_succ]; congr 1; omega
  have e2 : W ^ n = W ^ (n - 2) * W * W := by rw [← e1, ← Nat.pow_succ]; congr 1; omega
  have hZl : Z / W ^ n < W := by
    rw [Nat.div_lt_iff_lt_mul (Nat.pow_pos hW)]
    refine Nat.lt_of_lt_of_le hZV ?_
    rw [Nat.mul_comm]
    exact Nat.mul_le_mul_left _ (Nat.le_of_lt hVl)
  obtain ⟨x2, hx2⟩ : ∃ x, x = Z / W ^ n % W := ⟨_, rfl⟩
  obtain ⟨x1, hx1⟩ : ∃ x, x = Z / W ^ (n - 1) % W := ⟨_, rfl⟩
  obtain ⟨x0, hx0⟩ : ∃ x, x = Z / W ^ (n - 2) % W := ⟨_, rfl⟩
  have d2 := hd n (by omega)
  have d1 := hd (n - 1) (by omega)
  have d0 := hd (n - 2) (by omega)
  rw [← hx2] at d2
  rw [← hx1] at d1
  rw [← hx0] at d0
  have hx2W : x2 < W := by rw [hx2]; exact Nat.mod_lt _ hW
  have hx1W : x1 < W := by rw [hx1]; exact Nat.mod_lt _ hW
  have hx0W : x0 < W := by rw [hx0]; exact Nat.mod_lt _ hW
  have hN : Z / W ^ (n - 1) = x2 * W + x1 := by
    have h1 := Nat.div_add_mod (Z / W ^ (n - 1)) W
    rw [Nat.div_div_eq_div_mul, e1, ← e2, ← e1, ← hx1] at h1
    rw [hx2, Nat.mod_eq_of_lt hZl, Nat.mul_comm _ W]
    exact h1.symm
  have hN2 : Z / W ^ (n - 2) = (x2 * W + x1) * W + x0 := by
    have h1 := Nat.div_add_mod (Z / W ^ (n - 2)) W
    rw [Nat.div_div_eq_div_mul, ← e1, hN, ← hx0, Nat.mul_comm W] at h1
    exact h1.symm
  have hVt : (top * W + next) * W ^ (n - 2) ≤ V := by
    have h1 := Nat.div_add_mod (V / W ^ (n - 2)) W
    rw [Nat.div_div_eq_div_mul, ← e1, ht, hx, Nat.mul_comm W] at h1
    rw [h1]
    exact Nat.div_mul_le_self _ _
  have hVt1 : top * W ^ (n - 1) ≤ V := by rw [← ht]; exact Nat.div_mul_le_self _ _
  have hq0 : Z / V < W := (Nat.div_lt_iff_lt_mul hV0).2 (by rw [Nat.mul_comm]; exact hZV)
  have H : ∀ q r, q * top + r = x2 * W + x1 → r * W + x0 < q * next → Z / V < q := fun q r e h => by
    refine (Nat.div_lt_iff_lt_mul hV0).2 (Nat.not_le.1 fun h2 => ?_)
    have h3 : q * ((top * W + next) * W ^ (n - 2)) ≤ Z := Nat.le_trans (Nat.mul_le_mul_left _ hVt) h2
    rw [← Nat.mul_assoc] at h3
    have h4 := (Nat.le_div_iff_mul_le hP).2 h3
    rw [hN2, ← e, Nat.mul_add, Nat.add_mul, ← Nat.mul_assoc] at h4
    omega
  clear hd hVt hN2 hx0 hx1 hx2 hZl hx ht e1 e2 hP hVl hZ
  by_cases hc : top ≤ x2
  · refine ⟨W - 1, by omega, by omega, ?_⟩
    have w1 : IntKind.wrap .i64 (((n + 1 : Nat) : Int) - 1) = (n : Int) := by rw [wrap64 (by omega) (by omega)]; omega
    have hWm : ((W - 1 : Nat) : Int) = 18446744073709551615 := rfl
    rw [hWm]
    generalize U out = UU at *
    refine PCM.of_body follows Tryz.func241 (by decide +kernel) rfl (by kernel_rfl) (Nat.le_of_ble_eq_true rfl) (Nat.le_refl _) (by simp) (fun k h => by cases h) (fun h => by cases h) (walk ?_)
    simp only [mstart, startS, blkL, shiftSV]
    simp only [Tryz.f241, w1, go_sem]
    refine qand_i (by omega) ?_
    simp only [Tryz.f241, w1, go_sem]
    refine qval_i (congrArg (Option.map _) d2) ?_
    simp only [Tryz.f241, w1, go_sem]
    refine qif_dt (by omega) ?_
    simp only [Tryz.f241, go_sem]
    exact fin1 (by decide) (by simp [sget]) rfl
  have hc : x2 < top := Nat.not_le.1 hc
  have hqN : Z / V ≤ (x2 * W + x1) / top := by
    rw [Nat.le_div_iff_mul_le (by omega), ← hN, Nat.le_div_iff_mul_le (Nat.pow_pos hW), Nat.mul_assoc]
    exact Nat.le_trans (Nat.mul_le_mul_left _ hVt1) (Nat.div_mul_le_self _ _)
  have k1 := c_Div64 (hi := x2) (lo := x1) htW hx1W hc
  have hq0W : (x2 * W + x1) / top < W := by
    rw [Nat.div_lt_iff_lt_mul (by omega)]
    have : (x2 + 1) * W ≤ top * W := Nat.mul_le_mul_right _ hc
    rw [Nat.mul_comm W]
    rw [Nat.add_mul, Nat.one_mul] at this
    omega
  obtain ⟨g1, g2⟩ := gsS_ge H ((x2 * W + x1) / top) ((x2 * W + x1) / top) ((x2 * W + x1) % top) (Nat.div_add_mod' _ _) hqN
  refine ⟨_, g1, by omega, ?_⟩
  have hrW : (x2 * W + x1) % top < W := Nat.lt_trans (Nat.mod_lt _ (by omega)) htW
  have hqr : (x2 * W + x1) / top * top + (x2 * W + x1) % top = x2 * W + x1 := Nat.div_add_mod' _ _
  obtain ⟨D, hD⟩ : ∃ D, gsS top next x0 ((x2 * W + x1) / top) ((x2 * W + x1) / top) ((x2 * W + x1) % top) = D := ⟨_, rfl⟩
  rw [hD]
  obtain ⟨Q, hQ⟩ : ∃ Q, Q = (x2 * W + x1) / top := ⟨_, rfl⟩
  obtain ⟨R, hR⟩ : ∃ R, R = (x2 * W + x1) % top := ⟨_, rfl⟩
  rw [← hQ, ← hR] at k1 hD hqr
  rw [← hQ] at hq0W
  rw [← hR] at hrW
  clear hQ hR g1 g2 hqN hN hVt1 hZV hq0 H hV0
  have w1 : IntKind.wrap .i64 (((n + 1 : Nat) : Int) - 1) = (n : Int) := by rw [wrap64 (by omega) (by omega)]; omega
  have w2 : IntKind.wrap .i64 ((n : Int) - 1) = ((n - 1 : Nat) : Int) := by rw [wrap64 (by omega) (by omega)]; omega
  have w3 : IntKind.wrap .i64 ((n : Int) - 2) = ((n - 2 : Nat) : Int) := by rw [wrap64 (by omega) (by omega)]; omega
  generalize U out = UU at *
  simp only [u] at k1
  refine PCM.of_body follows Tryz.func241 (by decide +kernel) rfl (by kernel_rfl) (Nat.le_of_ble_eq_true rfl) (Nat.le_refl _) (by simp) (fun k h => by cases h) (fun h => by cases h) (walk ?_)
  simp only [mstart, startS, blkL, shiftSV]
  simp only [Tryz.f241, w1, go_sem]
  refine qand_i (by omega) ?_
  simp only [Tryz.f241, w1, go_sem]
  refine qval_i (congrArg (Option.map _) d2) ?_
  simp only [Tryz.f241, w1, w2, go_sem]
  refine qif_df (by omega) ?_
  simp only [Tryz.f241, w1, w2, go_sem]
  repeat' first
    | ((with_reducible refine qand_i (by omega) ?_); simp only [Tryz.f241, w1, w2, go_sem])
    | (refine qval_i (congrArg (Option.map _) d2) ?_; simp only [Tryz.f241, w1, w2, go_sem])
    | (refine qval_i (congrArg (Option.map _) d1) ?_; simp only [Tryz.f241, w1, w2, go_sem])
  refine qcall_i (k1) ?_; simp only [Tryz.f241, w1, w2, go_sem]
  refine PLoop.intro (fun i : Nat × Nat => ⟨[(0, .sub 71 o (n + 1)), (1, .val (.int .u64 top)), (2, .val (.int .u64 next)), (7, .val (.int .i64 n)), (8, .val (.int .u64 i.1)), (9, .val (.int .u64 i.2))], [(71, (.row 22 1 out.length UU, false))]⟩)
    (fun i => i.1 < W ∧ i.2 < W ∧ gsS top next x0 i.1 i.1 i.2 = D) (fun i => i.1) (Q, R) ⟨hq0W, hrW, hD⟩ ?_ fun i hi => walk ?_
  · simp [Wk, sget, killL, kill1, SV.key]
  obtain ⟨q, r⟩ := i
  obtain ⟨j1, j2, j3⟩ := hi
  dsimp only at j1 j2 j3 ⊢
  have k2 := c_Mul64 q next j1 hxW
  have hML := Nat.div_add_mod' (q * next) W
  have hlo := Nat.mod_lt (q * next) hW
  have hiff := hi_lo (r := r) hML hlo hx0W
  have k3 := c_Add64 r top 0 (by decide)
  simp only [Nat.add_zero] at k3
  rw [show u 0 = .int .u64 0 from rfl] at k3
  simp only [u] at k2 k3
  have hgo : ¬ (q * next ≤ r * W + x0) → 0 < q ∧ gsS top next x0 q q r = if r + top < W then gsS top next x0 (q - 1) (q - 1) (r + top) else q - 1 := fun h => by
    have hq : 0 < q := Nat.pos_of_ne_zero fun h0 => h (by rw [h0, Nat.zero_mul]; exact Nat.zero_le _)
    obtain ⟨p, rfl⟩ : ∃ p, q = p + 1 := ⟨q - 1, by omega⟩
    refine ⟨hq, ?_⟩
    conv => lhs; unfold gsS
    rw [if_neg h]; rfl
  have hret : q * next ≤ r * W + x0 → gsS top next x0 q q r = q := fun h => by
    rcases q with _ | q
    · rfl
    · unfold gsS; rw [if_pos h]
  obtain ⟨mh, hmh⟩ : ∃ m, m = q * next / W := ⟨_, rfl⟩
  obtain ⟨ml, hml⟩ : ∃ m, m = q * next % W := ⟨_, rfl⟩
  rw [← hmh, ← hml] at hiff k2
  have wd : 0 < q → IntKind.wrap .u64 ((q : Int) - 1) = ((q - 1 : Nat) : Int) := fun h => by rw [IntKind.wrap_u64]; have : q < 18446744073709551616 := j1; omega
  simp only [Tryz.f241, go_sem]
  refine qcall_i (k2) ?_; simp only [Tryz.f241, go_sem]
  refine qif_d (fun h1 => ?_) (fun h1 => ?_)
  · have hr := hret (hiff.1 (.inl (by omega)))
    simp only [Tryz.f241, go_sem]
    exact fin1 (by decide) (by simp [sget]) (by rw [← j3, hr]; rfl)
  simp only [Tryz.f241, go_sem]
  refine qif_d (fun h2 => ?_) (fun h2 => ?_)
  · simp only [Tryz.f241, w3, go_sem]
    refine qand_i (by omega) ?_
    simp only [Tryz.f241, w3, go_sem]
    refine qval_i (congrArg (Option.map _) d0) ?_
    simp only [Tryz.f241, w3, go_sem]
    refine qif_d (fun h3 => ?_) (fun h3 => ?_)
    · have hr := hret (hiff.1 (.inr ⟨by omega, by omega⟩))
      simp only [Tryz.f241, go_sem]
      exact fin1 (by decide) (by simp [sget]) (by rw [← j3, hr]; rfl)
    · obtain ⟨hq0, hgg⟩ := hgo (fun h => by have := hiff.2 h; omega)
      have wd := wd hq0
      simp only [Tryz.f241, wd, go_sem]
      refine qcall_i (k3) ?_; simp only [Tryz.f241, wd, go_sem]
      refine qif_d (fun h4 => ?_) (fun h4 => ?_)
      · have h5 : ¬ r + top < W := fun h => by rw [Nat.div_eq_of_lt h] at h4; omega
        rw [if_neg h5] at hgg
        simp only [Tryz.f241, go_sem]
        exact fin1 (by decide) (by simp [sget]) (by rw [← j3, hgg]; rfl)
      · have h5 : r + top < W := Nat.not_le.1 fun h => by have := Nat.div_pos h hW; omega
        rw [if_pos h5] at hgg
        rw [Nat.mod_eq_of_lt h5]
        simp only [Tryz.f241, go_sem]
        refine ⟨(q - 1, r + top), ⟨by dsimp only; omega, h5, by dsimp only; rw [← hgg]; exact j3⟩, by dsimp only; omega, ?_⟩
        simp [Wk, sget, killL, kill1, SV.key]
  · obtain ⟨hq0, hgg⟩ := hgo (fun h => by have := hiff.2 h; omega)
    have wd := wd hq0
    simp only [Tryz.f241, wd, go_sem]
    refine qcall_i (k3) ?_; simp only [Tryz.f241, wd, go_sem]
    refine qif_d (fun h4 => ?_) (fun h4 => ?_)
    · have h5 : ¬ r + top < W := fun h => by rw [Nat.div_eq_of_lt h] at h4; omega
      rw [if_neg h5] at hgg
      simp only [Tryz.f241, go_sem]
      exact fin1 (by decide) (by simp [sget]) (by rw [← j3, hgg]; rfl)
    · have h5 : r + top < W := Nat.not_le.1 fun h => by have := Nat.div_pos h hW; omega
      rw [if_pos h5] at hgg
      rw [Nat.mod_eq_of_lt h5]
      simp only [Tryz.f241, go_sem]
      refine ⟨(q - 1, r + top), ⟨by dsimp only; omega, h5, by dsimp only; rw [← hgg]; exact j3⟩, by dsimp only; omega, ?_⟩
      simp [Wk, sget, killL, kill1, SV.key]
end
section
open Go PG Go.Proofs
def remK (A V k : Nat) : Nat := A / W ^ k % V * W ^ k + A % W ^ k
theorem remK_zero (A V : Nat) : remK A V 0 = A % V := by
  unfold remK
  rw [Nat.pow_zero, Nat.div_one, Nat.mod_one, Nat.mul_one, Nat.add_zero]
theorem remK_top {A V k : Nat} (h : A / W ^ k < V) : remK A V k = A := by
  unfold remK
  rw [Nat.mod_eq_of_lt h, Nat.mul_comm]
  exact Nat.div_add_mod A (W ^ k)
theorem remK_step {A V k n : Nat} (hV : 0 < V) (hVn : V < W ^ n) :
    remK A V (k + 1) / W ^ k < V * W ∧ remK A V (k + 1) / W ^ k / V = A / V / W ^ k % W ∧ remK A V k = remK A V (k + 1) % W ^ k + W ^ k * (remK A V (k + 1) / W ^ k % V) ∧ remK A V (k + 1) < W ^ (k + n + 1) := by
  have hk := Nat.pow_pos (n := k) W0
  have hp : W ^ (k + 1) = W ^ k * W := Nat.pow_succ ..
  have e1 : A / W ^ (k + 1) = A / W ^ k / W := by rw [hp, Nat.div_div_eq_div_mul]
  have e2 : A % W ^ (k + 1) = A % W ^ k + W ^ k * (A / W ^ k % W) := by rw [hp, Nat.mod_mul]
  have e3 : A / V / W ^ k = A / W ^ k / V := by rw [Nat.div_div_eq_div_mul, Nat.div_div_eq_div_mul, Nat.mul_comm]
  have er : remK A V (k + 1) = A % W ^ k + W ^ k * (A / W ^ k / W % V * W + A / W ^ k % W) := by
    unfold remK
    rw [e1, e2, hp, Nat.mul_add, Nat.mul_left_comm]
    omega
  have hml := Nat.mod_lt A hk
  have ed : remK A V (k + 1) / W ^ k = A / W ^ k / W % V * W + A / W ^ k % W := by
    rw [er, Nat.add_mul_div_left _ _ hk, Nat.div_eq_of_lt hml, Nat.zero_add]
  have em : remK A V (k + 1) % W ^ k = A % W ^ k := by rw [er, Nat.add_mul_mod_self_left, Nat.mod_eq_of_lt hml]
  rw [ed, em, e3]
  have hs := small_step (X := A / W ^ k) (n := V) (i := 0) hV
  simp only [Nat.pow_zero, Nat.div_one, Nat.zero_add, Nat.pow_one] at hs
  have hlt : A / W ^ k / W % V * W + A / W ^ k % W < V * W := by
    have a := Nat.mod_lt (A / W ^ k / W) hV
    have b := Nat.mod_lt (A / W ^ k) W0
    have : (A / W ^ k / W % V + 1) * W ≤ V * W := Nat.mul_le_mul_right _ a
    rw [Nat.add_mul, Nat.one_mul] at this
    omega
  refine ⟨hlt, hs.1, ?_, ?_⟩
  · rw [hs.2]
    unfold remK
    rw [Nat.add_comm, Nat.mul_comm]
  · rw [er]
    have h1 : W ^ k * (A / W ^ k / W % V * W + A / W ^ k % W) + W ^ k ≤ W ^ k * (V * W) := by
      rw [← Nat.mul_succ]; exact Nat.mul_le_mul_left _ hlt
    have h2 : W ^ k * (V * W) ≤ W ^ k * (W ^ n * W) := Nat.mul_le_mul_left _ (Nat.mul_le_mul_right _ (Nat.le_of_lt hVn))
    have h3 : W ^ k * (W ^ n * W) = W ^ (k + n + 1) := by rw [← Nat.pow_succ, ← Nat.pow_add]; congr 1
    omega
theorem part_num {X o n m : Nat} (hX : X < W ^ (o + n + 1)) : dv W (((tab W X m).drop o).take (n + 1)) = (X % W ^ m) / W ^ o % W ^ (n + 1) := by
  have okP := ok_tab W0 X m
  have okd : Ok W ((tab W X m).drop o) := fun d hd => okP d (List.mem_of_mem_drop hd)
  rw [(dv_take _ okd _).1, (dv_take _ okP _).2, dv_tab]
theorem row_num {X o n m T : Nat} (hm : o + n + 1 ≤ m) (hX : X < W ^ (o + n + 1)) : rowL (tab W X m) o T (n + 1) = tab W (X % W ^ o + W ^ o * (T % W ^ (n + 1))) m := by
  have okP := ok_tab W0 X m
  have hXm : X < W ^ m := Nat.lt_of_lt_of_le hX (Nat.pow_le_pow_right W0 hm)
  have dP : dv W (tab W X m) = X := (dv_tab X m).trans (Nat.mod_eq_of_lt hXm)
  have hd0 : X / W ^ (o + (n + 1)) = 0 := Nat.div_eq_of_lt (by rw [← Nat.add_assoc]; exact hX)
  have okR : Ok W (rowL (tab W X m) o T (n + 1)) := by
    intro d hd
    unfold rowL at hd
    rcases List.mem_append.1 hd with hd | hd
    · exact okP d (List.mem_of_mem_take hd)
    · rcases List.mem_append.1 hd with hd | hd
      · exact ok_tab W0 _ _ d hd
      · exact okP d (List.mem_of_mem_drop hd)
  have hlen : (rowL (tab W X m) o T (n + 1)).length = m := by rw [rowL_len (by rw [tab_length]; omega), tab_length]
  have hdv : dv W (rowL (tab W X m) o T (n + 1)) = X % W ^ o + W ^ o * (T % W ^ (n + 1)) := by
    unfold rowL
    rw [dv_append, dv_append, (dv_take _ okP _).1, (dv_take _ okP _).2, dP, dv_tab, tab_length, List.length_take, tab_length, Nat.min_eq_left (by omega), hd0, Nat.mul_zero, Nat.add_zero]
  have := tab_of okR
  rw [hdv, hlen] at this
  exact this
theorem put_num {Y o Z n m : Nat} (hY : Y < W ^ o) (hZ : Z < W ^ (n + 1)) (hm : o + n + 1 ≤ m) (T : Nat) :
    dv W (((tab W (Y + W ^ o * Z) m).drop o).take (n + 1)) = Z ∧ rowL (tab W (Y + W ^ o * Z) m) o T (n + 1) = tab W (Y + W ^ o * (T % W ^ (n + 1))) m := by
  have ho := Nat.pow_pos (n := o) W0
  have hX : Y + W ^ o * Z < W ^ (o + n + 1) := by
    have : W ^ o * (Z + 1) ≤ W ^ o * W ^ (n + 1) := Nat.mul_le_mul_left _ hZ
    rw [← Nat.pow_add, Nat.mul_add, Nat.mul_one, ← Nat.add_assoc] at this
    omega
  have hXm : Y + W ^ o * Z < W ^ m := Nat.lt_of_lt_of_le hX (Nat.pow_le_pow_right W0 hm)
  refine ⟨?_, ?_⟩
  · rw [part_num hX, Nat.mod_eq_of_lt hXm, Nat.add_mul_div_left _ _ ho, Nat.div_eq_of_lt hY, Nat.zero_add, Nat.mod_eq_of_lt hZ]
  · rw [row_num hm hX, Nat.add_mul_mod_self_left, Nat.mod_eq_of_lt hY]
end
section
open Go PG Go.Proofs
theorem long_step {A V n m k : Nat} (hV0 : 0 < V) (hVn : V < W ^ n) (hn : 2 ≤ n) (hk : k + n + 1 ≤ m) (hm : m ≤ 200000) : ∃ (F : Nat → List PV) (d0 : Nat), A / V / W ^ k % W ≤ d0 ∧ d0 < W ∧ F (A / V / W ^ k % W) = U (tab W (remK A V k) m) ∧
    PCM E 241 [.sub 0 k (n + 1), .val (.int .u64 ((V / W ^ (n - 1) % W : Nat) : Int)), .val (.int .u64 ((V / W ^ (n - 2) % W : Nat) : Int))] [.row 22 1 m (U (tab W (remK A V (k + 1)) m))] (.val (.int .u64 d0)) [.row 22 1 m (U (tab W (remK A V (k + 1)) m))] ∧
    PCM E 242 [.sub 0 k (n + 1), .sub 1 0 n, .val (.int .u64 d0)] [.row 22 1 m (U (tab W (remK A V (k + 1)) m)), .row 22 1 (n + 1) (U (tab W V (n + 1)))] (.val (.bool (decide (A / V / W ^ k % W < d0)))) [.row 22 1 m (F d0), .row 22 1 (n + 1) (U (tab W V (n + 1)))] ∧
    ∀ d, A / V / W ^ k % W < d → d < W → PCM E 243 [.sub 0 k (n + 1), .sub 1 0 n] [.row 22 1 m (F d), .row 22 1 (n + 1) (U (tab W V (n + 1)))] (.val (.bool (decide (d - 1 = A / V / W ^ k % W)))) [.row 22 1 m (F (d - 1)), .row 22 1 (n + 1) (U (tab W V (n + 1)))] := by
  obtain ⟨s1, s2, s3, s4⟩ := remK_step (A := A) (k := k) hV0 hVn
  have hkW := Nat.pow_pos (n := k) W0
  have hnW := Nat.pow_pos (n := n + 1) W0
  obtain ⟨X, hX⟩ : ∃ X, X = remK A V (k + 1) := ⟨_, rfl⟩
  rw [← hX] at s1 s2 s3 s4 ⊢
  have hXe : X = X % W ^ k + W ^ k * (X / W ^ k) := by have := Nat.mod_add_div X (W ^ k); omega
  have hY : X % W ^ k < W ^ k := Nat.mod_lt _ hkW
  obtain ⟨Y, hYd⟩ : ∃ Y, Y = X % W ^ k := ⟨_, rfl⟩
  obtain ⟨Z, hZd⟩ : ∃ Z, Z = X / W ^ k := ⟨_, rfl⟩
  rw [← hYd, ← hZd] at hXe
  rw [← hYd] at hY s3
  rw [← hZd] at s1 s2 s3
  have hZl : Z < W ^ (n + 1) := by
    refine Nat.lt_of_lt_of_le s1 ?_
    rw [Nat.pow_succ]; exact Nat.mul_le_mul_right _ (Nat.le_of_lt hVn)
  rw [← s2, s3, hXe]
  have hZdiv := Nat.div_add_mod Z V
  have hVl : (tab W V (n + 1)).length = n + 1 := tab_length _ _ _
  have okV := ok_tab W0 V (n + 1)
  have hVt : dv W ((tab W V (n + 1)).take n) = V := by
    have hV1 : V < W ^ (n + 1) := Nat.lt_of_lt_of_le hVn (Nat.pow_le_pow_right W0 (Nat.le_succ _))
    rw [(dv_take _ okV _).1, dv_tab, Nat.mod_eq_of_lt hV1, Nat.mod_eq_of_lt hVn]
  have hlenX : ∀ P, (tab W P m).length = m := fun P => tab_length _ _ _
  have hVdig : V / W ^ (n - 1) % W = V / W ^ (n - 1) := Nat.mod_eq_of_lt (by
    rw [Nat.div_lt_iff_lt_mul (Nat.pow_pos W0), Nat.mul_comm, ← Nat.pow_succ, show (n - 1).succ = n by omega]; exact hVn)
  rw [hVdig]
  obtain ⟨d0, g1, g2, kg⟩ := d_guess (out := tab W (Y + W ^ k * Z) m) (o := k) (n := n) (top := V / W ^ (n - 1)) (next := V / W ^ (n - 2) % W) (ok_tab W0 _ _) (by rw [hlenX]; exact hk) (by rw [hlenX]; exact hm) hn (put_num hY hZl hk 0).1 hVn s1 rfl rfl
  rw [hlenX] at kg
  have kt := fun q (hq : q < W) => d_takeOff (out := tab W (Y + W ^ k * Z) m) (vv := tab W V (n + 1)) (o := k) (n := n) (q := q) (ok_tab W0 _ _) okV hq (by rw [hlenX]; exact hk) (by rw [hlenX]; exact hm) (by rw [hVl]; omega) (by rw [hVl]; omega) (put_num hY hZl hk 0).1 hVt
  simp only [hlenX, hVl, (put_num hY hZl hk _).2] at kt
  refine ⟨fun q => U (tab W (Y + W ^ k * ((Z + W ^ (n + 1) - V * q) % W ^ (n + 1))) m), d0, g1, g2, ?_, kg, ?_, fun d h1 h2 => ?_⟩
  · dsimp only
    have e : (Z + W ^ (n + 1) - V * (Z / V)) % W ^ (n + 1) = Z % V := by
      have e1 : Z + W ^ (n + 1) - V * (Z / V) = Z % V + W ^ (n + 1) := by omega
      rw [e1, Nat.add_mod_right, Nat.mod_eq_of_lt (Nat.lt_of_le_of_lt (Nat.mod_le _ _) hZl)]
    rw [e]
  · have := kt d0 g2
    have e : decide (Z < V * d0) = decide (Z / V < d0) := decide_eq_decide.2 (by rw [Nat.div_lt_iff_lt_mul hV0, Nat.mul_comm])
    rw [e] at this
    exact this
  · have hlt : Z < V * d := by rw [Nat.mul_comm]; exact (Nat.div_lt_iff_lt_mul hV0).1 h1
    have hVd : V * d < W ^ (n + 1) := by rw [Nat.pow_succ]; exact Nat.mul_lt_mul'' hVn h2
    have hd1 : V * d = V * (d - 1) + V := by
      obtain ⟨p, rfl⟩ : ∃ p, d = p + 1 := ⟨d - 1, by omega⟩
      rw [Nat.add_sub_cancel, Nat.mul_succ]
    have hZ' : Z + W ^ (n + 1) - V * d < W ^ (n + 1) := by omega
    dsimp only
    rw [Nat.mod_eq_of_lt hZ']
    have kp := d_putBack (out := tab W (Y + W ^ k * (Z + W ^ (n + 1) - V * d)) m) (vv := tab W V (n + 1)) (o := k) (n := n) (ok_tab W0 _ _) okV (by rw [hlenX]; exact hk) (by rw [hlenX]; exact hm) (by rw [hVl]; omega) (by rw [hVl]; omega) (put_num hY hZ' hk 0).1 hVt
    simp only [hlenX, hVl, (put_num hY hZ' hk _).2] at kp
    have e1 : Z + W ^ (n + 1) - V * d + V = Z + W ^ (n + 1) - V * (d - 1) := by omega
    have e2 : decide (W ^ (n + 1) ≤ Z + W ^ (n + 1) - V * d + V) = decide (d - 1 = Z / V) := decide_eq_decide.2 (by
      have h3 : d - 1 ≤ Z / V ↔ (d - 1) * V ≤ Z := Nat.le_div_iff_mul_le hV0
      rw [Nat.mul_comm (d - 1)] at h3
      constructor
      · intro h
        have := h3.2 (by omega)
        omega
      · intro h
        have := h3.1 (by omega)
        omega)
    rw [e2, e1] at kp
    exact kp
set_option maxHeartbeats 4000000 in
theorem d_long {a b : List Nat} (oa : Ok W a) (ob : Ok W b) (la : a.length ≤ 100000) (hn : 2 ≤ b.length) (hba : b.length ≤ a.length) (hb : W ^ (b.length - 1) ≤ vl b) : PC E 223 [NL a, NL b] (.tuple [NN (vl a / vl b), NN (vl a % vl b)]) := by
  have hA : vl a < W ^ a.length := dv_lt a oa
  have hB : vl b < W ^ b.length := dv_lt b ob
  obtain ⟨n, hnd⟩ : ∃ n, n = b.length := ⟨_, rfl⟩
  obtain ⟨m, hmd⟩ : ∃ m, m = a.length := ⟨_, rfl⟩
  have hg := digit_at ob (i := n - 1) (by omega)
  rw [← hnd] at hn hba hb hB
  rw [← hmd] at hA la hba
  have hn1 := Nat.pow_pos (n := n - 1) W0
  have hB2 : vl b / W ^ (n - 1) < W := by
    rw [Nat.div_lt_iff_lt_mul hn1, Nat.mul_comm, ← Nat.pow_succ, show (n - 1).succ = n by omega]; exact hB
  rw [Nat.mod_eq_of_lt hB2] at hg
  have htop0 : vl b / W ^ (n - 1) ≠ 0 := by have := Nat.div_pos hb hn1; omega
  obtain ⟨nb1, nb2, nb3⟩ := norm_top htop0 hB2
  have hbp := bitLen_pos htop0
  have klz := c_Lead (vl b / W ^ (n - 1)) hB2
  obtain ⟨s, hs⟩ : ∃ s, s = 64 - bitLen (vl b / W ^ (n - 1)) := ⟨_, rfl⟩
  rw [show (64 : Int) - (bitLen (vl b / W ^ (n - 1)) : Int) = (s : Int) by omega] at klz
  have hs63 : s ≤ 63 := by omega
  have hp := Nat.two_pow_pos s
  have hVn : vl b * 2 ^ s < W ^ n := by
    have h1 := (bitLen_le (vl b / W ^ (n - 1)) (bitLen (vl b / W ^ (n - 1)))).1 (Nat.le_refl _)
    have h2 : vl b < (vl b / W ^ (n - 1) + 1) * W ^ (n - 1) := by
      have := Nat.div_add_mod (vl b) (W ^ (n - 1))
      have h3 := Nat.mod_lt (vl b) hn1
      rw [Nat.add_mul, Nat.one_mul, Nat.mul_comm]
      omega
    have h4 : (vl b / W ^ (n - 1) + 1) * 2 ^ s ≤ W := by
      have e : 2 ^ bitLen (vl b / W ^ (n - 1)) * 2 ^ s = W := by
        rw [← Nat.pow_add, show bitLen (vl b / W ^ (n - 1)) + s = 64 by omega]
      have h8 := Nat.mul_le_mul_right (2 ^ s) (Nat.succ_le_of_lt h1)
      rw [e] at h8
      exact h8
    have h5 : vl b * 2 ^ s < (vl b / W ^ (n - 1) + 1) * W ^ (n - 1) * 2 ^ s := Nat.mul_lt_mul_of_pos_right h2 hp
    have h6 : (vl b / W ^ (n - 1) + 1) * W ^ (n - 1) * 2 ^ s ≤ W * W ^ (n - 1) := by
      rw [Nat.mul_right_comm]; exact Nat.mul_le_mul_right _ h4
    have h7 : W * W ^ (n - 1) = W ^ n := by rw [Nat.mul_comm, ← Nat.pow_succ]; congr 1; omega
    omega
  have hV0 : 0 < vl b * 2 ^ s := Nat.mul_pos (by omega) hp
  have kl1 := d_left oa (by omega) hs63
  have kl2 := d_left ob (by omega) hs63
  rw [← hmd] at kl1
  rw [← hnd] at kl2
  have hstart : vl a * 2 ^ s / W ^ (m - n + 1) < vl b * 2 ^ s := by
    rw [Nat.div_lt_iff_lt_mul (Nat.pow_pos W0)]
    have h1 : vl a * 2 ^ s < W ^ m * 2 ^ s := Nat.mul_lt_mul_of_pos_right hA hp
    have h2 : W ^ (n - 1) * 2 ^ s * W ^ (m - n + 1) ≤ vl b * 2 ^ s * W ^ (m - n + 1) := Nat.mul_le_mul_right _ (Nat.mul_le_mul_right _ hb)
    have h3 : W ^ (n - 1) * 2 ^ s * W ^ (m - n + 1) = W ^ m * 2 ^ s := by
      rw [Nat.mul_right_comm, ← Nat.pow_add]; congr 2; omega
    omega
  have hst := fun k (hk : k < m - n + 1) => long_step (A := vl a * 2 ^ s) (V := vl b * 2 ^ s) (n := n) (m := m + 1) (k := k) hV0 hVn hn (by omega) (by omega)
  have hQ : vl a * 2 ^ s / (vl b * 2 ^ s) = vl a / vl b := Nat.mul_div_mul_right _ _ hp
  have hR : vl a * 2 ^ s % (vl b * 2 ^ s) = vl a % vl b * 2 ^ s := Nat.mul_mod_mul_right ..
  rw [hQ] at hst
  have h0r : tab W (remK (vl a * 2 ^ s) (vl b * 2 ^ s) (m - n + 1)) (m + 1) = tab W (vl a * 2 ^ s) (m + 1) := by rw [remK_top hstart]
  have hQl : vl a / vl b < W ^ (m - n + 1) := by
    rw [Nat.div_lt_iff_lt_mul (by omega)]
    have h1 : W ^ (m - n + 1) * W ^ (n - 1) ≤ W ^ (m - n + 1) * vl b := Nat.mul_le_mul_left _ hb
    rw [← Nat.pow_add, show m - n + 1 + (n - 1) = m by omega] at h1
    omega
  have hRl : vl a % vl b * 2 ^ s < W ^ (m + 1) := by
    refine Nat.lt_of_lt_of_le (Nat.lt_trans (Nat.mul_lt_mul_of_pos_right (Nat.mod_lt _ (by omega)) hp) hVn) (Nat.pow_le_pow_right W0 (by omega))
  have ksh : PC E 158 [.lst (m + 1) (U (tab W (remK (vl a * 2 ^ s) (vl b * 2 ^ s) 0) (m + 1))), .int .i64 s] (.tuple [NN (vl a % vl b), .bool false]) := by
    have hnum : Num (NL (tab W (vl a % vl b * 2 ^ s) (m + 1))) (vl a % vl b * 2 ^ s) := ⟨_, rfl, ok_tab W0 _ _, (dv_tab _ _).trans (Nat.mod_eq_of_lt hRl), by rw [tab_length]; omega⟩
    have := k_Shrn hnum s
    rw [Nat.mul_div_cancel _ hp, Nat.mul_mod_left] at this
    rw [remK_zero, hR]
    unfold NL at this
    rw [tab_length] at this
    exact this
  have kba : PC E 119 [.lst (m - n + 1) (U (outL (vl a / vl b) (m - n + 1) 0))] (NN (vl a / vl b)) := by
    rw [outL_zero]
    exact PC.at_list (n_Bare (tab W (vl a / vl b) (m - n + 1)) (by rw [tab_length]; omega) (ok_tab W0 _ _)) (tab_length _ _ _) ((dv_tab _ _).trans (Nat.mod_eq_of_lt hQl))
  have hout0 : U (outL (vl a / vl b) (m - n + 1) (m - n + 1)) = List.replicate (m - n + 1) (.int .u64 0) := by rw [outL_all, U_replicate]
  have hset := fun i (hi : i < m - n + 1) => outL_set (X := vl a / vl b) hi
  have hlenU : ∀ i, (U (outL (vl a / vl b) (m - n + 1) i)).length = m - n + 1 := fun i => by unfold U; rw [List.length_map, outL_len]
  have hvd : ∀ i, i < n + 1 → (U (tab W (vl b * 2 ^ s) (n + 1)))[i]? = some (.int .u64 ((vl b * 2 ^ s / W ^ i % W : Nat) : Int)) := fun i hi => tab_getU hi
  rw [← h0r] at kl1
  clear h0r hQ hR hQl hRl hstart hV0 hVn nb1 nb2 nb3 hbp hB2 htop0 hA hB hb oa ob hs hp hn1
  obtain ⟨RU, hRU⟩ : ∃ RU : Nat → List PV, ∀ k, U (tab W (remK (vl a * 2 ^ s) (vl b * 2 ^ s) k) (m + 1)) = RU k := ⟨_, fun _ => rfl⟩
  obtain ⟨RV, hRV⟩ : ∃ RV : List PV, U (tab W (vl b * 2 ^ s) (n + 1)) = RV := ⟨_, rfl⟩
  obtain ⟨G, hG⟩ : ∃ G : Nat → Nat, ∀ i, vl a / vl b / W ^ i % W = G i := ⟨_, fun _ => rfl⟩
  obtain ⟨VD, hVD⟩ : ∃ VD : Nat → Nat, ∀ i, vl b * 2 ^ s / W ^ i % W = VD i := ⟨_, fun _ => rfl⟩
  obtain ⟨O, hO⟩ : ∃ O : Nat → List PV, ∀ i, U (outL (vl a / vl b) (m - n + 1) i) = O i := ⟨_, fun _ => rfl⟩
  simp only [hRU, hRV, hG, hVD, hO] at kl1 kl2 hst ksh kba hout0 hset hlenU hvd
  clear hRU hRV hG hVD hO
  obtain ⟨B1, hB1⟩ : ∃ x, x = vl b / W ^ (n - 1) := ⟨_, rfl⟩
  obtain ⟨Qf, hQf⟩ : ∃ x, x = NN (vl a / vl b) := ⟨_, rfl⟩
  obtain ⟨Rf, hRf⟩ : ∃ x, x = NN (vl a % vl b) := ⟨_, rfl⟩
  rw [← hB1] at hg klz
  rw [← hQf] at kba ⊢
  rw [← hRf] at ksh ⊢
  clear hB1 hQf hRf
  have w1 : IntKind.wrap .i64 ((n : Int) - 1) = ((n - 1 : Nat) : Int) := by rw [wrap64 (by omega) (by omega)]; omega
  have w2 : IntKind.wrap .i64 ((m : Int) - (n : Int)) = ((m - n : Nat) : Int) := by rw [wrap64 (by omega) (by omega)]; omega
  have w3 : IntKind.wrap .i64 (((m - n : Nat) : Int) + 1) = ((m - n + 1 : Nat) : Int) := by rw [wrap64 (by omega) (by omega)]; omega
  have w4 : IntKind.wrap .i64 (((m - n + 1 : Nat) : Int) - 1) = ((m - n + 1 : Nat) : Int) - 1 := wrap64 (by omega) (by omega)
  have w5 : IntKind.wrap .i64 ((n : Int) - 2) = ((n - 2 : Nat) : Int) := by rw [wrap64 (by omega) (by omega)]; omega
  simp only [NL, u, ← hnd, ← hmd] at kl1 kl2 klz ⊢
  generalize U a = UA at *
  generalize U b = UB at *
  refine PC.of_body follows Tryz.func223 (by decide +kernel) rfl (by kernel_rfl) (Nat.le_of_ble_eq_true rfl) (walk ?_)
  simp only [Tryz.f223, w1, go_sem]
  refine qand_i (by omega) ?_
  simp only [Tryz.f223, w1, go_sem]
  refine qval_i (congrArg (Option.map _) hg) ?_
  simp only [Tryz.f223, w1, go_sem]
  refine qcall_i (klz) ?_; simp only [Tryz.f223, w1, go_sem]
  refine qinl_i [] kl1 rfl (by decide) rfl (fun i b k hb => by simp at hb) (by intro d h; simp) (by intro h; cases h) ?_
  simp only [Tryz.f223, ren, eraO, eraL, List.getD_cons_zero, List.filter_cons, List.filter_nil, go_sem]
  refine qinl_i [] kl2 rfl (by decide) rfl (fun i b k hb => by simp at hb) (by intro d h; simp) (by intro h; cases h) ?_
  simp only [Tryz.f223, ren, eraO, eraL, List.getD_cons_zero, List.filter_cons, List.filter_nil, w2, w3, w4, go_sem]
  repeat' ((with_reducible refine qand_i (by omega) ?_); simp only [Tryz.f223, w2, w3, w4, go_sem])
  refine PLoop.intro (fun i : Nat => ⟨[(6, .val (.int .i64 n)), (7, .val (.int .i64 s)), (8, .row 27), (9, .sub 30 0 n), (10, .row 38), (11, .val (.int .i64 ((i : Int) - 1)))],
    [(27, (.row 22 1 (m + 1) (RU i), false)), (30, (.row 22 1 (n + 1) RV, false)), (38, (.row 22 1 (m - n + 1) (O i), false))]⟩) (fun i => i ≤ m - n + 1) (fun i => i) (m - n + 1) (Nat.le_refl _) ?_ fun i hi => walk ?_
  · rw [hout0]
    simp [Wk, sget, killL, kill1, SV.key]
  rcases i with _ | k
  · simp only [Tryz.f223, go_sem]
    refine qif_df (by omega) ?_
    simp only [Tryz.f223, go_sem]
    refine qcall_i (ksh) ?_; simp only [Tryz.f223, go_sem]
    refine qcall_i (kba) ?_; simp only [Tryz.f223, go_sem]
    try rfl
  have we : ((k + 1 : Nat) : Int) - 1 = (k : Int) := by omega
  have wi : IntKind.wrap .i64 ((k : Int) - 1) = (k : Int) - 1 := wrap64 (by omega) (by omega)
  have wa : IntKind.wrap .i64 ((k : Int) + (n : Int)) = ((k + n : Nat) : Int) := by rw [wrap64 (by omega) (by omega)]; omega
  have wb : IntKind.wrap .i64 (((k + n : Nat) : Int) + 1) = ((k + n + 1 : Nat) : Int) := by rw [wrap64 (by omega) (by omega)]; omega
  have wc : k + n + 1 - k = n + 1 := by omega
  obtain ⟨F, d0, g1, g2, g3, kg, kt, kp⟩ := hst k (by omega)
  have v1 := hvd (n - 1) (by omega)
  have v2 := hvd (n - 2) (by omega)
  have x2 := hset k (by omega)
  have x3 := hlenU (k + 1)
  clear hst kl1 kl2 klz hg hvd hset hlenU
  simp only [Tryz.f223, we, wa, wb, go_sem]
  refine qif_dt (by omega) ?_
  simp only [Tryz.f223, we, wa, wb, go_sem]
  repeat' ((with_reducible refine qand_i (by omega) ?_); simp only [Tryz.f223, we, wa, wb, wc, w1, w5, go_sem])
  refine qval_i (congrArg (Option.map _) v1) ?_
  simp only [Tryz.f223, we, wa, wb, wc, w1, w5, go_sem]
  repeat' ((with_reducible refine qand_i (by omega) ?_); simp only [Tryz.f223, we, wa, wb, wc, w1, w5, go_sem])
  refine qval_i (congrArg (Option.map _) v2) ?_
  simp only [Tryz.f223, we, wa, wb, wc, w1, w5, go_sem]
  refine qinl_i [27] (kg) rfl (by decide) rfl (one_blk rfl) (by intro d h; first | (cases h; decide) | cases h) (by intro h; first | rfl | cases h) ?_; simp only [Tryz.f223, ren, eraO, eraL, List.getD_cons_zero, List.getD_cons_succ, List.filter_cons, List.filter_nil, go_sem]
  refine qinl_i [27,30] (kt) rfl (by decide) rfl (two_blk ⟨rfl, rfl⟩) (by intro d h; first | (cases h; decide) | cases h) (by intro h; first | rfl | cases h) ?_; simp only [Tryz.f223, ren, eraO, eraL, List.getD_cons_zero, List.getD_cons_succ, List.filter_cons, List.filter_nil, go_sem]
  refine PLoop.intro (fun d : Nat => ⟨[(6, .val (.int .i64 n)), (7, .val (.int .i64 s)), (8, .row 27), (9, .sub 30 0 n), (10, .row 38), (11, .val (.int .i64 k)), (12, .sub 27 k (n + 1)), (13, .val (.int .u64 d)), (14, .val (.bool (decide (G k < d))))],
    [(27, (.row 22 1 (m + 1) (F d), false)), (30, (.row 22 1 (n + 1) RV, false)), (38, (.row 22 1 (m - n + 1) (O (k + 1)), false))]⟩) (fun d => G k ≤ d ∧ d < W) (fun d => d) d0 ⟨g1, g2⟩ ?_ fun d hd => walk ?_
  · simp [Wk, sget, killL, kill1, SV.key]
  obtain ⟨j1, j2⟩ := hd
  by_cases hlt : G k < d
  · have kp := kp d hlt j2
    have e : (!decide (d - 1 = G k)) = decide (G k < d - 1) := by
      by_cases h : d - 1 = G k
      · rw [decide_eq_true h, decide_eq_false (by omega)]; rfl
      · rw [decide_eq_false h, decide_eq_true (by omega)]; rfl
    have wd : IntKind.wrap .u64 ((d : Int) - 1) = ((d - 1 : Nat) : Int) := by rw [IntKind.wrap_u64]; have : d < 18446744073709551616 := j2; omega
    rw [decide_eq_true hlt]
    simp only [Tryz.f223, wd, go_sem]
    refine qinl_i [27,30] (kp) rfl (by decide) rfl (two_blk ⟨rfl, rfl⟩) (by intro d h; first | (cases h; decide) | cases h) (by intro h; first | rfl | cases h) ?_; simp only [Tryz.f223, e, ren, eraO, eraL, List.getD_cons_zero, List.getD_cons_succ, List.filter_cons, List.filter_nil, go_sem]
    refine ⟨d - 1, ⟨by omega, by omega⟩, by omega, ?_⟩
    simp [Wk, sget, killL, kill1, SV.key, e]
  · have hde : d = G k := by omega
    subst hde
    rw [decide_eq_false hlt, g3]
    simp only [Tryz.f223, go_sem]
    repeat' ((with_reducible refine qand_i (by first | omega | (rw [x3]; omega)) ?_); simp only [Tryz.f223, wi, go_sem])
    refine ⟨k, by omega, by omega, ?_⟩
    simp [Wk, sget, killL, kill1, SV.key, x2]
theorem k_Div {p q : PV} {x y : Nat} (h : Num p x) (h' : Num q y) (hx : bitLen x ≤ 1000000) (hy : bitLen y ≤ 1000000) (h0 : y ≠ 0) : PC E 178 [p, q] (.tuple [NN (x / y), NN (x % y), .int .i64 0]) := by
  have k1 := k_Bare h
  have k2 := k_Bare h'
  have k3 := k_Cmp (num_bits hx) (num_bits hy)
  have lx : (dg W x).length ≤ 15625 := w_of_bits (n := 15625) (by omega)
  have ly : (dg W y).length ≤ 15625 := w_of_bits (n := 15625) (by omega)
  have ox := ok_dg W2 x
  have oy := ok_dg W2 y
  have vx : vl (dg W x) = x := dv_dg W2 x
  have vy : vl (dg W y) = y := dv_dg W2 y
  have hylen : (dg W y).length ≠ 0 := fun h => h0 (by rw [← vy, List.eq_nil_of_length_eq_zero h]; rfl)
  by_cases hlt : x < y
  · have hs : sgn (x : Int) (y : Int) = -1 := by unfold sgn; rw [if_pos (by omega)]
    rw [hs] at k3
    rw [Nat.div_eq_of_lt hlt, Nat.mod_eq_of_lt hlt]
    have hz : NN 0 = .lst 0 [] := rfl
    rw [hz]
    simp only [NN, NL] at k1 k2 k3 ⊢
    refine PC.of_body follows Tryz.func178 (by decide +kernel) rfl (by kernel_rfl) (Nat.le_of_ble_eq_true rfl) (walk ?_)
    simp only [Tryz.f178, go_sem]
    refine qcall_i (k1) ?_; simp only [Tryz.f178, go_sem]
    refine qcall_i (k2) ?_; simp only [Tryz.f178, go_sem]
    refine qif_df (by omega) ?_
    simp only [Tryz.f178, go_sem]
    refine qcall_i (k3) ?_; simp only [Tryz.f178, go_sem]
    try rfl
  have hs : ¬ sgn (x : Int) (y : Int) < 0 := by
    unfold sgn
    rw [if_neg (by omega)]
    split <;> decide
  by_cases h1 : (dg W y).length = 1
  · obtain ⟨d, hd⟩ : ∃ d, dg W y = [d] := by
      match hh : dg W y, h1 with
      | [d], _ => exact ⟨d, rfl⟩
    have hdy : d = y := by rw [hd] at vy; simpa [vl, dv] using vy
    subst hdy
    have hdW : d < W := oy d (by rw [hd]; simp)
    have k4 := d_Small ox (by omega) hdW h0
    rw [vx] at k4
    have hm : x % d < W := Nat.lt_trans (Nat.mod_lt _ (by omega)) hdW
    have k5 := c_Of (x % d) hm
    simp only [NN, NL, hd, U, List.map_cons, List.map_nil, List.length_cons, List.length_nil, Nat.reduceAdd, u] at k1 k2 k3 k4 k5 ⊢
    refine PC.of_body follows Tryz.func178 (by decide +kernel) rfl (by kernel_rfl) (Nat.le_of_ble_eq_true rfl) (walk ?_)
    simp only [Tryz.f178, Int.cast_ofNat_Int, go_sem]
    refine qcall_i (k1) ?_; simp only [Tryz.f178, Int.cast_ofNat_Int, go_sem]
    refine qcall_i (k2) ?_; simp only [Tryz.f178, Int.cast_ofNat_Int, go_sem]
    refine qcall_i (k3) ?_; simp only [Tryz.f178, Int.cast_ofNat_Int, go_sem]
    refine qif_df hs ?_
    simp only [Tryz.f178, Int.cast_ofNat_Int, go_sem]
    refine qcall_i (k4) ?_; simp only [Tryz.f178, Int.cast_ofNat_Int, go_sem]
    refine qcall_i (k5) ?_; simp only [Tryz.f178, Int.cast_ofNat_Int, go_sem]
    try rfl
  have hlen : (dg W y).length ≤ (dg W x).length := by
    refine (dg_length_le W2 _ y).2 (Nat.lt_of_le_of_lt (Nat.not_lt.1 hlt) ?_)
    have := dv_lt (dg W x) ox
    rwa [show dv W (dg W x) = x from vx] at this
  have hbig : W ^ ((dg W y).length - 1) ≤ y := Nat.not_lt.1 fun h => by
    have := (dg_length_le W2 ((dg W y).length - 1) y).2 h
    omega
  have k4 := d_long ox oy (by omega) (by omega) hlen (by rw [vy]; exact hbig)
  rw [vx, vy] at k4
  simp only [NN, NL] at k1 k2 k3 k4 ⊢
  refine PC.of_body follows Tryz.func178 (by decide +kernel) rfl (by kernel_rfl) (Nat.le_of_ble_eq_true rfl) (walk ?_)
  simp only [Tryz.f178, go_sem]
  refine qcall_i (k1) ?_; simp only [Tryz.f178, go_sem]
  refine qcall_i (k2) ?_; simp only [Tryz.f178, go_sem]
  refine qif_df (by omega) ?_
  simp only [Tryz.f178, go_sem]
  refine qcall_i (k3) ?_; simp only [Tryz.f178, go_sem]
  refine qif_df hs ?_
  simp only [Tryz.f178, go_sem]
  refine qif_df (by omega) ?_
  simp only [Tryz.f178, go_sem]
  refine qcall_i (k4) ?_; simp only [Tryz.f178, go_sem]
  try rfl
end
end
def minD (a b : Dy) : Dy := if cmpD b a < 0 then b else a
def maxD (a b : Dy) : Dy := if 0 < cmpD b a then b else a
theorem minD_or (a b : Dy) : minD a b = a ∨ minD a b = b := by unfold minD; split <;> simp
theorem maxD_or (a b : Dy) : maxD a b = a ∨ maxD a b = b := by unfold maxD; split <;> simp
theorem minD_P {P : Dy → Prop} {a b : Dy} (h1 : P a) (h2 : P b) : P (minD a b) := by rcases minD_or a b with h | h <;> rw [h] <;> assumption
theorem maxD_P {P : Dy → Prop} {a b : Dy} (h1 : P a) (h2 : P b) : P (maxD a b) := by rcases maxD_or a b with h | h <;> rw [h] <;> assumption
structure Iv where
  lo : Dy
  hi : Dy
def min4 (p q r s : Dy) : Dy := minD (minD (minD p q) r) s
def max4 (p q r s : Dy) : Dy := maxD (maxD (maxD p q) r) s
theorem min4_P {P : Dy → Prop} {p q r s : Dy} (h1 : P p) (h2 : P q) (h3 : P r) (h4 : P s) : P (min4 p q r s) := minD_P (minD_P (minD_P h1 h2) h3) h4
theorem max4_P {P : Dy → Prop} {p q r s : Dy} (h1 : P p) (h2 : P q) (h3 : P r) (h4 : P s) : P (max4 p q r s) := maxD_P (maxD_P (maxD_P h1 h2) h3) h4
def mulI (i k : Iv) : Iv := ⟨min4 (mulS i.lo k.lo) (mulS i.lo k.hi) (mulS i.hi k.lo) (mulS i.hi k.hi), max4 (mulS i.lo k.lo) (mulS i.lo k.hi) (mulS i.hi k.lo) (mulS i.hi k.hi)⟩
def addI (i k : Iv) : Iv := ⟨addS i.lo k.lo, addS i.hi k.hi⟩
def Iv.right (i : Iv) : Prop := i.lo.fits ∧ i.hi.fits ∧ cmpD i.lo i.hi ≤ 0
instance (i : Iv) : Decidable i.right := inferInstanceAs (Decidable (_ ∧ _))
def Iv.has (i : Iv) (d : Dy) : Prop := i.right ∧ d.fits ∧ cmpD i.lo d ≤ 0 ∧ cmpD d i.hi ≤ 0
instance (i : Iv) (d : Dy) : Decidable (i.has d) := inferInstanceAs (Decidable (_ ∧ _))
def Iv.inside (i k : Iv) : Prop := i.right ∧ k.has i.lo ∧ k.has i.hi
instance (i k : Iv) : Decidable (i.inside k) := inferInstanceAs (Decidable (_ ∧ _))
def Iv.okI (i : Iv) : Prop := i.lo.ok ∧ i.hi.ok
def Iv.ge (i : Iv) (k : Int) : Prop := i.lo.ge k ∧ i.hi.ge k
theorem mulI_P {P : Dy → Prop} {i k : Iv} (h1 : P (mulS i.lo k.lo)) (h2 : P (mulS i.lo k.hi)) (h3 : P (mulS i.hi k.lo)) (h4 : P (mulS i.hi k.hi)) : P (mulI i k).lo ∧ P (mulI i k).hi :=
  ⟨min4_P h1 h2 h3 h4, max4_P h1 h2 h3 h4⟩
theorem Iv.ge.mono {i : Iv} {k k' : Int} (h : i.ge k') (hk : k ≤ k') : i.ge k := ⟨h.1.mono hk, h.2.mono hk⟩
def Lim (K : Nat) (d : Dy) : Prop := d.ok ∧ d.ge (-(K : Int)) ∧ (d.at (-(K : Int))).natAbs < 2 ^ (2 * K)
theorem Lim.ok {K : Nat} {d : Dy} (h : Lim K d) : d.ok := h.1
theorem Lim.ge {K : Nat} {d : Dy} (h : Lim K d) : d.ge (-(K : Int)) := h.2.1
theorem Lim.lt {K : Nat} {d : Dy} (h : Lim K d) : (d.at (-(K : Int))).natAbs < 2 ^ (2 * K) := h.2.2
theorem Lim.zero (K : Nat) : Lim K .zero := ⟨Dy.zero_ok, Dy.zero_ge _, by rw [at_zero (d := .zero) rfl]; exact Nat.two_pow_pos _⟩
theorem Lim.m {K : Nat} {d : Dy} (h : Lim K d) : d.m * 2 ^ (d.e + K).toNat < 2 ^ (2 * K) := by
  have := h.lt
  rwa [natAbs_at', show d.e - -(K : Int) = d.e + K by omega] at this
theorem Lim.e_ge {K : Nat} {d : Dy} (h : Lim K d) (h0 : d.m ≠ 0) : -(K : Int) ≤ d.e := h.ge.resolve_left h0
theorem Lim.e_lt {K : Nat} {d : Dy} (h : Lim K d) (h0 : d.m ≠ 0) : d.e < K := by
  have h1 := h.m
  have h2 := h.e_ge h0
  have h3 : 2 ^ (d.e + K).toNat < 2 ^ (2 * K) := Nat.lt_of_le_of_lt (by
    have := Nat.mul_le_mul_right (2 ^ (d.e + K).toNat) (show 1 ≤ d.m by omega)
    omega) h1
  have h4 := (Nat.pow_lt_pow_iff_right (by decide : 1 < 2)).1 h3
  omega
theorem Lim.bits {K : Nat} {d : Dy} (h : Lim K d) : bitLen d.m ≤ 2 * K := by
  refine (bitLen_le _ _).2 (Nat.lt_of_le_of_lt ?_ h.m)
  have := Nat.mul_le_mul_left d.m (Nat.two_pow_pos (d.e + K).toNat)
  omega
theorem Lim.top_lt {K : Nat} {d : Dy} (h : Lim K d) (h0 : d.m ≠ 0) : d.top < K := by
  have h1 := h.e_ge h0
  have h2 := (top_at h0 h1).1
  have h3 : 2 ^ (d.top - -(K : Int)).toNat < 2 ^ (2 * K) := Nat.lt_of_le_of_lt h2 h.lt
  have h4 := (Nat.pow_lt_pow_iff_right (by decide : 1 < 2)).1 h3
  have h5 := top_of h0
  have h6 := bitLen_pos h0
  omega
theorem Lim.e0 {K : Nat} {d : Dy} (h : Lim K d) : -(K : Int) ≤ d.e ∧ d.e ≤ K := by
  by_cases h0 : d.m = 0
  · rw [h.ok.z h0]
    show -(K : Int) ≤ 0 ∧ (0 : Int) ≤ K
    omega
  · have := h.e_ge h0
    have := h.e_lt h0
    omega
theorem Lim.fits {K : Nat} {d : Dy} (h : Lim K d) (hK : K ≤ 1000000) : d.fits := by
  have := h.e0
  exact ⟨by omega, by omega⟩
theorem Lim.of {K : Nat} {d : Dy} {k : Int} (ho : d.ok) (hg : d.ge (-(K : Int))) (hk : k ≤ -(K : Int)) (hl : (d.at k).natAbs < 2 ^ (K - k).toNat) : Lim K d := by
  refine ⟨ho, hg, ?_⟩
  have h1 := at_shift' (d := d) hk hg
  rw [h1, Int.natAbs_mul, Int.natAbs_natCast] at hl
  rw [show (K - k).toNat = 2 * K + (-(K : Int) - k).toNat by omega, Nat.pow_add] at hl
  exact Nat.lt_of_mul_lt_mul_right hl
theorem Lim.mono {K J : Nat} {d : Dy} (h : Lim K d) (hK : K ≤ J) : Lim J d := by
  refine ⟨h.ok, h.ge.mono (by omega), ?_⟩
  rw [at_shift' (d := d) (k := -(J : Int)) (k' := -(K : Int)) (by omega) h.ge, Int.natAbs_mul, Int.natAbs_natCast, show (-(K : Int) - -(J : Int)).toNat = J - K by omega]
  refine Nat.lt_of_lt_of_le (Nat.mul_lt_mul_of_pos_right h.lt (Nat.two_pow_pos _)) ?_
  rw [← Nat.pow_add]
  exact Nat.pow_le_pow_right (by decide) (by omega)
theorem Lim.neg {K : Nat} {d : Dy} (h : Lim K d) : Lim K d.neg := ⟨neg_ok h.ok, neg_ge h.ge, by rw [neg_at, Int.natAbs_neg]; exact h.lt⟩
theorem Lim.abs {K : Nat} {d : Dy} (h : Lim K d) : Lim K d.abs := ⟨abs_ok h.ok, abs_ge h.ge, by rw [abs_at, Int.natAbs_natCast]; exact h.lt⟩
theorem Lim.add {K : Nat} {a b : Dy} (ha : Lim K a) (hb : Lim K b) (hK : K ≤ 1000000) : Lim (K + 1) (addS a b) := by
  have fa := ha.fits hK
  have fb := hb.fits hK
  have ha' := ha.mono (J := K + 1) (by omega)
  have hb' := hb.mono (J := K + 1) (by omega)
  refine ⟨addS_ok _ _, (addS_ge ha.ok hb.ok fa fb ha'.ge hb'.ge), ?_⟩
  rw [addS_at ha.ok hb.ok fa fb ha'.ge hb'.ge]
  have e1 := at_shift' (d := a) (k := -((K + 1 : Nat) : Int)) (k' := -(K : Int)) (by omega) ha.ge
  have e2 := at_shift' (d := b) (k := -((K + 1 : Nat) : Int)) (k' := -(K : Int)) (by omega) hb.ge
  rw [e1, e2, show (-(K : Int) - -((K + 1 : Nat) : Int)).toNat = 1 by omega, show 2 * (K + 1) = 2 * K + 2 by omega, Nat.pow_add]
  have := ha.lt
  have := hb.lt
  omega
theorem Lim.addE {K : Nat} {a b : Dy} (ha : Lim K a) (hb : Lim K b) (hK : K ≤ 32767) : addE a b :=
  ⟨ha.fits (by omega), hb.fits (by omega), fun h1 h2 => by
    have := ha.top_lt h1; have := hb.top_lt h2; have := ha.e_ge h1; have := hb.e_ge h2; omega, (ha.add hb (by omega)).fits (by omega)⟩
theorem Lim.mul {K J : Nat} {a b : Dy} (ha : Lim K a) (hb : Lim J b) : Lim (K + J) (mulS a b) := by
  have e : -((K + J : Nat) : Int) = -(K : Int) + -(J : Int) := by omega
  refine ⟨mulS_ok ha.ok hb.ok, by rw [e]; exact mulS_ge ha.ge hb.ge, ?_⟩
  rw [e, mulS_at ha.ge hb.ge, Int.natAbs_mul, show 2 * (K + J) = 2 * K + 2 * J by omega, Nat.pow_add]
  exact Nat.mul_lt_mul'' ha.lt hb.lt
theorem Lim.mulE {K J : Nat} {a b : Dy} (ha : Lim K a) (hb : Lim J b) (hK : K + J ≤ 32767) : mulE a b :=
  ⟨ha.fits (by omega), hb.fits (by omega), fun _ _ => by have := ha.bits; have := hb.bits; omega, (ha.mul hb).fits (by omega)⟩
theorem Lim.sc {K J : Nat} {d : Dy} (h : Lim K d) {n : Int} (hn : -(J : Int) ≤ n ∧ n ≤ J) : Lim (K + J) (d.sc n) := by
  refine ⟨sc_ok h.ok n, (sc_ge h.ge).mono (by omega), ?_⟩
  have e1 := at_shift' (d := d.sc n) (k := -((K + J : Nat) : Int)) (k' := -(K : Int) + n) (by omega) (sc_ge h.ge)
  rw [e1, sc_at, Int.natAbs_mul, Int.natAbs_natCast]
  refine Nat.lt_of_lt_of_le (Nat.mul_lt_mul_of_pos_right h.lt (Nat.two_pow_pos _)) ?_
  rw [← Nat.pow_add]
  exact Nat.pow_le_pow_right (by decide) (by omega)
theorem Lim.RD {K : Nat} {d : Dy} (h : Lim K d) (hK : K ≤ 500000) : RD d.pv d := RD.fit h.ok (by have := h.bits; omega) (h.fits (by omega))
theorem Lim.norm {K : Nat} {z : Int} (hz : z.natAbs < 2 ^ K) (hK : K ≤ 1000000) : Lim K (norm z 0) := by
  refine ⟨norm_ok _ _, (norm_ge z (by decide) (by decide)).mono (by omega), ?_⟩
  rw [norm_at z (by decide) (by decide) (by omega), Int.natAbs_mul, Int.natAbs_natCast, show (0 - -(K : Int)).toNat = K by omega, show 2 * K = K + K by omega, Nat.pow_add]
  exact Nat.mul_lt_mul_of_pos_right hz (Nat.two_pow_pos _)
theorem Lim.mk {s : Bool} {x : Nat} {e : Int} {n J : Nat} (hb : bitLen x ≤ n) (he : -(J : Int) ≤ e ∧ e ≤ J) (hJ : n + J ≤ 1000000) : Lim (n + J) (mkD s x e) := by
  refine ⟨mkD_ok _ _ _, (mkD_ge s x (by omega) (by omega)).mono (by omega), ?_⟩
  rw [mkD_at s x (by omega) (by omega) (show -((n + J : Nat) : Int) ≤ e by omega)]
  have h1 := (bitLen_le _ _).1 hb
  have h2 : x * 2 ^ (e - -((n + J : Nat) : Int)).toNat < 2 ^ n * 2 ^ (e - -((n + J : Nat) : Int)).toNat := Nat.mul_lt_mul_of_pos_right h1 (Nat.two_pow_pos _)
  have h3 : 2 ^ n * 2 ^ (e - -((n + J : Nat) : Int)).toNat ≤ 2 ^ (2 * (n + J)) := by
    rw [← Nat.pow_add]; exact Nat.pow_le_pow_right (by decide) (by omega)
  generalize x * 2 ^ (e - -((n + J : Nat) : Int)).toNat = y at *
  cases s <;> simp <;> omega
theorem addV_lim {K : Nat} {a b : Dy} (ha : Lim K a) (hb : Lim K b) (hK : K ≤ 32767) : addV a b = .tuple [(addS a b).pv, .int .i64 0] := if_pos (ha.addE hb hK)
theorem mulV_lim {K J : Nat} {a b : Dy} (ha : Lim K a) (hb : Lim J b) (hK : K + J ≤ 32767) : mulV a b = .tuple [(mulS a b).pv, .int .i64 0] := if_pos (ha.mulE hb hK)
theorem fd_lim (b : Nat) : Lim 1153 (fd b) := by
  have h1 := fm_lt b
  have h2 := fe_lt b
  exact Lim.mk (n := 53) (J := 1100) ((bitLen_le _ _).2 (by show fm b < 9007199254740992; omega)) (by omega) (by decide)
def fd0 (x : Nat) : Dy := if fe x < 2047 then fd x else .zero
def K0 : Nat := 2306
def LimN (K : Nat) (d : Dy) : Prop := d.ge (-(K : Int)) ∧ (d.at (-(K : Int))).natAbs < 2 ^ (2 * K) ∧ -(K : Int) ≤ d.e ∧ d.e ≤ K
theorem Lim.N {K : Nat} {d : Dy} (h : Lim K d) : LimN K d := ⟨h.ge, h.lt, h.e0.1, h.e0.2⟩
theorem LimN.mono {K J : Nat} {d : Dy} (h : LimN K d) (hK : K ≤ J) : LimN J d := by
  obtain ⟨h1, h2, h3, h4⟩ := h
  refine ⟨h1.mono (by omega), ?_, by omega, by omega⟩
  rw [at_shift' (d := d) (k := -(J : Int)) (k' := -(K : Int)) (by omega) h1, Int.natAbs_mul, Int.natAbs_natCast, show (-(K : Int) - -(J : Int)).toNat = J - K by omega]
  refine Nat.lt_of_lt_of_le (Nat.mul_lt_mul_of_pos_right h2 (Nat.two_pow_pos _)) ?_
  rw [← Nat.pow_add]
  exact Nat.pow_le_pow_right (by decide) (by omega)
theorem LimN.bits {K : Nat} {d : Dy} (h : LimN K d) : bitLen d.m ≤ 2 * K := by
  have h2 := h.2.1
  rw [natAbs_at'] at h2
  refine (bitLen_le _ _).2 (Nat.lt_of_le_of_lt ?_ h2)
  have := Nat.mul_le_mul_left d.m (Nat.two_pow_pos (d.e - -(K : Int)).toNat)
  omega
def Dy.bare (d : Dy) : Dy := mkD d.s d.m d.e
theorem LimN.bare_at {K : Nat} {d : Dy} (h : LimN K d) (hK : K ≤ 1000000) : d.bare.at (-(K : Int)) = d.at (-(K : Int)) := by
  have := h.2.2.1; have := h.2.2.2
  unfold Dy.bare
  rw [mkD_at d.s d.m (by omega) (by omega) (by omega)]
  unfold Dy.at
  cases d.s <;> simp
theorem LimN.bare {K : Nat} {d : Dy} (h : LimN K d) (hK : K ≤ 1000000) : Lim K d.bare := by
  have := h.2.2.1; have := h.2.2.2
  refine ⟨mkD_ok _ _ _, (mkD_ge d.s d.m (by omega) (by omega)).mono (by omega), ?_⟩
  rw [h.bare_at hK]
  exact h.2.1
theorem Lim.bare {K : Nat} {d : Dy} (h : Lim K d) (hK : K ≤ 1000000) : d.bare = d :=
  ok_self h.ok (by have := h.e0; omega) (by have := h.e0; omega)
theorem LimN.add {K : Nat} {a b : Dy} (ha : LimN K a) (hb : LimN K b) : LimN (K + 1) (addD a b) := by
  have ha' := ha.mono (J := K + 1) (by omega)
  have hb' := hb.mono (J := K + 1) (by omega)
  have he := addD_e (l := -(K : Int)) (h := K) ha.2.2 hb.2.2
  refine ⟨addD_ge ha'.1 hb'.1, ?_, by omega, by omega⟩
  rw [addD_at ha'.1 hb'.1]
  have e1 := at_shift' (d := a) (k := -((K + 1 : Nat) : Int)) (k' := -(K : Int)) (by omega) ha.1
  have e2 := at_shift' (d := b) (k := -((K + 1 : Nat) : Int)) (k' := -(K : Int)) (by omega) hb.1
  rw [e1, e2, show (-(K : Int) - -((K + 1 : Nat) : Int)).toNat = 1 by omega, show 2 * (K + 1) = 2 * K + 2 by omega, Nat.pow_add]
  have := ha.2.1
  have := hb.2.1
  omega
def Dy.negN (d : Dy) : Dy := ⟨!d.s, d.m, d.e⟩
theorem negN_at (d : Dy) (k : Int) : d.negN.at k = -d.at k := by
  unfold Dy.at Dy.negN
  cases d.s <;> simp
theorem LimN.negN {K : Nat} {d : Dy} (h : LimN K d) : LimN K d.negN := ⟨h.1, by rw [negN_at, Int.natAbs_neg]; exact h.2.1, h.2.2⟩
theorem LimN.mul {K J : Nat} {a b : Dy} (ha : LimN K a) (hb : LimN J b) : LimN (K + J) (mulS a b) := by
  have e : -((K + J : Nat) : Int) = -(K : Int) + -(J : Int) := by omega
  refine ⟨by rw [e]; exact mulS_ge ha.1 hb.1, ?_, ?_⟩
  · rw [e, mulS_at ha.1 hb.1, Int.natAbs_mul, show 2 * (K + J) = 2 * K + 2 * J by omega, Nat.pow_add]
    exact Nat.mul_lt_mul'' ha.2.1 hb.2.1
  · have := ha.2.2
    have := hb.2.2
    unfold mulS
    split
    · show _ ≤ (0 : Int) ∧ (0 : Int) ≤ _; omega
    · show _ ≤ a.e + b.e ∧ a.e + b.e ≤ _; omega
def Dy.val (d : Dy) : Rat := ((if d.s = true then -1 else 1) * (d.m : Int) : Int) * (2 : Rat) ^ d.e
theorem two_ne : (2 : Rat) ≠ 0 := by decide
theorem z2_pos (k : Int) : (0 : Rat) < (2 : Rat) ^ k := Rat.zpow_pos (by decide)
theorem z2_add (a b : Int) : (2 : Rat) ^ (a + b) = (2 : Rat) ^ a * (2 : Rat) ^ b := Rat.zpow_add two_ne a b
theorem z2_nat (n : Nat) : (2 : Rat) ^ (n : Int) = ((2 ^ n : Nat) : Rat) := by
  rw [Rat.zpow_natCast, Rat.natCast_pow]; rfl
theorem z2_zero : (2 : Rat) ^ (0 : Int) = 1 := Rat.zpow_zero 2
theorem z2_one : (2 : Rat) ^ (1 : Int) = 2 := Rat.zpow_one 2
theorem ic (n : Nat) : ((n : Int) : Rat) = (n : Rat) := rfl
theorem val_zero {d : Dy} (h : d.m = 0) : d.val = 0 := by
  unfold Dy.val; rw [h]; simp
theorem val_at {d : Dy} {k : Int} (h : d.ge k) : d.val = ((d.at k : Int) : Rat) * (2 : Rat) ^ k := by
  by_cases h0 : d.m = 0
  · rw [val_zero h0, at_zero h0]; simp
  have hk : k ≤ d.e := h.resolve_left h0
  unfold Dy.val Dy.at
  have e1 : (2 : Rat) ^ d.e = ((2 ^ (d.e - k).toNat : Nat) : Rat) * (2 : Rat) ^ k := by
    rw [← z2_nat, ← z2_add]; congr 1; omega
  rw [e1]
  generalize (2 : Rat) ^ k = Z
  generalize 2 ^ (d.e - k).toNat = P
  rw [← Rat.mul_assoc]
  congr 1
  cases d.s <;> simp [Rat.intCast_mul, Rat.natCast_mul, Rat.neg_mul, ic]
theorem val_pt {a b : Dy} {k : Int} (h1 : a.ge k) (h2 : b.ge k) : a.val = b.val ↔ a.at k = b.at k := by
  rw [val_at h1, val_at h2]
  have := z2_pos k
  constructor
  · intro h
    have h3 := Rat.le_of_mul_le_mul_right (a := ((a.at k : Int) : Rat)) (b := ((b.at k : Int) : Rat)) (by rw [h]; exact Rat.le_refl) this
    have h4 := Rat.le_of_mul_le_mul_right (a := ((b.at k : Int) : Rat)) (b := ((a.at k : Int) : Rat)) (by rw [h]; exact Rat.le_refl) this
    exact Rat.intCast_inj.1 (Rat.le_antisymm h3 h4)
  · intro h; rw [h]
theorem val_inj {a b : Dy} (ha : a.ok) (hb : b.ok) (h : a.val = b.val) : a = b :=
  eq_of_at ha hb (k := min a.e b.e) (.inr (by omega)) (.inr (by omega)) ((val_pt (.inr (by omega)) (.inr (by omega))).1 h)
theorem cmp_val_le {a b : Dy} : cmpD a b ≤ 0 ↔ a.val ≤ b.val := by
  have h1 : a.ge (min a.e b.e) := .inr (by omega)
  have h2 : b.ge (min a.e b.e) := .inr (by omega)
  rw [cmp_at h1 h2, sgn_le, val_at h1, val_at h2]
  have := z2_pos (min a.e b.e)
  generalize (2 : Rat) ^ (min a.e b.e) = Z at *
  generalize a.at (min a.e b.e) = x
  generalize b.at (min a.e b.e) = y
  exact ⟨fun h => Rat.mul_le_mul_of_nonneg_right (Rat.intCast_le_intCast.2 h) (Rat.le_of_lt this), fun h => Rat.intCast_le_intCast.1 (Rat.le_of_mul_le_mul_right h this)⟩
theorem cmp_val_lt {a b : Dy} : cmpD a b < 0 ↔ a.val < b.val := by
  have h := cmp_val_le (a := b) (b := a)
  rw [cmp_swap] at h
  constructor
  · intro h1
    exact Rat.not_le.1 fun h2 => by have h3 := h.2 h2; omega
  · intro h1
    have h2 : ¬ b.val ≤ a.val := Rat.not_le.2 h1
    have h3 : ¬ (-cmpD a b ≤ 0) := fun h3 => h2 (h.1 h3)
    omega
theorem cmp_val_ge {a b : Dy} : 0 ≤ cmpD a b ↔ b.val ≤ a.val := by
  have h := cmp_val_le (a := b) (b := a)
  rw [cmp_swap] at h
  rw [← h]; omega
theorem cmp_val_gt {a b : Dy} : 0 < cmpD a b ↔ b.val < a.val := by
  have h := cmp_val_lt (a := b) (b := a)
  rw [cmp_swap] at h
  rw [← h]; omega
theorem cmp_val_eq {a b : Dy} : cmpD a b = 0 ↔ a.val = b.val := by
  have h1 := cmp_val_le (a := a) (b := b)
  have h2 := cmp_val_ge (a := a) (b := b)
  constructor
  · intro h; exact Rat.le_antisymm (h1.1 (by omega)) (h2.1 (by omega))
  · intro h
    have := h1.2 (by rw [h]; exact Rat.le_refl)
    have := h2.2 (by rw [h]; exact Rat.le_refl)
    omega
theorem sg_val {d : Dy} : (d.sg = 0 ↔ d.val = 0) ∧ (d.sg < 0 ↔ d.val < 0) ∧ (0 < d.sg ↔ 0 < d.val) := by
  by_cases h0 : d.m = 0
  · have : d.sg = 0 := by unfold Dy.sg; rw [if_pos h0]
    rw [this, val_zero h0]
    refine ⟨⟨fun _ => rfl, fun _ => rfl⟩, ⟨fun h => by omega, fun h => absurd h (by decide)⟩, ⟨fun h => by omega, fun h => absurd h (by decide)⟩⟩
  have hv : d.val = ((if d.s = true then -1 else 1) * (d.m : Int) : Int) * (2 : Rat) ^ d.e := rfl
  have hp : (0 : Rat) < (d.m : Int) * (2 : Rat) ^ d.e := Rat.mul_pos (by exact_mod_cast Nat.pos_of_ne_zero h0) (z2_pos _)
  have hs : d.sg = if d.s = true then -1 else 1 := by unfold Dy.sg; rw [if_neg h0]
  rw [hs, hv]
  cases d.s
  · simp only [Bool.false_eq_true, if_false, Int.one_mul]
    generalize ((d.m : Int) : Rat) * (2 : Rat) ^ d.e = X at *
    refine ⟨⟨fun h => by omega, fun h => by grind⟩, ⟨fun h => by omega, fun h => by grind⟩, ⟨fun _ => hp, fun _ => by omega⟩⟩
  · simp only [if_true]
    rw [Int.neg_one_mul, Rat.intCast_neg, Rat.neg_mul]
    generalize ((d.m : Int) : Rat) * (2 : Rat) ^ d.e = X at *
    refine ⟨⟨fun h => by omega, fun h => by grind⟩, ⟨fun h => by grind, fun h => by omega⟩, ⟨fun h => by omega, fun h => by grind⟩⟩
theorem val_neg (d : Dy) : d.neg.val = -d.val := by
  rw [val_at (d := d.neg) (neg_ge (Dy.ge_e d)), val_at (Dy.ge_e d), neg_at, Rat.intCast_neg, Rat.neg_mul]
theorem val_abs (d : Dy) : d.abs.val = if d.val < 0 then -d.val else d.val := by
  have hp := z2_pos d.e
  rw [val_at (d := d.abs) (abs_ge (Dy.ge_e d)), val_at (Dy.ge_e d), abs_at]
  generalize d.at d.e = z
  generalize (2 : Rat) ^ d.e = Z at *
  have e1 : ((z : Int) : Rat) * Z < 0 ↔ z < 0 := (Rat.mul_neg_iff_of_pos_right hp).trans Rat.intCast_neg_iff
  by_cases hz : z < 0
  · rw [if_pos (e1.2 hz), ← Rat.neg_mul, ← Rat.intCast_neg]
    congr 1
    congr 1
    omega
  · rw [if_neg (fun h => hz (e1.1 h))]
    congr 1
    congr 1
    omega
theorem val_mul (a b : Dy) : (mulS a b).val = a.val * b.val := by
  rw [val_at (mulS_ge (Dy.ge_e a) (Dy.ge_e b)), mulS_at (Dy.ge_e a) (Dy.ge_e b), val_at (Dy.ge_e a), val_at (Dy.ge_e b), Rat.intCast_mul, z2_add]
  generalize (2 : Rat) ^ a.e = Z
  generalize (2 : Rat) ^ b.e = Y
  grind
theorem val_addS {a b : Dy} (ha : a.ok) (hb : b.ok) (fa : a.fits) (fb : b.fits) : (addS a b).val = a.val + b.val := by
  have h1 : a.ge (min a.e b.e) := .inr (by omega)
  have h2 : b.ge (min a.e b.e) := .inr (by omega)
  rw [val_at (addS_ge ha hb fa fb h1 h2), addS_at ha hb fa fb h1 h2, val_at h1, val_at h2, Rat.intCast_add, Rat.add_mul]
theorem Lim.val_add {K : Nat} {a b : Dy} (ha : Lim K a) (hb : Lim K b) (hK : K ≤ 1000000) : (addS a b).val = a.val + b.val := val_addS ha.ok hb.ok (ha.fits hK) (hb.fits hK)
theorem val_norm (z : Int) {k : Int} (h1 : -2147483648 ≤ k) (h2 : k ≤ 2147483648) : (norm z k).val = (z : Rat) * (2 : Rat) ^ k := by
  rw [val_at (norm_ge z h1 h2), norm_at z h1 h2 (Int.le_refl _), Int.sub_self]
  simp
end Go.Proofs.YtfkgaldbcngliaaGreatDoor
namespace Go.Proofs.YtfkgaldbcngliaaGreatDoor.XX
def Ev (P : Nat → Prop) : Prop := ∃ k, ∀ N, k ≤ N → P N
theorem Ev.and {P Q : Nat → Prop} (h : Ev P) (k : Ev Q) : Ev fun N => P N ∧ Q N := by
  obtain ⟨a, h⟩ := h
  obtain ⟨b, k⟩ := k
  exact ⟨max a b, fun N hN => ⟨h N (by omega), k N (by omega)⟩⟩
theorem Ev.mono {P Q : Nat → Prop} (h : Ev P) (k : ∀ N, P N → Q N) : Ev Q := by
  obtain ⟨a, h⟩ := h
  exact ⟨a, fun N hN => k N (h N hN)⟩
theorem Ev.ge (n : Nat) : Ev fun N => n ≤ N := ⟨n, fun _ hN => hN⟩
theorem Ev.all {P : Nat → Prop} (h : ∀ N, P N) : Ev P := ⟨0, fun N _ => h N⟩
theorem rmul_le {a b c d : Rat} (h1 : a ≤ b) (h2 : c ≤ d) (h3 : 0 ≤ c) (h4 : 0 ≤ b) : a * c ≤ b * d :=
  Rat.le_trans (Rat.mul_le_mul_of_nonneg_right h1 h3) (Rat.mul_le_mul_of_nonneg_left h2 h4)
theorem rpow_le {x y : Rat} (h0 : 0 ≤ x) (h : x ≤ y) (n : Nat) : x ^ n ≤ y ^ n := by
  induction n with
  | zero => rw [Rat.pow_zero, Rat.pow_zero]; exact Rat.le_refl
  | succ n ih =>
    rw [Rat.pow_succ, Rat.pow_succ]
    exact rmul_le ih h h0 (Rat.pow_nonneg (Rat.le_trans h0 h))
theorem rmul_pow (x y : Rat) (n : Nat) : (x * y) ^ n = x ^ n * y ^ n := by
  induction n with
  | zero => simp
  | succ n ih => rw [Rat.pow_succ, Rat.pow_succ, Rat.pow_succ, ih]; grind
theorem one_pow' (n : Nat) : (1 : Rat) ^ n = 1 := by
  induction n with
  | zero => simp
  | succ n ih => rw [Rat.pow_succ, ih]; simp
theorem rpow_le_one {x : Rat} (h0 : 0 ≤ x) (h : x ≤ 1) (n : Nat) : x ^ n ≤ 1 := by
  have := rpow_le h0 h n
  rwa [one_pow'] at this
theorem one_le_rpow {x : Rat} (h : 1 ≤ x) (n : Nat) : 1 ≤ x ^ n := by
  have := rpow_le (by decide) h n
  rwa [one_pow'] at this
theorem rmul_nonneg {a b : Rat} (h : 0 ≤ a) (k : 0 ≤ b) : 0 ≤ a * b := Rat.mul_nonneg h k
theorem natc (n : Nat) : ((n + 1 : Nat) : Rat) = (n : Rat) + 1 := by rw [Rat.natCast_add]; rfl
theorem natc0 (n : Nat) : (0 : Rat) ≤ (n : Rat) := Rat.natCast_nonneg
theorem bern {x : Rat} (hx : -1 ≤ x) (n : Nat) : 1 + n * x ≤ (1 + x) ^ n := by
  induction n with
  | zero => rw [Rat.pow_zero, show ((0 : Nat) : Rat) = 0 from rfl]; grind
  | succ n ih =>
    rw [Rat.pow_succ, natc]
    have h1 : (0 : Rat) ≤ 1 + x := by grind
    have h2 := Rat.mul_le_mul_of_nonneg_right ih h1
    have h3 : 0 ≤ (n : Rat) * (x * x) := rmul_nonneg (natc0 n) (by
      rcases Rat.le_total (a := 0) (b := x) with h | h
      · exact rmul_nonneg h h
      · have := rmul_nonneg (a := -x) (b := -x) (by grind) (by grind)
        grind)
    grind
theorem bern_up {x : Rat} (h0 : 0 ≤ x) {n : Nat} (h1 : n * x ≤ 1) : (1 + x) ^ n * (1 - n * x) ≤ 1 := by
  by_cases hn : n = 0
  · subst hn; rw [Rat.pow_zero, show ((0 : Nat) : Rat) = 0 from rfl]; grind
  have hn1 : (1 : Rat) ≤ n := by
    have : ((1 : Nat) : Rat) ≤ n := Rat.natCast_le_natCast.2 (by omega)
    exact this
  have hx : x ≤ 1 := by
    have := Rat.mul_le_mul_of_nonneg_right hn1 h0
    grind
  have h2 := bern (x := -x) (by grind) n
  have h3 : ((1 + x) * (1 - x)) ^ n ≤ 1 := rpow_le_one (rmul_nonneg (by grind) (by grind)) (by have := rmul_nonneg h0 h0; grind) n
  rw [rmul_pow] at h3
  have h4 : (1 : Rat) - n * x ≤ (1 - x) ^ n := by
    have e : (1 : Rat) + -x = 1 - x := by grind
    rw [e] at h2
    grind
  have h5 : (0 : Rat) ≤ (1 + x) ^ n := Rat.pow_nonneg (by grind)
  exact Rat.le_trans (Rat.mul_le_mul_of_nonneg_left h4 h5) h3
theorem arch (x : Rat) : ∃ n : Nat, x < n := ⟨(x.floor + 1).toNat, by
  have h1 := Rat.lt_floor_add_one x
  have h2 : (x.floor + 1 : Int) ≤ ((x.floor + 1).toNat : Int) := by omega
  have h3 := Rat.intCast_le_intCast.2 h2
  have h4 : (((x.floor + 1).toNat : Int) : Rat) = (((x.floor + 1).toNat : Nat) : Rat) := rfl
  rw [h4] at h3
  grind⟩
def cN (N : Nat) (t : Rat) : Rat := (1 + t / N) ^ N
theorem ndiv {t : Rat} (h : 0 ≤ t) (N : Nat) : 0 ≤ t / N := by
  rw [Rat.div_def]
  refine rmul_nonneg h ?_
  by_cases hN : N = 0
  · subst hN; simp
  · exact Rat.le_of_lt (Rat.inv_pos.2 (by
      have : ((0 : Nat) : Rat) < N := Rat.natCast_lt_natCast.2 (by omega)
      exact this))
theorem npos {N : Nat} (h : 1 ≤ N) : (0 : Rat) < N := by
  have : ((0 : Nat) : Rat) < N := Rat.natCast_lt_natCast.2 (by omega)
  exact this
theorem cN_ge1 {t : Rat} (h : 0 ≤ t) (N : Nat) : 1 ≤ cN N t := one_le_rpow (by have := ndiv h N; grind) N
theorem cN_zero (N : Nat) : cN N 0 = 1 := by
  unfold cN
  have : (1 : Rat) + 0 / N = 1 := by rw [Rat.div_def]; grind
  rw [this, one_pow']
theorem cN_mono {a b : Rat} (h0 : 0 ≤ a) (h : a ≤ b) (N : Nat) : cN N a ≤ cN N b := by
  refine rpow_le (by have := ndiv h0 N; grind) ?_ N
  have h1 := ndiv (t := b - a) (by grind) N
  rw [Rat.div_def] at *
  grind
theorem cN_add_le {a b : Rat} (ha : 0 ≤ a) (hb : 0 ≤ b) (N : Nat) : cN N (a + b) ≤ cN N a * cN N b := by
  unfold cN
  rw [← rmul_pow]
  have h1 := ndiv ha N
  have h2 := ndiv hb N
  have h3 : (a + b) / (N : Rat) = a / N + b / N := by simp only [Rat.div_def]; grind
  have h4 := rmul_nonneg h1 h2
  rw [h3]
  refine rpow_le (by grind) (by grind) N
theorem cN_mul_le {a b : Rat} (ha : 0 ≤ a) (hb : 0 ≤ b) {N : Nat} (h : a * b ≤ N) (hN : 1 ≤ N) : cN N a * cN N b * (1 - a * b / N) ≤ cN N (a + b) := by
  have hp := npos hN
  have h1 := ndiv ha N
  have h2 := ndiv hb N
  have h12 := rmul_nonneg h1 h2
  have h3 : (a + b) / (N : Rat) = a / N + b / N := by simp only [Rat.div_def]; grind
  have e1 : (N : Rat) * (a / N * (b / N)) = a * b / N := by grind
  have h4 : (N : Rat) * (a / N * (b / N)) ≤ 1 := by
    rw [e1]
    exact Rat.le_of_mul_le_mul_right (c := (N : Rat)) (by rw [Rat.div_mul_cancel (by grind)]; grind) hp
  have h5 := bern_up h12 h4
  rw [e1] at h5
  unfold cN
  rw [← rmul_pow, h3]
  generalize a / (N : Rat) = x at *
  generalize b / (N : Rat) = y at *
  have h0 : (0 : Rat) ≤ 1 - a * b / N := by rw [← e1]; grind
  have h6 : ((1 + x) * (1 + y)) ^ N ≤ ((1 + (x + y)) * (1 + x * y)) ^ N := rpow_le (rmul_nonneg (by grind) (by grind)) (by
    have := rmul_nonneg h12 (show (0 : Rat) ≤ x + y by grind)
    grind) N
  rw [rmul_pow (1 + (x + y))] at h6
  have h7 : (0 : Rat) ≤ (1 + (x + y)) ^ N := Rat.pow_nonneg (by grind)
  refine Rat.le_trans (Rat.mul_le_mul_of_nonneg_right h6 h0) ?_
  rw [Rat.mul_assoc]
  refine Rat.le_trans (Rat.mul_le_mul_of_nonneg_left h5 h7) ?_
  rw [Rat.mul_one]
  exact Rat.le_refl
def R (a b p q : Rat) : Prop := ∀ th : Rat, 0 < th → th < 1 → Ev fun N => th * (cN N a * p) ≤ cN N b * q
theorem half_sq {th : Rat} : th ≤ (1 + th) / 2 * ((1 + th) / 2) := by
  have : 0 ≤ (1 - th) * (1 - th) := by
    rcases Rat.le_total (a := 0) (b := 1 - th) with h | h
    · exact rmul_nonneg h h
    · have := rmul_nonneg (a := -(1 - th)) (b := -(1 - th)) (by grind) (by grind)
      grind
  grind
theorem half_in {th : Rat} (h0 : 0 < th) (h1 : th < 1) : 0 < (1 + th) / 2 ∧ (1 + th) / 2 < 1 := by grind
theorem R.of_le {a p q : Rat} (ha : 0 ≤ a) (hp : 0 ≤ p) (h : p ≤ q) : R a a p q := fun th h0 h1 => Ev.all fun N => by
  have h2 := cN_ge1 ha N
  have h3 := rmul_nonneg (show (0 : Rat) ≤ cN N a by grind) hp
  have h4 := Rat.mul_le_mul_of_nonneg_left h (show (0 : Rat) ≤ cN N a by grind)
  have h5 := Rat.mul_le_mul_of_nonneg_right (Rat.le_of_lt h1) h3
  grind
theorem R.trans {a b c p q r : Rat} (h : R a b p q) (k : R b c q r) (ha : 0 ≤ a) (hp : 0 ≤ p) : R a c p r := fun th h0 h1 => by
  obtain ⟨h2, h3⟩ := half_in h0 h1
  refine ((h _ h2 h3).and (k _ h2 h3)).mono fun N ⟨x, y⟩ => ?_
  have h4 := half_sq (th := th)
  generalize (1 + th) / 2 = t at *
  have h6 := rmul_nonneg (show (0 : Rat) ≤ cN N a by have := cN_ge1 ha N; grind) hp
  have h7 := Rat.mul_le_mul_of_nonneg_right h4 h6
  have h8 := Rat.mul_le_mul_of_nonneg_left x (Rat.le_of_lt h2)
  grind
theorem Ev.ratio (x : Rat) {th : Rat} (h1 : th < 1) : Ev fun N => 1 ≤ N ∧ x ≤ N ∧ th ≤ 1 - x / N := by
  obtain ⟨n, hn⟩ := arch (x / (1 - th))
  obtain ⟨m, hm⟩ := arch x
  refine ⟨max (max n m) 1, fun N hN => ?_⟩
  have hN1 : 1 ≤ N := by omega
  have hp := npos hN1
  have h2 : (n : Rat) ≤ N := Rat.natCast_le_natCast.2 (by omega)
  have h3 : (m : Rat) ≤ N := Rat.natCast_le_natCast.2 (by omega)
  refine ⟨hN1, by grind, ?_⟩
  have h4 : (0 : Rat) < 1 - th := by grind
  have h5 : x / (1 - th) ≤ N := by grind
  have h6 : x ≤ N * (1 - th) := by
    have := Rat.mul_le_mul_of_nonneg_right h5 (Rat.le_of_lt h4)
    rwa [Rat.div_mul_cancel (by grind)] at this
  have h7 : x / N ≤ 1 - th := Rat.le_of_mul_le_mul_right (c := (N : Rat)) (by rw [Rat.div_mul_cancel (by grind)]; grind) hp
  grind
theorem R.mul {a b p q a' b' p' q' : Rat} (h : R a b p q) (k : R a' b' p' q') (ha : 0 ≤ a) (ha' : 0 ≤ a') (hb : 0 ≤ b) (hb' : 0 ≤ b') (hp : 0 ≤ p) (hp' : 0 ≤ p') (hq : 0 ≤ q) (hq' : 0 ≤ q') :
    R (a + a') (b + b') (p * p') (q * q') := fun th h0 h1 => by
  obtain ⟨h2, h3⟩ := half_in h0 h1
  have h4 := half_sq (th := th)
  generalize (1 + th) / 2 = s at *
  obtain ⟨h5, h6⟩ := half_in h2 h3
  have h7 := half_sq (th := s)
  generalize (1 + s) / 2 = t at *
  refine (((h _ h5 h6).and (k _ h5 h6)).and (Ev.ratio (b * b') h3)).mono fun N ⟨⟨x, y⟩, hN, z1, z2⟩ => ?_
  have e1 := cN_add_le ha ha' N
  have e2 := cN_mul_le hb hb' z1 hN
  have ca : 0 ≤ cN N a := by have := cN_ge1 ha N; grind
  have ca' : 0 ≤ cN N a' := by have := cN_ge1 ha' N; grind
  have cb : 0 ≤ cN N b := by have := cN_ge1 hb N; grind
  have cb' : 0 ≤ cN N b' := by have := cN_ge1 hb' N; grind
  have f1 := rmul_le x y (rmul_nonneg (Rat.le_of_lt h5) (rmul_nonneg ca' hp')) (rmul_nonneg cb hq)
  have f2 := Rat.mul_le_mul_of_nonneg_right e1 (rmul_nonneg hp hp')
  have f3 := Rat.mul_le_mul_of_nonneg_right e2 (rmul_nonneg hq hq')
  have f4 := Rat.mul_le_mul_of_nonneg_left z2 (rmul_nonneg (rmul_nonneg cb cb') (rmul_nonneg hq hq'))
  -- th * (c(a+a') p p') ≤ s * s * (ca ca' p p') ≤ s * t * t (..) ≤ s * (cb q cb' q')
  have g1 : 0 ≤ cN N a * cN N a' * (p * p') := rmul_nonneg (rmul_nonneg ca ca') (rmul_nonneg hp hp')
  have g2 : th * (cN N (a + a') * (p * p')) ≤ s * s * (cN N a * cN N a' * (p * p')) := by
    have g3 := Rat.mul_le_mul_of_nonneg_left f2 (Rat.le_of_lt h0)
    have g4 := Rat.mul_le_mul_of_nonneg_right h4 g1
    grind
  have g5 : s * s * (cN N a * cN N a' * (p * p')) ≤ s * (t * t * (cN N a * cN N a' * (p * p'))) := by
    have g6 := Rat.mul_le_mul_of_nonneg_left (Rat.mul_le_mul_of_nonneg_right h7 g1) (Rat.le_of_lt h2)
    grind
  have g7 : s * (t * t * (cN N a * cN N a' * (p * p'))) ≤ s * (cN N b * cN N b' * (q * q')) := by
    refine Rat.mul_le_mul_of_nonneg_left ?_ (Rat.le_of_lt h2)
    grind
  have g8 : s * (cN N b * cN N b' * (q * q')) ≤ cN N (b + b') * (q * q') := by grind
  exact Rat.le_trans g2 (Rat.le_trans g5 (Rat.le_trans g7 g8))
theorem R.cancel {a b c p q : Rat} (h : R (a + c) (b + c) p q) (ha : 0 ≤ a) (hb : 0 ≤ b) (hc : 0 ≤ c) (hp : 0 ≤ p) (hq : 0 ≤ q) : R a b p q := fun th h0 h1 => by
  obtain ⟨h2, h3⟩ := half_in h0 h1
  have h4 := half_sq (th := th)
  generalize (1 + th) / 2 = s at *
  refine ((h _ h2 h3).and (Ev.ratio (a * c) h3)).mono fun N ⟨x, hN, z1, z2⟩ => ?_
  have e1 := cN_add_le hb hc N
  have e2 := cN_mul_le ha hc z1 hN
  have ca : 0 ≤ cN N a := by have := cN_ge1 ha N; grind
  have cc : 0 < cN N c := by have := cN_ge1 hc N; grind
  have cb : 0 ≤ cN N b := by have := cN_ge1 hb N; grind
  have f2 := Rat.mul_le_mul_of_nonneg_right e1 hq
  have f3 := Rat.mul_le_mul_of_nonneg_right e2 hp
  have g0 : 0 ≤ cN N a * cN N c * p := rmul_nonneg (rmul_nonneg ca (Rat.le_of_lt cc)) hp
  have f4 := Rat.mul_le_mul_of_nonneg_left z2 g0
  refine Rat.le_of_mul_le_mul_right (c := cN N c) ?_ cc
  have g1 := Rat.mul_le_mul_of_nonneg_right h4 g0
  have g2 : s * (s * (cN N a * cN N c * p)) ≤ s * (cN N (a + c) * p) := Rat.mul_le_mul_of_nonneg_left (by grind) (Rat.le_of_lt h2)
  grind
theorem lim_le {p q : Rat} (h : ∀ th : Rat, 0 < th → th < 1 → th * p ≤ q) (hp : 0 ≤ p) : p ≤ q := by
  refine Rat.not_lt.1 fun hlt => ?_
  have hq : 0 ≤ q := by
    have := h (1 / 2) (by decide +kernel) (by decide +kernel)
    grind
  have hp' : 0 < p := by grind
  have e : (p + q) / (2 * p) * p = (p + q) / 2 := by grind
  have h1 : (p + q) / (2 * p) < 1 := by
    rw [Rat.div_lt_iff (by grind)]; grind
  have h2 : 0 < (p + q) / (2 * p) := by
    rw [Rat.lt_div_iff (by grind)]; grind
  have := h _ h2 h1
  rw [e] at this
  grind
theorem R.base {p q : Rat} (h : R 0 0 p q) (hp : 0 ≤ p) : p ≤ q := lim_le (fun th h0 h1 => by
  obtain ⟨k, hk⟩ := h th h0 h1
  have : th * (cN k 0 * p) ≤ cN k 0 * q := hk k (Nat.le_refl _)
  rw [cN_zero] at this
  grind) hp
theorem R.closed {a b p q : Rat} (h : ∀ th : Rat, 0 < th → th < 1 → R a b (th * p) q) (ha : 0 ≤ a) (hp : 0 ≤ p) : R a b p q := fun th h0 h1 => by
  obtain ⟨h2, h3⟩ := half_in h0 h1
  have h4 := half_sq (th := th)
  generalize (1 + th) / 2 = s at *
  refine (h s h2 h3 s h2 h3).mono fun N x => ?_
  have ca : 0 ≤ cN N a := by have := cN_ge1 ha N; grind
  have := Rat.mul_le_mul_of_nonneg_right h4 (rmul_nonneg ca hp)
  grind
theorem R.mono {a b a' b' p q p' q' : Rat} (h : R a b p q) (h1 : a' ≤ a) (h2 : b ≤ b') (h3 : p' ≤ p) (h4 : q ≤ q') (ha : 0 ≤ a') (hb : 0 ≤ b) (hp : 0 ≤ p') (hq : 0 ≤ q) : R a' b' p' q' := fun th h5 h6 =>
  (h th h5 h6).mono fun N x => by
    have e1 := rmul_le (cN_mono ha h1 N) h3 hp (by have := cN_ge1 (Rat.le_trans ha h1) N; grind)
    have e2 := rmul_le (cN_mono hb h2 N) h4 hq (by have := cN_ge1 (Rat.le_trans hb h2) N; grind)
    have e3 := Rat.mul_le_mul_of_nonneg_left e1 (Rat.le_of_lt h5)
    grind
def Et : Nat → Rat → Rat
  | 0, _ => 1
  | n + 1, t => Et n t * t / ((n + 1 : Nat) : Rat)
def Es : Nat → Rat → Rat
  | 0, _ => 1
  | n + 1, t => Es n t + Et (n + 1) t
theorem Et_step (n : Nat) (t : Rat) : Et (n + 1) t * ((n : Rat) + 1) = Et n t * t := by
  show Et n t * t / ((n + 1 : Nat) : Rat) * _ = _
  rw [natc]
  exact Rat.div_mul_cancel (by have := natc0 n; grind)
theorem Et_nonneg {t : Rat} (h : 0 ≤ t) (n : Nat) : 0 ≤ Et n t := by
  induction n with
  | zero => show (0 : Rat) ≤ 1; decide
  | succ n ih => exact ndiv (rmul_nonneg ih h) _
theorem Es_ge1 {t : Rat} (h : 0 ≤ t) (n : Nat) : 1 ≤ Es n t := by
  induction n with
  | zero => exact Rat.le_refl
  | succ n ih =>
    have := Et_nonneg h (n + 1)
    show 1 ≤ Es n t + Et (n + 1) t
    grind
theorem Es_up {t : Rat} (h : 0 ≤ t) (n : Nat) : Es n t ≤ Es (n + 1) t := by
  have := Et_nonneg h (n + 1)
  show Es n t ≤ Es n t + Et (n + 1) t
  grind
theorem scale_le {x y c : Rat} (hc : 0 < c) (h : x * c ≤ y * c) : x ≤ y := Rat.le_of_mul_le_mul_right h hc
theorem n1pos (n : Nat) : (0 : Rat) < (n : Rat) + 1 := by have := natc0 n; grind
theorem Et_add_ge {u x : Rat} (hu : 0 ≤ u) (hx : 0 ≤ x) : ∀ k : Nat, Et (k + 1) u + x * Et k u ≤ Et (k + 1) (u + x)
  | 0 => by
    have h1 := Et_step 0 u
    have h2 := Et_step 0 (u + x)
    have e0 : ∀ t, Et 0 t = 1 := fun _ => rfl
    rw [e0] at *
    have : ((0 : Nat) : Rat) = 0 := rfl
    grind
  | k + 1 => by
    have ih := Et_add_ge hu hx k
    have h1 := Et_step (k + 1) u
    have h2 := Et_step (k + 1) (u + x)
    have h3 := Et_step k u
    have hk := n1pos (k + 1)
    have h4 := Rat.mul_le_mul_of_nonneg_right ih (show 0 ≤ u + x by grind)
    have h5 := rmul_nonneg (rmul_nonneg hx hx) (Et_nonneg hu k)
    refine scale_le hk ?_
    have hc := natc k
    rw [hc] at *
    generalize Et (k + 1 + 1) (u + x) = A at *
    generalize Et (k + 1 + 1) u = B at *
    generalize Et (k + 1) (u + x) = C at *
    generalize Et (k + 1) u = D at *
    generalize Et k u = F at *
    have h6 : x * (D * ((k : Rat) + 1)) = x * (F * u) := by rw [h3]
    grind
theorem Et_add_le {u x : Rat} (hu : 0 ≤ u) (hx : 0 ≤ x) : ∀ k : Nat, Et (k + 1) (u + x) ≤ Et (k + 1) u + x * Et k (u + x)
  | 0 => by
    have h1 := Et_step 0 u
    have h2 := Et_step 0 (u + x)
    have e0 : ∀ t, Et 0 t = 1 := fun _ => rfl
    rw [e0] at *
    have : ((0 : Nat) : Rat) = 0 := rfl
    grind
  | k + 1 => by
    have ih := Et_add_le hu hx k
    have h1 := Et_step (k + 1) u
    have h2 := Et_step (k + 1) (u + x)
    have h3 := Et_step k (u + x)
    have hk := n1pos (k + 1)
    have h4 := Rat.mul_le_mul_of_nonneg_right ih hu
    have h5 := rmul_nonneg (rmul_nonneg hx hx) (Et_nonneg (show 0 ≤ u + x by grind) k)
    refine scale_le hk ?_
    have hc := natc k
    rw [hc] at *
    generalize Et (k + 1 + 1) (u + x) = A at *
    generalize Et (k + 1 + 1) u = B at *
    generalize Et (k + 1) (u + x) = C at *
    generalize Et (k + 1) u = D at *
    generalize Et k (u + x) = F at *
    have h6 : x * (C * ((k : Rat) + 1)) = x * (F * (u + x)) := by rw [h3]
    grind
theorem Es_add_ge {u x : Rat} (hu : 0 ≤ u) (hx : 0 ≤ x) : ∀ n : Nat, Es (n + 1) u + x * Es n u ≤ Es (n + 1) (u + x)
  | 0 => by
    have := Et_add_ge hu hx 0
    show (1 : Rat) + Et 1 u + x * 1 ≤ 1 + Et 1 (u + x)
    have e0 : ∀ t, Et 0 t = 1 := fun _ => rfl
    rw [e0] at this
    grind
  | n + 1 => by
    have ih := Es_add_ge hu hx n
    have := Et_add_ge hu hx (n + 1)
    show Es (n + 1) u + Et (n + 1 + 1) u + x * (Es n u + Et (n + 1) u) ≤ Es (n + 1) (u + x) + Et (n + 1 + 1) (u + x)
    grind
theorem Es_sharp {u x : Rat} (hu : 0 ≤ u) (hx : 0 ≤ x) : ∀ n : Nat, Es (n + 1) (u + x) ≤ Es (n + 1) u + x * Es n (u + x)
  | 0 => by
    have := Et_add_le hu hx 0
    show (1 : Rat) + Et 1 (u + x) ≤ 1 + Et 1 u + x * 1
    have e0 : ∀ t, Et 0 t = 1 := fun _ => rfl
    rw [e0] at this
    grind
  | n + 1 => by
    have ih := Es_sharp hu hx n
    have := Et_add_le hu hx (n + 1)
    show Es (n + 1) (u + x) + Et (n + 1 + 1) (u + x) ≤ Es (n + 1) u + Et (n + 1 + 1) u + x * (Es n (u + x) + Et (n + 1) (u + x))
    grind
theorem Es_add_le {u x : Rat} (hu : 0 ≤ u) (hx : 0 ≤ x) (n : Nat) : Es n (u + x) ≤ Es n u + x * Es n (u + x) := by
  cases n with
  | zero =>
    show (1 : Rat) ≤ 1 + x * 1
    grind
  | succ n =>
    have h1 := Es_sharp hu hx n
    have h2 := Rat.mul_le_mul_of_nonneg_left (Es_up (show 0 ≤ u + x by grind) n) hx
    grind
theorem Es_zero (n : Nat) : Es n 0 = 1 := by
  induction n with
  | zero => rfl
  | succ n ih =>
    have h := Et_step n 0
    have := n1pos n
    have h2 : Et (n + 1) 0 = 0 := by
      have h3 : Et (n + 1) 0 * ((n : Rat) + 1) = 0 := by rw [h]; grind
      rcases Rat.mul_eq_zero.1 h3 with h4 | h4
      · exact h4
      · grind
    show Es n 0 + Et (n + 1) 0 = 1
    rw [ih, h2]; grind
theorem pow_le_Es {x : Rat} (hx : 0 ≤ x) : ∀ j : Nat, (1 + x) ^ j ≤ Es j (j * x)
  | 0 => by simp [Es]
  | j + 1 => by
    have ih := pow_le_Es hx j
    have h0 : 0 ≤ (j : Rat) * x := rmul_nonneg (natc0 j) hx
    have h1 := Es_add_ge h0 hx j
    have h2 := Es_up h0 j
    rw [natc, Rat.pow_succ, show ((j : Rat) + 1) * x = j * x + x by grind]
    have h3 := Rat.mul_le_mul_of_nonneg_right ih (show 0 ≤ 1 + x by grind)
    grind
theorem cN_le_Es {t : Rat} (h : 0 ≤ t) (N : Nat) : cN N t ≤ Es N t := by
  by_cases hN : N = 0
  · subst hN
    show (1 + t / _) ^ 0 ≤ 1
    rw [Rat.pow_zero]; exact Rat.le_refl
  have hp := npos (show 1 ≤ N by omega)
  have := pow_le_Es (ndiv h N) N
  rwa [show (N : Rat) * (t / N) = t by grind] at this
theorem Es_le_pow {x : Rat} (hx : 0 ≤ x) (h1 : x ≤ 1) (n : Nat) : ∀ j : Nat, Es n (j * x) * (1 - x) ^ j ≤ 1
  | 0 => by
    rw [show ((0 : Nat) : Rat) * x = 0 by rw [show ((0 : Nat) : Rat) = 0 from rfl]; grind, Es_zero]; simp
  | j + 1 => by
    have ih := Es_le_pow hx h1 n j
    have h0 : 0 ≤ (j : Rat) * x := rmul_nonneg (natc0 j) hx
    have h2 := Es_add_le h0 hx n
    rw [natc, Rat.pow_succ, show ((j : Rat) + 1) * x = j * x + x by grind]
    have h3 : 0 ≤ (1 - x) ^ j := Rat.pow_nonneg (by grind)
    have h4 := Rat.mul_le_mul_of_nonneg_right (show Es n (j * x + x) * (1 - x) ≤ Es n (j * x) by grind) h3
    grind
theorem Es_le_cN {t : Rat} (h : 0 ≤ t) (n : Nat) {N : Nat} (hN : 1 ≤ N) (ht : t ≤ N) : Es n t * (1 - t * t / N) ≤ cN N t := by
  have hp := npos hN
  have hx := ndiv h N
  have e : (N : Rat) * (t / N) = t := by grind
  have hx1 : t / N ≤ 1 := scale_le hp (by rw [Rat.div_mul_cancel (by grind)]; grind)
  have h1 := Es_le_pow hx hx1 n N
  rw [e] at h1
  have h2 := bern (x := -(t / N * (t / N))) (by
    have := rmul_le hx1 hx1 hx (by decide)
    grind) N
  have h3 : (1 + -(t / N * (t / N))) ^ N = (1 - t / N) ^ N * (1 + t / N) ^ N := by
    rw [← rmul_pow]; congr 1; grind
  have h4 : (N : Rat) * (t / N * (t / N)) = t * t / N := by grind
  rw [h3] at h2
  have h5 : (1 : Rat) - t * t / N ≤ (1 - t / N) ^ N * (1 + t / N) ^ N := by grind
  have h6 := Rat.mul_le_mul_of_nonneg_left h5 (show 0 ≤ Es n t by have := Es_ge1 h n; grind)
  have h7 := Rat.mul_le_mul_of_nonneg_right h1 (show 0 ≤ (1 + t / (N : Rat)) ^ N from Rat.pow_nonneg (by grind))
  show _ ≤ (1 + t / (N : Rat)) ^ N
  grind
theorem R.sum_lo {t : Rat} (h : 0 ≤ t) (n : Nat) : R 0 t (Es n t) 1 := fun th h0 h1 =>
  ((Ev.ratio (t * t) h1).and (Ev.ratio t h1)).mono fun N ⟨⟨hN, _, z⟩, _, ht, _⟩ => by
    rw [cN_zero]
    have h2 := Es_le_cN h n hN ht
    have h3 := Rat.mul_le_mul_of_nonneg_right z (show 0 ≤ Es n t by have := Es_ge1 h n; grind)
    grind
theorem R.sum_hi {t q : Rat} (h : 0 ≤ t) (hq : ∀ n, Es n t ≤ q) : R t 0 1 q := fun th h0 h1 => Ev.all fun N => by
  rw [cN_zero]
  have h2 := cN_le_Es h N
  have h3 := hq N
  have h4 := cN_ge1 h N
  have h5 := Rat.mul_le_mul_of_nonneg_right (Rat.le_of_lt h1) (show 0 ≤ cN N t by grind)
  grind
def pp (t : Rat) : Rat := if 0 ≤ t then t else 0
theorem pp_nonneg (t : Rat) : 0 ≤ pp t := by unfold pp; split; assumption; exact Rat.le_refl
theorem pp_sub (t : Rat) : pp t = t + pp (-t) := by unfold pp; split <;> split <;> grind
def XL (v t : Rat) : Prop := R (pp (-t)) (pp t) v 1
def XU (t v : Rat) : Prop := R (pp t) (pp (-t)) 1 v
theorem R.shift {a b a' b' p q : Rat} (h : R a b p q) (e : a + b' = a' + b) (ha : 0 ≤ a) (hb : 0 ≤ b) (ha' : 0 ≤ a') (hb' : 0 ≤ b') (hp : 0 ≤ p) (hq : 0 ≤ q) : R a' b' p q := by
  have h1 := h.mul (R.of_le (a := b') (p := 1) (q := 1) hb' (by decide) Rat.le_refl) ha hb' hb hb' hp (by decide) hq (by decide)
  rw [e, Rat.add_comm b b', Rat.mul_one, Rat.mul_one] at h1
  exact h1.cancel ha' hb' hb hp hq
theorem XL.of {a b v : Rat} (h : R a b v 1) (ha : 0 ≤ a) (hb : 0 ≤ b) (hv : 0 ≤ v) : XL v (b - a) :=
  h.shift (by have := pp_sub (b - a); grind) ha hb (pp_nonneg _) (pp_nonneg _) hv (by decide)
theorem XU.of {a b v : Rat} (h : R a b 1 v) (ha : 0 ≤ a) (hb : 0 ≤ b) (hv : 0 ≤ v) : XU (a - b) v :=
  h.shift (by have := pp_sub (a - b); grind) ha hb (pp_nonneg _) (pp_nonneg _) (by decide) hv
theorem XL.le {v t w : Rat} (h : XL v t) (k : XU t w) (hv : 0 ≤ v) (hw : 0 ≤ w) : v ≤ w := by
  have h1 := h.mul k (pp_nonneg _) (pp_nonneg _) (pp_nonneg _) (pp_nonneg _) hv (by decide) (by decide) hw
  rw [Rat.mul_one, Rat.one_mul, Rat.add_comm (pp (-t))] at h1
  have h2 : R (0 + (pp t + pp (-t))) (0 + (pp t + pp (-t))) v w := by rwa [Rat.zero_add]
  exact (h2.cancel Rat.le_refl Rat.le_refl (by have := pp_nonneg t; have := pp_nonneg (-t); grind) hv hw).base hv
theorem XL.mul {v t w u : Rat} (h : XL v t) (k : XL w u) (hv : 0 ≤ v) (hw : 0 ≤ w) : XL (v * w) (t + u) := by
  have h1 := R.mul h k (pp_nonneg _) (pp_nonneg _) (pp_nonneg _) (pp_nonneg _) hv hw (by decide) (by decide)
  have h2 := XL.of (by simpa using h1) (by have := pp_nonneg (-t); have := pp_nonneg (-u); grind) (by have := pp_nonneg t; have := pp_nonneg u; grind) (rmul_nonneg hv hw)
  rwa [show pp t + pp u - (pp (-t) + pp (-u)) = t + u by have := pp_sub t; have := pp_sub u; grind] at h2
theorem XU.mul {v t w u : Rat} (h : XU t v) (k : XU u w) (hv : 0 ≤ v) (hw : 0 ≤ w) : XU (t + u) (v * w) := by
  have h1 := R.mul h k (pp_nonneg _) (pp_nonneg _) (pp_nonneg _) (pp_nonneg _) (by decide) (by decide) hv hw
  have h2 := XU.of (by simpa using h1) (by have := pp_nonneg t; have := pp_nonneg u; grind) (by have := pp_nonneg (-t); have := pp_nonneg (-u); grind) (rmul_nonneg hv hw)
  rwa [show pp t + pp u - (pp (-t) + pp (-u)) = t + u by have := pp_sub t; have := pp_sub u; grind] at h2
theorem XL.mono {v t w u : Rat} (h : XL v t) (h1 : t ≤ u) (h2 : w ≤ v) (hw : 0 ≤ w) : XL w u :=
  R.mono h (by unfold pp; split <;> split <;> grind) (by unfold pp; split <;> split <;> grind) h2 Rat.le_refl (pp_nonneg _) (pp_nonneg _) hw (by decide)
theorem XU.mono {v t w u : Rat} (h : XU t v) (h1 : u ≤ t) (h2 : v ≤ w) (hv : 0 ≤ v) : XU u w :=
  R.mono h (by unfold pp; split <;> split <;> grind) (by unfold pp; split <;> split <;> grind) Rat.le_refl h2 (pp_nonneg _) (pp_nonneg _) (by decide) hv
theorem XL.closed {v t : Rat} (h : ∀ th : Rat, 0 < th → th < 1 → XL (th * v) t) (hv : 0 ≤ v) : XL v t := R.closed h (pp_nonneg _) hv
theorem XU.closed {v t : Rat} (h : ∀ th : Rat, 0 < th → th < 1 → XU t (v / th)) (hv : 0 ≤ v) : XU t v := R.closed (fun th h0 h1 s h2 h3 => (h th h0 h1 s h2 h3).mono fun N x => by
  have h4 := Rat.mul_le_mul_of_nonneg_left x (Rat.le_of_lt h0)
  have h5 : th * (cN N (pp (-t)) * (v / th)) = cN N (pp (-t)) * v := by grind
  grind) (pp_nonneg _) (by decide)
theorem XL.inv {v t : Rat} (h : XL v t) (hv : 0 < v) : XU (-t) (1 / v) := fun th h0 h1 => (h th h0 h1).mono fun N x => by
  rw [show - -t = t by grind]
  refine scale_le hv ?_
  have : cN N (pp t) * (1 / v) * v = cN N (pp t) := by grind
  rw [this]
  grind
theorem XU.inv {v t : Rat} (h : XU t v) (hv : 0 < v) : XL (1 / v) (-t) := fun th h0 h1 => (h th h0 h1).mono fun N x => by
  rw [show - -t = t by grind]
  refine scale_le hv ?_
  have : th * (cN N (pp t) * (1 / v)) * v = th * cN N (pp t) := by grind
  rw [this]
  grind
theorem XL.zero : XL 1 0 := by
  have := XL.of (a := 0) (b := 0) (v := 1) (R.of_le Rat.le_refl (by decide) Rat.le_refl) Rat.le_refl Rat.le_refl (by decide)
  rwa [show (0 : Rat) - 0 = 0 by grind] at this
theorem XU.zero : XU 0 1 := by
  have := XU.of (a := 0) (b := 0) (v := 1) (R.of_le Rat.le_refl (by decide) Rat.le_refl) Rat.le_refl Rat.le_refl (by decide)
  rwa [show (0 : Rat) - 0 = 0 by grind] at this
theorem XL.pow {v t : Rat} (h : XL v t) (hv : 0 ≤ v) (n : Nat) : XL (v ^ n) (n * t) := by
  induction n with
  | zero =>
    rw [show ((0 : Nat) : Rat) * t = 0 by rw [show ((0 : Nat) : Rat) = 0 from rfl]; grind, Rat.pow_zero]
    exact XL.zero
  | succ n ih =>
    rw [natc, Rat.pow_succ, show ((n : Rat) + 1) * t = n * t + t by grind]
    exact ih.mul h (Rat.pow_nonneg hv) hv
theorem XU.pow {v t : Rat} (h : XU t v) (hv : 0 ≤ v) (n : Nat) : XU (n * t) (v ^ n) := by
  induction n with
  | zero =>
    rw [show ((0 : Nat) : Rat) * t = 0 by rw [show ((0 : Nat) : Rat) = 0 from rfl]; grind, Rat.pow_zero]
    exact XU.zero
  | succ n ih =>
    rw [natc, Rat.pow_succ, show ((n : Rat) + 1) * t = n * t + t by grind]
    exact ih.mul h (Rat.pow_nonneg hv) hv
theorem pp_of {t : Rat} (h : 0 ≤ t) : pp t = t := if_pos h
theorem pp_neg {t : Rat} (h : 0 ≤ t) : pp (-t) = 0 := by unfold pp; split <;> grind
theorem XL.sum {t v : Rat} (h : 0 ≤ t) (n : Nat) (hv : v ≤ Es n t) (h0 : 0 ≤ v) : XL v t := by
  unfold XL
  rw [pp_of h, pp_neg h]
  exact (R.sum_lo h n).mono Rat.le_refl Rat.le_refl hv Rat.le_refl Rat.le_refl h h0 (by decide)
theorem XU.sum {t v : Rat} (h : 0 ≤ t) (hv : ∀ n, Es n t ≤ v) : XU t v := by
  unfold XU
  rw [pp_of h, pp_neg h]
  exact R.sum_hi h hv
theorem XL.one_add {t : Rat} (h : 0 ≤ t) : XL (1 + t) t := XL.sum h 1 (by
  show 1 + t ≤ 1 + Et 1 t
  have h1 := Et_step 0 t
  have e0 : ∀ t, Et 0 t = 1 := fun _ => rfl
  rw [e0] at h1
  have : ((0 : Nat) : Rat) = 0 := rfl
  have e1 : Et (0 + 1) t = Et 1 t := rfl
  grind) (by grind)
theorem XU.one_sub {t : Rat} (h : 0 ≤ t) (h1 : t < 1) : XU t (1 / (1 - t)) := by
  unfold XU
  rw [pp_of h, pp_neg h]
  intro th h2 h3
  refine (Ev.ge 1).mono fun N hN => ?_
  rw [cN_zero]
  have hp := npos hN
  have e : (N : Rat) * (t / N) = t := by grind
  have h4 := bern_up (ndiv h N) (n := N) (by grind)
  rw [e] at h4
  have h5 : cN N t * (1 - t) ≤ 1 := h4
  have h6 := cN_ge1 h N
  refine scale_le (c := 1 - t) (by grind) ?_
  have h7 : 1 * (1 / (1 - t)) * (1 - t) = 1 := by grind
  rw [h7]
  have h8 := Rat.mul_le_mul_of_nonneg_right (Rat.le_of_lt h3) (show 0 ≤ cN N t * (1 - t) from rmul_nonneg (by grind) (by grind))
  grind
theorem rle_of_eq {a b : Rat} (h : a = b) : a ≤ b := h ▸ Rat.le_refl
def As : Nat → Rat → Rat
  | 0, _ => 0
  | n + 1, y => As n y + y ^ (2 * n + 1) / ((2 * n + 1 : Nat) : Rat)
def Gs : Nat → Rat → Rat
  | 0, _ => 0
  | n + 1, y => Gs n y + y ^ (2 * n)
theorem pow_two_mul (y : Rat) (n : Nat) : y ^ (2 * (n + 1)) = y ^ (2 * n) * (y * y) := by
  rw [show 2 * (n + 1) = 2 * n + 1 + 1 by omega, Rat.pow_succ, Rat.pow_succ]; grind
theorem Gs_eq (y : Rat) (n : Nat) : Gs n y * (1 - y * y) = 1 - y ^ (2 * n) := by
  induction n with
  | zero => simp [Gs]; grind
  | succ n ih =>
    show (Gs n y + y ^ (2 * n)) * (1 - y * y) = _
    rw [pow_two_mul]; grind
theorem pow_diff_le {a b : Rat} (h0 : 0 ≤ a) (h : a ≤ b) (j : Nat) : b ^ (j + 1) - a ^ (j + 1) ≤ ((j : Rat) + 1) * ((b - a) * b ^ j) := by
  induction j with
  | zero => simp; grind
  | succ j ih =>
    rw [Rat.pow_succ b (j + 1), Rat.pow_succ a (j + 1), natc]
    have h1 := Rat.mul_le_mul_of_nonneg_right ih (show 0 ≤ b by grind)
    have h2 := rpow_le h0 h (j + 1)
    have h3 := Rat.mul_le_mul_of_nonneg_left h2 (show 0 ≤ b - a by grind)
    rw [Rat.pow_succ b j, Rat.pow_succ a j] at *
    grind
theorem pow_diff_ge {a b : Rat} (h0 : 0 ≤ a) (h : a ≤ b) (j : Nat) : ((j : Rat) + 1) * ((b - a) * a ^ j) ≤ b ^ (j + 1) - a ^ (j + 1) := by
  induction j with
  | zero => simp; grind
  | succ j ih =>
    rw [Rat.pow_succ b (j + 1), Rat.pow_succ a (j + 1), natc]
    have h1 := Rat.mul_le_mul_of_nonneg_right ih h0
    have h2 := rpow_le h0 h (j + 1)
    have h3 := Rat.mul_le_mul_of_nonneg_left h2 (show 0 ≤ b - a by grind)
    rw [Rat.pow_succ b j, Rat.pow_succ a j] at *
    grind
theorem term_le {a b : Rat} (h0 : 0 ≤ a) (h : a ≤ b) (n : Nat) : b ^ (2 * n + 1) / ((2 * n + 1 : Nat) : Rat) - a ^ (2 * n + 1) / ((2 * n + 1 : Nat) : Rat) ≤ (b - a) * b ^ (2 * n) := by
  have h1 := pow_diff_le h0 h (2 * n)
  have hp := n1pos (2 * n)
  rw [natc]
  refine scale_le hp ?_
  generalize b ^ (2 * n + 1) = B at *
  generalize a ^ (2 * n + 1) = A at *
  generalize b ^ (2 * n) = C at *
  generalize ((2 * n : Nat) : Rat) + 1 = c at *
  have e1 : (B / c - A / c) * c = B - A := by grind
  rw [e1]; grind
theorem term_ge {a b : Rat} (h0 : 0 ≤ a) (h : a ≤ b) (n : Nat) : (b - a) * a ^ (2 * n) ≤ b ^ (2 * n + 1) / ((2 * n + 1 : Nat) : Rat) - a ^ (2 * n + 1) / ((2 * n + 1 : Nat) : Rat) := by
  have h1 := pow_diff_ge h0 h (2 * n)
  have hp := n1pos (2 * n)
  rw [natc]
  refine scale_le hp ?_
  generalize b ^ (2 * n + 1) = B at *
  generalize a ^ (2 * n + 1) = A at *
  generalize a ^ (2 * n) = C at *
  generalize ((2 * n : Nat) : Rat) + 1 = c at *
  have e1 : (B / c - A / c) * c = B - A := by grind
  rw [e1]; grind
theorem As_diff_le {a b : Rat} (h0 : 0 ≤ a) (h : a ≤ b) (n : Nat) : As n b - As n a ≤ (b - a) * Gs n b := by
  induction n with
  | zero => simp [As, Gs]; grind
  | succ n ih =>
    have := term_le h0 h n
    show As n b + _ - (As n a + _) ≤ (b - a) * (Gs n b + b ^ (2 * n))
    grind
theorem As_diff_ge {a b : Rat} (h0 : 0 ≤ a) (h : a ≤ b) (n : Nat) : (b - a) * Gs n a ≤ As n b - As n a := by
  induction n with
  | zero => simp [As, Gs]; grind
  | succ n ih =>
    have := term_ge h0 h n
    show (b - a) * (Gs n a + a ^ (2 * n)) ≤ As n b + _ - (As n a + _)
    grind
theorem As_zero (n : Nat) : As n 0 = 0 := by
  induction n with
  | zero => rfl
  | succ n ih =>
    show As n 0 + (0 : Rat) ^ (2 * n + 1) / _ = 0
    rw [ih, Rat.pow_succ, Rat.div_def]; grind
theorem As_mono {a b : Rat} (h0 : 0 ≤ a) (h : a ≤ b) (n : Nat) : As n a ≤ As n b := by
  have h1 := As_diff_ge h0 h n
  have h2 : 0 ≤ Gs n a := by
    clear h1
    induction n with
    | zero => exact Rat.le_refl
    | succ n ih =>
      have : (0 : Rat) ≤ a ^ (2 * n) := Rat.pow_nonneg h0
      show 0 ≤ Gs n a + a ^ (2 * n)
      grind
  have := rmul_nonneg (show 0 ≤ b - a by grind) h2
  grind
def gR (y : Rat) : Rat := (1 + y) / (1 - y)
theorem gR_pos {y : Rat} (h0 : 0 ≤ y) (h : y ≤ 1 / 3) : 1 ≤ gR y := by
  unfold gR
  refine scale_le (c := 1 - y) (by grind) ?_
  rw [Rat.div_mul_cancel (by grind)]; grind
theorem step_facts {a b : Rat} (h0 : 0 ≤ a) (h : a ≤ b) (hb : b ≤ 1 / 3) :
    ∃ r : Rat, gR b = gR a * r ∧ r * ((1 - b) * (1 + a)) = (1 - b) * (1 + a) + 2 * (b - a) ∧ 1 ≤ r := by
  have h1 : (1 - b) ≠ 0 := by grind
  have h2 : (1 + a) ≠ 0 := by grind
  have h3 : (1 - a) ≠ 0 := by grind
  have hp : 0 < (1 - b) * (1 + a) := Rat.mul_pos (by grind) (by grind)
  refine ⟨(1 + b) * (1 - a) / ((1 - b) * (1 + a)), ?_, ?_, ?_⟩
  · unfold gR
    have h4 : (1 - b) * (1 + a) ≠ 0 := by grind
    grind
  · rw [Rat.div_mul_cancel (by grind)]; grind
  · refine scale_le hp ?_
    rw [Rat.div_mul_cancel (by grind)]; grind
theorem step_up {a b : Rat} (h0 : 0 ≤ a) (h : a ≤ b) (hb : b ≤ 1 / 3) (hh : b - a ≤ 1 / 9) (n : Nat) :
    XU (2 * (As n b - As n a)) (gR b / gR a * (1 + 11 * ((b - a) * (b - a)))) := by
  obtain ⟨r, e1, e2, hr⟩ := step_facts h0 h hb
  have hg := gR_pos h0 (by grind)
  have e3 : gR b / gR a = r := by rw [e1]; grind
  rw [e3]
  have h1 := As_diff_le h0 h n
  have h2 := Gs_eq b n
  have h3 : (0 : Rat) ≤ b ^ (2 * n) := Rat.pow_nonneg (by grind)
  have hbb : b * b ≤ 1 / 9 := by
    have := rmul_le hb hb (by grind) (show (0 : Rat) ≤ 1 / 3 by decide +kernel)
    have : (1 : Rat) / 3 * (1 / 3) = 1 / 9 := by decide +kernel
    grind
  obtain ⟨d, hd⟩ : ∃ d, d = 2 * (As n b - As n a) := ⟨_, rfl⟩
  have hd0 : 0 ≤ d := by have := As_mono h0 h n; grind
  rw [← hd]
  have hG : (b - a) * Gs n b * (1 - b * b) ≤ b - a := by
    have := Rat.mul_le_mul_of_nonneg_left (show Gs n b * (1 - b * b) ≤ 1 by grind) (show 0 ≤ b - a by grind)
    grind
  have hd1 : d * (1 - b * b) ≤ 2 * (b - a) := by
    have h4 := Rat.mul_le_mul_of_nonneg_right h1 (show 0 ≤ 1 - b * b by grind)
    rw [hd]
    clear e1 e2 e3 h1 h2 h3 hd0 hd
    grind
  generalize As n b = AB at *
  generalize As n a = AA at *
  generalize Gs n b = GB at *
  generalize b ^ (2 * n) = BN at *
  clear h1 h2 h3 hd hG
  have hd2 : d ≤ 9 / 4 * (b - a) := by
    have := Rat.mul_le_mul_of_nonneg_left (show (8 : Rat) / 9 ≤ 1 - b * b by grind) hd0
    grind
  have hd3 : d ≤ 1 / 4 := by grind
  -- d is at most r - 1
  have hab : (1 - b) * (1 + a) ≤ 1 - b * b := by
    have := Rat.mul_le_mul_of_nonneg_left (show 1 + a ≤ 1 + b by grind) (show 0 ≤ 1 - b by grind)
    grind
  have hp : 0 < (1 - b) * (1 + a) := Rat.mul_pos (by grind) (by grind)
  have hd4 : d ≤ r - 1 := scale_le hp (by
    have := Rat.mul_le_mul_of_nonneg_left hab hd0
    grind)
  have hx := XU.one_sub hd0 (by grind)
  refine hx.mono Rat.le_refl ?_ (by
    have : (0 : Rat) < 1 - d := by grind
    rw [Rat.div_def]; exact rmul_nonneg (by decide) (Rat.le_of_lt (Rat.inv_pos.2 this)))
  refine scale_le (c := 1 - d) (by grind) ?_
  rw [Rat.div_mul_cancel (by grind)]
  -- 1 ≤ (r + r * 11 h^2) (1 - d)
  obtain ⟨k, hk⟩ : ∃ k, k = b - a := ⟨_, rfl⟩
  rw [← hk] at hd2 ⊢
  have hk0 : 0 ≤ k := by grind
  have hdd : d * d ≤ 81 / 16 * (k * k) := by
    have := rmul_le hd2 hd2 hd0 (by grind)
    grind
  have hkk := rmul_nonneg hk0 hk0
  have h5 : 1 + d + 2 * (d * d) ≤ r * (1 + 11 * (k * k)) := by
    have := Rat.mul_le_mul_of_nonneg_right hr (show 0 ≤ 11 * (k * k) by grind)
    grind
  have h6 := Rat.mul_le_mul_of_nonneg_right h5 (show 0 ≤ 1 - d by grind)
  have h7 := rmul_nonneg hd0 hd0
  have h8 := Rat.mul_le_mul_of_nonneg_right hd3 h7
  grind
theorem step_lo {a b y : Rat} (h0 : 0 ≤ a) (h : a ≤ b) (hb : b ≤ 1 / 3) (hy : a ≤ y) (n : Nat) :
    XL (gR b / gR a * (1 - 5 * ((b - a) * (b - a)) - 3 * ((b - a) * y ^ (2 * n)))) (2 * (As n b - As n a)) ∨ 1 - 5 * ((b - a) * (b - a)) - 3 * ((b - a) * y ^ (2 * n)) < 0 := by
  by_cases hneg : 1 - 5 * ((b - a) * (b - a)) - 3 * ((b - a) * y ^ (2 * n)) < 0
  · exact .inr hneg
  refine .inl ?_
  obtain ⟨r, e1, e2, hr⟩ := step_facts h0 h hb
  have hg := gR_pos h0 (by grind)
  have e3 : gR b / gR a = r := by rw [e1]; grind
  rw [e3]
  have h1 := As_diff_ge h0 h n
  have h2 := Gs_eq a n
  have h3 : a ^ (2 * n) ≤ y ^ (2 * n) := rpow_le h0 hy _
  have h3' : 0 ≤ a ^ (2 * n) := Rat.pow_nonneg h0
  have haa : a * a ≤ 1 / 9 := by
    have := rmul_le (show a ≤ 1 / 3 by grind) (show a ≤ 1 / 3 by grind) h0 (show (0 : Rat) ≤ 1 / 3 by decide +kernel)
    have : (1 : Rat) / 3 * (1 / 3) = 1 / 9 := by decide +kernel
    grind
  have hm := As_mono h0 h n
  have hx := XL.one_add (t := 2 * (As n b - As n a)) (by grind)
  refine hx.mono Rat.le_refl ?_ (rmul_nonneg (by grind) (by grind))
  generalize y ^ (2 * n) = Y at *
  generalize a ^ (2 * n) = AN at *
  generalize As n b = AB at *
  generalize As n a = AA at *
  generalize Gs n a = GA at *
  obtain ⟨k, hk⟩ : ∃ k, k = b - a := ⟨_, rfl⟩
  rw [← hk] at hneg h1 e2 ⊢
  have hk0 : 0 ≤ k := by grind
  have hkk := rmul_nonneg hk0 hk0
  have hkY := rmul_nonneg hk0 (show 0 ≤ Y by grind)
  -- r (1 - w) ≤ r - w, and 2 k GA ≥ r - 1 - w
  have h4 : r * (1 - 5 * (k * k) - 3 * (k * Y)) ≤ r - 5 * (k * k) - 3 * (k * Y) := by
    have := Rat.mul_le_mul_of_nonneg_right hr (show 0 ≤ 5 * (k * k) + 3 * (k * Y) by grind)
    grind
  refine Rat.le_trans h4 ?_
  have hp : 0 < (1 - b) * (1 + a) := Rat.mul_pos (by grind) (by grind)
  have h5 : r - 1 ≤ 2 * (k * GA) + 5 * (k * k) + 3 * (k * Y) := by
    have q0 : (0 : Rat) < 1 - a * a := by grind
    refine scale_le hp (scale_le q0 ?_)
    have q1 : (r - 1) * ((1 - b) * (1 + a)) = 2 * k := by grind
    rw [q1]
    -- 2 k (1 - a a) ≤ (2 k GA + 5 k k + 3 k Y) ((1-b)(1+a)) (1 - a a)
    have q2 : (2 * (k * GA)) * ((1 - b) * (1 + a)) * (1 - a * a) = 2 * k * (1 - AN) * ((1 - b) * (1 + a)) := by grind
    have q3 : (1 - b) * (1 + a) = 1 - a * a - k * (1 + a) := by grind
    have q4 : 2 * k * AN * ((1 - b) * (1 + a)) ≤ 3 * (k * Y) * ((1 - b) * (1 + a)) * (1 - a * a) := by
      have r1 : 2 * k * AN ≤ 2 * (k * Y) := by
        have := Rat.mul_le_mul_of_nonneg_left h3 hk0
        grind
      have r2 : 2 * (k * Y) ≤ 3 * (k * Y) * (1 - a * a) := by
        have := Rat.mul_le_mul_of_nonneg_left (show (8 : Rat) / 9 ≤ 1 - a * a by grind) hkY
        grind
      have := Rat.mul_le_mul_of_nonneg_right (Rat.le_trans r1 r2) (Rat.le_of_lt hp)
      grind
    have q5 : 2 * k * (k * (1 + a)) ≤ 5 * (k * k) * ((1 - b) * (1 + a)) * (1 - a * a) := by
      -- 2 ≤ 5 (1 - b) (1 - a a): 5 * 2/3 * 8/9 = 80/27
      have r1 : (2 : Rat) ≤ 5 * (1 - b) * (1 - a * a) := by
        have := rmul_le (show (2 : Rat) / 3 ≤ 1 - b by grind) (show (8 : Rat) / 9 ≤ 1 - a * a by grind) (by decide +kernel) (by grind)
        have : (2 : Rat) / 3 * (8 / 9) = 16 / 27 := by decide +kernel
        grind
      have := Rat.mul_le_mul_of_nonneg_right r1 (rmul_nonneg hkk (show 0 ≤ 1 + a by grind))
      grind
    have q6 : (2 * (k * GA) + 5 * (k * k) + 3 * (k * Y)) * ((1 - b) * (1 + a)) * (1 - a * a) = 2 * k * ((1 - b) * (1 + a)) - 2 * k * AN * ((1 - b) * (1 + a)) + 5 * (k * k) * ((1 - b) * (1 + a)) * (1 - a * a) + 3 * (k * Y) * ((1 - b) * (1 + a)) * (1 - a * a) := by grind
    rw [q6]
    have q7 : 2 * k * ((1 - b) * (1 + a)) = 2 * k * (1 - a * a) - 2 * k * (k * (1 + a)) := by rw [q3]; grind
    rw [q7]
    grind
  grind
theorem steps_up {k : Rat} (hk : 0 ≤ k) (hh : k ≤ 1 / 9) (n : Nat) : ∀ i : Nat, (i : Rat) * k ≤ 1 / 3 → XU (2 * As n (i * k)) (gR (i * k) * (1 + 11 * (k * k)) ^ i)
  | 0, _ => by
    rw [show ((0 : Nat) : Rat) * k = 0 by rw [show ((0 : Nat) : Rat) = 0 from rfl]; grind, As_zero, Rat.pow_zero]
    have : gR 0 * 1 = 1 := by decide +kernel
    rw [this, show (2 : Rat) * 0 = 0 by grind]
    exact XU.zero
  | i + 1, hi => by
    rw [natc] at hi ⊢
    have e : ((i : Rat) + 1) * k = i * k + k := by grind
    rw [e] at hi ⊢
    have ih := steps_up hk hh n i (by grind)
    have h0 : 0 ≤ (i : Rat) * k := rmul_nonneg (natc0 i) hk
    have hs := step_up h0 (show (i : Rat) * k ≤ i * k + k by grind) hi (by grind) n
    have ga := gR_pos h0 (by grind)
    have gb := gR_pos (show 0 ≤ (i : Rat) * k + k by grind) hi
    have ek : (i : Rat) * k + k - i * k = k := by grind
    rw [ek] at hs
    have hkk := rmul_nonneg hk hk
    have hw : 0 ≤ (1 + 11 * (k * k)) ^ i := Rat.pow_nonneg (by grind)
    have hd : 0 ≤ gR (i * k + k) / gR (i * k) := by
      rw [Rat.div_def]; exact rmul_nonneg (by grind) (Rat.le_of_lt (Rat.inv_pos.2 (by grind)))
    have := ih.mul hs (rmul_nonneg (by grind) hw) (rmul_nonneg hd (by grind))
    rw [show 2 * As n (i * k) + 2 * (As n (i * k + k) - As n (i * k)) = 2 * As n (i * k + k) by grind] at this
    rw [Rat.pow_succ]
    refine this.mono Rat.le_refl (rle_of_eq ?_) (rmul_nonneg (rmul_nonneg (by grind) hw) (rmul_nonneg hd (by grind)))
    generalize (1 + 11 * (k * k)) ^ i = P at *
    grind
theorem steps_lo {k y : Rat} (hk : 0 ≤ k) (n : Nat) (hw : 0 ≤ 1 - 5 * (k * k) - 3 * (k * y ^ (2 * n))) : ∀ i : Nat, (i : Rat) * k ≤ 1 / 3 → (i : Rat) * k ≤ y → XL (gR (i * k) * (1 - 5 * (k * k) - 3 * (k * y ^ (2 * n))) ^ i) (2 * As n (i * k))
  | 0, _, _ => by
    rw [show ((0 : Nat) : Rat) * k = 0 by rw [show ((0 : Nat) : Rat) = 0 from rfl]; grind, As_zero, Rat.pow_zero]
    have : gR 0 * 1 = 1 := by decide +kernel
    rw [this, show (2 : Rat) * 0 = 0 by grind]
    exact XL.zero
  | i + 1, hi, hy => by
    rw [natc] at hi hy ⊢
    have e : ((i : Rat) + 1) * k = i * k + k := by grind
    rw [e] at hi hy ⊢
    have ih := steps_lo hk n hw i (by grind) (by grind)
    have h0 : 0 ≤ (i : Rat) * k := rmul_nonneg (natc0 i) hk
    have hs := step_lo (y := y) h0 (show (i : Rat) * k ≤ i * k + k by grind) hi (by grind) n
    have ga := gR_pos h0 (by grind)
    have gb := gR_pos (show 0 ≤ (i : Rat) * k + k by grind) hi
    have ek : (i : Rat) * k + k - i * k = k := by grind
    rw [ek] at hs
    have hs := hs.resolve_right (by grind)
    have hp : 0 ≤ (1 - 5 * (k * k) - 3 * (k * y ^ (2 * n))) ^ i := Rat.pow_nonneg hw
    have hd : 0 ≤ gR (i * k + k) / gR (i * k) := by
      rw [Rat.div_def]; exact rmul_nonneg (by grind) (Rat.le_of_lt (Rat.inv_pos.2 (by grind)))
    have := ih.mul hs (rmul_nonneg (by grind) hp) (rmul_nonneg hd hw)
    rw [show 2 * As n (i * k) + 2 * (As n (i * k + k) - As n (i * k)) = 2 * As n (i * k + k) by grind] at this
    rw [Rat.pow_succ]
    refine this.mono Rat.le_refl (rle_of_eq ?_) (rmul_nonneg (by grind) (rmul_nonneg hp hw))
    generalize (1 - 5 * (k * k) - 3 * (k * y ^ (2 * n))) ^ i = P at *
    generalize 1 - 5 * (k * k) - 3 * (k * y ^ (2 * n)) = Q at *
    grind
theorem XU.atanh {y : Rat} (h0 : 0 ≤ y) (h : y ≤ 1 / 3) (n : Nat) : XU (2 * As n y) (gR y) := by
  have hg := gR_pos h0 h
  refine XU.closed (fun th t0 t1 => ?_) (by grind)
  obtain ⟨N, hN⟩ := Ev.ratio 11 t1
  obtain ⟨hN1, hN2, hN3⟩ := hN (max N 9) (by omega)
  have hN9 : ((9 : Nat) : Rat) ≤ ((max N 9 : Nat) : Rat) := Rat.natCast_le_natCast.2 (by omega)
  generalize max N 9 = M at *
  have hp := npos hN1
  have e1 : (M : Rat) * (y / M) = y := by grind
  have hk := ndiv h0 M
  have hk9 : y / M ≤ 1 / 9 := scale_le hp (by rw [Rat.div_mul_cancel (by grind)]; have : ((9 : Nat) : Rat) = 9 := rfl; grind)
  have hs := steps_up hk hk9 n M (by rw [e1]; exact h)
  rw [e1] at hs
  refine hs.mono Rat.le_refl ?_ (rmul_nonneg (by grind) (Rat.pow_nonneg (by have := rmul_nonneg hk hk; grind)))
  -- (1 + 11 k k)^M ≤ 1 / (1 - 11 k k M) ≤ 1 / th
  have hkk := rmul_nonneg hk hk
  have e2 : (M : Rat) * (11 * (y / M * (y / M))) = 11 * (y * (y / M)) := by grind
  have h3 : 11 * (y * (y / M)) ≤ 11 / M := by
    refine scale_le hp ?_
    have e3 : 11 * (y * (y / (M : Rat))) * M = 11 * (y * y) := by grind
    rw [e3, Rat.div_mul_cancel (by grind)]
    have := rmul_le h h h0 (show (0 : Rat) ≤ 1 / 3 by decide +kernel)
    have : (1 : Rat) / 3 * (1 / 3) = 1 / 9 := by decide +kernel
    grind
  have h4 := bern_up (x := 11 * (y / M * (y / M))) (by grind) (n := M) (by rw [e2]; grind)
  rw [e2] at h4
  have h5 : th ≤ 1 - 11 * (y * (y / M)) := by grind
  have h6 : (0 : Rat) ≤ (1 + 11 * (y / M * (y / M))) ^ M := Rat.pow_nonneg (by grind)
  have h7 := Rat.mul_le_mul_of_nonneg_left h5 h6
  refine scale_le t0 ?_
  rw [Rat.div_mul_cancel (by grind)]
  have h8 := Rat.mul_le_mul_of_nonneg_left (Rat.le_trans h7 h4) (show 0 ≤ gR y by grind)
  grind
theorem XL.atanh1 {y : Rat} (h0 : 0 ≤ y) (h : y ≤ 1 / 3) (n : Nat) (hn : 3 * y ^ (2 * n) < 1) : XL (gR y * (1 - 3 * y ^ (2 * n))) (2 * As n y) := by
  have hg := gR_pos h0 h
  have hY : 0 ≤ y ^ (2 * n) := Rat.pow_nonneg h0
  refine XL.closed (fun th t0 t1 => ?_) (rmul_nonneg (by grind) (by grind))
  obtain ⟨N, hN⟩ := Ev.ratio (5 / (1 - 3 * y ^ (2 * n))) t1
  obtain ⟨hN1, hN2, hN3⟩ := hN (max N 9) (by omega)
  generalize max N 9 = M at *
  have hp := npos hN1
  have e1 : (M : Rat) * (y / M) = y := by grind
  have hk := ndiv h0 M
  have hkk := rmul_nonneg hk hk
  obtain ⟨u, hu⟩ : ∃ u, u = 1 - 3 * y ^ (2 * n) := ⟨_, rfl⟩
  rw [← hu] at hN2 hN3 ⊢
  have hu0 : 0 < u := by grind
  have hyy : y * y ≤ 1 / 9 := by
    have := rmul_le h h h0 (show (0 : Rat) ≤ 1 / 3 by decide +kernel)
    have : (1 : Rat) / 3 * (1 / 3) = 1 / 9 := by decide +kernel
    grind
  -- M (5 k k + 3 k Y) = 5 y k + 3 y Y ≤ 5 / M + 1 - u
  obtain ⟨w, hw⟩ : ∃ w, w = 5 * (y / M * (y / M)) + 3 * (y / M * y ^ (2 * n)) := ⟨_, rfl⟩
  have hw0 : 0 ≤ w := by
    have := rmul_nonneg hk hY
    grind
  have e2 : (M : Rat) * w = 5 * (y * (y / M)) + 3 * (y * y ^ (2 * n)) := by rw [hw]; grind
  have h3 : 5 * (y * (y / M)) ≤ 5 / M := by
    refine scale_le hp ?_
    have e3 : 5 * (y * (y / (M : Rat))) * M = 5 * (y * y) := by grind
    rw [e3, Rat.div_mul_cancel (by grind)]
    grind
  have h4 : 3 * (y * y ^ (2 * n)) ≤ 1 - u := by
    have := Rat.mul_le_mul_of_nonneg_right h hY
    grind
  have h5 : 5 / (M : Rat) ≤ u * (1 - th) := by
    have h6 : 5 / u / M ≤ 1 - th := by grind
    have h7 := Rat.mul_le_mul_of_nonneg_left h6 (Rat.le_of_lt hu0)
    have e4 : u * (5 / u / (M : Rat)) = 5 / M := by
      have : u ≠ 0 := by grind
      have : (M : Rat) ≠ 0 := by grind
      grind
    rwa [e4] at h7
  have h6 : th * u ≤ 1 - M * w := by rw [e2]; grind
  have hMw : (M : Rat) * w ≤ 1 := by
    have := rmul_nonneg (Rat.le_of_lt t0) (Rat.le_of_lt hu0)
    grind
  have hw1 : w ≤ 1 := by
    have h8 : ((1 : Nat) : Rat) ≤ M := Rat.natCast_le_natCast.2 hN1
    have h9 : (1 : Rat) ≤ M := h8
    have := Rat.mul_le_mul_of_nonneg_right h9 hw0
    grind
  have e5 : 1 - 5 * (y / M * (y / M)) - 3 * (y / M * y ^ (2 * n)) = 1 - w := by rw [hw]; grind
  have hs := steps_lo (y := y) hk n (by rw [e5]; grind) M (by rw [e1]; exact h) (by rw [e1]; exact Rat.le_refl)
  rw [e1, e5] at hs
  have h7 := bern (x := -w) (by grind) M
  rw [show (1 : Rat) + -w = 1 - w by grind] at h7
  refine hs.mono Rat.le_refl ?_ (rmul_nonneg (Rat.le_of_lt t0) (rmul_nonneg (by grind) (Rat.le_of_lt hu0)))
  have h8 := Rat.mul_le_mul_of_nonneg_left (show th * u ≤ (1 - w) ^ M by grind) (show 0 ≤ gR y by grind)
  grind
theorem XL.atanh {y v : Rat} (h0 : 0 ≤ y) (h : y ≤ 1 / 3) (hv : ∀ n, As n y ≤ v) : XL (gR y) (2 * v) := by
  have hg := gR_pos h0 h
  refine XL.closed (fun th t0 t1 => ?_) (by grind)
  -- n with 3 y^(2n) ≤ 1 - th
  obtain ⟨n, hn⟩ := arch (3 / (1 - th))
  have h1 : y ^ (2 * n) * (1 + 2 * n) ≤ 1 := by
    have h2 : y ^ (2 * n) ≤ (1 / 3 : Rat) ^ (2 * n) := rpow_le h0 h _
    have h3 := bern (x := 2) (by decide) (2 * n)
    have h4 : (1 / 3 : Rat) ^ (2 * n) * (1 + 2) ^ (2 * n) = 1 := by
      rw [← rmul_pow]
      have : (1 / 3 : Rat) * (1 + 2) = 1 := by decide +kernel
      rw [this, one_pow']
    have h5 : ((2 * n : Nat) : Rat) = 2 * n := by rw [Rat.natCast_mul]; rfl
    rw [h5] at h3
    have h6 : 0 ≤ y ^ (2 * n) := Rat.pow_nonneg h0
    have h7 := rmul_le h2 h3 (by have := natc0 n; grind) (Rat.pow_nonneg (by decide +kernel))
    have h8 := Rat.mul_le_mul_of_nonneg_left (show 1 + 2 * (n : Rat) ≤ 1 + 2 * n * 2 by have := natc0 n; grind) h6
    grind
  have hY : 0 ≤ y ^ (2 * n) := Rat.pow_nonneg h0
  have h2 : 3 * y ^ (2 * n) ≤ 1 - th := by
    have h3 : 3 / (1 - th) ≤ 1 + 2 * (n : Rat) := by have := natc0 n; grind
    have h4 : 3 ≤ (1 + 2 * (n : Rat)) * (1 - th) := by
      have := Rat.mul_le_mul_of_nonneg_right h3 (show 0 ≤ 1 - th by grind)
      rwa [Rat.div_mul_cancel (by grind)] at this
    have h5 := Rat.mul_le_mul_of_nonneg_left h4 hY
    have h6 := Rat.mul_le_mul_of_nonneg_right h1 (show 0 ≤ 1 - th by grind)
    grind
  have h3 := XL.atanh1 h0 h n (by grind)
  refine h3.mono (by have := hv n; grind) ?_ (rmul_nonneg (Rat.le_of_lt t0) (by grind))
  have := Rat.mul_le_mul_of_nonneg_left (show th ≤ 1 - 3 * y ^ (2 * n) by grind) (show 0 ≤ gR y by grind)
  grind
def cD (a n : Nat) : Nat := a / n + (if a % n = 0 then 0 else 1)
theorem cD_ge {a n : Nat} (hn : 0 < n) : a ≤ cD a n * n := by
  unfold cD
  have h := Nat.div_add_mod a n
  have h2 := Nat.mod_lt a hn
  rw [Nat.add_mul, Nat.mul_comm (a / n)]
  split
  · omega
  · rw [Nat.one_mul]; omega
theorem cD_le {a n b : Nat} (hn : 0 < n) (h : a ≤ b * n) : cD a n ≤ b := by
  unfold cD
  have h1 := Nat.div_add_mod a n
  have h2 : a / n ≤ b := Nat.div_le_of_le_mul (by rw [Nat.mul_comm]; exact h)
  split
  · omega
  · rcases Nat.lt_or_ge (a / n) b with h3 | h3
    · omega
    · have h4 : a / n = b := by omega
      rw [h4, Nat.mul_comm] at h1
      omega
structure PN where
  lo : Nat
  hi : Nat
deriving DecidableEq
def PN.times (p q : PN) (s : Nat) : PN := ⟨p.lo * q.lo / 2 ^ s, cD (p.hi * q.hi) (2 ^ s)⟩
def PN.part (p : PN) (n : Nat) : PN := ⟨p.lo / n, cD p.hi n⟩
def PN.plus (p q : PN) : PN := ⟨p.lo + q.lo, p.hi + q.hi⟩
def PN.rest (p t : PN) : PN := ⟨p.lo, p.hi + (t.hi + t.hi)⟩
def fracS (num den s : Nat) : PN := ⟨num * 2 ^ s / den, cD (num * 2 ^ s) den⟩
def atLoop (s : Nat) (sq : PN) : Nat → PN → PN → Nat → PN × PN
  | 0, sum, term, _ => (sum, term)
  | k + 1, sum, term, n => if term.lo = 0 then (sum, term) else atLoop s sq k (sum.plus (term.part n)) (term.times sq s) (n + 2)
def atR (num den s : Nat) : PN × PN := atLoop s ((fracS num den s).times (fracS num den s) s) (s + 2) ⟨0, 0⟩ (fracS num den s) 1
def atanhS (num den s : Nat) : PN := if num = 0 then ⟨0, 0⟩ else (atR num den s).1.rest (atR num den s).2
def ln2S (s : Nat) : PN := ⟨(atanhS 1 3 s).lo + (atanhS 1 3 s).lo, (atanhS 1 3 s).hi + (atanhS 1 3 s).hi⟩
def exLoop (s : Nat) (x : PN) : Nat → PN → PN → Nat → PN × PN
  | 0, sum, term, _ => (sum, term)
  | k + 1, sum, term, n => if term.lo = 0 ∧ x.hi = 0 then (sum, term) else
    if ((term.times x s).part n).hi ≤ 1 then (sum.plus ((term.times x s).part n), (term.times x s).part n) else
    exLoop s x k (sum.plus ((term.times x s).part n)) ((term.times x s).part n) (n + 1)
def exR (a b s : Nat) : PN × PN := exLoop s ⟨a, b⟩ (s + 2) ⟨2 ^ s, 2 ^ s⟩ ⟨2 ^ s, 2 ^ s⟩ 1
def expN (a b s : Nat) : PN := (exR a b s).1.rest (exR a b s).2
def Hd (S : Rat) (p : PN) (v w : Rat) : Prop := (p.lo : Rat) ≤ v * S ∧ w * S ≤ p.hi
theorem ncast_mul (a b : Nat) : ((a * b : Nat) : Rat) = (a : Rat) * b := Rat.natCast_mul a b
theorem ncast_add (a b : Nat) : ((a + b : Nat) : Rat) = (a : Rat) + b := Rat.natCast_add a b
theorem ncast_le {a b : Nat} (h : a ≤ b) : (a : Rat) ≤ b := Rat.natCast_le_natCast.2 h
theorem div_cast (a n : Nat) : ((a / n : Nat) : Rat) * n ≤ a := by
  rw [← ncast_mul]; exact ncast_le (Nat.div_mul_le_self a n)
theorem cD_cast (a : Nat) {n : Nat} (hn : 0 < n) : (a : Rat) ≤ (cD a n : Rat) * n := by
  rw [← ncast_mul]; exact ncast_le (cD_ge hn)
theorem Hd.plus {S v w v' w' : Rat} {p q : PN} (h : Hd S p v w) (k : Hd S q v' w') : Hd S (p.plus q) (v + v') (w + w') := by
  unfold Hd PN.plus at *
  dsimp only
  rw [ncast_add, ncast_add]
  grind
theorem Hd.times {s : Nat} {v w v' w' : Rat} {p q : PN} (h : Hd ((2 ^ s : Nat) : Rat) p v w) (k : Hd ((2 ^ s : Nat) : Rat) q v' w') (hw : 0 ≤ w) (hw' : 0 ≤ w') : Hd ((2 ^ s : Nat) : Rat) (p.times q s) (v * v') (w * w') := by
  have hp : 0 < 2 ^ s := Nat.two_pow_pos s
  have hS := npos hp
  have h1 := div_cast (p.lo * q.lo) (2 ^ s)
  have h2 := cD_cast (p.hi * q.hi) hp
  unfold Hd PN.times at *
  dsimp only
  generalize p.lo * q.lo / 2 ^ s = A at *
  rw [ncast_mul] at h1 h2
  generalize cD (p.hi * q.hi) (2 ^ s) = B at *
  generalize ((2 ^ s : Nat) : Rat) = S at *
  have e1 := rmul_le h.1 k.1 (natc0 _) (Rat.le_trans (natc0 _) h.1)
  have e2 := rmul_le h.2 k.2 (rmul_nonneg hw' (Rat.le_of_lt hS)) (natc0 _)
  exact ⟨scale_le hS (by grind), scale_le hS (by grind)⟩
theorem Hd.part {S v w : Rat} {p : PN} (h : Hd S p v w) {n : Nat} (hn : 1 ≤ n) : Hd S (p.part n) (v / n) (w / n) := by
  have hN := npos hn
  have h1 := div_cast p.lo n
  have h2 := cD_cast p.hi (show 0 < n from hn)
  unfold Hd PN.part at *
  dsimp only
  generalize p.lo / n = A at *
  generalize cD p.hi n = B at *
  have e1 : v / (n : Rat) * S * n = v * S := by grind
  have e2 : w / (n : Rat) * S * n = w * S := by grind
  exact ⟨scale_le hN (by grind), scale_le hN (by grind)⟩
theorem Hd.frac (num s : Nat) {den : Nat} (hd : 0 < den) : Hd ((2 ^ s : Nat) : Rat) (fracS num den s) ((num : Rat) / den) ((num : Rat) / den) := by
  have hD := npos (show 1 ≤ den from hd)
  have h1 := div_cast (num * 2 ^ s) den
  have h2 := cD_cast (num * 2 ^ s) hd
  unfold Hd fracS
  dsimp only
  rw [ncast_mul] at h1 h2
  generalize num * 2 ^ s / den = A at *
  generalize cD (num * 2 ^ s) den = B at *
  generalize ((2 ^ s : Nat) : Rat) = S at *
  have e1 : (num : Rat) / den * S * den = num * S := by grind
  exact ⟨scale_le hD (by grind), scale_le hD (by grind)⟩
theorem As_tail {y : Rat} (h0 : 0 ≤ y) (h : y ≤ 1 / 3) (n : Nat) : ∀ m, As (n + m) y + 2 * y ^ (2 * (n + m) + 1) ≤ As n y + 2 * y ^ (2 * n + 1)
  | 0 => Rat.le_refl
  | m + 1 => by
    have ih := As_tail h0 h n m
    rw [← Nat.add_assoc]
    generalize n + m = k at *
    show As k y + y ^ (2 * k + 1) / ((2 * k + 1 : Nat) : Rat) + 2 * y ^ (2 * (k + 1) + 1) ≤ _
    refine Rat.le_trans ?_ ih
    have h1 : y ^ (2 * (k + 1) + 1) = y ^ (2 * k + 1) * (y * y) := by
      rw [show 2 * (k + 1) + 1 = 2 * k + 1 + 1 + 1 by omega, Rat.pow_succ, Rat.pow_succ]; grind
    rw [h1]
    have hY : 0 ≤ y ^ (2 * k + 1) := Rat.pow_nonneg h0
    generalize y ^ (2 * k + 1) = Y at *
    have h2 : Y / ((2 * k + 1 : Nat) : Rat) ≤ Y := by
      have hp := npos (show 1 ≤ 2 * k + 1 by omega)
      have h1c : ((1 : Nat) : Rat) ≤ ((2 * k + 1 : Nat) : Rat) := ncast_le (by omega)
      refine scale_le hp ?_
      rw [Rat.div_mul_cancel (by grind)]
      have h3 : (1 : Rat) ≤ ((2 * k + 1 : Nat) : Rat) := h1c
      have := Rat.mul_le_mul_of_nonneg_left h3 hY
      grind
    have h4 : y * y ≤ 1 / 9 := by
      have := rmul_le h h h0 (show (0 : Rat) ≤ 1 / 3 by decide +kernel)
      have : (1 : Rat) / 3 * (1 / 3) = 1 / 9 := by decide +kernel
      grind
    have h5 := Rat.mul_le_mul_of_nonneg_left h4 hY
    grind
theorem As_up {y : Rat} (h0 : 0 ≤ y) (n m : Nat) : As n y ≤ As (n + m) y := by
  induction m with
  | zero => exact Rat.le_refl
  | succ m ih =>
    have h1 := ndiv (Rat.pow_nonneg (n := 2 * (n + m) + 1) h0) (2 * (n + m) + 1)
    show As n y ≤ As (n + m) y + y ^ (2 * (n + m) + 1) / ((2 * (n + m) + 1 : Nat) : Rat)
    grind
theorem As_all {y : Rat} (h0 : 0 ≤ y) (h : y ≤ 1 / 3) (n m : Nat) : As m y ≤ As n y + 2 * y ^ (2 * n + 1) := by
  have hY : ∀ k, 0 ≤ y ^ k := fun k => Rat.pow_nonneg h0
  rcases Nat.le_total n m with hm | hm
  · have h1 := As_tail h0 h n (m - n)
    rw [show n + (m - n) = m by omega] at h1
    have := hY (2 * m + 1)
    grind
  · have h1 := As_up h0 m (n - m)
    rw [show m + (n - m) = n by omega] at h1
    have := hY (2 * n + 1)
    grind
theorem atLoop_sound {s : Nat} {sq : PN} {y : Rat} (h0 : 0 ≤ y) (hq : Hd ((2 ^ s : Nat) : Rat) sq (y * y) (y * y)) : ∀ (f k : Nat) (sum term : PN), Hd ((2 ^ s : Nat) : Rat) sum (As k y) (As k y) → Hd ((2 ^ s : Nat) : Rat) term (y ^ (2 * k + 1)) (y ^ (2 * k + 1)) →
    ∃ j, Hd ((2 ^ s : Nat) : Rat) (atLoop s sq f sum term (2 * k + 1)).1 (As j y) (As j y) ∧ Hd ((2 ^ s : Nat) : Rat) (atLoop s sq f sum term (2 * k + 1)).2 (y ^ (2 * j + 1)) (y ^ (2 * j + 1))
  | 0, k, sum, term, h1, h2 => ⟨k, h1, h2⟩
  | f + 1, k, sum, term, h1, h2 => by
    unfold atLoop
    split
    · exact ⟨k, h1, h2⟩
    · have h3 := atLoop_sound h0 hq f (k + 1) (sum.plus (term.part (2 * k + 1))) (term.times sq s) (h1.plus (h2.part (by omega))) (by
        have h4 := h2.times hq (Rat.pow_nonneg h0) (rmul_nonneg h0 h0)
        have e : y ^ (2 * (k + 1) + 1) = y ^ (2 * k + 1) * (y * y) := by
          rw [show 2 * (k + 1) + 1 = 2 * k + 1 + 1 + 1 by omega, Rat.pow_succ, Rat.pow_succ]; grind
        rwa [e])
      rw [show 2 * (k + 1) + 1 = 2 * k + 1 + 2 by omega] at h3
      obtain ⟨j, h5, h6⟩ := h3
      exact ⟨j, h5, h6⟩
theorem atanhS_sound {num den s : Nat} (hd : 0 < den) (h3 : 3 * num ≤ den) :
    (∃ n, ((atanhS num den s).lo : Rat) ≤ As n ((num : Rat) / den) * ((2 ^ s : Nat) : Rat)) ∧ ∀ n, As n ((num : Rat) / den) * ((2 ^ s : Nat) : Rat) ≤ ((atanhS num den s).hi : Rat) := by
  have hD := npos (show 1 ≤ den from hd)
  have h0 : 0 ≤ (num : Rat) / den := ndiv (natc0 _) _
  have hy : (num : Rat) / den ≤ 1 / 3 := scale_le hD (by
    rw [Rat.div_mul_cancel (by grind)]
    have h := ncast_le h3
    rw [ncast_mul] at h
    have : ((3 : Nat) : Rat) = 3 := rfl
    grind)
  unfold atanhS
  by_cases hn : num = 0
  · rw [if_pos hn]
    subst hn
    have e : ((0 : Nat) : Rat) / den = 0 := by rw [Rat.div_def, show ((0 : Nat) : Rat) = 0 from rfl]; grind
    refine ⟨⟨0, ?_⟩, fun n => ?_⟩
    · rw [e, As_zero, show ((0 : Nat) : Rat) = 0 from rfl]; grind
    · rw [e, As_zero, show ((0 : Nat) : Rat) = 0 from rfl]; grind
  rw [if_neg hn]
  have hf := Hd.frac num s hd
  generalize (num : Rat) / den = y at *
  have hp := npos (show 1 ≤ 2 ^ s from Nat.two_pow_pos s)
  have hz : Hd ((2 ^ s : Nat) : Rat) ⟨0, 0⟩ (As 0 y) (As 0 y) := by
    have e : As 0 y = 0 := rfl
    unfold Hd
    rw [e]
    dsimp only
    have : ((0 : Nat) : Rat) = 0 := rfl
    grind
  obtain ⟨j, h1, h2⟩ := atLoop_sound h0 (hf.times hf h0 h0) (s + 2) 0 ⟨0, 0⟩ (fracS num den s) hz (by
    rw [show 2 * 0 + 1 = 1 from rfl, Rat.pow_one]; exact hf)
  rw [show 2 * 0 + 1 = 1 from rfl] at h1 h2
  unfold atR
  generalize atLoop s ((fracS num den s).times (fracS num den s) s) (s + 2) ⟨0, 0⟩ (fracS num den s) 1 = r at *
  refine ⟨⟨j, h1.1⟩, fun n => ?_⟩
  show _ ≤ ((r.1.hi + (r.2.hi + r.2.hi) : Nat) : Rat)
  rw [ncast_add, ncast_add]
  have h4 := Rat.mul_le_mul_of_nonneg_right (As_all h0 hy j n) (Rat.le_of_lt hp)
  have h5 := h1.2
  have h6 := h2.2
  grind
theorem Et_half {t : Rat} (h0 : 0 ≤ t) (h : t ≤ 1) (n : Nat) : 2 * Et (n + 1 + 1) t ≤ Et (n + 1) t := by
  have h1 := Et_step (n + 1) t
  have h2 := Et_nonneg h0 (n + 1)
  have h3 := Et_nonneg h0 (n + 1 + 1)
  have h4 := Rat.mul_le_mul_of_nonneg_left h h2
  have h5 := natc n
  have h6 : (2 : Rat) ≤ ((n + 1 : Nat) : Rat) + 1 := by have := natc0 n; grind
  have h7 := Rat.mul_le_mul_of_nonneg_left h6 h3
  grind
theorem Es_tail {t : Rat} (h0 : 0 ≤ t) (h : t ≤ 1) (n : Nat) : ∀ m, Es (n + 1 + m) t + Et (n + 1 + m) t ≤ Es (n + 1) t + Et (n + 1) t
  | 0 => Rat.le_refl
  | m + 1 => by
    have ih := Es_tail h0 h n m
    have h1 := Et_half h0 h (n + m)
    rw [show n + m + 1 = n + 1 + m by omega] at h1
    show Es (n + 1 + m) t + Et (n + 1 + m + 1) t + Et (n + 1 + m + 1) t ≤ _
    grind
theorem Es_more {t : Rat} (h0 : 0 ≤ t) (n m : Nat) : Es n t ≤ Es (n + m) t := by
  induction m with
  | zero => exact Rat.le_refl
  | succ m ih => exact Rat.le_trans ih (Es_up h0 (n + m))
theorem Es_all {t : Rat} (h0 : 0 ≤ t) (h : t ≤ 1) (n m : Nat) : Es m t ≤ Es (n + 1) t + Et (n + 1) t := by
  rcases Nat.le_total (n + 1) m with hm | hm
  · have h1 := Es_tail h0 h n (m - (n + 1))
    rw [show n + 1 + (m - (n + 1)) = m by omega] at h1
    have := Et_nonneg h0 m
    grind
  · have h1 := Es_more h0 m (n + 1 - m)
    rw [show m + (n + 1 - m) = n + 1 by omega] at h1
    have := Et_nonneg h0 (n + 1)
    grind
theorem exLoop_sound {s : Nat} {x : PN} {a b : Rat} (ha : 0 ≤ a) (hb : 0 ≤ b) (hx : Hd ((2 ^ s : Nat) : Rat) x a b) : ∀ (f k : Nat) (sum term : PN), Hd ((2 ^ s : Nat) : Rat) sum (Es k a) (Es k b) → Hd ((2 ^ s : Nat) : Rat) term (Et k a) (Et k b) →
    ∃ j, k ≤ j ∧ (0 < f → ¬ (term.lo = 0 ∧ x.hi = 0) → k + 1 ≤ j) ∧ Hd ((2 ^ s : Nat) : Rat) (exLoop s x f sum term (k + 1)).1 (Es j a) (Es j b) ∧ Hd ((2 ^ s : Nat) : Rat) (exLoop s x f sum term (k + 1)).2 (Et j a) (Et j b)
  | 0, k, sum, term, h1, h2 => ⟨k, Nat.le_refl _, fun h => absurd h (Nat.lt_irrefl 0), h1, h2⟩
  | f + 1, k, sum, term, h1, h2 => by
    unfold exLoop
    have h3 : Hd ((2 ^ s : Nat) : Rat) ((term.times x s).part (k + 1)) (Et (k + 1) a) (Et (k + 1) b) :=
      (h2.times hx (Et_nonneg hb k) hb).part (by omega)
    have h4 : Hd ((2 ^ s : Nat) : Rat) (sum.plus ((term.times x s).part (k + 1))) (Es (k + 1) a) (Es (k + 1) b) := h1.plus h3
    split
    · rename_i hc
      exact ⟨k, Nat.le_refl _, fun _ h => absurd hc h, h1, h2⟩
    · split
      · exact ⟨k + 1, Nat.le_succ _, fun _ _ => Nat.le_refl _, h4, h3⟩
      · obtain ⟨j, h5, -, h6, h7⟩ := exLoop_sound ha hb hx f (k + 1) _ _ h4 h3
        exact ⟨j, by omega, fun _ _ => h5, h6, h7⟩
theorem expN_sound {a b s : Nat} (hb : b ≤ 2 ^ s) :
    (∃ n, ((expN a b s).lo : Rat) ≤ Es n ((a : Rat) / ((2 ^ s : Nat) : Rat)) * ((2 ^ s : Nat) : Rat)) ∧ ∀ n, Es n ((b : Rat) / ((2 ^ s : Nat) : Rat)) * ((2 ^ s : Nat) : Rat) ≤ ((expN a b s).hi : Rat) := by
  have hp1 : 1 ≤ 2 ^ s := Nat.two_pow_pos s
  have hp := npos hp1
  have ha0 := ndiv (natc0 a) (2 ^ s)
  have hb0 := ndiv (natc0 b) (2 ^ s)
  have hb1 : (b : Rat) / ((2 ^ s : Nat) : Rat) ≤ 1 := scale_le hp (by
    rw [Rat.div_mul_cancel (by grind)]
    have := ncast_le hb
    grind)
  have hx : Hd ((2 ^ s : Nat) : Rat) ⟨a, b⟩ ((a : Rat) / ((2 ^ s : Nat) : Rat)) ((b : Rat) / ((2 ^ s : Nat) : Rat)) := by
    unfold Hd
    dsimp only
    rw [Rat.div_mul_cancel (by grind), Rat.div_mul_cancel (by grind)]
    exact ⟨Rat.le_refl, Rat.le_refl⟩
  have h1 : ∀ u v : Rat, Hd ((2 ^ s : Nat) : Rat) ⟨2 ^ s, 2 ^ s⟩ (Es 0 u) (Es 0 v) := fun u v => by
    have e : ∀ u, Es 0 u = 1 := fun _ => rfl
    unfold Hd
    rw [e, e]
    dsimp only
    grind
  obtain ⟨j, -, h3, h4, h5⟩ := exLoop_sound ha0 hb0 hx (s + 2) 0 ⟨2 ^ s, 2 ^ s⟩ ⟨2 ^ s, 2 ^ s⟩ (h1 ((a : Rat) / ((2 ^ s : Nat) : Rat)) ((b : Rat) / ((2 ^ s : Nat) : Rat))) (h1 ((a : Rat) / ((2 ^ s : Nat) : Rat)) ((b : Rat) / ((2 ^ s : Nat) : Rat)))
  have hj := h3 (by omega) (fun h => by have := h.1; dsimp only at this; omega)
  rw [Nat.zero_add] at h4 h5
  unfold expN exR
  generalize exLoop s ⟨a, b⟩ (s + 2) ⟨2 ^ s, 2 ^ s⟩ ⟨2 ^ s, 2 ^ s⟩ 1 = r at *
  refine ⟨⟨j, h4.1⟩, fun n => ?_⟩
  show _ ≤ ((r.1.hi + (r.2.hi + r.2.hi) : Nat) : Rat)
  rw [ncast_add, ncast_add]
  obtain ⟨i, rfl⟩ : ∃ i, j = i + 1 := ⟨j - 1, by omega⟩
  have h6 := Rat.mul_le_mul_of_nonneg_right (Es_all hb0 hb1 i n) (Rat.le_of_lt hp)
  have h7 := h4.2
  have h8 := h5.2
  have h9 := natc0 r.2.hi
  grind
theorem exp_lo {a b s : Nat} (hb : b ≤ 2 ^ s) : XL (((expN a b s).lo : Rat) / ((2 ^ s : Nat) : Rat)) ((a : Rat) / ((2 ^ s : Nat) : Rat)) := by
  have hp := npos (show 1 ≤ 2 ^ s from Nat.two_pow_pos s)
  obtain ⟨⟨n, h⟩, -⟩ := expN_sound (a := a) hb
  exact XL.sum (ndiv (natc0 _) _) n (scale_le hp (by rw [Rat.div_mul_cancel (by grind)]; exact h)) (ndiv (natc0 _) _)
theorem exp_hi {a b s : Nat} (hb : b ≤ 2 ^ s) : XU ((b : Rat) / ((2 ^ s : Nat) : Rat)) (((expN a b s).hi : Rat) / ((2 ^ s : Nat) : Rat)) := by
  have hp := npos (show 1 ≤ 2 ^ s from Nat.two_pow_pos s)
  obtain ⟨-, h⟩ := expN_sound (a := a) hb
  exact XU.sum (ndiv (natc0 _) _) fun n => scale_le hp (by rw [Rat.div_mul_cancel (by grind)]; exact h n)
theorem y_facts {num den : Nat} (hd : 0 < den) (h3 : 3 * num ≤ den) : 0 ≤ (num : Rat) / den ∧ (num : Rat) / den ≤ 1 / 3 := by
  have hD := npos (show 1 ≤ den from hd)
  exact ⟨ndiv (natc0 _) _, scale_le hD (by
    rw [Rat.div_mul_cancel (by grind)]
    have h := ncast_le h3
    rw [ncast_mul] at h
    have : ((3 : Nat) : Rat) = 3 := rfl
    grind)⟩
theorem log_lo {num den s : Nat} (hd : 0 < den) (h3 : 3 * num ≤ den) : XU (2 * ((atanhS num den s).lo : Rat) / ((2 ^ s : Nat) : Rat)) (gR ((num : Rat) / den)) := by
  have hp := npos (show 1 ≤ 2 ^ s from Nat.two_pow_pos s)
  obtain ⟨⟨n, h⟩, -⟩ := atanhS_sound (s := s) hd h3
  obtain ⟨h0, hy⟩ := y_facts hd h3
  have hg := gR_pos h0 hy
  exact (XU.atanh h0 hy n).mono (scale_le hp (by rw [Rat.div_mul_cancel (by grind)]; grind)) Rat.le_refl (by grind)
theorem log_hi {num den s : Nat} (hd : 0 < den) (h3 : 3 * num ≤ den) : XL (gR ((num : Rat) / den)) (2 * ((atanhS num den s).hi : Rat) / ((2 ^ s : Nat) : Rat)) := by
  have hp := npos (show 1 ≤ 2 ^ s from Nat.two_pow_pos s)
  obtain ⟨-, h⟩ := atanhS_sound (s := s) hd h3
  obtain ⟨h0, hy⟩ := y_facts hd h3
  have h1 := XL.atanh h0 hy (v := ((atanhS num den s).hi : Rat) / ((2 ^ s : Nat) : Rat)) fun n => scale_le hp (by rw [Rat.div_mul_cancel (by grind)]; exact h n)
  rwa [show 2 * (((atanhS num den s).hi : Rat) / ((2 ^ s : Nat) : Rat)) = 2 * ((atanhS num den s).hi : Rat) / ((2 ^ s : Nat) : Rat) by grind] at h1
theorem ln2_lo (s : Nat) : XU (((ln2S s).lo : Rat) / ((2 ^ s : Nat) : Rat)) 2 := by
  have h := log_lo (num := 1) (den := 3) (s := s) (by decide) (by decide)
  have e : gR (((1 : Nat) : Rat) / ((3 : Nat) : Rat)) = 2 := by decide +kernel
  rw [e] at h
  have e2 : ((ln2S s).lo : Rat) = 2 * ((atanhS 1 3 s).lo : Rat) := by
    show (((atanhS 1 3 s).lo + (atanhS 1 3 s).lo : Nat) : Rat) = _
    rw [ncast_add]; grind
  rwa [e2]
theorem ln2_hi (s : Nat) : XL 2 (((ln2S s).hi : Rat) / ((2 ^ s : Nat) : Rat)) := by
  have h := log_hi (num := 1) (den := 3) (s := s) (by decide) (by decide)
  have e : gR (((1 : Nat) : Rat) / ((3 : Nat) : Rat)) = 2 := by decide +kernel
  rw [e] at h
  have e2 : ((ln2S s).hi : Rat) = 2 * ((atanhS 1 3 s).hi : Rat) := by
    show (((atanhS 1 3 s).hi + (atanhS 1 3 s).hi : Nat) : Rat) = _
    rw [ncast_add]; grind
  rwa [e2]
end Go.Proofs.YtfkgaldbcngliaaGreatDoor.XX
