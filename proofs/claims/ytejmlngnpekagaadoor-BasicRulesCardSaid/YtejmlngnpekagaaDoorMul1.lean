/- Products: what math/bits.Mul64 and prod.row, prod.product, prod.Mul hand back. -/
import Derived.Test.YtejmlngnpekagaaDoorG8
import Derived.Lib.Mul64
open Go PG Go.Proofs
set_option maxRecDepth 100000
set_option linter.unusedSimpArgs false
set_option linter.unusedVariables false
namespace Go.Proofs.YtejmlngnpekagaaDoor
attribute [local go_sem] Lay2 Lay3 Lay4 Lay5 Lay6 Lay7 Lay8 Lay9 Lay10 Lay11 Lay12 Lay13 Lay14 Lay15 Lay16 Lay17 Lay18 Lay19 Lay21 Lay22 Lay23 Lay24 Lay25 Lay30 Lay33 Lay36 Lay37 Lay46 Lay47 Lay48 Lay53 Lay54 Lay55 Lay59 Lay100 Lay101 Lay127 Lay146 Lay162 Lay168 Lay169 Lay173 Lay185 Lay186 Lay187 Lay188 Lay189 Lay191 Lay192 Lay194 Lay195 Lay196 Lay199 qexec_seq qexec_skip qexec_exit qexec_ret qexec_block qexec_loop qexec_range qexec_cond qexec_region qexec_drawn qops_nil qops_none qops_some put_some put_none pblk_exit pblk_other newDsts_nil inlDsts_nil isInl sget_cons sget_nil qval_some qbool_some qgs_bool qgs_und qfree_some qgrd_true qgrd_false qif_true qif_false qval_ite qval_itn qand_true map_ite map_some' map_none' qdo_move qdo_assign qdo_binOp qdo_pick qdo_unOp qdo_convert qdo_extract qdo_field qdo_fieldAddr qdo_alloc qdo_box qdo_build qdo_buildSlice qdo_load qdo_store qdo_nilCheck qdo_makeFunc qdo_makeSlice qdo_slice qdo_indexAddr qdo_call qcont_val qcont_new qcont_st qcont_app0 qcont_app qcont_inl qcont_call njSV_val njSV_nil njSV_row njSV_ptr njSV_sub binV_val binV_nil binV_nn binV_ptr bin_np bin_nnp nilCmp bin_add bin_sub bin_mul bin_quo bin_rem bin_and bin_or bin_xor bin_andNot bin_eql bin_neq bin_lss bin_leq bin_gtr bin_geq bin_shl bin_shr bin_seql bin_sneq bin_sadd bin_beql bin_aeql bin_aneq eqAnd_some eqCells_nil eqCells_cons fieldTypes isStruct eqCell bin_bneq un_not un_neg nj_ite Nat.beq stepA stepR isNew opSV constSV RV.sv allSome E_mu E_own qkeyIn_none qkeyIn_some qkeyAt_none qkeyAt_some Bool.or_false Bool.false_or Bool.or_true Bool.true_or cst setB res resSV pstart startL killL kill1 eraL frzL svPV rvPV rvInt rvSlice frzOf close closeL pconv pbuiltin pmax2 partPV setCells fillPV zrow bound newSV PV.cells Bk.cells Bk.with SV.key pres presL_nil presL_tmp presL_cell presC2_some cellPV_ptr presC List.toList_toArray List.size_toArray List.getElem?_drop Nat.mul_one Int.toNat_natCast Nat.not_lt_zero Nat.lt_irrefl decide_true decide_false Nat.not_lt Option.some.injEq PV.lst.injEq PV.int.injEq PV.bool.injEq PV.tuple.injEq List.cons.injEq Option.map_some Option.map_none Option.bind_some Option.toList List.map_cons List.map_nil List.nil_append List.cons_append List.append_nil List.zip_cons_cons List.zip_nil_left List.zip_nil_right List.getElem?_cons_zero List.getElem?_cons_succ List.drop_zero List.drop_succ_cons List.take_succ_cons List.take_zero List.set_cons_zero List.set_cons_succ List.length_cons List.length_nil List.length_set List.replicate_one List.replicate_zero bne_self_eq_false beq_self_eq_true Nat.zero_add Nat.add_zero Nat.zero_mul Bool.false_eq_true Bool.true_eq_false Bool.not_true Bool.not_false and_true true_and false_and and_false or_false false_or or_true true_or not_true_eq_false not_false_eq_true ne_eq gt_iff_lt List.mem_cons List.not_mem_nil
attribute [local go_sem ↓] pseq_normal pseq_ret pseq_exit pblk_normal pblk_ret newDsts_cons inlDsts_cons gdst_zero gdst_succ retQ_normal retQ_ret qneed_nil qneed_cons retM_normal retM_ret endR_normal endR_ret endR_exit
attribute [local go_sem] Int.reduceToNat Int.reduceEq Int.reduceNe Int.reduceLT Int.reduceLE Int.reduceNeg Int.reduceAdd Nat.reduceEqDiff Nat.reduceAdd Nat.reduceSub Nat.reduceMul Nat.reduceLeDiff Nat.reduceLT
attribute [local go_sem ↓] reduceIte reduceCtorEq

theorem c_Mul64 (x y : Nat) (hx : x < W) (hy : y < W) : PC E 164 [u x, u y] (.tuple [u (x * y / W), u (x * y % W)]) := by
  refine PC.of_body follows Tryd.func164 (by decide +kernel) rfl (by kernel_rfl) (Nat.le_of_ble_eq_true rfl) (walk ?_)
  have hx' : x < 18446744073709551616 := hx
  have hy' : y < 18446744073709551616 := hy
  obtain ⟨m1, m2, m3, m4⟩ := Lib.mul64_hi x y hx' hy'
  have a1 : bits .and .u64 (x : Int) 4294967295 = ((x % 2 ^ 32 : Nat) : Int) := m_and x 32 4294967295 hx (by decide) (by decide)
  have a2 : bits .and .u64 (y : Int) 4294967295 = ((y % 2 ^ 32 : Nat) : Int) := m_and y 32 4294967295 hy (by decide) (by decide)
  have s1 := b_shr hx 32
  have s2 := b_shr hy 32
  rw [show (2 : Nat) ^ 32 = 4294967296 by decide] at a1 a2 s1 s2
  generalize hx0 : x % 4294967296 = x0 at *
  generalize hx1 : x / 4294967296 = x1 at *
  generalize hy0 : y % 4294967296 = y0 at *
  generalize hy1 : y / 4294967296 = y1 at *
  have w1 : IntKind.wrap .u64 ((x0 : Int) * (y0 : Int)) = ((x0 * y0 : Nat) : Int) := by rw [← Int.natCast_mul]; exact wrap_nat64 m1
  have s3 := b_shr (a := x0 * y0) m1 32
  rw [show (2 : Nat) ^ 32 = 4294967296 by decide] at s3
  have w2 : IntKind.wrap .u64 ((x1 : Int) * (y0 : Int)) = ((x1 * y0 : Nat) : Int) := by rw [← Int.natCast_mul]; exact wrap_nat64 (show _ < 18446744073709551616 by omega)
  have w3 : IntKind.wrap .u64 (((x1 * y0 : Nat) : Int) + ((x0 * y0 / 4294967296 : Nat) : Int)) = ((x1 * y0 + x0 * y0 / 4294967296 : Nat) : Int) := by rw [← Int.natCast_add]; exact wrap_nat64 m2
  generalize ht : x1 * y0 + x0 * y0 / 4294967296 = t at *
  have a3 : bits .and .u64 (t : Int) 4294967295 = ((t % 2 ^ 32 : Nat) : Int) := m_and t 32 4294967295 m2 (by decide) (by decide)
  have s4 := b_shr (a := t) m2 32
  rw [show (2 : Nat) ^ 32 = 4294967296 by decide] at a3 s4
  have w4 : IntKind.wrap .u64 ((x0 : Int) * (y1 : Int)) = ((x0 * y1 : Nat) : Int) := by rw [← Int.natCast_mul]; exact wrap_nat64 (show _ < 18446744073709551616 by omega)
  have w5 : IntKind.wrap .u64 (((t % 4294967296 : Nat) : Int) + ((x0 * y1 : Nat) : Int)) = ((t % 4294967296 + x0 * y1 : Nat) : Int) := by rw [← Int.natCast_add]; exact wrap_nat64 m3
  have s5 := b_shr (a := t % 4294967296 + x0 * y1) m3 32
  rw [show (2 : Nat) ^ 32 = 4294967296 by decide] at s5
  have hhi : x * y / 18446744073709551616 < 18446744073709551616 := by
    rw [Nat.div_lt_iff_lt_mul (by decide)]
    exact Nat.mul_lt_mul'' hx' hy'
  have w6 : IntKind.wrap .u64 ((x1 : Int) * (y1 : Int)) = ((x1 * y1 : Nat) : Int) := by rw [← Int.natCast_mul]; exact wrap_nat64 (show _ < 18446744073709551616 by omega)
  have w7 : IntKind.wrap .u64 (((x1 * y1 : Nat) : Int) + ((t / 4294967296 : Nat) : Int)) = ((x1 * y1 + t / 4294967296 : Nat) : Int) := by rw [← Int.natCast_add]; exact wrap_nat64 (show _ < 18446744073709551616 by omega)
  have w8 : IntKind.wrap .u64 (((x1 * y1 + t / 4294967296 : Nat) : Int) + (((t % 4294967296 + x0 * y1) / 4294967296 : Nat) : Int)) = ((x * y / W : Nat) : Int) := by
    rw [← Int.natCast_add, m4]; exact wrap_nat64 hhi
  have w9 : IntKind.wrap .u64 ((x : Int) * (y : Int)) = ((x * y % W : Nat) : Int) := by
    rw [IntKind.wrap_u64, ← Int.natCast_mul]; rfl
  simp only [Tryd.f164, u, a1, a2, s1, s2, w1, s3, w2, w3, a3, s4, w4, w5, s5, w6, w7, w8, w9, go_sem]

/-- What the products' digits come to: T = Y + A n, digit by digit. -/
theorem row_step {Y A n i : Nat} (hn : n < W) :
    (Y % W ^ i + A % W ^ i * n) / W ^ i < W ∧
    ((Y % W ^ i + A % W ^ i * n) / W ^ i + Y / W ^ i % W + A / W ^ i % W * n) % W = (Y + A * n) / W ^ i % W ∧
    ((Y % W ^ i + A % W ^ i * n) / W ^ i + Y / W ^ i % W + A / W ^ i % W * n) / W = (Y % W ^ (i + 1) + A % W ^ (i + 1) * n) / W ^ (i + 1) := by
  have hP := Nat.pow_pos (n := i) W0
  have y1 := Nat.mod_lt Y hP
  have a1 := Nat.mod_lt A hP
  have ey := Nat.mod_add_div Y (W ^ i)
  have ea := Nat.mod_add_div A (W ^ i)
  have ey2 : Y % W ^ (i + 1) = Y % W ^ i + W ^ i * (Y / W ^ i % W) := by rw [Nat.pow_succ, Nat.mod_mul]
  have ea2 : A % W ^ (i + 1) = A % W ^ i + W ^ i * (A / W ^ i % W) := by rw [Nat.pow_succ, Nat.mod_mul]
  rw [ey2, ea2]
  generalize hP2 : W ^ i = P at *
  generalize Y % P = yl at *
  generalize A % P = al at *
  generalize hyh : Y / P = yh at *
  generalize hah : A / P = ah at *
  refine ⟨?_, ?_, ?_⟩
  · rw [Nat.div_lt_iff_lt_mul hP]
    have h1 : al * n ≤ (P - 1) * (W - 1) := Nat.mul_le_mul (by omega) (by omega)
    have h2 : (P - 1) * (W - 1) + (P - 1) + (P - 1) + (W - 1) + 1 = P * W + (P - 1) := by
      obtain ⟨p, rfl⟩ : ∃ p, P = p + 1 := ⟨P - 1, by omega⟩
      obtain ⟨w, hw⟩ : ∃ w, W = w + 1 := ⟨W - 1, rfl⟩
      rw [hw]
      simp only [Nat.add_sub_cancel, Nat.add_mul, Nat.mul_add, Nat.mul_one, Nat.one_mul]
      omega
    have hW := W2
    rw [Nat.mul_comm W P]
    omega
  · have e : Y + A * n = (yl + al * n) + P * (yh + ah * n) := by
      rw [← ey, ← ea, Nat.add_mul, Nat.mul_add, Nat.mul_assoc]; omega
    rw [e, Nat.add_mul_div_left _ _ hP]
    generalize (yl + al * n) / P = c
    simp [Nat.add_mod, Nat.mul_mod, Nat.add_assoc]
  · have e : yl + P * (yh % W) + (al + P * (ah % W)) * n = (yl + al * n) + P * (yh % W + ah % W * n) := by
      rw [Nat.add_mul, Nat.mul_add, Nat.mul_assoc]; omega
    rw [e, Nat.pow_succ, hP2, ← Nat.div_div_eq_div_mul, Nat.add_mul_div_left _ _ hP, Nat.add_assoc]
end Go.Proofs.YtejmlngnpekagaaDoor
