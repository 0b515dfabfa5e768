/- Division: numbers in rows of words; digits of quotients. Plain laws; division by a small number. -/
import Derived.Test.YtejmlngnpekagaaDoorDq1
import Derived.Test.YtejmlngnpekagaaDoorMul4
open Go PG Go.Proofs
set_option maxRecDepth 100000
set_option linter.unusedSimpArgs false
set_option linter.unusedVariables false
namespace Go.Proofs.YtejmlngnpekagaaDoor
attribute [local go_sem] Lay2 Lay3 Lay4 Lay5 Lay6 Lay7 Lay8 Lay9 Lay10 Lay11 Lay12 Lay13 Lay14 Lay15 Lay16 Lay17 Lay18 Lay19 Lay21 Lay22 Lay23 Lay24 Lay25 Lay30 Lay33 Lay36 Lay37 Lay46 Lay47 Lay48 Lay53 Lay54 Lay55 Lay59 Lay100 Lay101 Lay127 Lay146 Lay162 Lay168 Lay169 Lay173 Lay185 Lay186 Lay187 Lay188 Lay189 Lay191 Lay192 Lay194 Lay195 Lay196 Lay199 qexec_seq qexec_skip qexec_exit qexec_ret qexec_block qexec_loop qexec_range qexec_cond qexec_region qexec_drawn qops_nil qops_none qops_some put_some put_none pblk_exit pblk_other newDsts_nil inlDsts_nil isInl sget_cons sget_nil qval_some qbool_some qgs_bool qgs_und qfree_some qgrd_true qgrd_false qif_true qif_false qval_ite qval_itn qand_true map_ite map_some' map_none' qdo_move qdo_assign qdo_binOp qdo_pick qdo_unOp qdo_convert qdo_extract qdo_field qdo_fieldAddr qdo_alloc qdo_box qdo_build qdo_buildSlice qdo_load qdo_store qdo_nilCheck qdo_makeFunc qdo_makeSlice qdo_slice qdo_indexAddr qdo_call qcont_val qcont_new qcont_st qcont_app0 qcont_app qcont_inl qcont_call njSV_val njSV_nil njSV_row njSV_ptr njSV_sub binV_val binV_nil binV_nn binV_ptr bin_np bin_nnp nilCmp bin_add bin_sub bin_mul bin_quo bin_rem bin_and bin_or bin_xor bin_andNot bin_eql bin_neq bin_lss bin_leq bin_gtr bin_geq bin_shl bin_shr bin_seql bin_sneq bin_sadd bin_beql bin_aeql bin_aneq eqAnd_some eqCells_nil eqCells_cons fieldTypes isStruct eqCell bin_bneq un_not un_neg nj_ite Nat.beq stepA stepR isNew opSV constSV RV.sv allSome E_mu E_own qkeyIn_none qkeyIn_some qkeyAt_none qkeyAt_some Bool.or_false Bool.false_or Bool.or_true Bool.true_or cst setB res resSV pstart startL killL kill1 eraL frzL svPV rvPV rvInt rvSlice frzOf close closeL pconv pbuiltin pmax2 partPV setCells fillPV zrow bound newSV PV.cells Bk.cells Bk.with SV.key pres presL_nil presL_tmp presL_cell presC2_some cellPV_ptr presC List.toList_toArray List.size_toArray List.getElem?_drop Nat.mul_one Int.toNat_natCast Nat.not_lt_zero Nat.lt_irrefl decide_true decide_false Nat.not_lt Option.some.injEq PV.lst.injEq PV.int.injEq PV.bool.injEq PV.tuple.injEq List.cons.injEq Option.map_some Option.map_none Option.bind_some Option.toList List.map_cons List.map_nil List.nil_append List.cons_append List.append_nil List.zip_cons_cons List.zip_nil_left List.zip_nil_right List.getElem?_cons_zero List.getElem?_cons_succ List.drop_zero List.drop_succ_cons List.take_succ_cons List.take_zero List.set_cons_zero List.set_cons_succ List.length_cons List.length_nil List.length_set List.replicate_one List.replicate_zero bne_self_eq_false beq_self_eq_true Nat.zero_add Nat.add_zero Nat.zero_mul Bool.false_eq_true Bool.true_eq_false Bool.not_true Bool.not_false and_true true_and false_and and_false or_false false_or or_true true_or not_true_eq_false not_false_eq_true ne_eq gt_iff_lt List.mem_cons List.not_mem_nil
attribute [local go_sem ↓] pseq_normal pseq_ret pseq_exit pblk_normal pblk_ret newDsts_cons inlDsts_cons gdst_zero gdst_succ retQ_normal retQ_ret qneed_nil qneed_cons retM_normal retM_ret endR_normal endR_ret endR_exit
attribute [local go_sem] Int.reduceToNat Int.reduceEq Int.reduceNe Int.reduceLT Int.reduceLE Int.reduceNeg Int.reduceAdd Nat.reduceEqDiff Nat.reduceAdd Nat.reduceSub Nat.reduceMul Nat.reduceLeDiff Nat.reduceLT
attribute [local go_sem ↓] reduceIte reduceCtorEq

/-- The upper digits of a number, zeros below. -/
def outL (X n i : Nat) : List Nat := (List.range n).map fun j => if j < i then 0 else X / W ^ j % W
theorem outL_len (X n i : Nat) : (outL X n i).length = n := by simp [outL]
theorem outL_all (X n : Nat) : outL X n n = List.replicate n 0 := by
  unfold outL
  apply List.ext_getElem
  · simp
  · intro j h1 h2
    simp at h1
    simp [h1]
theorem outL_zero (X n : Nat) : outL X n 0 = tab W X n := by
  unfold outL tab
  simp
theorem outL_set {X n i : Nat} (hi : i < n) : (U (outL X n (i + 1))).set i (.int .u64 ((X / W ^ i % W : Nat) : Int)) = U (outL X n i) := by
  unfold U
  show (List.map u _).set i (u (X / W ^ i % W)) = _
  rw [← List.map_set]
  congr 1
  unfold outL
  apply List.ext_getElem
  · simp
  · intro j h1 h2
    simp at h1 h2
    rw [List.getElem_set]
    by_cases hj : i = j
    · subst hj; simp
    · simp only [hj, if_false, List.getElem_map, List.getElem_range]
      by_cases h3 : j < i
      · rw [if_pos (by omega), if_pos h3]
      · rw [if_neg (by omega), if_neg h3]
/-- One step of a long division by a small number. -/
theorem small_step {X n i : Nat} (hn : 0 < n) : (X / W ^ (i + 1) % n * W + X / W ^ i % W) / n = X / n / W ^ i % W ∧ (X / W ^ (i + 1) % n * W + X / W ^ i % W) % n = X / W ^ i % n := by
  have e1 : X / W ^ (i + 1) = X / W ^ i / W := by rw [Nat.pow_succ, Nat.div_div_eq_div_mul]
  have e2 : X / n / W ^ i = X / W ^ i / n := by rw [Nat.div_div_eq_div_mul, Nat.div_div_eq_div_mul, Nat.mul_comm]
  rw [e1, e2]
  generalize X / W ^ i = Y
  have h1 := Nat.div_add_mod Y W
  have h2 := Nat.div_add_mod (Y / W) n
  have h3 : Y / W % n * W + Y % W < n * W := by
    have a := Nat.mod_lt (Y / W) hn
    have b := Nat.mod_lt Y W0
    have : (Y / W % n + 1) * W ≤ n * W := Nat.mul_le_mul_right _ a
    rw [Nat.add_mul, Nat.one_mul] at this
    omega
  have e3 : Y = n * (Y / W / n * W) + (Y / W % n * W + Y % W) := by
    conv => lhs; rw [← h1, ← h2]
    rw [Nat.mul_comm W, Nat.add_mul, Nat.mul_assoc, Nat.add_assoc]
  have hq : (Y / W % n * W + Y % W) / n < W := (Nat.div_lt_iff_lt_mul hn).2 (by rw [Nat.mul_comm W]; exact h3)
  constructor
  · conv => rhs; rw [e3]
    rw [Nat.mul_add_div hn, Nat.mul_comm (Y / W / n), Nat.mul_add_mod, Nat.mod_eq_of_lt hq]
  · conv => rhs; rw [e3]
    rw [Nat.mul_add_mod]
theorem digit_at {l : List Nat} (ol : Ok W l) {i : Nat} (hi : i < l.length) : (U l)[i]? = some (.int .u64 ((vl l / W ^ i % W : Nat) : Int)) := by
  have hv : vl l = dv W l := rfl
  rw [U_get, hv, ← dv_get W0 l ol i, List.getD_eq_getElem?_getD, List.getElem?_eq_getElem hi]; rfl
theorem d_Small {l : List Nat} (ol : Ok W l) (hl : l.length ≤ 100000) {n : Nat} (hn : n < W) (h0 : n ≠ 0) : PC E 147 [NL l, u n] (.tuple [NN (vl l / n), u (vl l % n), .int .i64 0]) := by
  have hX : vl l < W ^ l.length := dv_lt l ol
  have hst : ∀ i, i < l.length → PC E 156 [.int .u64 ((vl l / W ^ (i + 1) % n : Nat) : Int), .int .u64 ((vl l / W ^ i % W : Nat) : Int), .int .u64 (n : Int)] (.tuple [.int .u64 ((vl l / n / W ^ i % W : Nat) : Int), .int .u64 ((vl l / W ^ i % n : Nat) : Int)]) := fun i hi => by
    have h1 := c_Div64 (hi := vl l / W ^ (i + 1) % n) (lo := vl l / W ^ i % W) hn (Nat.mod_lt _ W0) (Nat.mod_lt _ (by omega))
    obtain ⟨e1, e2⟩ := small_step (X := vl l) (i := i) (n := n) (by omega)
    rw [e1, e2] at h1
    exact h1
  have hg := fun i hi => digit_at ol (i := i) hi
  have hz : vl l / W ^ l.length % n = 0 := by rw [Nat.div_eq_of_lt hX, Nat.zero_mod]
  have hbare : PC E 76 [.lst l.length (U (outL (vl l / n) l.length 0))] (NN (vl l / n)) := by
    rw [outL_zero]
    exact PC.at_list (n_Bare (tab W (vl l / n) l.length) (by rw [tab_length]; omega) (ok_tab W0 _ _)) (tab_length _ _ _) ((dv_tab _ _).trans (Nat.mod_eq_of_lt (Nat.lt_of_le_of_lt (Nat.div_le_self _ _) hX)))
  have hout0 : U (outL (vl l / n) l.length l.length) = List.replicate l.length (.int .u64 0) := by rw [outL_all, U_replicate]
  have hset := fun i (hi : i < l.length) => outL_set (X := vl l / n) hi
  have hlenU : ∀ i, (U (outL (vl l / n) l.length i)).length = l.length := fun i => by unfold U; rw [List.length_map, outL_len]
  have hfin : vl l / W ^ 0 % n = vl l % n := by rw [Nat.pow_zero, Nat.div_one]
  generalize vl l / n = Q at *
  obtain ⟨O, hO⟩ : ∃ O : Nat → List PV, ∀ i, U (outL Q l.length i) = O i := ⟨_, fun _ => rfl⟩
  obtain ⟨R, hR⟩ : ∃ R : Nat → Nat, ∀ i, vl l / W ^ i % n = R i := ⟨_, fun _ => rfl⟩
  obtain ⟨D, hD⟩ : ∃ D : Nat → Nat, ∀ i, vl l / W ^ i % W = D i := ⟨_, fun _ => rfl⟩
  obtain ⟨G, hG⟩ : ∃ G : Nat → Nat, ∀ i, Q / W ^ i % W = G i := ⟨_, fun _ => rfl⟩
  simp only [hO, hR, hD, hG] at hst hg hz hbare hout0 hset hlenU hfin
  rw [← hfin]
  clear hO hR hD hG hfin hX ol
  simp only [NL, u] at hbare ⊢
  generalize U l = U1 at *
  have wl : IntKind.wrap .i64 ((l.length : Int) - 1) = (l.length : Int) - 1 := wrap64 (by omega) (by omega)
  refine PC.of_body follows Tryd.func147 (by decide +kernel) rfl (by kernel_rfl) (Nat.le_of_ble_eq_true rfl) (walk ?_)
  simp only [Tryd.f147, wl, go_sem]
  refine qif_df (by omega) ?_
  simp only [Tryd.f147, wl, go_sem]
  refine qand_i (by omega) ?_
  simp only [Tryd.f147, wl, go_sem]
  refine PLoop.intro (fun i : Nat => ⟨[(0, .val (.lst l.length U1)), (1, .val (.int .u64 n)), (7, .row 14), (8, .val (.int .u64 (R i))), (9, .val (.int .i64 ((i : Int) - 1)))], [(14, (.row 22 1 l.length (O i), false))]⟩) (fun i => i ≤ l.length) (fun i => i) l.length (Nat.le_refl _) ?_ fun i hi => walk ?_
  · rw [hout0]
    simp [Wk, sget, killL, kill1, SV.key, hz]
  rcases i with _ | i
  · simp only [Tryd.f147, go_sem]
    refine qif_df (by omega) ?_
    simp only [Tryd.f147, go_sem]
    refine qcall_i (hbare) ?_; simp only [Tryd.f147, go_sem]
    try rfl
  have we : ((i + 1 : Nat) : Int) - 1 = (i : Int) := by omega
  have wi : IntKind.wrap .i64 ((i : Int) - 1) = (i : Int) - 1 := wrap64 (by omega) (by omega)
  have x1 := hg i (by omega)
  have k1 := hst i (by omega)
  have x2 := hset i (by omega)
  have x3 := hlenU (i + 1)
  simp only [Tryd.f147, we, go_sem]
  refine qif_dt (by omega) ?_
  simp only [Tryd.f147, we, go_sem]
  refine qand_i (by omega) ?_
  simp only [Tryd.f147, we, go_sem]
  refine qval_i (congrArg (Option.map _) x1) ?_
  simp only [Tryd.f147, we, go_sem]
  refine qcall_i (k1) ?_; simp only [Tryd.f147, we, wi, go_sem]
  refine qand_i (by omega) ?_
  simp only [Tryd.f147, we, wi, go_sem]
  refine qand_i (by rw [x3]; omega) ?_
  simp only [Tryd.f147, we, wi, go_sem]
  refine ⟨i, by omega, by omega, ?_⟩
  simp [Wk, sget, killL, kill1, SV.key, setCells, x2]
end Go.Proofs.YtejmlngnpekagaaDoor
