/- Several parts in one text. -/
import Derived.Test.YtejmlngnpekagaaDoorG4
/- What planimeterref01's functions hand back, told in numbers: digits to the base 65536. -/
section
open Go PG Go.Proofs
set_option maxRecDepth 100000
set_option linter.unusedSimpArgs false
set_option linter.unusedVariables false
namespace Go.Proofs.YtejmlngnpekagaaDoor
attribute [local go_sem] Lay2 Lay3 Lay4 Lay5 Lay6 Lay7 Lay8 Lay9 Lay10 Lay11 Lay12 Lay13 Lay14 Lay15 Lay16 Lay17 Lay18 Lay19 Lay21 Lay22 Lay23 Lay24 Lay25 Lay30 Lay33 Lay36 Lay37 Lay46 Lay47 Lay48 Lay53 Lay54 Lay55 Lay59 Lay100 Lay101 Lay127 Lay146 Lay162 Lay168 Lay169 Lay173 Lay185 Lay186 Lay187 Lay188 Lay189 Lay191 Lay192 Lay194 Lay195 Lay196 Lay199 qexec_seq qexec_skip qexec_exit qexec_ret qexec_block qexec_loop qexec_range qexec_cond qexec_region qexec_drawn qops_nil qops_none qops_some put_some put_none pblk_exit pblk_other newDsts_nil inlDsts_nil isInl sget_cons sget_nil qval_some qbool_some qgs_bool qgs_und qfree_some qgrd_true qgrd_false qif_true qif_false qval_ite qval_itn qand_true map_ite map_some' map_none' qdo_move qdo_assign qdo_binOp qdo_pick qdo_unOp qdo_convert qdo_extract qdo_field qdo_fieldAddr qdo_alloc qdo_box qdo_build qdo_buildSlice qdo_load qdo_store qdo_nilCheck qdo_makeFunc qdo_makeSlice qdo_slice qdo_indexAddr qdo_call qcont_val qcont_new qcont_st qcont_app0 qcont_app qcont_inl qcont_call njSV_val njSV_nil njSV_row njSV_ptr njSV_sub binV_val binV_nil binV_nn binV_ptr bin_np bin_nnp nilCmp bin_add bin_sub bin_mul bin_quo bin_rem bin_and bin_or bin_xor bin_andNot bin_eql bin_neq bin_lss bin_leq bin_gtr bin_geq bin_shl bin_shr bin_seql bin_sneq bin_sadd bin_beql bin_aeql bin_aneq eqAnd_some eqCells_nil eqCells_cons fieldTypes isStruct eqCell bin_bneq un_not un_neg nj_ite Nat.beq stepA stepR isNew opSV constSV RV.sv allSome E_mu E_own qkeyIn_none qkeyIn_some qkeyAt_none qkeyAt_some Bool.or_false Bool.false_or Bool.or_true Bool.true_or cst setB res resSV pstart startL killL kill1 eraL frzL svPV rvPV rvInt rvSlice frzOf close closeL pconv pbuiltin pmax2 partPV setCells fillPV zrow bound newSV PV.cells Bk.cells Bk.with SV.key pres presL_nil presL_tmp presL_cell presC2_some cellPV_ptr presC List.toList_toArray List.size_toArray List.getElem?_drop Nat.mul_one Int.toNat_natCast Nat.not_lt_zero Nat.lt_irrefl decide_true decide_false Nat.not_lt Option.some.injEq PV.lst.injEq PV.int.injEq PV.bool.injEq PV.tuple.injEq List.cons.injEq Option.map_some Option.map_none Option.bind_some Option.toList List.map_cons List.map_nil List.nil_append List.cons_append List.append_nil List.zip_cons_cons List.zip_nil_left List.zip_nil_right List.getElem?_cons_zero List.getElem?_cons_succ List.drop_zero List.drop_succ_cons List.take_succ_cons List.take_zero List.set_cons_zero List.set_cons_succ List.length_cons List.length_nil List.length_set List.replicate_one List.replicate_zero bne_self_eq_false beq_self_eq_true Nat.zero_add Nat.add_zero Nat.zero_mul Bool.false_eq_true Bool.true_eq_false Bool.not_true Bool.not_false and_true true_and false_and and_false or_false false_or or_true true_or not_true_eq_false not_false_eq_true ne_eq gt_iff_lt List.mem_cons List.not_mem_nil
attribute [local go_sem ↓] pseq_normal pseq_ret pseq_exit pblk_normal pblk_ret newDsts_cons inlDsts_cons gdst_zero gdst_succ retQ_normal retQ_ret qneed_nil qneed_cons retM_normal retM_ret endR_normal endR_ret endR_exit
attribute [local go_sem] Int.reduceToNat Int.reduceEq Int.reduceNe Int.reduceLT Int.reduceLE Int.reduceNeg Int.reduceAdd Nat.reduceEqDiff Nat.reduceAdd Nat.reduceSub Nat.reduceMul Nat.reduceLeDiff Nat.reduceLT
attribute [local go_sem ↓] reduceIte reduceCtorEq

abbrev B : Nat := 65536
theorem B2 : 2 ≤ B := by decide
theorem B0 : 0 < B := by decide
def e32 (d : Nat) : PV := .int .u32 d
def V (l : List Nat) : List PV := l.map e32
def VL (l : List Nat) : PV := .lst l.length (V l)
/-- A number as a slice of digits. -/
def VN (x : Nat) : PV := VL (dg B x)
abbrev vd (l : List Nat) : Nat := dv B l

theorem V_length (l : List Nat) : (V l).length = l.length := by simp [V]
theorem V_get (l : List Nat) (i : Nat) : (V l)[i]? = (l[i]?).map e32 := by simp [V]
theorem V_take (l : List Nat) (i : Nat) : (V l).take i = V (l.take i) := by simp [V, List.map_take]
theorem V_append (l r : List Nat) : V l ++ V r = V (l ++ r) := by simp [V]
theorem V_one (d : Nat) : V [d] = [.int .u32 d] := rfl
theorem V_set (l : List Nat) (i d : Nat) : (V l).set i (e32 d) = V (l.set i d) := by simp [V, List.map_set]
theorem V_getD {l : List Nat} {i : Nat} (h : i < l.length) : (V l)[i]? = some (e32 (l.getD i 0)) := by
  rw [V_get, List.getD_eq_getElem?_getD, List.getElem?_eq_getElem h]; rfl
theorem U_getD {l : List Nat} {i : Nat} (h : i < l.length) : (U l)[i]? = some (u (l.getD i 0)) := by
  rw [U_get, List.getD_eq_getElem?_getD, List.getElem?_eq_getElem h]; rfl

theorem wrap32 {a : Nat} (h : a < 4294967296) : IntKind.wrap .u32 (a : Int) = (a : Int) := by
  rw [IntKind.wrap_u32]; omega

theorem c_Norm (l : List Nat) (hl : l.length ≤ 4194304) : PC E 137 [VL l] (VL (strip l)) := by
  refine PC.of_body follows Tryd.func137 (by decide +kernel) rfl (by kernel_rfl) (Nat.le_of_ble_eq_true rfl) (walk ?_)
  simp only [VL]
  simp only [Tryd.f137, go_sem]
  refine PLoop.intro (fun k : Nat => ⟨[(0, .val (VL l)), (3, .val (.int .i64 k))], []⟩) (fun k => k ≤ l.length ∧ strip l = strip (l.take k)) id l.length (by simp) (by simp [Wk, sget, VL]) fun k hk => walk ?_
  obtain ⟨hk, hs⟩ := hk
  simp only [VL]
  simp only [Tryd.f137, go_sem]
  refine qif_d (fun h => ?_) (fun h => ?_)
  · have hw : IntKind.wrap .i64 ((k : Int) - 1) = ((k - 1 : Nat) : Int) := by rw [wrap64 (by omega) (by omega)]; omega
    have hx := V_getD (l := l) (i := k - 1) (by omega)
    simp only [Tryd.f137, hw, go_sem]
    refine qand_i (by omega) ?_
    simp only [Tryd.f137, hx, e32, go_sem]
    refine qif_d (fun h0 => ?_) (fun h0 => ?_)
    · simp only [Tryd.f137, hw, go_sem]
      refine ⟨k - 1, ⟨by omega, ?_⟩, by simp only [id]; omega, by simp [Wk, sget, VL]⟩
      rw [hs]
      obtain ⟨j, rfl⟩ : ∃ j, k = j + 1 := ⟨k - 1, by omega⟩
      rw [List.take_succ_eq_append_getElem (by omega), Nat.add_sub_cancel, show l[j] = 0 by simpa [List.getD_eq_getElem?_getD, show j < l.length by omega] using h0, strip_snoc0]
    · simp only [Tryd.f137, hw, go_sem]
      refine qand_i (by first | omega | (simp [V_length, U_length, tab_length, maxLen]; done) | (simp [V_length, U_length, tab_length, maxLen]; omega) | (refine ⟨?_, ?_⟩ <;> first | omega | (simp [V_length, U_length, tab_length, maxLen]; done) | (simp [V_length, U_length, tab_length, maxLen]; omega))) ?_; simp only [Tryd.f137, V_take, go_sem]
      refine qand_i (by first | omega | (simp [V_length, U_length, tab_length, maxLen]; done) | (simp [V_length, U_length, tab_length, maxLen]; omega) | (refine ⟨?_, ?_⟩ <;> first | omega | (simp [V_length, U_length, tab_length, maxLen]; done) | (simp [V_length, U_length, tab_length, maxLen]; omega))) ?_; simp only [Tryd.f137, V_take, go_sem]
      refine qand_i (by first | omega | (simp [V_length, U_length, tab_length, maxLen]; done) | (simp [V_length, U_length, tab_length, maxLen]; omega) | (refine ⟨?_, ?_⟩ <;> first | omega | (simp [V_length, U_length, tab_length, maxLen]; done) | (simp [V_length, U_length, tab_length, maxLen]; omega))) ?_; simp only [Tryd.f137, V_take, go_sem]
      have e : strip l = l.take k := by
        rw [hs]
        obtain ⟨j, rfl⟩ : ∃ j, k = j + 1 := ⟨k - 1, by omega⟩
        rw [List.take_succ_eq_append_getElem (by omega), strip_snoc]
        intro h1
        apply h0
        simp [List.getD_eq_getElem?_getD, show j < l.length by omega, h1]
      rw [e]
      simp [VL, hk]
  · simp only [Tryd.f137, go_sem]
    have hk0 : k = 0 := by omega
    subst hk0
    refine qand_i (by first | omega | (simp [V_length, U_length, tab_length, maxLen]; done) | (simp [V_length, U_length, tab_length, maxLen]; omega) | (refine ⟨?_, ?_⟩ <;> first | omega | (simp [V_length, U_length, tab_length, maxLen]; done) | (simp [V_length, U_length, tab_length, maxLen]; omega))) ?_; simp only [Tryd.f137, V_take, go_sem]
    refine qand_i (by first | omega | (simp [V_length, U_length, tab_length, maxLen]; done) | (simp [V_length, U_length, tab_length, maxLen]; omega) | (refine ⟨?_, ?_⟩ <;> first | omega | (simp [V_length, U_length, tab_length, maxLen]; done) | (simp [V_length, U_length, tab_length, maxLen]; omega))) ?_; simp only [Tryd.f137, V_take, go_sem]
    refine qand_i (by first | omega | (simp [V_length, U_length, tab_length, maxLen]; done) | (simp [V_length, U_length, tab_length, maxLen]; omega) | (refine ⟨?_, ?_⟩ <;> first | omega | (simp [V_length, U_length, tab_length, maxLen]; done) | (simp [V_length, U_length, tab_length, maxLen]; omega))) ?_; simp only [Tryd.f137, V_take, go_sem]
    simp [hs, strip, V, VL]

theorem n_Norm (l : List Nat) (hl : l.length ≤ 4194304) (ho : Ok B l) : PC E 137 [VL l] (VN (vd l)) :=
  PC.cast (c_Norm l hl) (by rw [strip_eq B2 l ho]; rfl)

theorem W_B : W = B ^ 4 := by decide
theorem n_tmod (a b : Nat) : Int.tmod (a : Int) (b : Int) = ((a % b : Nat) : Int) := by
  rw [Int.tmod_eq_emod_of_nonneg (Int.natCast_nonneg a)]; rfl
theorem n_tdiv (a b : Nat) : Int.tdiv (a : Int) (b : Int) = ((a / b : Nat) : Int) := by
  rw [Int.tdiv_eq_ediv_of_nonneg (Int.natCast_nonneg a)]; rfl

theorem limb_digit (x i : Nat) {k : Nat} (hk : k < 4) : x / W ^ i % W / B ^ k % B = x / B ^ (4 * i + k) % B := by
  have e1 : W ^ i = B ^ (4 * i) := by rw [W_B, ← Nat.pow_mul]
  have e2 : W = B ^ k * B ^ (4 - k) := by rw [← Nat.pow_add, show k + (4 - k) = 4 by omega, W_B]
  have e3 : B ∣ B ^ (4 - k) := by
    obtain ⟨j, hj⟩ : ∃ j, 4 - k = j + 1 := ⟨4 - k - 1, by omega⟩
    rw [hj, Nat.pow_succ]; exact ⟨B ^ j, Nat.mul_comm _ _⟩
  rw [e1, Nat.pow_add, ← Nat.div_div_eq_div_mul]
  generalize x / B ^ (4 * i) = y
  rw [e2, Nat.mod_mul_right_div_self, Nat.mod_mod_of_dvd _ e3]

/-- A contract at a list of digits whose length and worth are known otherwise. -/
theorem PC.at_vlist {f : FuncId} {l : List Nat} {n x y : Nat} (h : PC E f [VL l] (VN x)) (hn : l.length = n) (e : x = y) : PC E f [.lst n (V l)] (VN y) := by
  subst hn; subst e; exact h

theorem c_To (a : List Nat) (ha : a.length ≤ 1048576) (oa : Ok W a) : PC E 105 [NL a] (VN (vl a)) := by
  refine PC.of_body follows Tryd.func105 (by decide +kernel) rfl (by kernel_rfl) (Nat.le_of_ble_eq_true rfl) (walk ?_)
  simp only [NL]
  simp only [Tryd.f105, go_sem]
  have hA : vl a < W ^ a.length := dv_lt a oa
  have hA4 : vl a < B ^ (4 * a.length) := by rw [W_B, ← Nat.pow_mul] at hA; exact hA
  have hget : ∀ i, a.getD i 0 = vl a / W ^ i % W := fun i => dv_get W0 a oa i
  generalize vl a = x at *
  refine PLoop.nilrow 3 26 (by decide) 127 1 rfl ?_
  refine PLoop.intro (fun i : Nat => ⟨[(0, .val (NL a)), (3, .row 26), (4, .val (.int .i64 i))], [(26, (.row 127 1 (4 * i) (V (tab B x (4 * i))), false))]⟩) (fun i => i ≤ a.length) (fun i => a.length - i) 0 (by omega) ?_ fun i hi => walk ?_
  · simp [Wk, sget, killL, kill1, SV.key, NL, VL, u, e32, tab, V]
  simp only [NL]
  simp only [Tryd.f105, go_sem]
  refine qif_d (fun h => ?_) (fun h => ?_)
  · have hx := U_getD (l := a) (i := i) (by omega)
    rw [hget] at hx
    simp only [Tryd.f105, go_sem]
    refine qand_i (by first | omega | (simp [V_length, U_length, tab_length, maxLen]; done) | (simp [V_length, U_length, tab_length, maxLen]; omega) | (refine ⟨?_, ?_⟩ <;> first | omega | (simp [V_length, U_length, tab_length, maxLen]; done) | (simp [V_length, U_length, tab_length, maxLen]; omega))) ?_; simp only [Tryd.f105, go_sem]
    refine qval_i (congrArg (Option.map _) hx) ?_
    simp only [Tryd.f105, u, go_sem]
    refine PLoop.intro (fun k : Nat => ⟨[(0, .val (NL a)), (3, .row 26), (4, .val (.int .i64 i)), (5, .val (u (x / W ^ i % W / B ^ k))), (6, .val (.int .i64 k))], [(26, (.row 127 1 (4 * i + k) (V (tab B x (4 * i + k))), false))]⟩) (fun k => k ≤ 4) (fun k => 4 - k) 0 (by omega) ?_ fun k hk => walk ?_
    · simp [Wk, sget, killL, kill1, SV.key, NL, VL, u, e32]
    simp only [NL, u]
    simp only [Tryd.f105, go_sem]
    have hwi : IntKind.wrap .i64 ((i : Int) + 1) = ((i + 1 : Nat) : Int) := by rw [wrap64 (by omega) (by omega)]; omega
    refine qif_d (fun h' => ?_) (fun h' => ?_)
    · have hd := limb_digit x i (show k < 4 by omega)
      have e1 : (((x / W ^ i % W / B ^ k : Nat) : Int)).tmod 65536 = ((x / B ^ (4 * i + k) % B : Nat) : Int) := by
        rw [← hd]; exact n_tmod _ 65536
      have e2 : IntKind.wrap .u32 ((x / B ^ (4 * i + k) % B : Nat) : Int) = ((x / B ^ (4 * i + k) % B : Nat) : Int) := wrap32 (Nat.lt_trans (Nat.mod_lt _ B0) (by decide))
      have e3 : IntKind.wrap .u64 (((x / W ^ i % W / B ^ k : Nat) : Int).tdiv 65536) = ((x / W ^ i % W / B ^ (k + 1) : Nat) : Int) := by
        rw [show (((x / W ^ i % W / B ^ k : Nat) : Int).tdiv 65536) = ((x / W ^ i % W / B ^ k / 65536 : Nat) : Int) from n_tdiv _ 65536, Nat.pow_succ, ← Nat.div_div_eq_div_mul]
        refine wrap_nat64 (a := x / W ^ i % W / B ^ k / 65536) ?_
        exact Nat.lt_of_le_of_lt (Nat.div_le_self _ _) (Nat.lt_of_le_of_lt (Nat.div_le_self _ _) (Nat.mod_lt _ W0))
      have hwk : IntKind.wrap .i64 ((k : Int) + 1) = ((k + 1 : Nat) : Int) := by rw [wrap64 (by omega) (by omega)]; omega
      simp only [Tryd.f105, e1, e2, e3, hwk, go_sem]
      refine qand_i (by first | omega | (simp [V_length, U_length, tab_length, maxLen]; done) | (simp [V_length, U_length, tab_length, maxLen]; omega) | (refine ⟨?_, ?_⟩ <;> first | omega | (simp [V_length, U_length, tab_length, maxLen]; done) | (simp [V_length, U_length, tab_length, maxLen]; omega))) ?_; simp only [Tryd.f105, e1, e2, e3, hwk, go_sem]
      refine ⟨k + 1, by omega, by omega, ?_⟩
      simp [Wk, sget, killL, kill1, SV.key, NL, VL, u, e32, tab_succ, ← Nat.add_assoc, ← V_append, V_one]
    · have hk4 : k = 4 := by omega
      subst hk4
      simp only [Tryd.f105, hwi, go_sem]
      refine ⟨i + 1, by omega, by omega, ?_⟩
      simp [Wk, sget, killL, kill1, SV.key, NL, VL, u, e32, Nat.mul_add]
  · simp only [Tryd.f105, go_sem]
    have e : i = a.length := by omega
    subst e
    refine qcall_i (r := VN x) (PC.at_vlist (n_Norm (tab B x (4 * a.length)) (by rw [tab_length]; omega) (ok_tab B0 _ _)) (tab_length _ _ _) ((dv_tab _ _).trans (Nat.mod_eq_of_lt hA4))) ?_
    simp only [Tryd.f105, go_sem]
end Go.Proofs.YtejmlngnpekagaaDoor
end

/- What planimeterref01's Double, Add, Sub, Cmp and Same hand back. -/
section
open Go PG Go.Proofs
set_option maxRecDepth 100000
set_option linter.unusedSimpArgs false
set_option linter.unusedVariables false
namespace Go.Proofs.YtejmlngnpekagaaDoor
attribute [local go_sem] Lay2 Lay3 Lay4 Lay5 Lay6 Lay7 Lay8 Lay9 Lay10 Lay11 Lay12 Lay13 Lay14 Lay15 Lay16 Lay17 Lay18 Lay19 Lay21 Lay22 Lay23 Lay24 Lay25 Lay30 Lay33 Lay36 Lay37 Lay46 Lay47 Lay48 Lay53 Lay54 Lay55 Lay59 Lay100 Lay101 Lay127 Lay146 Lay162 Lay168 Lay169 Lay173 Lay185 Lay186 Lay187 Lay188 Lay189 Lay191 Lay192 Lay194 Lay195 Lay196 Lay199 qexec_seq qexec_skip qexec_exit qexec_ret qexec_block qexec_loop qexec_range qexec_cond qexec_region qexec_drawn qops_nil qops_none qops_some put_some put_none pblk_exit pblk_other newDsts_nil inlDsts_nil isInl sget_cons sget_nil qval_some qbool_some qgs_bool qgs_und qfree_some qgrd_true qgrd_false qif_true qif_false qval_ite qval_itn qand_true map_ite map_some' map_none' qdo_move qdo_assign qdo_binOp qdo_pick qdo_unOp qdo_convert qdo_extract qdo_field qdo_fieldAddr qdo_alloc qdo_box qdo_build qdo_buildSlice qdo_load qdo_store qdo_nilCheck qdo_makeFunc qdo_makeSlice qdo_slice qdo_indexAddr qdo_call qcont_val qcont_new qcont_st qcont_app0 qcont_app qcont_inl qcont_call njSV_val njSV_nil njSV_row njSV_ptr njSV_sub binV_val binV_nil binV_nn binV_ptr bin_np bin_nnp nilCmp bin_add bin_sub bin_mul bin_quo bin_rem bin_and bin_or bin_xor bin_andNot bin_eql bin_neq bin_lss bin_leq bin_gtr bin_geq bin_shl bin_shr bin_seql bin_sneq bin_sadd bin_beql bin_aeql bin_aneq eqAnd_some eqCells_nil eqCells_cons fieldTypes isStruct eqCell bin_bneq un_not un_neg nj_ite Nat.beq stepA stepR isNew opSV constSV RV.sv allSome E_mu E_own qkeyIn_none qkeyIn_some qkeyAt_none qkeyAt_some Bool.or_false Bool.false_or Bool.or_true Bool.true_or cst setB res resSV pstart startL killL kill1 eraL frzL svPV rvPV rvInt rvSlice frzOf close closeL pconv pbuiltin pmax2 partPV setCells fillPV zrow bound newSV PV.cells Bk.cells Bk.with SV.key pres presL_nil presL_tmp presL_cell presC2_some cellPV_ptr presC List.toList_toArray List.size_toArray List.getElem?_drop Nat.mul_one Int.toNat_natCast Nat.not_lt_zero Nat.lt_irrefl decide_true decide_false Nat.not_lt Option.some.injEq PV.lst.injEq PV.int.injEq PV.bool.injEq PV.tuple.injEq List.cons.injEq Option.map_some Option.map_none Option.bind_some Option.toList List.map_cons List.map_nil List.nil_append List.cons_append List.append_nil List.zip_cons_cons List.zip_nil_left List.zip_nil_right List.getElem?_cons_zero List.getElem?_cons_succ List.drop_zero List.drop_succ_cons List.take_succ_cons List.take_zero List.set_cons_zero List.set_cons_succ List.length_cons List.length_nil List.length_set List.replicate_one List.replicate_zero bne_self_eq_false beq_self_eq_true Nat.zero_add Nat.add_zero Nat.zero_mul Bool.false_eq_true Bool.true_eq_false Bool.not_true Bool.not_false and_true true_and false_and and_false or_false false_or or_true true_or not_true_eq_false not_false_eq_true ne_eq gt_iff_lt List.mem_cons List.not_mem_nil
attribute [local go_sem ↓] pseq_normal pseq_ret pseq_exit pblk_normal pblk_ret newDsts_cons inlDsts_cons gdst_zero gdst_succ retQ_normal retQ_ret qneed_nil qneed_cons retM_normal retM_ret endR_normal endR_ret endR_exit
attribute [local go_sem] Int.reduceToNat Int.reduceEq Int.reduceNe Int.reduceLT Int.reduceLE Int.reduceNeg Int.reduceAdd Nat.reduceEqDiff Nat.reduceAdd Nat.reduceSub Nat.reduceMul Nat.reduceLeDiff Nat.reduceLT
attribute [local go_sem ↓] reduceIte reduceCtorEq

theorem vn_get (x i : Nat) : (dg B x).getD i 0 = x / B ^ i % B := by
  rw [dv_get B0 _ (ok_dg B2 x) i, dv_dg B2]
theorem vn_at {x i : Nat} (h : i < (dg B x).length) : (V (dg B x))[i]? = some (e32 (x / B ^ i % B)) := by
  rw [V_getD h, vn_get]
theorem vn_pow (i : Nat) : 0 < B ^ i := Nat.pow_pos B0

theorem c_Double (x m : Nat) (hm : m ≤ 1) (hx : (dg B x).length ≤ 4194304) : PC E 136 [VN x, e32 m] (VN (2 * x + m)) := by
  refine PC.of_body follows Tryd.func136 (by decide +kernel) rfl (by kernel_rfl) (Nat.le_of_ble_eq_true rfl) (walk ?_)
  simp only [VN, VL, e32]
  simp only [Tryd.f136, go_sem]
  generalize hn : (dg B x).length = n at *
  generalize hn' : (dg B (2 * x + m)).length = n' at *
  have hi1 : ∀ i, i < n ↔ B ^ i ≤ x := fun i => by rw [← hn]; exact dg_lt B2
  have hi2 : ∀ i, i < n' ↔ B ^ i ≤ 2 * x + m := fun i => by rw [← hn']; exact dg_lt B2
  have hn1 : n' ≤ n + 1 := by
    rw [← hn', dg_length_le B2, Nat.pow_succ]
    have : ¬ B ^ n ≤ x := fun h => by have := (hi1 n).2 h; omega
    have h2 : B ^ n * B = 65536 * B ^ n := Nat.mul_comm _ _
    have := vn_pow n
    omega
  refine PLoop.nilrow 5 36 (by decide) 127 1 rfl ?_
  refine PLoop.intro (fun i : Nat => ⟨[(0, .val (.lst n (V (dg B x)))), (5, .row 36), (6, .val (e32 (dcarry x m (B ^ i)))), (7, .val (.int .i64 i))], [(36, (.row 127 1 i (V (tab B (2 * x + m) i)), false))]⟩) (fun i => i ≤ n') (fun i => n' - i) 0 (by omega) ?_ fun i hi => walk ?_
  · simp [Wk, sget, killL, kill1, SV.key, NL, VL, u, e32, tab, V, dcarry_one]
  have hB : (B : Nat) = 65536 := rfl
  have hc1 := dcarry_le (x := x) (vn_pow i) hm
  have hdig := dcarry_digit (x := x) (m := m) (b := B) (vn_pow i)
  have hnext := dcarry_next (x := x) (m := m) (vn_pow i) B0
  rw [← Nat.pow_succ] at hnext
  have hdl : x / B ^ i % B < B := Nat.mod_lt _ B0
  have hcg : 0 < dcarry x m (B ^ i) → i < n' := fun h => by
    rw [hi2]
    have := dcarry_div (x := x) (m := m) (vn_pow i)
    exact (Nat.div_pos_iff.1 (by omega)).2
  have hin : i < n → i < n' := fun h => by rw [hi2]; have := (hi1 i).1 h; omega
  have hwi : IntKind.wrap .i64 ((i : Int) + 1) = ((i + 1 : Nat) : Int) := by rw [wrap64 (by omega) (by omega)]; omega
  generalize hc : dcarry x m (B ^ i) = c at *
  generalize hd : x / B ^ i % B = d at *
  simp only [e32]
  simp only [Tryd.f136, go_sem]
  have push : ∀ (s : Nat), s % B = (2 * x + m) / B ^ i % B → s / B = dcarry x m (B ^ (i + 1)) → i < n' → s < 4294967296 →
      (((s : Nat) : Int).tmod 65536 = (((2 * x + m) / B ^ i % B : Nat) : Int) ∧ IntKind.wrap .u32 (((s : Nat) : Int).tdiv 65536) = ((dcarry x m (B ^ (i + 1)) : Nat) : Int)) := by
    intro s h1 h2 h3 h4
    refine ⟨by rw [← h1]; exact n_tmod _ 65536, ?_⟩
    rw [show ((s : Nat) : Int).tdiv 65536 = ((s / B : Nat) : Int) from n_tdiv _ 65536, h2]
    exact wrap32 (by have := dcarry_le (x := x) (vn_pow (i + 1)) hm; omega)
  refine qif_d (fun h => ?_) (fun h => ?_)
  · have hin' : i < n := by omega
    have hxx := vn_at (x := x) (i := i) (by omega)
    rw [hd] at hxx
    have e1 : IntKind.wrap .u32 (2 * (d : Int)) = ((2 * d : Nat) : Int) := by rw [show 2 * (d : Int) = ((2 * d : Nat) : Int) by omega]; exact wrap32 (by omega)
    have e2 : IntKind.wrap .u32 ((c : Int) + ((2 * d : Nat) : Int)) = ((2 * d + c : Nat) : Int) := by rw [show (c : Int) + ((2 * d : Nat) : Int) = ((2 * d + c : Nat) : Int) by omega]; exact wrap32 (by omega)
    obtain ⟨p1, p2⟩ := push (2 * d + c) hdig hnext (hin hin') (by omega)
    simp only [Tryd.f136, go_sem]
    refine qif_dt h ?_
    simp only [Tryd.f136, go_sem]
    refine qand_i (by first | omega | (simp [V_length, U_length, tab_length, maxLen]; done) | (simp [V_length, U_length, tab_length, maxLen]; omega) | (refine ⟨?_, ?_⟩ <;> first | omega | (simp [V_length, U_length, tab_length, maxLen]; done) | (simp [V_length, U_length, tab_length, maxLen]; omega))) ?_; simp only [Tryd.f136, go_sem]
    refine qval_i (congrArg (Option.map _) hxx) ?_
    simp only [Tryd.f136, e32, e1, e2, p1, p2, go_sem]
    refine qand_i (by first | omega | (simp [V_length, U_length, tab_length, maxLen]; done) | (simp [V_length, U_length, tab_length, maxLen]; omega) | (refine ⟨?_, ?_⟩ <;> first | omega | (simp [V_length, U_length, tab_length, maxLen]; done) | (simp [V_length, U_length, tab_length, maxLen]; omega))) ?_; simp only [Tryd.f136, hwi, p2, go_sem]
    refine ⟨i + 1, by have := hin hin'; omega, by have := hin hin'; omega, ?_⟩
    simp [Wk, sget, killL, kill1, SV.key, NL, VL, u, e32, tab_succ, ← V_append, V_one]
  · have hd0 : d = 0 := by
      rw [← hd, Nat.div_eq_of_lt, Nat.zero_mod]
      refine Nat.lt_of_not_le fun hle => ?_
      have := (hi1 i).2 hle
      omega
    subst hd0
    simp only [Tryd.f136, go_sem]
    refine qif_d (fun h' => ?_) (fun h' => ?_)
    · have hin' : i < n' := hcg (by omega)
      obtain ⟨p1, p2⟩ := push c (by simpa using hdig) (by simpa using hnext) hin' (by omega)
      simp only [Tryd.f136, go_sem]
      refine qif_df h ?_
      simp only [Tryd.f136, p1, go_sem]
      refine qand_i (by first | omega | (simp [V_length, U_length, tab_length, maxLen]; done) | (simp [V_length, U_length, tab_length, maxLen]; omega) | (refine ⟨?_, ?_⟩ <;> first | omega | (simp [V_length, U_length, tab_length, maxLen]; done) | (simp [V_length, U_length, tab_length, maxLen]; omega))) ?_; simp only [Tryd.f136, hwi, p2, go_sem]
      refine ⟨i + 1, by omega, by omega, ?_⟩
      simp [Wk, sget, killL, kill1, SV.key, NL, VL, u, e32, tab_succ, ← V_append, V_one]
    · simp only [Tryd.f136, go_sem]
      have hlt : 2 * x + m < B ^ i := by
        have h1 : c = 0 := by omega
        have h2 : ¬ B ^ i ≤ x := fun hle => by have := (hi1 i).2 hle; omega
        have h3 := dcarry_div (x := x) (m := m) (vn_pow i)
        rw [hc, h1, Nat.div_eq_of_lt (show x < B ^ i by omega)] at h3
        have h4 := Nat.mod_lt (2 * x + m) (vn_pow i)
        have h5 := Nat.mod_add_div (2 * x + m) (B ^ i)
        rw [h3] at h5
        omega
      have := dg_eq_tab B2 (x := 2 * x + m) (n := i) (by omega) hlt
      have hlen : i = n' := by
        refine Nat.le_antisymm hi (Nat.le_of_not_lt fun hgt => ?_)
        have := (hi2 i).1 hgt
        omega
      rw [this, hlen, ← hn']
      rfl
theorem lt_of_dg {x i : Nat} (h : ¬ i < (dg B x).length) : x < B ^ i := Nat.lt_of_not_le fun hle => h ((dg_lt B2).2 hle)
theorem dig_zero {x i : Nat} (h : ¬ i < (dg B x).length) : x / B ^ i % B = 0 := by rw [Nat.div_eq_of_lt (lt_of_dg h), Nat.zero_mod]

theorem carry_div {A C M : Nat} (hM : 0 < M) : (A + C) / M = A / M + C / M + carry A C M := by
  have e : A + C = (A % M + C % M) + M * (A / M + C / M) := by
    have := Nat.mod_add_div A M
    have := Nat.mod_add_div C M
    rw [Nat.mul_add]
    omega
  rw [e, Nat.add_mul_div_left _ _ hM]
  unfold carry
  omega

theorem c_rAdd (x y : Nat) (hx : (dg B x).length ≤ 4194304) (hy : (dg B y).length ≤ 4194304) : PC E 100 [VN x, VN y] (VN (x + y)) := by
  refine PC.of_body follows Tryd.func100 (by decide +kernel) rfl (by kernel_rfl) (Nat.le_of_ble_eq_true rfl) (walk ?_)
  simp only [VN, VL]
  simp only [Tryd.f100, go_sem]
  generalize hn1 : (dg B x).length = n1 at *
  generalize hn2 : (dg B y).length = n2 at *
  generalize hn' : (dg B (x + y)).length = n' at *
  have hi2 : ∀ i, i < n' ↔ B ^ i ≤ x + y := fun i => by rw [← hn']; exact dg_lt B2
  have hin1 : ∀ i, i < n1 → i < n' := fun i h => by rw [hi2]; have := (dg_lt B2 (x := x) (i := i)).1 (by omega); omega
  have hin2 : ∀ i, i < n2 → i < n' := fun i h => by rw [hi2]; have := (dg_lt B2 (x := y) (i := i)).1 (by omega); omega
  have hn3 : n' ≤ max n1 n2 + 1 := by
    rw [← hn', dg_length_le B2, Nat.pow_succ]
    have h1 := lt_of_dg (x := x) (i := max n1 n2) (by omega)
    have h2 := lt_of_dg (x := y) (i := max n1 n2) (by omega)
    have h3 : B ^ max n1 n2 * B = 65536 * B ^ max n1 n2 := Nat.mul_comm _ _
    omega
  refine PLoop.nilrow 5 50 (by decide) 127 1 rfl ?_
  refine PLoop.intro (fun i : Nat => ⟨[(0, .val (.lst n1 (V (dg B x)))), (1, .val (.lst n2 (V (dg B y)))), (5, .row 50), (6, .val (e32 (carry x y (B ^ i)))), (7, .val (.int .i64 i))], [(50, (.row 127 1 i (V (tab B (x + y) i)), false))]⟩) (fun i => i ≤ n') (fun i => n' - i) 0 (by omega) ?_ fun i hi => walk ?_
  · simp [Wk, sget, killL, kill1, SV.key, NL, VL, u, e32, tab, V, carry_one]
  have hB : (B : Nat) = 65536 := rfl
  have hc1 := carry_le (A := x) (B := y) (vn_pow i)
  have hdig := carry_digit (A := x) (B := y) (W := B) (vn_pow i)
  have hnext := carry_next (A := x) (B := y) (W := B) (vn_pow i)
  rw [← Nat.pow_succ] at hnext
  have hdl : x / B ^ i % B < B := Nat.mod_lt _ B0
  have hel : y / B ^ i % B < B := Nat.mod_lt _ B0
  have hcg : 0 < carry x y (B ^ i) → i < n' := fun h => by
    rw [hi2]
    have := carry_div (A := x) (C := y) (vn_pow i)
    exact (Nat.div_pos_iff.1 (by rw [this]; exact Nat.lt_of_lt_of_le h (Nat.le_add_left _ _))).2
  have hexit : ¬ i < n1 → ¬ i < n2 → ¬ 0 < carry x y (B ^ i) → .lst i (V (tab B (x + y) i)) = VL (dg B (x + y)) := fun h1 h2 h3 => by
    have hlt : x + y < B ^ i := by
      have h4 := carry_div (A := x) (C := y) (vn_pow i)
      rw [Nat.div_eq_of_lt (lt_of_dg (x := x) (i := i) (by omega)), Nat.div_eq_of_lt (lt_of_dg (x := y) (i := i) (by omega))] at h4
      have h5 := Nat.mod_lt (x + y) (vn_pow i)
      have h6 := Nat.mod_add_div (x + y) (B ^ i)
      rw [h4, show carry x y (B ^ i) = 0 by omega] at h6
      omega
    rw [dg_eq_tab B2 (by omega) hlt]
    have hlen : i = n' := by
      refine Nat.le_antisymm hi (Nat.le_of_not_lt fun hgt => ?_)
      have := (hi2 i).1 hgt
      omega
    rw [hlen, ← hn']
    rfl
  have hwi : IntKind.wrap .i64 ((i : Int) + 1) = ((i + 1 : Nat) : Int) := by rw [wrap64 (by omega) (by omega)]; omega
  have hdx : i < n1 → (V (dg B x))[i]? = some (e32 (x / B ^ i % B)) := fun h => vn_at (by omega)
  have hdy : i < n2 → (V (dg B y))[i]? = some (e32 (y / B ^ i % B)) := fun h => vn_at (by omega)
  have hd0 : ¬ i < n1 → x / B ^ i % B = 0 := fun h => dig_zero (by omega)
  have he0 : ¬ i < n2 → y / B ^ i % B = 0 := fun h => dig_zero (by omega)
  generalize hc : carry x y (B ^ i) = c at *
  generalize hd : x / B ^ i % B = d at *
  generalize he : y / B ^ i % B = e at *
  have push : i < n' → ((((c + d + e : Nat) : Nat) : Int).tmod 65536 = (((x + y) / B ^ i % B : Nat) : Int) ∧ IntKind.wrap .u32 (((c + d + e : Nat) : Int).tdiv 65536) = ((carry x y (B ^ (i + 1)) : Nat) : Int)) := by
    intro h3
    refine ⟨by rw [← hdig, show d + e + c = c + d + e by omega]; exact n_tmod _ 65536, ?_⟩
    rw [show ((c + d + e : Nat) : Int).tdiv 65536 = ((c + d + e) / B : Nat) from n_tdiv _ 65536, show c + d + e = d + e + c by omega, hnext]
    exact wrap32 (by have := carry_le (A := x) (B := y) (vn_pow i.succ); omega)
  have e1 : IntKind.wrap .u32 ((c : Int) + (d : Int)) = ((c + d : Nat) : Int) := by rw [show (c : Int) + (d : Int) = ((c + d : Nat) : Int) by omega]; exact wrap32 (by omega)
  have e2 : IntKind.wrap .u32 (((c + d : Nat) : Int) + (e : Int)) = ((c + d + e : Nat) : Int) := by rw [show ((c + d : Nat) : Int) + (e : Int) = ((c + d + e : Nat) : Int) by omega]; exact wrap32 (by omega)
  simp only [e32]
  simp only [Tryd.f100, go_sem]
  refine qif_d (fun h => ?_) (fun h => ?_)
  · obtain ⟨p1, p2⟩ := push (hin1 i (by omega))
    have hin := hin1 i (by omega)
    have hxx := hdx (by omega)
    simp only [Tryd.f100, go_sem]
    refine qif_dt h ?_
    simp only [Tryd.f100, go_sem]
    refine qand_i (by first | omega | (simp [V_length, U_length, tab_length, maxLen]; done) | (simp [V_length, U_length, tab_length, maxLen]; omega) | (refine ⟨?_, ?_⟩ <;> first | omega | (simp [V_length, U_length, tab_length, maxLen]; done) | (simp [V_length, U_length, tab_length, maxLen]; omega))) ?_; simp only [Tryd.f100, go_sem]
    refine qval_i (congrArg (Option.map _) hxx) ?_
    simp only [Tryd.f100, e32, e1, go_sem]
    refine qif_d (fun h' => ?_) (fun h' => ?_)
    · have hyy := hdy (by omega)
      simp only [Tryd.f100, go_sem]
      refine qand_i (by first | omega | (simp [V_length, U_length, tab_length, maxLen]; done) | (simp [V_length, U_length, tab_length, maxLen]; omega) | (refine ⟨?_, ?_⟩ <;> first | omega | (simp [V_length, U_length, tab_length, maxLen]; done) | (simp [V_length, U_length, tab_length, maxLen]; omega))) ?_; simp only [Tryd.f100, go_sem]
      refine qval_i (congrArg (Option.map _) hyy) ?_
      simp only [Tryd.f100, e32, e2, p1, go_sem]
      refine qand_i (by first | omega | (simp [V_length, U_length, tab_length, maxLen]; done) | (simp [V_length, U_length, tab_length, maxLen]; omega) | (refine ⟨?_, ?_⟩ <;> first | omega | (simp [V_length, U_length, tab_length, maxLen]; done) | (simp [V_length, U_length, tab_length, maxLen]; omega))) ?_; simp only [Tryd.f100, hwi, p2, go_sem]
      refine ⟨i + 1, by omega, by omega, ?_⟩
      simp [Wk, sget, killL, kill1, SV.key, NL, VL, u, e32, tab_succ, ← V_append, V_one]
    · have e0 := he0 (by omega)
      subst e0
      rw [Nat.add_zero] at p1 p2
      simp only [Tryd.f100, p1, go_sem]
      refine qand_i (by first | omega | (simp [V_length, U_length, tab_length, maxLen]; done) | (simp [V_length, U_length, tab_length, maxLen]; omega) | (refine ⟨?_, ?_⟩ <;> first | omega | (simp [V_length, U_length, tab_length, maxLen]; done) | (simp [V_length, U_length, tab_length, maxLen]; omega))) ?_; simp only [Tryd.f100, hwi, p2, go_sem]
      refine ⟨i + 1, by omega, by omega, ?_⟩
      simp [Wk, sget, killL, kill1, SV.key, NL, VL, u, e32, tab_succ, ← V_append, V_one]
  · have d0 := hd0 (by omega)
    subst d0
    simp only [Tryd.f100, go_sem]
    refine qif_d (fun h' => ?_) (fun h' => ?_)
    · obtain ⟨p1, p2⟩ := push (hin2 i (by omega))
      have hin := hin2 i (by omega)
      have hyy := hdy (by omega)
      simp only [Tryd.f100, go_sem]
      refine qif_df h ?_
      simp only [Tryd.f100, go_sem]
      refine qif_dt h' ?_
      simp only [Tryd.f100, go_sem]
      refine qand_i (by first | omega | (simp [V_length, U_length, tab_length, maxLen]; done) | (simp [V_length, U_length, tab_length, maxLen]; omega) | (refine ⟨?_, ?_⟩ <;> first | omega | (simp [V_length, U_length, tab_length, maxLen]; done) | (simp [V_length, U_length, tab_length, maxLen]; omega))) ?_; simp only [Tryd.f100, go_sem]
      refine qval_i (congrArg (Option.map _) hyy) ?_
      rw [Nat.add_zero] at e2 p1 p2
      simp only [Tryd.f100, e32, e2, p1, go_sem]
      refine qand_i (by first | omega | (simp [V_length, U_length, tab_length, maxLen]; done) | (simp [V_length, U_length, tab_length, maxLen]; omega) | (refine ⟨?_, ?_⟩ <;> first | omega | (simp [V_length, U_length, tab_length, maxLen]; done) | (simp [V_length, U_length, tab_length, maxLen]; omega))) ?_; simp only [Tryd.f100, hwi, p2, go_sem]
      refine ⟨i + 1, by omega, by omega, ?_⟩
      simp [Wk, sget, killL, kill1, SV.key, NL, VL, u, e32, tab_succ, ← V_append, V_one]
    · have e0 := he0 (by omega)
      subst e0
      simp only [Tryd.f100, go_sem]
      refine qif_d (fun h3 => ?_) (fun h3 => ?_)
      · have hin := hcg (by omega)
        obtain ⟨p1, p2⟩ := push hin
        simp only [Nat.add_zero] at p1 p2
        simp only [Tryd.f100, go_sem]
        refine qif_df h ?_
        simp only [Tryd.f100, go_sem]
        refine qif_df h' ?_
        simp only [Tryd.f100, p1, go_sem]
        refine qand_i (by first | omega | (simp [V_length, U_length, tab_length, maxLen]; done) | (simp [V_length, U_length, tab_length, maxLen]; omega) | (refine ⟨?_, ?_⟩ <;> first | omega | (simp [V_length, U_length, tab_length, maxLen]; done) | (simp [V_length, U_length, tab_length, maxLen]; omega))) ?_; simp only [Tryd.f100, hwi, p2, go_sem]
        refine ⟨i + 1, by omega, by omega, ?_⟩
        simp [Wk, sget, killL, kill1, SV.key, NL, VL, u, e32, tab_succ, ← V_append, V_one]
      · simp only [Tryd.f100, go_sem]
        exact hexit (by omega) (by omega) (by omega)

theorem c_rCmp (x y : Nat) (hx : (dg B x).length ≤ 4194304) (hy : (dg B y).length ≤ 4194304) : PC E 101 [VN x, VN y] (.int .i64 (sgn x y)) := by
  refine PC.of_body follows Tryd.func101 (by decide +kernel) rfl (by kernel_rfl) (Nat.le_of_ble_eq_true rfl) (walk ?_)
  have ox := ok_dg B2 x
  have oy := ok_dg B2 y
  have vx := dv_dg B2 x
  have vy := dv_dg B2 y
  have l1 : (dg B x).length < (dg B y).length → x < y := fun h => by
    have h1 := lt_of_dg (x := x) (i := (dg B x).length) (by omega)
    have h2 := (dg_lt B2 (x := y)).1 h
    omega
  have l2 : (dg B y).length < (dg B x).length → y < x := fun h => by
    have h1 := lt_of_dg (x := y) (i := (dg B y).length) (by omega)
    have h2 := (dg_lt B2 (x := x)).1 h
    omega
  simp only [VN, VL]
  simp only [Tryd.f101, go_sem]
  generalize dg B x = l at *
  generalize dg B y = r at *
  refine qif_d (fun h => ?_) (fun h => ?_)
  · simp only [Tryd.f101, go_sem]
    refine qif_d (fun h' => ?_) (fun h' => ?_)
    · simp only [Tryd.f101, go_sem]
      have := l1 (by omega)
      rw [sgn, if_pos (by omega)]
    · simp only [Tryd.f101, go_sem]
      have := l2 (by omega)
      rw [sgn, if_neg (by omega), if_pos (by omega)]
  · have hll : l.length = r.length := by omega
    have hw1 : ∀ k : Nat, k ≤ l.length → IntKind.wrap .i64 ((k : Int) - 1) = (k : Int) - 1 := fun k hk => wrap64 (by omega) (by omega)
    have hw1' := hw1 l.length (Nat.le_refl _)
    simp only [Tryd.f101, hw1', go_sem]
    refine PLoop.intro (fun k : Nat => ⟨[(0, .val (.lst l.length (V l))), (1, .val (.lst r.length (V r))), (5, .val (.int .i64 ((k : Int) - 1)))], []⟩) (fun k => k ≤ l.length ∧ ∀ j, k ≤ j → j < l.length → l.getD j 0 = r.getD j 0) id l.length ⟨Nat.le_refl _, fun j h1 h2 => by omega⟩ ?_ fun k hk => walk ?_
    · simp [Wk, sget, killL, kill1, SV.key, NL, VL, u, e32]
    obtain ⟨hk, hj⟩ := hk
    simp only [Tryd.f101, go_sem]
    refine qif_d (fun h1 => ?_) (fun h1 => ?_)
    · obtain ⟨k, rfl⟩ : ∃ j, k = j + 1 := ⟨k - 1, by omega⟩
      have hk' : ((k + 1 : Nat) : Int) - 1 = k := by omega
      have hxl := V_getD (l := l) (i := k) (by omega)
      have hxr := V_getD (l := r) (i := k) (by omega)
      have hwk := hw1 k (by omega)
      simp only [Tryd.f101, hk', go_sem]
      refine qand_i (by first | omega | (simp [V_length, U_length, tab_length, maxLen]; done) | (simp [V_length, U_length, tab_length, maxLen]; omega) | (refine ⟨?_, ?_⟩ <;> first | omega | (simp [V_length, U_length, tab_length, maxLen]; done) | (simp [V_length, U_length, tab_length, maxLen]; omega))) ?_; simp only [Tryd.f101, go_sem]
      refine qval_i (congrArg (Option.map _) hxl) ?_
      simp only [Tryd.f101, go_sem]
      refine qand_i (by first | omega | (simp [V_length, U_length, tab_length, maxLen]; done) | (simp [V_length, U_length, tab_length, maxLen]; omega) | (refine ⟨?_, ?_⟩ <;> first | omega | (simp [V_length, U_length, tab_length, maxLen]; done) | (simp [V_length, U_length, tab_length, maxLen]; omega))) ?_; simp only [Tryd.f101, go_sem]
      refine qval_i (congrArg (Option.map _) hxr) ?_
      simp only [Tryd.f101, e32, go_sem]
      refine qif_d (fun h2 => ?_) (fun h2 => ?_)
      · simp only [Tryd.f101, go_sem]
        have := dv_lt_of (b := B) l r k ox hll (by omega) (by omega) fun j h3 h4 => hj j (by omega) h4
        rw [vx, vy] at this
        rw [sgn, if_pos (by omega)]
      · simp only [Tryd.f101, go_sem]
        refine qand_i (by first | omega | (simp [V_length, U_length, tab_length, maxLen]; done) | (simp [V_length, U_length, tab_length, maxLen]; omega) | (refine ⟨?_, ?_⟩ <;> first | omega | (simp [V_length, U_length, tab_length, maxLen]; done) | (simp [V_length, U_length, tab_length, maxLen]; omega))) ?_; simp only [Tryd.f101, go_sem]
        refine qval_i (congrArg (Option.map _) hxl) ?_
        simp only [Tryd.f101, go_sem]
        refine qand_i (by first | omega | (simp [V_length, U_length, tab_length, maxLen]; done) | (simp [V_length, U_length, tab_length, maxLen]; omega) | (refine ⟨?_, ?_⟩ <;> first | omega | (simp [V_length, U_length, tab_length, maxLen]; done) | (simp [V_length, U_length, tab_length, maxLen]; omega))) ?_; simp only [Tryd.f101, go_sem]
        refine qval_i (congrArg (Option.map _) hxr) ?_
        simp only [Tryd.f101, e32, go_sem]
        refine qif_d (fun h3 => ?_) (fun h3 => ?_)
        · simp only [Tryd.f101, go_sem]
          have := dv_lt_of (b := B) r l k oy hll.symm (by omega) (by omega) fun j h3 h4 => (hj j (by omega) (by omega)).symm
          rw [vx, vy] at this
          rw [sgn, if_neg (by omega), if_pos (by omega)]
        · simp only [Tryd.f101, hwk, go_sem]
          refine ⟨k, ⟨by omega, fun j h4 h5 => ?_⟩, by simp only [id]; omega, ?_⟩
          · rcases Nat.eq_or_lt_of_le h4 with rfl | h6
            · omega
            · exact hj j (by omega) h5
          · simp [Wk, sget, killL, kill1, SV.key, NL, VL, u, e32]
    · simp only [Tryd.f101, go_sem]
      have e : x = y := by
        rw [← vx, ← vy]
        exact dv_eq_of l r hll fun i hi => hj i (by omega) hi
      subst e
      simp [sgn]

end Go.Proofs.YtejmlngnpekagaaDoor
end

/- What planimeterref01's Sub, Of, Shl, Bits, Bit and Shr hand back. -/
section
open Go PG Go.Proofs
set_option maxRecDepth 100000
set_option linter.unusedSimpArgs false
set_option linter.unusedVariables false
namespace Go.Proofs.YtejmlngnpekagaaDoor
attribute [local go_sem] Lay2 Lay3 Lay4 Lay5 Lay6 Lay7 Lay8 Lay9 Lay10 Lay11 Lay12 Lay13 Lay14 Lay15 Lay16 Lay17 Lay18 Lay19 Lay21 Lay22 Lay23 Lay24 Lay25 Lay30 Lay33 Lay36 Lay37 Lay46 Lay47 Lay48 Lay53 Lay54 Lay55 Lay59 Lay100 Lay101 Lay127 Lay146 Lay162 Lay168 Lay169 Lay173 Lay185 Lay186 Lay187 Lay188 Lay189 Lay191 Lay192 Lay194 Lay195 Lay196 Lay199 qexec_seq qexec_skip qexec_exit qexec_ret qexec_block qexec_loop qexec_range qexec_cond qexec_region qexec_drawn qops_nil qops_none qops_some put_some put_none pblk_exit pblk_other newDsts_nil inlDsts_nil isInl sget_cons sget_nil qval_some qbool_some qgs_bool qgs_und qfree_some qgrd_true qgrd_false qif_true qif_false qval_ite qval_itn qand_true map_ite map_some' map_none' qdo_move qdo_assign qdo_binOp qdo_pick qdo_unOp qdo_convert qdo_extract qdo_field qdo_fieldAddr qdo_alloc qdo_box qdo_build qdo_buildSlice qdo_load qdo_store qdo_nilCheck qdo_makeFunc qdo_makeSlice qdo_slice qdo_indexAddr qdo_call qcont_val qcont_new qcont_st qcont_app0 qcont_app qcont_inl qcont_call njSV_val njSV_nil njSV_row njSV_ptr njSV_sub binV_val binV_nil binV_nn binV_ptr bin_np bin_nnp nilCmp bin_add bin_sub bin_mul bin_quo bin_rem bin_and bin_or bin_xor bin_andNot bin_eql bin_neq bin_lss bin_leq bin_gtr bin_geq bin_shl bin_shr bin_seql bin_sneq bin_sadd bin_beql bin_aeql bin_aneq eqAnd_some eqCells_nil eqCells_cons fieldTypes isStruct eqCell bin_bneq un_not un_neg nj_ite Nat.beq stepA stepR isNew opSV constSV RV.sv allSome E_mu E_own qkeyIn_none qkeyIn_some qkeyAt_none qkeyAt_some Bool.or_false Bool.false_or Bool.or_true Bool.true_or cst setB res resSV pstart startL killL kill1 eraL frzL svPV rvPV rvInt rvSlice frzOf close closeL pconv pbuiltin pmax2 partPV setCells fillPV zrow bound newSV PV.cells Bk.cells Bk.with SV.key pres presL_nil presL_tmp presL_cell presC2_some cellPV_ptr presC List.toList_toArray List.size_toArray List.getElem?_drop Nat.mul_one Int.toNat_natCast Nat.not_lt_zero Nat.lt_irrefl decide_true decide_false Nat.not_lt Option.some.injEq PV.lst.injEq PV.int.injEq PV.bool.injEq PV.tuple.injEq List.cons.injEq Option.map_some Option.map_none Option.bind_some Option.toList List.map_cons List.map_nil List.nil_append List.cons_append List.append_nil List.zip_cons_cons List.zip_nil_left List.zip_nil_right List.getElem?_cons_zero List.getElem?_cons_succ List.drop_zero List.drop_succ_cons List.take_succ_cons List.take_zero List.set_cons_zero List.set_cons_succ List.length_cons List.length_nil List.length_set List.replicate_one List.replicate_zero bne_self_eq_false beq_self_eq_true Nat.zero_add Nat.add_zero Nat.zero_mul Bool.false_eq_true Bool.true_eq_false Bool.not_true Bool.not_false and_true true_and false_and and_false or_false false_or or_true true_or not_true_eq_false not_false_eq_true ne_eq gt_iff_lt List.mem_cons List.not_mem_nil
attribute [local go_sem ↓] pseq_normal pseq_ret pseq_exit pblk_normal pblk_ret newDsts_cons inlDsts_cons gdst_zero gdst_succ retQ_normal retQ_ret qneed_nil qneed_cons retM_normal retM_ret endR_normal endR_ret endR_exit
attribute [local go_sem] Int.reduceToNat Int.reduceEq Int.reduceNe Int.reduceLT Int.reduceLE Int.reduceNeg Int.reduceAdd Nat.reduceEqDiff Nat.reduceAdd Nat.reduceSub Nat.reduceMul Nat.reduceLeDiff Nat.reduceLT
attribute [local go_sem ↓] reduceIte reduceCtorEq

theorem mix_get (x z i : Nat) (h : i < (dg B x).length) : (V (tab B z i ++ (dg B x).drop i))[i]? = some (e32 (x / B ^ i % B)) := by
  rw [V_get, List.getElem?_append_right (by simp [tab_length]), tab_length, Nat.sub_self, List.getElem?_drop, Nat.add_zero, ← V_get, vn_at h]

theorem mix_set {l : List Nat} {z i v : Nat} (h : i < l.length) (hv : v = z / B ^ i % B) : (V (tab B z i ++ l.drop i)).set i (e32 v) = V (tab B z (i + 1) ++ l.drop (i + 1)) := by
  subst hv
  rw [V_set, List.set_append_right _ _ (by simp [tab_length]), tab_length, Nat.sub_self, List.drop_eq_getElem_cons h, List.set_cons_zero, tab_succ]
  simp

theorem c_rSub (x y : Nat) (hyx : y ≤ x) (hx : (dg B x).length ≤ 4194304) : PC E 102 [VN x, VN y] (VN (x - y)) := by
  refine PC.of_body follows Tryd.func102 (by decide +kernel) rfl (by kernel_rfl) (Nat.le_of_ble_eq_true rfl) (walk ?_)
  have hny : (dg B y).length ≤ (dg B x).length := by
    rw [dg_length_le B2]
    exact Nat.lt_of_le_of_lt hyx (lt_of_dg (by omega))
  have hxn : x < B ^ (dg B x).length := lt_of_dg (by omega)
  simp only [VN, VL]
  simp only [Tryd.f102, go_sem]
  refine qand_i (by first | omega | (simp [V_length, U_length, tab_length, maxLen]; done) | (simp [V_length, U_length, tab_length, maxLen]; omega) | (refine ⟨?_, ?_⟩ <;> first | omega | (simp [V_length, U_length, tab_length, maxLen]; done) | (simp [V_length, U_length, tab_length, maxLen]; omega))) ?_; simp only [Tryd.f102, go_sem]
  refine qand_i (by first | omega | (simp [V_length, U_length, tab_length, maxLen]; done) | (simp [V_length, U_length, tab_length, maxLen]; omega) | (refine ⟨?_, ?_⟩ <;> first | omega | (simp [V_length, U_length, tab_length, maxLen]; done) | (simp [V_length, U_length, tab_length, maxLen]; omega))) ?_; simp only [Tryd.f102, go_sem]
  generalize hn : (dg B x).length = n at *
  refine PLoop.intro (fun i : Nat => ⟨[(1, .val (VL (dg B y))), (5, .row 11), (6, .val (e32 (borrow x y (B ^ i)))), (7, .val (.int .i64 i))], [(11, (.row 127 1 n (V (tab B (x - y) i ++ (dg B x).drop i)), false))]⟩) (fun i => i ≤ n) (fun i => n - i) 0 (by omega) ?_ fun i hi => walk ?_
  · simp [Wk, sget, killL, kill1, SV.key, NL, VL, u, e32, tab, V, borrow_one]
  have hB : (B : Nat) = 65536 := rfl
  have hbl := borrow_le x y (B ^ i)
  have hdig := borrow_digit (A := x) (B := y) (W := B) (vn_pow i) hyx B0
  have hnext := borrow_next (A := x) (B := y) (W := B) (vn_pow i)
  rw [← Nat.pow_succ] at hnext
  have hdl : x / B ^ i % B < B := Nat.mod_lt _ B0
  have hel : y / B ^ i % B < B := Nat.mod_lt _ B0
  have hwi : IntKind.wrap .i64 ((i : Int) + 1) = ((i + 1 : Nat) : Int) := by rw [wrap64 (by omega) (by omega)]; omega
  have hdx : i < n → (V (tab B (x - y) i ++ (dg B x).drop i))[i]? = some (e32 (x / B ^ i % B)) := fun h => mix_get x (x - y) i (by omega)
  have hdy : i < (dg B y).length → (V (dg B y))[i]? = some (e32 (y / B ^ i % B)) := fun h => vn_at h
  have he0 : ¬ i < (dg B y).length → y / B ^ i % B = 0 := fun h => dig_zero h
  have hset : ∀ v, i < n → v = (x - y) / B ^ i % B → (V (tab B (x - y) i ++ (dg B x).drop i)).set i (.int .u32 (v : Nat)) = V (tab B (x - y) (i + 1) ++ (dg B x).drop (i + 1)) := fun v h hv => mix_set (by omega) hv
  have hset2 : ∀ v p, i < n → v = (x - y) / B ^ i % B → ((V (tab B (x - y) i ++ (dg B x).drop i)).set i p).set i (.int .u32 (v : Nat)) = V (tab B (x - y) (i + 1) ++ (dg B x).drop (i + 1)) := fun v p h hv => by
    rw [List.set_set]; exact hset v h hv
  have hlen : i < n → (V (tab B (x - y) i ++ (dg B x).drop i)).length = n := fun h => by simp [V_length, tab_length, hn]; omega
  generalize hc : borrow x y (B ^ i) = c at *
  generalize hd : x / B ^ i % B = d at *
  generalize he : y / B ^ i % B = e at *
  have e1 : IntKind.wrap .u32 ((c : Int) + (e : Int)) = ((e + c : Nat) : Int) := by rw [show (c : Int) + (e : Int) = ((e + c : Nat) : Int) by omega]; exact wrap32 (by omega)
  have fin1 : i < n → d < e + c → ∃ v : Nat, v = (x - y) / B ^ i % B ∧ IntKind.wrap .u32 (((d + 65536 : Nat) : Int) - ((e + c : Nat) : Int)) = (v : Int) := fun h hlt => by
    refine ⟨d + 65536 - (e + c), ?_, by rw [show ((d + 65536 : Nat) : Int) - ((e + c : Nat) : Int) = ((d + 65536 - (e + c) : Nat) : Int) by omega]; exact wrap32 (by omega)⟩
    rw [← hdig, show d + B + B - e - c = (d + 65536 - (e + c)) + B by omega, Nat.add_mod_right, Nat.mod_eq_of_lt (by omega)]
  have fin2 : i < n → ¬ d < e + c → ∃ v : Nat, v = (x - y) / B ^ i % B ∧ IntKind.wrap .u32 ((d : Int) - ((e + c : Nat) : Int)) = (v : Int) := fun h hlt => by
    refine ⟨d - (e + c), ?_, by rw [show (d : Int) - ((e + c : Nat) : Int) = ((d - (e + c) : Nat) : Int) by omega]; exact wrap32 (by omega)⟩
    rw [← hdig, show d + B + B - e - c = (d - (e + c)) + B + B by omega, Nat.add_mod_right, Nat.add_mod_right, Nat.mod_eq_of_lt (by omega)]
  have e3 : IntKind.wrap .u32 ((d : Int) + 65536) = ((d + 65536 : Nat) : Int) := by rw [show (d : Int) + 65536 = ((d + 65536 : Nat) : Int) by omega]; exact wrap32 (by omega)
  simp only [e32, VL]
  simp only [Tryd.f102, go_sem]
  refine qif_d (fun h => ?_) (fun h => ?_)
  · have hin : i < n := by omega
    have hxx := hdx hin
    have hlen := hlen hin
    have hgs : ∀ q, ((V (tab B (x - y) i ++ (dg B x).drop i)).set i q)[i]? = some q := fun q => by rw [List.getElem?_set_self (by rw [hlen]; exact hin)]
    simp only [Tryd.f102, go_sem]
    refine qif_d (fun h' => ?_) (fun h' => ?_)
    · have hyy := hdy (by omega)
      simp only [Tryd.f102, go_sem]
      refine qand_i (by first | omega | (simp [V_length, U_length, tab_length, maxLen]; done) | (simp [V_length, U_length, tab_length, maxLen]; omega) | (refine ⟨?_, ?_⟩ <;> first | omega | (simp [V_length, U_length, tab_length, maxLen]; done) | (simp [V_length, U_length, tab_length, maxLen]; omega))) ?_; simp only [Tryd.f102, go_sem]
      refine qval_i (congrArg (Option.map _) hyy) ?_
      simp only [Tryd.f102, e32, e1, go_sem]
      refine qand_i (by first | omega | (simp [V_length, U_length, tab_length, maxLen]; done) | (simp [V_length, U_length, tab_length, maxLen]; omega) | (refine ⟨?_, ?_⟩ <;> first | omega | (simp [V_length, U_length, tab_length, maxLen]; done) | (simp [V_length, U_length, tab_length, maxLen]; omega))) ?_; simp only [Tryd.f102, go_sem]
      refine qval_i (congrArg (Option.map _) hxx) ?_
      simp only [Tryd.f102, e32, e1, go_sem]
      refine qif_d (fun h2 => ?_) (fun h2 => ?_)
      · obtain ⟨v, hv, e4⟩ := fin1 hin (by omega)
        rw [if_pos (by omega)] at hnext
        simp only [Tryd.f102, go_sem]
        refine qand_i (by first | omega | (simp [V_length, U_length, tab_length, maxLen]; done) | (simp [V_length, U_length, tab_length, maxLen]; omega) | (refine ⟨?_, ?_⟩ <;> first | omega | (simp [V_length, U_length, tab_length, maxLen]; done) | (simp [V_length, U_length, tab_length, maxLen]; omega))) ?_; simp only [Tryd.f102, go_sem]
        refine qval_i (congrArg (Option.map _) hxx) ?_
        simp only [Tryd.f102, e32, e3, go_sem]
        refine qand_i (by first | omega | (simp [V_length, U_length, tab_length, maxLen]; done) | (simp [V_length, U_length, tab_length, maxLen]; omega) | (refine ⟨?_, ?_⟩ <;> first | omega | (simp [V_length, U_length, tab_length, maxLen]; done) | (simp [V_length, U_length, tab_length, maxLen]; omega))) ?_; simp only [Tryd.f102, go_sem]
        refine qand_i (by first | omega | (rw [hlen]; omega)) ?_
        simp only [Tryd.f102, hlen, go_sem]
        refine qand_i (by first | omega | (simp [V_length, U_length, tab_length, maxLen]; done) | (simp [V_length, U_length, tab_length, maxLen]; omega) | (refine ⟨?_, ?_⟩ <;> first | omega | (simp [V_length, U_length, tab_length, maxLen]; done) | (simp [V_length, U_length, tab_length, maxLen]; omega))) ?_; simp only [Tryd.f102, hlen, go_sem]
        refine qval_i (congrArg (Option.map _) (hgs _)) ?_
        simp only [Tryd.f102, e32, e4, go_sem]
        refine qand_i (by first | omega | (simp [V_length, U_length, tab_length, maxLen]; done) | (simp [V_length, U_length, tab_length, maxLen]; omega) | (refine ⟨?_, ?_⟩ <;> first | omega | (simp [V_length, U_length, tab_length, maxLen]; done) | (simp [V_length, U_length, tab_length, maxLen]; omega))) ?_; simp only [Tryd.f102, hlen, go_sem]
        refine qand_i (by first | omega | (rw [hlen]; omega)) ?_
        simp only [Tryd.f102, hwi, go_sem]
        refine ⟨i + 1, by omega, by omega, ?_⟩
        rw [hset2 v _ hin hv]
        simp [Wk, sget, killL, kill1, SV.key, NL, VL, u, e32, hnext]
      · obtain ⟨v, hv, e4⟩ := fin2 hin (by omega)
        rw [if_neg (by omega)] at hnext
        simp only [Tryd.f102, go_sem]
        refine qand_i (by first | omega | (simp [V_length, U_length, tab_length, maxLen]; done) | (simp [V_length, U_length, tab_length, maxLen]; omega) | (refine ⟨?_, ?_⟩ <;> first | omega | (simp [V_length, U_length, tab_length, maxLen]; done) | (simp [V_length, U_length, tab_length, maxLen]; omega))) ?_; simp only [Tryd.f102, go_sem]
        refine qval_i (congrArg (Option.map _) hxx) ?_
        simp only [Tryd.f102, e32, e4, go_sem]
        refine qand_i (by first | omega | (simp [V_length, U_length, tab_length, maxLen]; done) | (simp [V_length, U_length, tab_length, maxLen]; omega) | (refine ⟨?_, ?_⟩ <;> first | omega | (simp [V_length, U_length, tab_length, maxLen]; done) | (simp [V_length, U_length, tab_length, maxLen]; omega))) ?_; simp only [Tryd.f102, go_sem]
        refine qand_i (by first | omega | (rw [hlen]; omega)) ?_
        simp only [Tryd.f102, hwi, go_sem]
        refine ⟨i + 1, by omega, by omega, ?_⟩
        rw [hset v hin hv]
        simp [Wk, sget, killL, kill1, SV.key, NL, VL, u, e32, hnext]
    · have e0 := he0 (by omega)
      subst e0
      simp only [Nat.zero_add] at fin1 fin2 hnext
      simp only [Tryd.f102, go_sem]
      refine qand_i (by first | omega | (simp [V_length, U_length, tab_length, maxLen]; done) | (simp [V_length, U_length, tab_length, maxLen]; omega) | (refine ⟨?_, ?_⟩ <;> first | omega | (simp [V_length, U_length, tab_length, maxLen]; done) | (simp [V_length, U_length, tab_length, maxLen]; omega))) ?_; simp only [Tryd.f102, go_sem]
      refine qval_i (congrArg (Option.map _) hxx) ?_
      simp only [Tryd.f102, e32, go_sem]
      refine qif_d (fun h2 => ?_) (fun h2 => ?_)
      · obtain ⟨v, hv, e4⟩ := fin1 hin (by omega)
        rw [if_pos (by omega)] at hnext
        simp only [Tryd.f102, go_sem]
        refine qand_i (by first | omega | (simp [V_length, U_length, tab_length, maxLen]; done) | (simp [V_length, U_length, tab_length, maxLen]; omega) | (refine ⟨?_, ?_⟩ <;> first | omega | (simp [V_length, U_length, tab_length, maxLen]; done) | (simp [V_length, U_length, tab_length, maxLen]; omega))) ?_; simp only [Tryd.f102, go_sem]
        refine qval_i (congrArg (Option.map _) hxx) ?_
        simp only [Tryd.f102, e32, e3, go_sem]
        refine qand_i (by first | omega | (simp [V_length, U_length, tab_length, maxLen]; done) | (simp [V_length, U_length, tab_length, maxLen]; omega) | (refine ⟨?_, ?_⟩ <;> first | omega | (simp [V_length, U_length, tab_length, maxLen]; done) | (simp [V_length, U_length, tab_length, maxLen]; omega))) ?_; simp only [Tryd.f102, go_sem]
        refine qand_i (by first | omega | (rw [hlen]; omega)) ?_
        simp only [Tryd.f102, hlen, go_sem]
        refine qand_i (by first | omega | (simp [V_length, U_length, tab_length, maxLen]; done) | (simp [V_length, U_length, tab_length, maxLen]; omega) | (refine ⟨?_, ?_⟩ <;> first | omega | (simp [V_length, U_length, tab_length, maxLen]; done) | (simp [V_length, U_length, tab_length, maxLen]; omega))) ?_; simp only [Tryd.f102, hlen, go_sem]
        refine qval_i (congrArg (Option.map _) (hgs _)) ?_
        simp only [Tryd.f102, e32, e4, go_sem]
        refine qand_i (by first | omega | (simp [V_length, U_length, tab_length, maxLen]; done) | (simp [V_length, U_length, tab_length, maxLen]; omega) | (refine ⟨?_, ?_⟩ <;> first | omega | (simp [V_length, U_length, tab_length, maxLen]; done) | (simp [V_length, U_length, tab_length, maxLen]; omega))) ?_; simp only [Tryd.f102, hlen, go_sem]
        refine qand_i (by first | omega | (rw [hlen]; omega)) ?_
        simp only [Tryd.f102, hwi, go_sem]
        refine ⟨i + 1, by omega, by omega, ?_⟩
        rw [hset2 v _ hin hv]
        simp [Wk, sget, killL, kill1, SV.key, NL, VL, u, e32, hnext]
      · obtain ⟨v, hv, e4⟩ := fin2 hin (by omega)
        rw [if_neg (by omega)] at hnext
        simp only [Tryd.f102, go_sem]
        refine qand_i (by first | omega | (simp [V_length, U_length, tab_length, maxLen]; done) | (simp [V_length, U_length, tab_length, maxLen]; omega) | (refine ⟨?_, ?_⟩ <;> first | omega | (simp [V_length, U_length, tab_length, maxLen]; done) | (simp [V_length, U_length, tab_length, maxLen]; omega))) ?_; simp only [Tryd.f102, go_sem]
        refine qval_i (congrArg (Option.map _) hxx) ?_
        simp only [Tryd.f102, e32, e4, go_sem]
        refine qand_i (by first | omega | (simp [V_length, U_length, tab_length, maxLen]; done) | (simp [V_length, U_length, tab_length, maxLen]; omega) | (refine ⟨?_, ?_⟩ <;> first | omega | (simp [V_length, U_length, tab_length, maxLen]; done) | (simp [V_length, U_length, tab_length, maxLen]; omega))) ?_; simp only [Tryd.f102, go_sem]
        refine qand_i (by first | omega | (rw [hlen]; omega)) ?_
        simp only [Tryd.f102, hwi, go_sem]
        refine ⟨i + 1, by omega, by omega, ?_⟩
        rw [hset v hin hv]
        simp [Wk, sget, killL, kill1, SV.key, NL, VL, u, e32, hnext]
  · simp only [Tryd.f102, go_sem]
    have e0 : i = n := by omega
    subst e0
    have e1 : (dg B x).drop i = [] := List.drop_eq_nil_of_le (by omega)
    rw [e1, List.append_nil]
    have hlt : x - y < B ^ i := by omega
    refine qcall_i (r := VN (x - y)) (PC.at_vlist (n_Norm (tab B (x - y) i) (by rw [tab_length]; omega) (ok_tab B0 _ _)) (tab_length _ _ _) ((dv_tab _ _).trans (Nat.mod_eq_of_lt hlt))) ?_
    simp only [Tryd.f102, go_sem]

theorem c_rBits (x : Nat) (hx : (dg B x).length ≤ 4194304) : PC E 139 [VN x] (.int .i64 (bitLen x)) := by
  refine PC.of_body follows Tryd.func139 (by decide +kernel) rfl (by kernel_rfl) (Nat.le_of_ble_eq_true rfl) (walk ?_)
  simp only [VN, VL]
  generalize hn : (dg B x).length = n at *
  simp only [Tryd.f139, go_sem]
  refine qif_d (fun h => ?_) (fun h => ?_)
  · simp only [Tryd.f139, go_sem]
    have h0 : x = 0 := by
      have := lt_of_dg (x := x) (i := 0) (by omega)
      rw [Nat.pow_zero] at this
      omega
    subst h0
    rfl
  · obtain ⟨m, rfl⟩ : ∃ m, n = m + 1 := ⟨n - 1, by omega⟩
    have e1 : IntKind.wrap .i64 (((m + 1 : Nat) : Int) - 1) = (m : Int) := by rw [wrap64 (by omega) (by omega)]; omega
    have e2 : IntKind.wrap .i64 (16 * (m : Int)) = ((16 * m : Nat) : Int) := by rw [wrap64 (by omega) (by omega)]; omega
    have hdx : (V (dg B x))[m]? = some (e32 (x / B ^ m % B)) := vn_at (by omega)
    have hbl := bitLen_topB (b := B) (k := 16) (by decide) (by decide) hn
    have hdl : x / B ^ m % B < B := Nat.mod_lt _ B0
    have hb16 : bitLen (x / B ^ m % B) ≤ 16 := (bitLen_le _ 16).2 hdl
    generalize x / B ^ m % B = d at *
    simp only [Tryd.f139, e1, e2, go_sem]
    refine qand_i (by first | omega | (simp [V_length, U_length, tab_length, maxLen]; done) | (simp [V_length, U_length, tab_length, maxLen]; omega) | (refine ⟨?_, ?_⟩ <;> first | omega | (simp [V_length, U_length, tab_length, maxLen]; done) | (simp [V_length, U_length, tab_length, maxLen]; omega))) ?_; simp only [Tryd.f139, e1, e2, go_sem]
    refine qval_i (congrArg (Option.map _) hdx) ?_
    simp only [Tryd.f139, e32, go_sem]
    refine PLoop.intro (fun c : Nat => ⟨[(3, .val (.int .i64 ((16 * m + c : Nat) : Int))), (4, .val (e32 (d / 2 ^ c)))], []⟩) (fun c => c ≤ bitLen d) (fun c => bitLen d - c) 0 (Nat.zero_le _) ?_ fun c hc => walk ?_
    · simp [Wk, sget, killL, kill1, SV.key, NL, VL, u, e32]
    have hlt : 0 < d / 2 ^ c ↔ c < bitLen d := by
      have h1 := bitLen_le d c
      have h2 := Nat.div_pos_iff (a := d) (b := 2 ^ c)
      have h3 := Nat.two_pow_pos c
      omega
    have e3 : IntKind.wrap .i64 (((16 * m + c : Nat) : Int) + 1) = ((16 * m + (c + 1) : Nat) : Int) := by rw [wrap64 (by omega) (by omega)]; omega
    have e4 : IntKind.wrap .u32 (((d / 2 ^ c : Nat) : Int).tdiv 2) = ((d / 2 ^ (c + 1) : Nat) : Int) := by
      rw [show ((d / 2 ^ c : Nat) : Int).tdiv 2 = ((d / 2 ^ c / 2 : Nat) : Int) from n_tdiv _ 2, Nat.div_div_eq_div_mul, ← Nat.pow_succ]
      exact wrap32 (Nat.lt_of_le_of_lt (Nat.div_le_self _ _) (Nat.lt_trans hdl (by decide)))
    simp only [e32]
    simp only [Tryd.f139, go_sem]
    refine qif_d (fun h' => ?_) (fun h' => ?_)
    · simp only [Tryd.f139, e3, e4, go_sem]
      refine ⟨c + 1, by omega, by omega, ?_⟩
      simp [Wk, sget, killL, kill1, SV.key, NL, VL, u, e32]
    · simp only [Tryd.f139, go_sem]
      have : c = bitLen d := by omega
      rw [this, hbl]

theorem c_rBit (x : Nat) (i : Int) (hi : -9223372036854775808 ≤ i ∧ i < 9223372036854775808) (hx : (dg B x).length ≤ 4194304) : PC E 106 [VN x, .int .i64 i] (e32 (if i < 0 then 0 else x / 2 ^ i.toNat % 2)) := by
  refine PC.of_body follows Tryd.func106 (by decide +kernel) rfl (by kernel_rfl) (Nat.le_of_ble_eq_true rfl) (walk ?_)
  simp only [VN, VL]
  generalize hn : (dg B x).length = n at *
  simp only [Tryd.f106, go_sem]
  refine qif_d (fun h => ?_) (fun h => ?_)
  · simp only [Tryd.f106, go_sem]
    rw [if_pos h]
    rfl
  · obtain ⟨k, rfl⟩ : ∃ k : Nat, i = k := ⟨i.toNat, by omega⟩
    have e1 : IntKind.wrap .i64 ((k : Int).tdiv 16) = ((k / 16 : Nat) : Int) := by
      rw [show (k : Int).tdiv 16 = ((k / 16 : Nat) : Int) from n_tdiv _ 16, wrap64 (by omega) (by omega)]
    have e2 : (k : Int).tmod 16 = ((k % 16 : Nat) : Int) := n_tmod _ 16
    rw [if_neg h, Int.toNat_natCast]
    simp only [Tryd.f106, e1, go_sem]
    refine qif_d (fun h' => ?_) (fun h' => ?_)
    · simp only [Tryd.f106, go_sem]
      have hlt : x < B ^ (k / 16) := lt_of_dg (by omega)
      have : x < 2 ^ k := by
        refine Nat.lt_of_lt_of_le hlt ?_
        rw [show B = 2 ^ 16 from rfl, ← Nat.pow_mul]
        exact Nat.pow_le_pow_right (by decide) (by omega)
      rw [Nat.div_eq_of_lt this]
      rfl
    · have hdx : (V (dg B x))[k / 16]? = some (e32 (x / B ^ (k / 16) % B)) := vn_at (by omega)
      have hbd := bit_digit (k := 16) (x := x) (i := k) (by decide)
      have hdl : x / B ^ (k / 16) % B < B := Nat.mod_lt _ B0
      rw [show (2 : Nat) ^ 16 = B from rfl] at hbd
      generalize x / B ^ (k / 16) % B = d at *
      simp only [Tryd.f106, e1, go_sem]
      refine qand_i (by first | omega | (simp [V_length, U_length, tab_length, maxLen]; done) | (simp [V_length, U_length, tab_length, maxLen]; omega) | (refine ⟨?_, ?_⟩ <;> first | omega | (simp [V_length, U_length, tab_length, maxLen]; done) | (simp [V_length, U_length, tab_length, maxLen]; omega))) ?_; simp only [Tryd.f106, e1, go_sem]
      refine qval_i (congrArg (Option.map _) hdx) ?_
      simp only [Tryd.f106, e32, go_sem]
      refine PLoop.intro (fun c : Nat => ⟨[(1, .val (.int .i64 k)), (5, .val (e32 (d / 2 ^ c))), (6, .val (.int .i64 c))], []⟩) (fun c => c ≤ k % 16) (fun c => k % 16 - c) 0 (Nat.zero_le _) ?_ fun c hc => walk ?_
      · simp [Wk, sget, killL, kill1, SV.key, NL, VL, u, e32]
      have e4 : IntKind.wrap .u32 (((d / 2 ^ c : Nat) : Int).tdiv 2) = ((d / 2 ^ (c + 1) : Nat) : Int) := by
        rw [show ((d / 2 ^ c : Nat) : Int).tdiv 2 = ((d / 2 ^ c / 2 : Nat) : Int) from n_tdiv _ 2, Nat.div_div_eq_div_mul, ← Nat.pow_succ]
        exact wrap32 (Nat.lt_of_le_of_lt (Nat.div_le_self _ _) (Nat.lt_trans hdl (by decide)))
      have e5 : IntKind.wrap .i64 ((c : Int) + 1) = ((c + 1 : Nat) : Int) := by rw [wrap64 (by omega) (by omega)]; omega
      have e6 : ((d / 2 ^ c : Nat) : Int).tmod 2 = ((d / 2 ^ c % 2 : Nat) : Int) := n_tmod _ 2
      simp only [e32]
      simp only [Tryd.f106, e2, go_sem]
      refine qif_d (fun h2 => ?_) (fun h2 => ?_)
      · simp only [Tryd.f106, e4, e5, go_sem]
        refine ⟨c + 1, by omega, by omega, ?_⟩
        simp [Wk, sget, killL, kill1, SV.key, NL, VL, u, e32]
      · simp only [Tryd.f106, e6, go_sem]
        have : c = k % 16 := by omega
        rw [this, hbd]
        rfl

theorem B_pow (n : Nat) : B ^ n = 2 ^ (16 * n) := by rw [Nat.pow_mul]
theorem bitLen_digits (x : Nat) : bitLen x ≤ 16 * (dg B x).length := by
  rw [bitLen_le, ← B_pow]
  exact lt_of_dg (by omega)

theorem c_rShr (x : Nat) (n : Int) (hn : -9223372036854775808 ≤ n ∧ n < 9223372036854775808) (hx : (dg B x).length ≤ 4194304) : PC E 107 [VN x, .int .i64 n] (.tuple [VN (x / 2 ^ n.toNat), .bool (decide (x % 2 ^ n.toNat ≠ 0))]) := by
  refine PC.of_body follows Tryd.func107 (by decide +kernel) rfl (by kernel_rfl) (Nat.le_of_ble_eq_true rfl) (walk ?_)
  simp only [Tryd.f107, go_sem]
  refine qif_d (fun h => ?_) (fun h => ?_)
  · obtain ⟨k, hkz⟩ : ∃ k : Nat, 0 = k := ⟨0, rfl⟩
    have hkn : n.toNat = k := by omega
    have hk64 : (k : Int) < 9223372036854775808 := by omega
    rw [hkn]
    simp only [Tryd.f107, go_sem]
    refine qcall_i (c_rBits x (by omega)) ?_
    have hbl : bitLen x ≤ 67108864 := by have := bitLen_digits x; omega
    have hb := bitLen_le x
    have hbt := (bitLen_le x (bitLen x)).1 (Nat.le_refl _)
    have hlen : ∀ z, z ≤ x → (dg B z).length ≤ 4194304 := fun z hz => by
      have h1 : (dg B z).length ≤ (dg B x).length := by
        rw [dg_length_le B2]; exact Nat.lt_of_le_of_lt hz (lt_of_dg (by omega))
      omega
    generalize hL : bitLen x = L at *
    have e1 : IntKind.wrap .i64 ((L : Int) - 1) = (L : Int) - 1 := wrap64 (by omega) (by omega)
    simp only [Tryd.f107, e1, go_sem]
    refine PLoop.nilval 7 rfl ?_
    refine PLoop.intro (fun i : Nat => ⟨[(0, .val (VN x)), (1, .val (.int .i64 k)), (5, .val (.bool false)), (6, .val (.int .i64 L)), (7, .val (VN (x / 2 ^ i))), (8, .val (.int .i64 ((i : Int) - 1)))], []⟩) (fun i => i ≤ L ∧ (k ≤ i ∨ i = L)) id L ⟨Nat.le_refl _, .inr rfl⟩ ?_ fun i hi => walk ?_
    · rw [Nat.div_eq_of_lt hbt]
      simp [Wk, sget, killL, kill1, SV.key, NL, VL, u, e32, VN, dg_zero, V, ← hkz]
    obtain ⟨hi, hki⟩ := hi
    simp only [Tryd.f107, go_sem]
    refine qif_d (fun h1 => ?_) (fun h1 => ?_)
    · obtain ⟨i, rfl⟩ : ∃ j, i = j + 1 := ⟨i - 1, by omega⟩
      have e2 : ((i + 1 : Nat) : Int) - 1 = i := by omega
      have e3 : IntKind.wrap .i64 ((i : Int) - 1) = (i : Int) - 1 := wrap64 (by omega) (by omega)
      have hstep : 2 * (x / 2 ^ (i + 1)) + x / 2 ^ i % 2 = x / 2 ^ i := by
        rw [Nat.pow_succ, ← Nat.div_div_eq_div_mul]; omega
      have hd := c_Double (x / 2 ^ (i + 1)) (x / 2 ^ i % 2) (by omega) (hlen _ (Nat.div_le_self _ _))
      rw [hstep] at hd
      simp only [Tryd.f107, e2, go_sem]
      refine qcall_i (c_rBit x i (by omega) (by omega)) ?_
      rw [if_neg (by omega), Int.toNat_natCast]
      simp only [Tryd.f107, go_sem]
      refine qcall_i hd ?_
      simp only [Tryd.f107, e3, go_sem]
      refine ⟨i, ⟨by omega, by omega⟩, by simp only [id]; omega, ?_⟩
      simp [Wk, sget, killL, kill1, SV.key, NL, VL, u, e32]
    · have hout : x / 2 ^ i = x / 2 ^ k := by
        rcases hki with h2 | h2
        · rw [show i = k by omega]
        · subst h2
          have hLk : i ≤ k := by omega
          rw [Nat.div_eq_of_lt hbt, Nat.div_eq_of_lt ((hb k).1 (by omega))]
      rw [hout]
      simp only [Tryd.f107, go_sem]
      refine PLoop.intro (fun i : Nat => ⟨[(0, .val (VN x)), (1, .val (.int .i64 k)), (6, .val (.int .i64 L)), (7, .val (VN (x / 2 ^ k))), (9, .val (.bool (decide (x % 2 ^ i ≠ 0)))), (10, .val (.int .i64 i))], []⟩) (fun i => i ≤ k ∧ i ≤ L) (fun i => k - i) 0 ⟨Nat.zero_le _, Nat.zero_le _⟩ ?_ fun j hj => walk ?_
      · simp [Wk, sget, killL, kill1, SV.key, NL, VL, u, e32, Nat.mod_one]
      obtain ⟨hj, hjL⟩ := hj
      have hfin : (j = k ∨ j = L) → decide (x % 2 ^ j ≠ 0) = decide (x % 2 ^ k ≠ 0) := fun h2 => by
        rcases h2 with rfl | rfl
        · rfl
        · rw [Nat.mod_eq_of_lt hbt, Nat.mod_eq_of_lt ((hb k).1 (by omega))]
      have hbit : decide (x % 2 ^ (j + 1) ≠ 0) = (decide (x % 2 ^ j ≠ 0) || decide ((x / 2 ^ j % 2 : Nat) = 1)) := by
        rw [Nat.pow_succ, Nat.mod_mul]
        have h3 := Nat.two_pow_pos j
        rw [Bool.eq_iff_iff]
        simp only [decide_eq_true_eq, Bool.or_eq_true]
        have h4 : 2 ^ j * (x / 2 ^ j % 2) = 0 ↔ x / 2 ^ j % 2 = 0 := by
          rw [Nat.mul_eq_zero]; omega
        omega
      have e4 : IntKind.wrap .i64 ((j : Int) + 1) = ((j + 1 : Nat) : Int) := by rw [wrap64 (by omega) (by omega)]; omega
      simp only [Tryd.f107, go_sem]
      refine qif_d (fun h2 => ?_) (fun h2 => ?_)
      · simp only [Tryd.f107, go_sem]
        refine qif_d (fun h3 => ?_) (fun h3 => ?_)
        · simp only [Tryd.f107, go_sem]
          refine qif_i (fun h4 => ?_) (fun h4 => ?_)
          · simp only [Tryd.f107, e4, h4, go_sem]
            refine ⟨j + 1, ⟨by omega, by omega⟩, by omega, ?_⟩
            rw [h4, Bool.true_or] at hbit
            simp [Wk, sget, killL, kill1, SV.key, NL, VL, u, e32, hbit]
          · simp only [Tryd.f107, h4, go_sem]
            refine qcall_i (c_rBit x j (by omega) (by omega)) ?_
            rw [if_neg (by omega), Int.toNat_natCast]
            rw [h4, Bool.false_or] at hbit
            simp only [Tryd.f107, e32, e4, go_sem]
            refine ⟨j + 1, ⟨by omega, by omega⟩, by omega, ?_⟩
            have h5 : decide (((x / 2 ^ j % 2 : Nat) : Int) = 1) = decide (x % 2 ^ (j + 1) ≠ 0) := by
              rw [hbit, decide_eq_decide]; omega
            rw [h5]
            simp [Wk, sget, killL, kill1, SV.key, NL, VL, u, e32]
        · simp only [Tryd.f107, go_sem]
          rw [hfin (by omega)]
      · simp only [Tryd.f107, go_sem]
        rw [hfin (by omega)]
  · obtain ⟨k, rfl⟩ : ∃ k : Nat, n = k := ⟨n.toNat, by omega⟩
    have hkn : (k : Int).toNat = k := by omega
    have hkz : True := trivial
    have hk64 : (k : Int) < 9223372036854775808 := by omega
    rw [hkn]
    simp only [Tryd.f107, go_sem]
    refine qcall_i (c_rBits x (by omega)) ?_
    have hbl : bitLen x ≤ 67108864 := by have := bitLen_digits x; omega
    have hb := bitLen_le x
    have hbt := (bitLen_le x (bitLen x)).1 (Nat.le_refl _)
    have hlen : ∀ z, z ≤ x → (dg B z).length ≤ 4194304 := fun z hz => by
      have h1 : (dg B z).length ≤ (dg B x).length := by
        rw [dg_length_le B2]; exact Nat.lt_of_le_of_lt hz (lt_of_dg (by omega))
      omega
    generalize hL : bitLen x = L at *
    have e1 : IntKind.wrap .i64 ((L : Int) - 1) = (L : Int) - 1 := wrap64 (by omega) (by omega)
    simp only [Tryd.f107, e1, go_sem]
    refine PLoop.nilval 7 rfl ?_
    refine PLoop.intro (fun i : Nat => ⟨[(0, .val (VN x)), (1, .val (.int .i64 k)), (5, .val (.bool false)), (6, .val (.int .i64 L)), (7, .val (VN (x / 2 ^ i))), (8, .val (.int .i64 ((i : Int) - 1)))], []⟩) (fun i => i ≤ L ∧ (k ≤ i ∨ i = L)) id L ⟨Nat.le_refl _, .inr rfl⟩ ?_ fun i hi => walk ?_
    · rw [Nat.div_eq_of_lt hbt]
      simp [Wk, sget, killL, kill1, SV.key, NL, VL, u, e32, VN, dg_zero, V, hkz]
    obtain ⟨hi, hki⟩ := hi
    simp only [Tryd.f107, go_sem]
    refine qif_d (fun h1 => ?_) (fun h1 => ?_)
    · obtain ⟨i, rfl⟩ : ∃ j, i = j + 1 := ⟨i - 1, by omega⟩
      have e2 : ((i + 1 : Nat) : Int) - 1 = i := by omega
      have e3 : IntKind.wrap .i64 ((i : Int) - 1) = (i : Int) - 1 := wrap64 (by omega) (by omega)
      have hstep : 2 * (x / 2 ^ (i + 1)) + x / 2 ^ i % 2 = x / 2 ^ i := by
        rw [Nat.pow_succ, ← Nat.div_div_eq_div_mul]; omega
      have hd := c_Double (x / 2 ^ (i + 1)) (x / 2 ^ i % 2) (by omega) (hlen _ (Nat.div_le_self _ _))
      rw [hstep] at hd
      simp only [Tryd.f107, e2, go_sem]
      refine qcall_i (c_rBit x i (by omega) (by omega)) ?_
      rw [if_neg (by omega), Int.toNat_natCast]
      simp only [Tryd.f107, go_sem]
      refine qcall_i hd ?_
      simp only [Tryd.f107, e3, go_sem]
      refine ⟨i, ⟨by omega, by omega⟩, by simp only [id]; omega, ?_⟩
      simp [Wk, sget, killL, kill1, SV.key, NL, VL, u, e32]
    · have hout : x / 2 ^ i = x / 2 ^ k := by
        rcases hki with h2 | h2
        · rw [show i = k by omega]
        · subst h2
          have hLk : i ≤ k := by omega
          rw [Nat.div_eq_of_lt hbt, Nat.div_eq_of_lt ((hb k).1 (by omega))]
      rw [hout]
      simp only [Tryd.f107, go_sem]
      refine PLoop.intro (fun i : Nat => ⟨[(0, .val (VN x)), (1, .val (.int .i64 k)), (6, .val (.int .i64 L)), (7, .val (VN (x / 2 ^ k))), (9, .val (.bool (decide (x % 2 ^ i ≠ 0)))), (10, .val (.int .i64 i))], []⟩) (fun i => i ≤ k ∧ i ≤ L) (fun i => k - i) 0 ⟨Nat.zero_le _, Nat.zero_le _⟩ ?_ fun j hj => walk ?_
      · simp [Wk, sget, killL, kill1, SV.key, NL, VL, u, e32, Nat.mod_one]
      obtain ⟨hj, hjL⟩ := hj
      have hfin : (j = k ∨ j = L) → decide (x % 2 ^ j ≠ 0) = decide (x % 2 ^ k ≠ 0) := fun h2 => by
        rcases h2 with rfl | rfl
        · rfl
        · rw [Nat.mod_eq_of_lt hbt, Nat.mod_eq_of_lt ((hb k).1 (by omega))]
      have hbit : decide (x % 2 ^ (j + 1) ≠ 0) = (decide (x % 2 ^ j ≠ 0) || decide ((x / 2 ^ j % 2 : Nat) = 1)) := by
        rw [Nat.pow_succ, Nat.mod_mul]
        have h3 := Nat.two_pow_pos j
        rw [Bool.eq_iff_iff]
        simp only [decide_eq_true_eq, Bool.or_eq_true]
        have h4 : 2 ^ j * (x / 2 ^ j % 2) = 0 ↔ x / 2 ^ j % 2 = 0 := by
          rw [Nat.mul_eq_zero]; omega
        omega
      have e4 : IntKind.wrap .i64 ((j : Int) + 1) = ((j + 1 : Nat) : Int) := by rw [wrap64 (by omega) (by omega)]; omega
      simp only [Tryd.f107, go_sem]
      refine qif_d (fun h2 => ?_) (fun h2 => ?_)
      · simp only [Tryd.f107, go_sem]
        refine qif_d (fun h3 => ?_) (fun h3 => ?_)
        · simp only [Tryd.f107, go_sem]
          refine qif_i (fun h4 => ?_) (fun h4 => ?_)
          · simp only [Tryd.f107, e4, h4, go_sem]
            refine ⟨j + 1, ⟨by omega, by omega⟩, by omega, ?_⟩
            rw [h4, Bool.true_or] at hbit
            simp [Wk, sget, killL, kill1, SV.key, NL, VL, u, e32, hbit]
          · simp only [Tryd.f107, h4, go_sem]
            refine qcall_i (c_rBit x j (by omega) (by omega)) ?_
            rw [if_neg (by omega), Int.toNat_natCast]
            rw [h4, Bool.false_or] at hbit
            simp only [Tryd.f107, e32, e4, go_sem]
            refine ⟨j + 1, ⟨by omega, by omega⟩, by omega, ?_⟩
            have h5 : decide (((x / 2 ^ j % 2 : Nat) : Int) = 1) = decide (x % 2 ^ (j + 1) ≠ 0) := by
              rw [hbit, decide_eq_decide]; omega
            rw [h5]
            simp [Wk, sget, killL, kill1, SV.key, NL, VL, u, e32]
        · simp only [Tryd.f107, go_sem]
          rw [hfin (by omega)]
      · simp only [Tryd.f107, go_sem]
        rw [hfin (by omega)]
end Go.Proofs.YtejmlngnpekagaaDoor
end

/- What planimeterref01's Shl hands back; digits and limbs of one number; the laws' helpers of layer 1. -/
section
open Go PG Go.Proofs
set_option maxRecDepth 100000
set_option linter.unusedSimpArgs false
set_option linter.unusedVariables false
namespace Go.Proofs.YtejmlngnpekagaaDoor
attribute [local go_sem] Lay2 Lay3 Lay4 Lay5 Lay6 Lay7 Lay8 Lay9 Lay10 Lay11 Lay12 Lay13 Lay14 Lay15 Lay16 Lay17 Lay18 Lay19 Lay21 Lay22 Lay23 Lay24 Lay25 Lay30 Lay33 Lay36 Lay37 Lay46 Lay47 Lay48 Lay53 Lay54 Lay55 Lay59 Lay100 Lay101 Lay127 Lay146 Lay162 Lay168 Lay169 Lay173 Lay185 Lay186 Lay187 Lay188 Lay189 Lay191 Lay192 Lay194 Lay195 Lay196 Lay199 qexec_seq qexec_skip qexec_exit qexec_ret qexec_block qexec_loop qexec_range qexec_cond qexec_region qexec_drawn qops_nil qops_none qops_some put_some put_none pblk_exit pblk_other newDsts_nil inlDsts_nil isInl sget_cons sget_nil qval_some qbool_some qgs_bool qgs_und qfree_some qgrd_true qgrd_false qif_true qif_false qval_ite qval_itn qand_true map_ite map_some' map_none' qdo_move qdo_assign qdo_binOp qdo_pick qdo_unOp qdo_convert qdo_extract qdo_field qdo_fieldAddr qdo_alloc qdo_box qdo_build qdo_buildSlice qdo_load qdo_store qdo_nilCheck qdo_makeFunc qdo_makeSlice qdo_slice qdo_indexAddr qdo_call qcont_val qcont_new qcont_st qcont_app0 qcont_app qcont_inl qcont_call njSV_val njSV_nil njSV_row njSV_ptr njSV_sub binV_val binV_nil binV_nn binV_ptr bin_np bin_nnp nilCmp bin_add bin_sub bin_mul bin_quo bin_rem bin_and bin_or bin_xor bin_andNot bin_eql bin_neq bin_lss bin_leq bin_gtr bin_geq bin_shl bin_shr bin_seql bin_sneq bin_sadd bin_beql bin_aeql bin_aneq eqAnd_some eqCells_nil eqCells_cons fieldTypes isStruct eqCell bin_bneq un_not un_neg nj_ite Nat.beq stepA stepR isNew opSV constSV RV.sv allSome E_mu E_own qkeyIn_none qkeyIn_some qkeyAt_none qkeyAt_some Bool.or_false Bool.false_or Bool.or_true Bool.true_or cst setB res resSV pstart startL killL kill1 eraL frzL svPV rvPV rvInt rvSlice frzOf close closeL pconv pbuiltin pmax2 partPV setCells fillPV zrow bound newSV PV.cells Bk.cells Bk.with SV.key pres presL_nil presL_tmp presL_cell presC2_some cellPV_ptr presC List.toList_toArray List.size_toArray List.getElem?_drop Nat.mul_one Int.toNat_natCast Nat.not_lt_zero Nat.lt_irrefl decide_true decide_false Nat.not_lt Option.some.injEq PV.lst.injEq PV.int.injEq PV.bool.injEq PV.tuple.injEq List.cons.injEq Option.map_some Option.map_none Option.bind_some Option.toList List.map_cons List.map_nil List.nil_append List.cons_append List.append_nil List.zip_cons_cons List.zip_nil_left List.zip_nil_right List.getElem?_cons_zero List.getElem?_cons_succ List.drop_zero List.drop_succ_cons List.take_succ_cons List.take_zero List.set_cons_zero List.set_cons_succ List.length_cons List.length_nil List.length_set List.replicate_one List.replicate_zero bne_self_eq_false beq_self_eq_true Nat.zero_add Nat.add_zero Nat.zero_mul Bool.false_eq_true Bool.true_eq_false Bool.not_true Bool.not_false and_true true_and false_and and_false or_false false_or or_true true_or not_true_eq_false not_false_eq_true ne_eq gt_iff_lt List.mem_cons List.not_mem_nil
attribute [local go_sem ↓] pseq_normal pseq_ret pseq_exit pblk_normal pblk_ret newDsts_cons inlDsts_cons gdst_zero gdst_succ retQ_normal retQ_ret qneed_nil qneed_cons retM_normal retM_ret endR_normal endR_ret endR_exit
attribute [local go_sem] Int.reduceToNat Int.reduceEq Int.reduceNe Int.reduceLT Int.reduceLE Int.reduceNeg Int.reduceAdd Nat.reduceEqDiff Nat.reduceAdd Nat.reduceSub Nat.reduceMul Nat.reduceLeDiff Nat.reduceLT
attribute [local go_sem ↓] reduceIte reduceCtorEq

theorem dg_shift {b : Nat} (hb : 2 ≤ b) {x : Nat} (hx : x ≠ 0) : ∀ k, dg b (x * b ^ k) = List.replicate k 0 ++ dg b x
  | 0 => by simp
  | k + 1 => by
    have h1 : x * b ^ (k + 1) = b * (x * b ^ k) := by rw [Nat.pow_succ, ← Nat.mul_assoc, Nat.mul_comm]
    have h2 : x * b ^ (k + 1) ≠ 0 := by
      rw [h1]
      exact Nat.mul_ne_zero (by omega) (Nat.mul_ne_zero hx (Nat.pos_iff_ne_zero.1 (Nat.pow_pos (by omega))))
    rw [dg_pos hb h2, h1, Nat.mul_mod_right, Nat.mul_div_cancel_left _ (by omega), dg_shift hb hx k, List.replicate_succ]
    rfl

theorem dg_len_W (x : Nat) : (dg W x).length = ((dg B x).length + 3) / 4 := by
  have h : ∀ k, (dg W x).length ≤ k ↔ (dg B x).length ≤ 4 * k := fun k => by
    rw [dg_length_le W2, dg_length_le B2, Nat.pow_mul, ← W_B]
  have h1 := h ((dg W x).length)
  have h2 := h (((dg B x).length + 3) / 4)
  omega

theorem dgB_le_of_bits {x n : Nat} (h : bitLen x ≤ 16 * n) : (dg B x).length ≤ n := by
  rw [dg_length_le B2, B_pow]
  exact (bitLen_le _ _).1 h

theorem bits_of_dgB {x n : Nat} (h : (dg B x).length ≤ n) : bitLen x ≤ 16 * n := Nat.le_trans (bitLen_digits x) (by omega)

theorem bitLen_shl (x n : Nat) (hx : x ≠ 0) : bitLen (x * 2 ^ n) = bitLen x + n := by
  have h : ∀ k, bitLen (x * 2 ^ n) ≤ k ↔ bitLen x + n ≤ k := fun k => by
    rw [bitLen_le]
    constructor
    · intro h
      have hn : n ≤ k := by
        refine Nat.le_of_not_lt fun hlt => ?_
        have h1 : 2 ^ k ≤ 2 ^ n := Nat.pow_le_pow_right (by decide) (by omega)
        have h2 : 2 ^ n ≤ x * 2 ^ n := Nat.le_mul_of_pos_left _ (by omega)
        omega
      have : x < 2 ^ (k - n) := by
        rw [show 2 ^ k = 2 ^ (k - n) * 2 ^ n by rw [← Nat.pow_add]; congr 1; omega] at h
        exact Nat.lt_of_mul_lt_mul_right h
      have := (bitLen_le x (k - n)).2 this
      omega
    · intro h
      have : x < 2 ^ (k - n) := (bitLen_le x (k - n)).1 (by omega)
      rw [show 2 ^ k = 2 ^ (k - n) * 2 ^ n by rw [← Nat.pow_add]; congr 1; omega]
      exact Nat.mul_lt_mul_of_pos_right this (Nat.two_pow_pos n)
  have h1 := h (bitLen (x * 2 ^ n))
  have h2 := h (bitLen x + n)
  omega

theorem c_rShl (x n : Nat) (hx : (dg B x).length ≤ 1048576) (hn : n ≤ 16777216) : PC E 99 [VN x, .int .i64 n] (VN (x * 2 ^ n)) := by
  refine PC.of_body follows Tryd.func99 (by decide +kernel) rfl (by kernel_rfl) (Nat.le_of_ble_eq_true rfl) (walk ?_)
  have hbx : bitLen x ≤ 16777216 := Nat.le_trans (bits_of_dgB hx) (by decide)
  have hsmall : ∀ z, bitLen z ≤ 67108864 → (dg B z).length ≤ 4194304 := fun z hz => dgB_le_of_bits (by omega)
  simp only [VN, VL]
  generalize hl : (dg B x).length = l at *
  simp only [Tryd.f99, go_sem]
  refine qif_d (fun h => ?_) (fun h => ?_)
  · simp only [Tryd.f99, go_sem]
    have h0 : x = 0 := by
      have := lt_of_dg (x := x) (i := 0) (by omega)
      rw [Nat.pow_zero] at this
      omega
    subst h0
    rw [Nat.zero_mul]
    rfl
  · have h0 : x ≠ 0 := fun e => by subst e; simp [dg_zero] at hl; omega
    have e1 : IntKind.wrap .i64 ((n : Int).tdiv 16) = ((n / 16 : Nat) : Int) := by
      rw [show (n : Int).tdiv 16 = ((n / 16 : Nat) : Int) from n_tdiv _ 16, wrap64 (by omega) (by omega)]
    have e2 : (n : Int).tmod 16 = ((n % 16 : Nat) : Int) := n_tmod _ 16
    have hsh := dg_shift B2 h0 (n / 16)
    have hlen : (List.replicate (n / 16) (PV.int .u32 0) ++ V (dg B x)) = V (dg B (x * B ^ (n / 16))) := by
      rw [hsh, ← V_append]
      congr 1
      simp [V, e32]
    have hlen2 : (dg B (x * B ^ (n / 16))).length = n / 16 + l := by rw [hsh]; simp [hl]
    have hpow : x * B ^ (n / 16) * 2 ^ (n % 16) = x * 2 ^ n := by
      rw [Nat.mul_assoc, B_pow, ← Nat.pow_add, Nat.div_add_mod]
    have hb2 : bitLen (x * B ^ (n / 16)) ≤ 33554432 := by
      rw [B_pow, bitLen_shl _ _ h0]; omega
    simp only [Tryd.f99, e1, go_sem]
    refine qand_i (by first | omega | (simp [V_length, U_length, tab_length, maxLen]; done) | (simp [V_length, U_length, tab_length, maxLen]; omega) | (refine ⟨?_, ?_⟩ <;> first | omega | (simp [V_length, U_length, tab_length, maxLen]; done) | (simp [V_length, U_length, tab_length, maxLen]; omega))) ?_; simp only [Tryd.f99, go_sem]
    refine qand_i (by first | omega | (simp [V_length, U_length, tab_length, maxLen]; done) | (simp [V_length, U_length, tab_length, maxLen]; omega) | (refine ⟨?_, ?_⟩ <;> first | omega | (simp [V_length, U_length, tab_length, maxLen]; done) | (simp [V_length, U_length, tab_length, maxLen]; omega))) ?_; simp only [Tryd.f99, go_sem]
    refine qand_i ⟨by simp only [maxLen]; omega, by omega⟩ ?_
    simp only [Tryd.f99, hlen, go_sem]
    refine PLoop.frz 5 14 rfl rfl ?_
    refine PLoop.intro (fun i : Nat => ⟨[(1, .val (.int .i64 n)), (5, .val (VN (x * B ^ (n / 16) * 2 ^ i))), (6, .val (.int .i64 i))], []⟩) (fun i => i ≤ n % 16) (fun i => n % 16 - i) 0 (Nat.zero_le _) ?_ fun i hi => walk ?_
    · simp [Wk, sget, killL, kill1, SV.key, NL, VL, u, e32, VN, ← hlen2]
    have e3 : IntKind.wrap .i64 ((i : Int) + 1) = ((i + 1 : Nat) : Int) := by rw [wrap64 (by omega) (by omega)]; omega
    simp only [Tryd.f99, e2, go_sem]
    refine qif_d (fun h2 => ?_) (fun h2 => ?_)
    · have hd := c_Double (x * B ^ (n / 16) * 2 ^ i) 0 (by omega) (hsmall _ (by
        rw [Nat.mul_assoc, B_pow, ← Nat.pow_add, bitLen_shl _ _ h0]; omega))
      rw [show 2 * (x * B ^ (n / 16) * 2 ^ i) + 0 = x * B ^ (n / 16) * 2 ^ (i + 1) by rw [Nat.pow_succ, Nat.add_zero, ← Nat.mul_assoc (x * B ^ (n / 16)), Nat.mul_comm 2]] at hd
      simp only [Tryd.f99, go_sem]
      refine qcall_i hd ?_
      simp only [Tryd.f99, e3, go_sem]
      refine ⟨i + 1, by omega, by omega, ?_⟩
      simp [Wk, sget, killL, kill1, SV.key, NL, VL, u, e32]
    · simp only [Tryd.f99, go_sem]
      rw [show i = n % 16 by omega, hpow]

theorem n_To (a : List Nat) (ha : a.length ≤ 1048576) (oa : Ok W a) : PC E 105 [NL a] (VN (vl a)) := c_To a ha oa

theorem dgB_of_vl {a : List Nat} (oa : Ok W a) : (dg B (vl a)).length ≤ 4 * a.length := by
  rw [dg_length_le B2, Nat.pow_mul, ← W_B]
  exact dv_lt a oa

end Go.Proofs.YtejmlngnpekagaaDoor
end

/- The contracts of nat's functions at whatever reads as a number: a list of limbs that is worth it. -/
section
open Go PG Go.Proofs
set_option maxRecDepth 100000
set_option linter.unusedSimpArgs false
set_option linter.unusedVariables false
namespace Go.Proofs.YtejmlngnpekagaaDoor

/-- It reads as the number x. -/
def Num (p : PV) (x : Nat) : Prop := ∃ l, p = NL l ∧ Ok W l ∧ vl l = x ∧ l.length ≤ 1048576

theorem num_NN {x : Nat} (h : (dg W x).length ≤ 1048576) : Num (NN x) x := ⟨_, rfl, ok_dg W2 x, dv_dg W2 x, h⟩
theorem num_NL {l : List Nat} (ol : Ok W l) (h : l.length ≤ 1048576) : Num (NL l) (vl l) := ⟨l, rfl, ol, rfl, h⟩
theorem num_nil : Num (.lst 0 []) 0 := ⟨[], rfl, Ok.nil, rfl, by decide⟩
theorem w_of_bits {x n : Nat} (h : bitLen x ≤ 64 * n) : (dg W x).length ≤ n := by
  rw [dg_len_W]
  have := dgB_le_of_bits (x := x) (n := 4 * n) (by omega)
  omega
theorem num_bits {x : Nat} (h : bitLen x ≤ 1000000) : Num (NN x) x := num_NN (Nat.le_trans (w_of_bits (n := 15625) (by omega)) (by decide))
theorem bits_of_vl {l : List Nat} (ol : Ok W l) : bitLen (vl l) ≤ 64 * l.length := (bitLen_le _ _).2 (by rw [← W_pow]; exact dv_lt l ol)
theorem bitLen_mono {x y : Nat} (h : x ≤ y) : bitLen x ≤ bitLen y := (bitLen_le _ _).2 (Nat.lt_of_le_of_lt h ((bitLen_le y _).1 (Nat.le_refl _)))
theorem bitLen_add {x y n : Nat} (hx : bitLen x ≤ n) (hy : bitLen y ≤ n) : bitLen (x + y) ≤ n + 1 := by
  rw [bitLen_le] at hx hy ⊢
  rw [Nat.pow_succ]
  omega
theorem bitLen_shl_le (x n : Nat) : bitLen (x * 2 ^ n) ≤ bitLen x + n := by
  by_cases h : x = 0
  · subst h; rw [Nat.zero_mul]; exact Nat.le_trans (Nat.le_of_eq (show bitLen 0 = 0 from rfl)) (Nat.zero_le _)
  · rw [bitLen_shl x n h]; exact Nat.le_refl _

theorem k_Bare {p : PV} {x : Nat} (h : Num p x) : PC E 76 [p] (NN x) := by
  obtain ⟨l, rfl, ol, rfl, hl⟩ := h; exact n_Bare l (by omega) ol
theorem k_Small {p : PV} {x : Nat} (h : Num p x) : PC E 95 [p] (.tuple [u (if x < W then x else 0), .bool (decide (x < W))]) := by
  obtain ⟨l, rfl, ol, rfl, hl⟩ := h; exact c_Small l (by omega) ol
theorem k_Add {p q : PV} {x y : Nat} (h : Num p x) (h' : Num q y) : PC E 92 [p, q] (NN (x + y)) := by
  obtain ⟨l, rfl, ol, rfl, hl⟩ := h; obtain ⟨l', rfl, ol', rfl, hl'⟩ := h'; exact c_Add l l' hl hl' ol ol'
theorem k_Cmp {p q : PV} {x y : Nat} (h : Num p x) (h' : Num q y) : PC E 112 [p, q] (.int .i64 (sgn x y)) := by
  obtain ⟨l, rfl, ol, rfl, hl⟩ := h; obtain ⟨l', rfl, ol', rfl, hl'⟩ := h'; exact c_Cmp l l' hl hl' ol ol'
theorem k_Sub_lt {p q : PV} {x y : Nat} (h : Num p x) (h' : Num q y) (hlt : x < y) : PC E 113 [p, q] (.tuple [.lst 0 [], .int .i64 1]) := by
  obtain ⟨l, rfl, ol, rfl, hl⟩ := h; obtain ⟨l', rfl, ol', rfl, hl'⟩ := h'; exact PC.cast (c_Sub l l' hl hl' ol ol') (if_pos hlt)
theorem k_Sub {p q : PV} {x y : Nat} (h : Num p x) (h' : Num q y) (hle : y ≤ x) : PC E 113 [p, q] (.tuple [NN (x - y), .int .i64 0]) := by
  obtain ⟨l, rfl, ol, rfl, hl⟩ := h; obtain ⟨l', rfl, ol', rfl, hl'⟩ := h'; exact PC.cast (c_Sub l l' hl hl' ol ol') (if_neg (by omega))
theorem k_Bits {p : PV} {x : Nat} (h : Num p x) : PC E 87 [p] (.int .i64 (bitLen x)) := by
  obtain ⟨l, rfl, ol, rfl, hl⟩ := h; exact c_Bits l hl ol
theorem k_Odd {p : PV} {x : Nat} (h : Num p x) : PC E 91 [p] (.bool (decide (x % 2 = 1))) := by
  obtain ⟨l, rfl, ol, rfl, hl⟩ := h; exact c_Odd l ol
theorem k_Low {p : PV} {x : Nat} (h : Num p x) : PC E 118 [p] (.int .i64 (tz x)) := by
  obtain ⟨l, rfl, ol, rfl, hl⟩ := h; exact c_Low l hl ol
theorem k_Shr {p : PV} {x : Nat} (h : Num p x) (n : Int) : PC E 119 [p, .int .i64 n] (.tuple [NN (x / 2 ^ n.toNat), .bool (decide (x % 2 ^ n.toNat ≠ 0))]) := by
  obtain ⟨l, rfl, ol, rfl, hl⟩ := h; exact c_Shr l hl ol n
theorem k_Shl {p : PV} {x : Nat} (h : Num p x) (n : Int) (hn : -9223372036854775808 ≤ n) : PC E 94 [p, .int .i64 n] (shlV x n) := by
  obtain ⟨l, rfl, ol, rfl, hl⟩ := h; exact c_Shl l hl ol n hn
theorem k_Shln {p : PV} {x : Nat} (h : Num p x) (n : Nat) (hn : bitLen x + n ≤ 65536) : PC E 94 [p, .int .i64 n] (.tuple [NN (x * 2 ^ n), .int .i64 0]) :=
  PC.cast (k_Shl h n (by omega)) (by
    unfold shlV
    rw [if_neg (by omega)]
    by_cases hx : x = 0
    · rw [if_pos hx]; subst hx; rw [Nat.zero_mul]; rfl
    · rw [if_neg hx, if_neg (by omega), Int.toNat_natCast])
theorem k_Shrn {p : PV} {x : Nat} (h : Num p x) (n : Nat) : PC E 119 [p, .int .i64 n] (.tuple [NN (x / 2 ^ n), .bool (decide (x % 2 ^ n ≠ 0))]) := PC.cast (k_Shr h n) (by rw [Int.toNat_natCast])
theorem k_To {p : PV} {x : Nat} (h : Num p x) : PC E 105 [p] (VN x) := by
  obtain ⟨l, rfl, ol, rfl, hl⟩ := h; exact c_To l hl ol

theorem sgn_self (x : Int) : sgn x x = 0 := by simp [sgn]
theorem sgn_swap (x y : Int) : sgn y x = -sgn x y := by unfold sgn; split <;> split <;> omega
theorem sgn_neg (x y : Int) : sgn x y < 0 ↔ x < y := by unfold sgn; split <;> (try split) <;> omega
theorem sgn_pos (x y : Int) : 0 < sgn x y ↔ y < x := by unfold sgn; split <;> (try split) <;> omega
theorem sgn_zero (x y : Int) : sgn x y = 0 ↔ x = y := by unfold sgn; split <;> (try split) <;> omega
theorem sgn_mul (x y k : Nat) (hk : 0 < k) : sgn ((x * k : Nat) : Int) ((y * k : Nat) : Int) = sgn x y := by
  have h1 : x * k < y * k ↔ x < y := ⟨fun h => Nat.lt_of_mul_lt_mul_right h, fun h => Nat.mul_lt_mul_of_pos_right h hk⟩
  have h2 : y * k < x * k ↔ y < x := ⟨fun h => Nat.lt_of_mul_lt_mul_right h, fun h => Nat.mul_lt_mul_of_pos_right h hk⟩
  unfold sgn
  simp only [Int.ofNat_lt, h1, h2]
theorem sgn_le (x y : Int) : sgn x y ≤ 0 ↔ x ≤ y := by unfold sgn; split <;> (try split) <;> omega
theorem sgn_range (x y : Int) : -1 ≤ sgn x y ∧ sgn x y ≤ 1 := by unfold sgn; split <;> (try split) <;> omega
end Go.Proofs.YtejmlngnpekagaaDoor
end
