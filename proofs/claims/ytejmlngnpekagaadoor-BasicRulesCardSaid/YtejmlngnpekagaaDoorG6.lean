/- Several parts in one text. -/
import Derived.Test.YtejmlngnpekagaaDoorG5
import Derived.Laws.BitsAllLaws
/- A dyad as a sign, an odd number and an exponent; what dyad's functions that make one bare hand back. -/
section
open Go PG Go.Proofs
set_option maxRecDepth 100000
set_option linter.unusedSimpArgs false
set_option linter.unusedVariables false
namespace Go.Proofs.YtejmlngnpekagaaDoor
attribute [local go_sem] Lay2 Lay3 Lay4 Lay5 Lay6 Lay7 Lay8 Lay9 Lay10 Lay11 Lay12 Lay13 Lay14 Lay15 Lay16 Lay17 Lay18 Lay19 Lay21 Lay22 Lay23 Lay24 Lay25 Lay30 Lay33 Lay36 Lay37 Lay46 Lay47 Lay48 Lay53 Lay54 Lay55 Lay59 Lay100 Lay101 Lay127 Lay146 Lay162 Lay168 Lay169 Lay173 Lay185 Lay186 Lay187 Lay188 Lay189 Lay191 Lay192 Lay194 Lay195 Lay196 Lay199 qexec_seq qexec_skip qexec_exit qexec_ret qexec_block qexec_loop qexec_range qexec_cond qexec_region qexec_drawn qops_nil qops_none qops_some put_some put_none pblk_exit pblk_other newDsts_nil inlDsts_nil isInl sget_cons sget_nil qval_some qbool_some qgs_bool qgs_und qfree_some qgrd_true qgrd_false qif_true qif_false qval_ite qval_itn qand_true map_ite map_some' map_none' qdo_move qdo_assign qdo_binOp qdo_pick qdo_unOp qdo_convert qdo_extract qdo_field qdo_fieldAddr qdo_alloc qdo_box qdo_build qdo_buildSlice qdo_load qdo_store qdo_nilCheck qdo_makeFunc qdo_makeSlice qdo_slice qdo_indexAddr qdo_call qcont_val qcont_new qcont_st qcont_app0 qcont_app qcont_inl qcont_call njSV_val njSV_nil njSV_row njSV_ptr njSV_sub binV_val binV_nil binV_nn binV_ptr bin_np bin_nnp nilCmp bin_add bin_sub bin_mul bin_quo bin_rem bin_and bin_or bin_xor bin_andNot bin_eql bin_neq bin_lss bin_leq bin_gtr bin_geq bin_shl bin_shr bin_seql bin_sneq bin_sadd bin_beql bin_aeql bin_aneq eqAnd_some eqCells_nil eqCells_cons fieldTypes isStruct eqCell bin_bneq un_not un_neg nj_ite Nat.beq stepA stepR isNew opSV constSV RV.sv allSome E_mu E_own qkeyIn_none qkeyIn_some qkeyAt_none qkeyAt_some Bool.or_false Bool.false_or Bool.or_true Bool.true_or cst setB res resSV pstart startL killL kill1 eraL frzL svPV rvPV rvInt rvSlice frzOf close closeL pconv pbuiltin pmax2 partPV setCells fillPV zrow bound newSV PV.cells Bk.cells Bk.with SV.key pres presL_nil presL_tmp presL_cell presC2_some cellPV_ptr presC List.toList_toArray List.size_toArray List.getElem?_drop Nat.mul_one Int.toNat_natCast Nat.not_lt_zero Nat.lt_irrefl decide_true decide_false Nat.not_lt Option.some.injEq PV.lst.injEq PV.int.injEq PV.bool.injEq PV.tuple.injEq List.cons.injEq Option.map_some Option.map_none Option.bind_some Option.toList List.map_cons List.map_nil List.nil_append List.cons_append List.append_nil List.zip_cons_cons List.zip_nil_left List.zip_nil_right List.getElem?_cons_zero List.getElem?_cons_succ List.drop_zero List.drop_succ_cons List.take_succ_cons List.take_zero List.set_cons_zero List.set_cons_succ List.length_cons List.length_nil List.length_set List.replicate_one List.replicate_zero bne_self_eq_false beq_self_eq_true Nat.zero_add Nat.add_zero Nat.zero_mul Bool.false_eq_true Bool.true_eq_false Bool.not_true Bool.not_false and_true true_and false_and and_false or_false false_or or_true true_or not_true_eq_false not_false_eq_true ne_eq gt_iff_lt List.mem_cons List.not_mem_nil
attribute [local go_sem ↓] pseq_normal pseq_ret pseq_exit pblk_normal pblk_ret newDsts_cons inlDsts_cons gdst_zero gdst_succ retQ_normal retQ_ret qneed_nil qneed_cons retM_normal retM_ret endR_normal endR_ret endR_exit
attribute [local go_sem] Int.reduceToNat Int.reduceEq Int.reduceNe Int.reduceLT Int.reduceLE Int.reduceNeg Int.reduceAdd Nat.reduceEqDiff Nat.reduceAdd Nat.reduceSub Nat.reduceMul Nat.reduceLeDiff Nat.reduceLT
attribute [local go_sem ↓] reduceIte reduceCtorEq

/-- A bare dyad: an odd number, or 0 without a sign and an exponent. -/
structure Dy where
  s : Bool
  m : Nat
  e : Int
  deriving DecidableEq
def Dy.zero : Dy := ⟨false, 0, 0⟩
def DP (s : Bool) (p : PV) (e : Int) : PV := .agg [.bool s, p, .int .i64 e]
def Dy.pv (d : Dy) : PV := DP d.s (NN d.m) d.e
def Dy.nv (d : Dy) : PV := DP d.s (VN d.m) d.e

def cut (e : Int) : Int := if e < -2147483648 then -2147483648 else if 2147483648 < e then 2147483648 else e
theorem cut_le (e : Int) : -2147483648 ≤ cut e ∧ cut e ≤ 2147483648 := by unfold cut; split <;> (try split) <;> omega
theorem cut_id {e : Int} (h1 : -2147483648 ≤ e) (h2 : e ≤ 2147483648) : cut e = e := by unfold cut; rw [if_neg (by omega), if_neg (by omega)]

/-- The dyad that a sign, a number and an exponent make. -/
def mkD (s : Bool) (x : Nat) (e : Int) : Dy := if x = 0 then .zero else ⟨s, x / 2 ^ tz x, cut e + tz x⟩

theorem c_cut (e : Int) : PC E 120 [.int .i64 e] (.int .i64 (cut e)) := by
  refine PC.of_body follows Tryd.func120 (by decide +kernel) rfl (by kernel_rfl) (Nat.le_of_ble_eq_true rfl) (walk ?_)
  simp only [Tryd.f120, go_sem]
  unfold cut
  split <;> (try split) <;> omega

theorem c_rcut (e : Int) : PC E 108 [.int .i64 e] (.int .i64 (cut e)) := by
  refine PC.of_body follows Tryd.func108 (by decide +kernel) rfl (by kernel_rfl) (Nat.le_of_ble_eq_true rfl) (walk ?_)
  simp only [Tryd.f108, go_sem]
  refine qif_d (fun h => ?_) (fun h => ?_)
  · simp only [Tryd.f108, go_sem]
    unfold cut
    rw [if_neg (by omega), if_pos (by omega)]
  · simp only [Tryd.f108, go_sem]
    refine qif_d (fun h2 => ?_) (fun h2 => ?_)
    · simp only [Tryd.f108, go_sem]
      unfold cut
      rw [if_pos (by omega)]
    · simp only [Tryd.f108, go_sem]
      rw [cut_id (by omega) (by omega)]

theorem tz_bits {x : Nat} (h : x ≠ 0) : tz x < bitLen x := by
  obtain ⟨m, hm⟩ := tz_spec h
  rcases Nat.lt_or_ge (tz x) (bitLen x) with h1 | h1
  · exact h1
  · have h2 := (bitLen_le x _).1 h1
    generalize tz x = t at *
    have : 2 ^ t * 1 ≤ 2 ^ t * (2 * m + 1) := Nat.mul_le_mul_left _ (by omega)
    omega

theorem dg_nil {x : Nat} (h : (dg W x).length = 0) : x = 0 := by
  have := dv_dg W2 x
  rw [List.length_eq_zero_iff.1 h] at this
  exact this.symm

theorem c_bare {p : PV} {x : Nat} (hp : Num p x) (hb : bitLen x ≤ 1000000) (s : Bool) (e : Int) : PC E 74 [DP s p e] (mkD s x e).pv := by
  refine PC.of_body follows Tryd.func74 (by decide +kernel) rfl (by kernel_rfl) (Nat.le_of_ble_eq_true rfl) (walk ?_)
  simp only [DP]
  have cl := cut_le e
  simp only [Tryd.f74, go_sem]
  refine qcall_i (k_Bare hp) ?_; simp only [Tryd.f74, NN, NL, go_sem]
  by_cases hx : x = 0
  · subst hx
    refine qif_dt rfl ?_
    simp only [Tryd.f74, go_sem]
    rfl
  · refine qif_df (fun h => hx (dg_nil (by omega))) ?_
    have := tz_bits hx
    have e1 : IntKind.wrap .i64 (cut e + (tz x : Int)) = cut e + (tz x : Int) := wrap64 (by omega) (by omega)
    simp only [Tryd.f74, go_sem]
    refine qcall_i (k_Low (num_bits (x := x) hb)) ?_; simp only [Tryd.f74, go_sem]
    refine qcall_i (k_Shrn (num_bits (x := x) hb) (tz x)) ?_; simp only [Tryd.f74, go_sem]
    refine qcall_i (c_cut e) ?_; simp only [Tryd.f74, e1, NN, NL, go_sem]
    rw [mkD, if_neg hx]
    rfl

/-- Is its exponent within the ends that may be told? -/
def Dy.fits (d : Dy) : Prop := -1073741824 ≤ d.e ∧ d.e ≤ 1073741824
instance (d : Dy) : Decidable d.fits := inferInstanceAs (Decidable (_ ∧ _))

theorem c_DBare {p : PV} {x : Nat} (hp : Num p x) (hb : bitLen x ≤ 1000000) (s : Bool) (e : Int) :
    PC E 75 [DP s p e] (if (mkD s x e).fits then .tuple [(mkD s x e).pv, .int .i64 0] else .tuple [Dy.zero.pv, .int .i64 2]) := by
  refine PC.of_body follows Tryd.func75 (by decide +kernel) rfl (by kernel_rfl) (Nat.le_of_ble_eq_true rfl) (walk ?_)
  simp only [DP]
  simp only [Tryd.f75, go_sem]
  refine qcall_i (c_bare hp hb s e) ?_; simp only [Tryd.f75, Dy.pv, DP, NN, NL, go_sem]
  generalize mkD s x e = d
  refine qif_d (fun h => ?_) (fun h => ?_)
  · simp only [Tryd.f75, go_sem]
    rw [if_neg (fun h2 => by have := h2.1; omega)]; rfl
  · simp only [Tryd.f75, go_sem]
    refine qif_d (fun h1 => ?_) (fun h1 => ?_)
    · simp only [Tryd.f75, go_sem]
      rw [if_neg (fun h2 => by have := h2.2; omega)]; rfl
    · simp only [Tryd.f75, go_sem]
      rw [if_pos ⟨by omega, by omega⟩]; rfl

theorem c_Make {p : PV} {x : Nat} (hp : Num p x) (hb : bitLen x ≤ 1000000) (s : Bool) (e : Int) :
    PC E 45 [.bool s, p, .int .i64 e] (if (mkD s x e).fits then .tuple [(mkD s x e).pv, .int .i64 0] else .tuple [Dy.zero.pv, .int .i64 2]) := by
  refine PC.of_body follows Tryd.func45 (by decide +kernel) rfl (by kernel_rfl) (Nat.le_of_ble_eq_true rfl) (walk ?_)
  have h := c_DBare hp hb s e
  obtain ⟨l, rfl, ol, rfl, hl⟩ := hp
  simp only [DP, NL] at h ⊢
  generalize mkD s (vl l) e = d at h ⊢
  split at h
  · simp only [Tryd.f45, go_sem]
    refine qcall_i (h) ?_; simp only [Tryd.f45, Dy.pv, DP, NN, NL, go_sem]
    rw [if_pos ‹_›]
  · simp only [Tryd.f45, go_sem]
    refine qcall_i (h) ?_; simp only [Tryd.f45, Dy.pv, DP, NN, NL, go_sem]
    rw [if_neg ‹_›]

theorem mkD_bits (s : Bool) (x : Nat) (e : Int) : bitLen (mkD s x e).m ≤ bitLen x := by
  unfold mkD
  split
  · exact Nat.zero_le _
  · exact bitLen_mono (Nat.div_le_self _ _)

/-- The greatest power of two; 0 of 0. -/
def Dy.top (d : Dy) : Int := if d.m = 0 then 0 else bitLen d.m - 1 + d.e

theorem mkD_range (s : Bool) (x : Nat) (e : Int) (hb : bitLen x ≤ 1000000) : -2147483648 ≤ (mkD s x e).e ∧ (mkD s x e).e ≤ 2148483648 := by
  unfold mkD
  have := cut_le e
  split
  · exact ⟨by decide, by decide⟩
  · rename_i h
    have := tz_bits h
    show -2147483648 ≤ cut e + tz x ∧ cut e + tz x ≤ 2148483648
    omega

theorem c_Top {p : PV} {x : Nat} (hp : Num p x) (hb : bitLen x ≤ 1000000) (s : Bool) (e : Int) :
    PC E 41 [DP s p e] (.tuple [.int .i64 (mkD s x e).top, .bool (decide (x ≠ 0))]) := by
  refine PC.of_body follows Tryd.func41 (by decide +kernel) rfl (by kernel_rfl) (Nat.le_of_ble_eq_true rfl) (walk ?_)
  simp only [DP]
  have b1 := mkD_bits s x e
  have b2 := mkD_range s x e hb
  have b3 : x = 0 ↔ (mkD s x e).m = 0 := by
    constructor
    · intro h; subst h; rfl
    · intro h
      refine Decidable.byContradiction fun hx => ?_
      rw [mkD, if_neg hx] at h
      obtain ⟨m, hm⟩ := tz_spec hx
      have : x / 2 ^ tz x = 2 * m + 1 := Nat.div_eq_of_eq_mul_right (Nat.two_pow_pos _) hm
      have h' : x / 2 ^ tz x = 0 := h
      omega
  simp only [Tryd.f41, go_sem]
  refine qcall_i (c_bare hp hb s e) ?_; simp only [Tryd.f41, Dy.pv, DP, NN, NL, go_sem]
  generalize mkD s x e = d at *
  unfold Dy.top
  by_cases hx : x = 0
  · have hm := b3.1 hx
    refine qif_dt (by rw [hm]; rfl) ?_
    simp only [Tryd.f41, go_sem]
    rw [if_pos hm, decide_eq_false (by simpa using hx)]
    exact ⟨rfl, rfl⟩
  · have hm : d.m ≠ 0 := fun h => hx (b3.2 h)
    refine qif_df (fun h => hm (dg_nil (by omega))) ?_
    have hbp := bitLen_pos hm
    have e1 : IntKind.wrap .i64 ((bitLen d.m : Int) - 1) = bitLen d.m - 1 := wrap64 (by omega) (by omega)
    have e2 : IntKind.wrap .i64 ((bitLen d.m : Int) - 1 + d.e) = bitLen d.m - 1 + d.e := wrap64 (by omega) (by omega)
    simp only [Tryd.f41, go_sem]
    refine qcall_i (k_Bits (num_bits (x := d.m) (by omega))) ?_; simp only [Tryd.f41, e1, e2, go_sem]
    rw [if_neg hm, decide_eq_true hx]
    exact ⟨rfl, rfl⟩

theorem c_Sign {p : PV} {x : Nat} (hp : Num p x) (s : Bool) (e : Int) :
    PC E 68 [DP s p e] (.int .i64 (if x = 0 then 0 else if s = true then -1 else 1)) := by
  refine PC.of_body follows Tryd.func68 (by decide +kernel) rfl (by kernel_rfl) (Nat.le_of_ble_eq_true rfl) (walk ?_)
  obtain ⟨l, rfl, ol, rfl, hl⟩ := hp
  simp only [DP, NL]
  simp only [Tryd.f68, go_sem]
  refine qcall_i (k_Bits (num_NL ol hl)) ?_; simp only [Tryd.f68, go_sem]
  by_cases hx : vl l = 0
  · refine qif_dt (by rw [hx]; rfl) ?_
    simp only [Tryd.f68, go_sem]
    rw [if_pos hx]
  · have := bitLen_pos hx
    refine qif_df (by omega) ?_
    simp only [Tryd.f68, go_sem]
    rw [if_neg hx]
    cases s
    · simp only [Tryd.f68, go_sem]
    · simp only [Tryd.f68, go_sem]
end Go.Proofs.YtejmlngnpekagaaDoor
end

/- The document's dyads: what planimeterref05's functions hand back. -/
section
open Go PG Go.Proofs
set_option maxRecDepth 100000
set_option linter.unusedSimpArgs false
set_option linter.unusedVariables false
namespace Go.Proofs.YtejmlngnpekagaaDoor
attribute [local go_sem] Lay2 Lay3 Lay4 Lay5 Lay6 Lay7 Lay8 Lay9 Lay10 Lay11 Lay12 Lay13 Lay14 Lay15 Lay16 Lay17 Lay18 Lay19 Lay21 Lay22 Lay23 Lay24 Lay25 Lay30 Lay33 Lay36 Lay37 Lay46 Lay47 Lay48 Lay53 Lay54 Lay55 Lay59 Lay100 Lay101 Lay127 Lay146 Lay162 Lay168 Lay169 Lay173 Lay185 Lay186 Lay187 Lay188 Lay189 Lay191 Lay192 Lay194 Lay195 Lay196 Lay199 qexec_seq qexec_skip qexec_exit qexec_ret qexec_block qexec_loop qexec_range qexec_cond qexec_region qexec_drawn qops_nil qops_none qops_some put_some put_none pblk_exit pblk_other newDsts_nil inlDsts_nil isInl sget_cons sget_nil qval_some qbool_some qgs_bool qgs_und qfree_some qgrd_true qgrd_false qif_true qif_false qval_ite qval_itn qand_true map_ite map_some' map_none' qdo_move qdo_assign qdo_binOp qdo_pick qdo_unOp qdo_convert qdo_extract qdo_field qdo_fieldAddr qdo_alloc qdo_box qdo_build qdo_buildSlice qdo_load qdo_store qdo_nilCheck qdo_makeFunc qdo_makeSlice qdo_slice qdo_indexAddr qdo_call qcont_val qcont_new qcont_st qcont_app0 qcont_app qcont_inl qcont_call njSV_val njSV_nil njSV_row njSV_ptr njSV_sub binV_val binV_nil binV_nn binV_ptr bin_np bin_nnp nilCmp bin_add bin_sub bin_mul bin_quo bin_rem bin_and bin_or bin_xor bin_andNot bin_eql bin_neq bin_lss bin_leq bin_gtr bin_geq bin_shl bin_shr bin_seql bin_sneq bin_sadd bin_beql bin_aeql bin_aneq eqAnd_some eqCells_nil eqCells_cons fieldTypes isStruct eqCell bin_bneq un_not un_neg nj_ite Nat.beq stepA stepR isNew opSV constSV RV.sv allSome E_mu E_own qkeyIn_none qkeyIn_some qkeyAt_none qkeyAt_some Bool.or_false Bool.false_or Bool.or_true Bool.true_or cst setB res resSV pstart startL killL kill1 eraL frzL svPV rvPV rvInt rvSlice frzOf close closeL pconv pbuiltin pmax2 partPV setCells fillPV zrow bound newSV PV.cells Bk.cells Bk.with SV.key pres presL_nil presL_tmp presL_cell presC2_some cellPV_ptr presC List.toList_toArray List.size_toArray List.getElem?_drop Nat.mul_one Int.toNat_natCast Nat.not_lt_zero Nat.lt_irrefl decide_true decide_false Nat.not_lt Option.some.injEq PV.lst.injEq PV.int.injEq PV.bool.injEq PV.tuple.injEq List.cons.injEq Option.map_some Option.map_none Option.bind_some Option.toList List.map_cons List.map_nil List.nil_append List.cons_append List.append_nil List.zip_cons_cons List.zip_nil_left List.zip_nil_right List.getElem?_cons_zero List.getElem?_cons_succ List.drop_zero List.drop_succ_cons List.take_succ_cons List.take_zero List.set_cons_zero List.set_cons_succ List.length_cons List.length_nil List.length_set List.replicate_one List.replicate_zero bne_self_eq_false beq_self_eq_true Nat.zero_add Nat.add_zero Nat.zero_mul Bool.false_eq_true Bool.true_eq_false Bool.not_true Bool.not_false and_true true_and false_and and_false or_false false_or or_true true_or not_true_eq_false not_false_eq_true ne_eq gt_iff_lt List.mem_cons List.not_mem_nil
attribute [local go_sem ↓] pseq_normal pseq_ret pseq_exit pblk_normal pblk_ret newDsts_cons inlDsts_cons gdst_zero gdst_succ retQ_normal retQ_ret qneed_nil qneed_cons retM_normal retM_ret endR_normal endR_ret endR_exit
attribute [local go_sem] Int.reduceToNat Int.reduceEq Int.reduceNe Int.reduceLT Int.reduceLE Int.reduceNeg Int.reduceAdd Nat.reduceEqDiff Nat.reduceAdd Nat.reduceSub Nat.reduceMul Nat.reduceLeDiff Nat.reduceLT
attribute [local go_sem ↓] reduceIte reduceCtorEq

theorem dgB_nil {x : Nat} (h : (dg B x).length = 0) : x = 0 := by
  have := dv_dg B2 x
  rw [List.length_eq_zero_iff.1 h] at this
  exact this.symm
theorem tz_step {x i : Nat} (h0 : x ≠ 0) (hz : x % 2 ^ i = 0) : (x / 2 ^ i % 2 = 0 → x % 2 ^ (i + 1) = 0 ∧ i < tz x) ∧ (x / 2 ^ i % 2 ≠ 0 → tz x = i) := by
  constructor
  · intro h
    refine ⟨by rw [Nat.pow_succ, Nat.mod_mul, hz, h, Nat.mul_zero], ?_⟩
    have := tz_lt (x := x) (n := i + 1) h0
    rw [Nat.pow_succ, Nat.mod_mul, hz, h, Nat.mul_zero] at this
    omega
  · intro h
    exact tz_of (m := x / 2 ^ i / 2) (by
      have := Nat.mod_add_div x (2 ^ i)
      rw [hz, Nat.zero_add] at this
      rw [show 2 * (x / 2 ^ i / 2) + 1 = x / 2 ^ i by omega]
      exact this.symm)

theorem c_5Of {p : PV} {x : Nat} (hp : Num p x) (hb : bitLen x ≤ 1000000) (s : Bool) (e : Int) : PC E 60 [DP s p e] (mkD s x e).nv := by
  refine PC.of_body follows Tryd.func60 (by decide +kernel) rfl (by kernel_rfl) (Nat.le_of_ble_eq_true rfl) (walk ?_)
  have cl := cut_le e
  have hB : (dg B x).length ≤ 4194304 := Nat.le_trans (dgB_le_of_bits (n := 62500) (by omega)) (by decide)
  have hto := k_To hp
  clear hp
  simp only [DP]
  simp only [Tryd.f60, go_sem]
  refine qcall_i (hto) ?_; simp only [Tryd.f60, VN, VL, go_sem]
  by_cases hx : x = 0
  · subst hx
    refine qif_dt rfl ?_
    simp only [Tryd.f60, go_sem]
    rfl
  · refine qif_df (fun h => hx (dgB_nil (by omega))) ?_
    have hlt := tz_bits hx
    have e1 : IntKind.wrap .i64 (cut e + (tz x : Int)) = cut e + (tz x : Int) := wrap64 (by omega) (by omega)
    have hs0 : bitLen (x / 2 ^ tz x) ≤ bitLen x := bitLen_mono (Nat.div_le_self _ _)
    simp only [Tryd.f60, go_sem]
    refine PLoop.intro (fun i : Nat => ⟨[(1, .ptr 1 0), (2, .ptr 2 0), (3, .val (VN x)), (4, .val (.int .i64 i))], [(1, (.box [.bool s, p, .int .i64 e], false)), (2, (.box [.bool false, .lst 0 [], .int .i64 0], false))]⟩) (fun i => i ≤ tz x ∧ x % 2 ^ i = 0) (fun i => bitLen x - i) 0 ⟨Nat.zero_le _, by simp [Nat.mod_one]⟩ ?_ fun i hi => walk ?_
    · simp [Wk, sget, killL, kill1, SV.key, NL, VL, u, e32, VN, VL]
    obtain ⟨hi, hz⟩ := hi
    have hst := tz_step hx hz
    have e4 : IntKind.wrap .i64 ((i : Int) + 1) = ((i + 1 : Nat) : Int) := by rw [wrap64 (by omega) (by omega)]; omega
    simp only [Tryd.f60, go_sem]
    refine qcall_i (c_rBit x i (by omega) hB) ?_
    rw [if_neg (by omega), Int.toNat_natCast]
    simp only [Tryd.f60, e32, go_sem]
    refine qif_d (fun h2 => ?_) (fun h2 => ?_)
    · simp only [Tryd.f60, e4, go_sem]
      have h3 := hst.1 (by omega)
      refine ⟨i + 1, ⟨by omega, h3.1⟩, by omega, ?_⟩
      simp [Wk, sget, killL, kill1, SV.key, NL, VL, u, e32]
    · have htz : tz x = i := hst.2 (by omega)
      simp only [Tryd.f60, go_sem]
      refine qcall_i (c_rShr x i (by omega) hB) ?_; simp only [Tryd.f60, go_sem]
      refine qcall_i (c_rcut e) ?_; simp only [Tryd.f60, VN, VL, go_sem]
      rw [mkD, if_neg hx, ← htz, e1]
      rfl

/-! ### Signs, sums and order -/
def Dy.sg (d : Dy) : Int := if d.m = 0 then 0 else if d.s = true then -1 else 1
/-- What it is worth, in units of 2^k, for k not above its exponent. -/
def Dy.at (d : Dy) (k : Int) : Int := (if d.s = true then -1 else 1) * ((d.m * 2 ^ (d.e - k).toNat : Nat) : Int)
/-- The order of what they are worth. -/
def cmpD (a b : Dy) : Int := sgn (a.at (min a.e b.e)) (b.at (min a.e b.e))

theorem at_sg (d : Dy) (k : Int) : (d.at k = 0 ↔ d.sg = 0) ∧ (0 < d.at k ↔ d.sg = 1) ∧ (d.at k < 0 ↔ d.sg = -1) := by
  unfold Dy.at Dy.sg
  by_cases h : d.m = 0
  · rw [if_pos h, h, Nat.zero_mul]
    cases d.s <;> simp
  · rw [if_neg h]
    have : 0 < d.m * 2 ^ (d.e - k).toNat := Nat.mul_pos (by omega) (Nat.two_pow_pos _)
    generalize d.m * 2 ^ (d.e - k).toNat = n at *
    cases d.s <;> simp <;> omega
theorem sg_range (d : Dy) : d.sg = 0 ∨ d.sg = 1 ∨ d.sg = -1 := by
  unfold Dy.sg; split
  · exact .inl rfl
  · split
    · exact .inr (.inr rfl)
    · exact .inr (.inl rfl)
theorem cmpD_sg {a b : Dy} (h : a.sg ≠ b.sg ∨ a.sg = 0) : cmpD a b = sgn a.sg b.sg := by
  unfold cmpD
  have h1 := at_sg a (min a.e b.e)
  have h2 := at_sg b (min a.e b.e)
  have r1 := sg_range a
  have r2 := sg_range b
  generalize a.at (min a.e b.e) = x at *
  generalize b.at (min a.e b.e) = y at *
  generalize a.sg = v at *
  generalize b.sg = w at *
  unfold sgn
  repeat' split
  all_goals omega
/-- The size in units of 2^k. -/
theorem at_bits (d : Dy) (k : Int) (hk : k ≤ d.e) (h : d.m ≠ 0) : (bitLen (d.m * 2 ^ (d.e - k).toNat) : Int) = d.top + 1 - k := by
  rw [bitLen_shl _ _ h, Dy.top, if_neg h]
  omega
theorem bits_lt {x y : Nat} (h : bitLen x < bitLen y) : x < y := by
  rcases Nat.lt_or_ge x y with h1 | h1
  · exact h1
  · have := bitLen_mono h1; omega
theorem cmpD_top {a b : Dy} (ha : a.m ≠ 0) (hb : b.m ≠ 0) (hs : a.s = b.s) (ht : a.top ≠ b.top) : cmpD a b = if (decide (a.top < b.top)) != a.s then -1 else 1 := by
  unfold cmpD Dy.at
  have h1 := at_bits a (min a.e b.e) (by omega) ha
  have h2 := at_bits b (min a.e b.e) (by omega) hb
  generalize a.m * 2 ^ (a.e - min a.e b.e).toNat = x at *
  generalize b.m * 2 ^ (b.e - min a.e b.e).toNat = y at *
  rw [← hs]
  by_cases hlt : a.top < b.top
  · have h3 : x < y := bits_lt (by omega)
    rw [decide_eq_true hlt]
    cases a.s
    · simp [sgn]; omega
    · simp [sgn]; omega
  · have h3 : y < x := bits_lt (by omega)
    rw [decide_eq_false hlt]
    cases a.s
    · simp [sgn]; omega
    · simp [sgn]; omega

/-- The document's sum, not made bare. -/
def addD (a b : Dy) : Dy :=
  if a.m = 0 then b else if b.m = 0 then a else
  if a.s = b.s then ⟨a.s, a.m * 2 ^ (a.e - min a.e b.e).toNat + b.m * 2 ^ (b.e - min a.e b.e).toNat, min a.e b.e⟩
  else if b.m * 2 ^ (b.e - min a.e b.e).toNat ≤ a.m * 2 ^ (a.e - min a.e b.e).toNat then ⟨a.s, a.m * 2 ^ (a.e - min a.e b.e).toNat - b.m * 2 ^ (b.e - min a.e b.e).toNat, min a.e b.e⟩
  else ⟨b.s, b.m * 2 ^ (b.e - min a.e b.e).toNat - a.m * 2 ^ (a.e - min a.e b.e).toNat, min a.e b.e⟩

theorem vn_bits {x : Nat} (h : bitLen x ≤ 16000000) : (dg B x).length ≤ 1048576 := Nat.le_trans (dgB_le_of_bits (n := 1000000) (by omega)) (by decide)

theorem c_5Sign (d : Dy) : PC E 18 [d.nv] (.int .i64 d.sg) := by
  refine PC.of_body follows Tryd.func18 (by decide +kernel) rfl (by kernel_rfl) (Nat.le_of_ble_eq_true rfl) (walk ?_)
  simp only [Dy.nv, DP, VN, VL]
  unfold Dy.sg
  simp only [Tryd.f18, go_sem]
  by_cases hx : d.m = 0
  · refine qif_dt (by rw [hx]; rfl) ?_
    simp only [Tryd.f18, go_sem]
    rw [if_pos hx]
  · refine qif_df (fun h => hx (dgB_nil (by omega))) ?_
    simp only [Tryd.f18, go_sem]
    rw [if_neg hx]
    cases d.s
    · simp only [Tryd.f18, go_sem]
    · simp only [Tryd.f18, go_sem]

theorem c_5Add (a b : Dy) (ha : bitLen a.m ≤ 1000000) (hb : bitLen b.m ≤ 1000000) (h1 : -1000000000000 ≤ a.e ∧ a.e ≤ 1000000000000) (h2 : -1000000000000 ≤ b.e ∧ b.e ≤ 1000000000000)
    (hn : a.m ≠ 0 → b.m ≠ 0 → a.e - b.e ≤ 1000000 ∧ b.e - a.e ≤ 1000000) : PC E 57 [a.nv, b.nv] (addD a b).nv := by
  refine PC.of_body follows Tryd.func57 (by decide +kernel) rfl (by kernel_rfl) (Nat.le_of_ble_eq_true rfl) (walk ?_)
  unfold addD
  simp only [Dy.nv, DP, VN, VL]
  simp only [Tryd.f57, go_sem]
  by_cases hx : a.m = 0
  · refine qif_dt (by rw [hx]; rfl) ?_
    simp only [Tryd.f57, go_sem]
    rw [if_pos hx]; rfl
  refine qif_df (fun h => hx (dgB_nil (by omega))) ?_
  simp only [Tryd.f57, go_sem]
  by_cases hy : b.m = 0
  · refine qif_dt (by rw [hy]; rfl) ?_
    simp only [Tryd.f57, go_sem]
    rw [if_neg hx, if_pos hy]; rfl
  refine qif_df (fun h => hy (dgB_nil (by omega))) ?_
  rw [if_neg hx, if_neg hy]
  have hn' := hn hx hy
  have s1 := bitLen_shl_le a.m (a.e - min a.e b.e).toNat
  have s2 := bitLen_shl_le b.m (b.e - min a.e b.e).toNat
  have e1 : IntKind.wrap .i64 (a.e - min a.e b.e) = ((a.e - min a.e b.e).toNat : Int) := by rw [wrap64 (by omega) (by omega)]; omega
  have e2 : IntKind.wrap .i64 (b.e - min a.e b.e) = ((b.e - min a.e b.e).toNat : Int) := by rw [wrap64 (by omega) (by omega)]; omega
  have k1 := c_rShl a.m (a.e - min a.e b.e).toNat (vn_bits (by omega)) (by omega)
  have k2 := c_rShl b.m (b.e - min a.e b.e).toNat (vn_bits (by omega)) (by omega)
  generalize hx' : a.m * 2 ^ (a.e - min a.e b.e).toNat = x at *
  generalize hy' : b.m * 2 ^ (b.e - min a.e b.e).toNat = y at *
  have b1 := vn_bits (x := x) (by omega)
  have b2 := vn_bits (x := y) (by omega)
  have k3 := c_rAdd x y (by omega) (by omega)
  have k4 := c_rCmp x y (by omega) (by omega)
  simp only [Tryd.f57, go_sem]
  by_cases hlt : b.e < a.e
  · refine qif_dt hlt ?_
    rw [show min a.e b.e = b.e by omega] at *
    simp only [Tryd.f57, e1, e2, go_sem]
    refine qcall_i (k1) ?_; simp only [Tryd.f57, e1, e2, go_sem]
    refine qcall_i (k2) ?_; simp only [Tryd.f57, VN, VL, go_sem]
    by_cases hs : a.s = b.s
    · have h6 : (a.s == b.s) = true := by rw [hs]; exact beq_self_eq_true _
      rw [if_pos hs]
      simp only [Tryd.f57, h6, go_sem]
      refine qcall_i (k3) ?_; simp only [Tryd.f57, VN, VL, go_sem]
      rfl
    · have h6 : (a.s == b.s) = false := by simpa using hs
      rw [if_neg hs]
      simp only [Tryd.f57, h6, go_sem]
      refine qcall_i (k4) ?_; simp only [Tryd.f57, go_sem]
      by_cases hxy : y ≤ x
      · refine qif_dt (by have := sgn_neg x y; omega) ?_
        rw [if_pos hxy]
        simp only [Tryd.f57, go_sem]
        refine qcall_i (c_rSub x y hxy (by omega)) ?_; simp only [Tryd.f57, VN, VL, go_sem]
        rfl
      · refine qif_df (by have := (sgn_neg x y).2 (by omega); omega) ?_
        rw [if_neg hxy]
        simp only [Tryd.f57, go_sem]
        refine qcall_i (c_rSub y x (by omega) (by omega)) ?_; simp only [Tryd.f57, VN, VL, go_sem]
        rfl
  · refine qif_df hlt ?_
    rw [show min a.e b.e = a.e by omega] at *
    simp only [Tryd.f57, e1, e2, go_sem]
    refine qcall_i (k1) ?_; simp only [Tryd.f57, e1, e2, go_sem]
    refine qcall_i (k2) ?_; simp only [Tryd.f57, VN, VL, go_sem]
    by_cases hs : a.s = b.s
    · have h6 : (a.s == b.s) = true := by rw [hs]; exact beq_self_eq_true _
      rw [if_pos hs]
      simp only [Tryd.f57, h6, go_sem]
      refine qcall_i (k3) ?_; simp only [Tryd.f57, VN, VL, go_sem]
      rfl
    · have h6 : (a.s == b.s) = false := by simpa using hs
      rw [if_neg hs]
      simp only [Tryd.f57, h6, go_sem]
      refine qcall_i (k4) ?_; simp only [Tryd.f57, go_sem]
      by_cases hxy : y ≤ x
      · refine qif_dt (by have := sgn_neg x y; omega) ?_
        rw [if_pos hxy]
        simp only [Tryd.f57, go_sem]
        refine qcall_i (c_rSub x y hxy (by omega)) ?_; simp only [Tryd.f57, VN, VL, go_sem]
        rfl
      · refine qif_df (by have := (sgn_neg x y).2 (by omega); omega) ?_
        rw [if_neg hxy]
        simp only [Tryd.f57, go_sem]
        refine qcall_i (c_rSub y x (by omega) (by omega)) ?_; simp only [Tryd.f57, VN, VL, go_sem]
        rfl

end Go.Proofs.YtejmlngnpekagaaDoor
end

/- The fields of a binary64's bits: what float's plain functions and the document's answer for them hand back. -/
section
open Go PG Go.Proofs
set_option maxRecDepth 100000
set_option linter.unusedSimpArgs false
set_option linter.unusedVariables false
namespace Go.Proofs.YtejmlngnpekagaaDoor
attribute [local go_sem] Lay2 Lay3 Lay4 Lay5 Lay6 Lay7 Lay8 Lay9 Lay10 Lay11 Lay12 Lay13 Lay14 Lay15 Lay16 Lay17 Lay18 Lay19 Lay21 Lay22 Lay23 Lay24 Lay25 Lay30 Lay33 Lay36 Lay37 Lay46 Lay47 Lay48 Lay53 Lay54 Lay55 Lay59 Lay100 Lay101 Lay127 Lay146 Lay162 Lay168 Lay169 Lay173 Lay185 Lay186 Lay187 Lay188 Lay189 Lay191 Lay192 Lay194 Lay195 Lay196 Lay199 qexec_seq qexec_skip qexec_exit qexec_ret qexec_block qexec_loop qexec_range qexec_cond qexec_region qexec_drawn qops_nil qops_none qops_some put_some put_none pblk_exit pblk_other newDsts_nil inlDsts_nil isInl sget_cons sget_nil qval_some qbool_some qgs_bool qgs_und qfree_some qgrd_true qgrd_false qif_true qif_false qval_ite qval_itn qand_true map_ite map_some' map_none' qdo_move qdo_assign qdo_binOp qdo_pick qdo_unOp qdo_convert qdo_extract qdo_field qdo_fieldAddr qdo_alloc qdo_box qdo_build qdo_buildSlice qdo_load qdo_store qdo_nilCheck qdo_makeFunc qdo_makeSlice qdo_slice qdo_indexAddr qdo_call qcont_val qcont_new qcont_st qcont_app0 qcont_app qcont_inl qcont_call njSV_val njSV_nil njSV_row njSV_ptr njSV_sub binV_val binV_nil binV_nn binV_ptr bin_np bin_nnp nilCmp bin_add bin_sub bin_mul bin_quo bin_rem bin_and bin_or bin_xor bin_andNot bin_eql bin_neq bin_lss bin_leq bin_gtr bin_geq bin_shl bin_shr bin_seql bin_sneq bin_sadd bin_beql bin_aeql bin_aneq eqAnd_some eqCells_nil eqCells_cons fieldTypes isStruct eqCell bin_bneq un_not un_neg nj_ite Nat.beq stepA stepR isNew opSV constSV RV.sv allSome E_mu E_own qkeyIn_none qkeyIn_some qkeyAt_none qkeyAt_some Bool.or_false Bool.false_or Bool.or_true Bool.true_or cst setB res resSV pstart startL killL kill1 eraL frzL svPV rvPV rvInt rvSlice frzOf close closeL pconv pbuiltin pmax2 partPV setCells fillPV zrow bound newSV PV.cells Bk.cells Bk.with SV.key pres presL_nil presL_tmp presL_cell presC2_some cellPV_ptr presC List.toList_toArray List.size_toArray List.getElem?_drop Nat.mul_one Int.toNat_natCast Nat.not_lt_zero Nat.lt_irrefl decide_true decide_false Nat.not_lt Option.some.injEq PV.lst.injEq PV.int.injEq PV.bool.injEq PV.tuple.injEq List.cons.injEq Option.map_some Option.map_none Option.bind_some Option.toList List.map_cons List.map_nil List.nil_append List.cons_append List.append_nil List.zip_cons_cons List.zip_nil_left List.zip_nil_right List.getElem?_cons_zero List.getElem?_cons_succ List.drop_zero List.drop_succ_cons List.take_succ_cons List.take_zero List.set_cons_zero List.set_cons_succ List.length_cons List.length_nil List.length_set List.replicate_one List.replicate_zero bne_self_eq_false beq_self_eq_true Nat.zero_add Nat.add_zero Nat.zero_mul Bool.false_eq_true Bool.true_eq_false Bool.not_true Bool.not_false and_true true_and false_and and_false or_false false_or or_true true_or not_true_eq_false not_false_eq_true ne_eq gt_iff_lt List.mem_cons List.not_mem_nil
attribute [local go_sem ↓] pseq_normal pseq_ret pseq_exit pblk_normal pblk_ret newDsts_cons inlDsts_cons gdst_zero gdst_succ retQ_normal retQ_ret qneed_nil qneed_cons retM_normal retM_ret endR_normal endR_ret endR_exit
attribute [local go_sem] Int.reduceToNat Int.reduceEq Int.reduceNe Int.reduceLT Int.reduceLE Int.reduceNeg Int.reduceAdd Nat.reduceEqDiff Nat.reduceAdd Nat.reduceSub Nat.reduceMul Nat.reduceLeDiff Nat.reduceLT
attribute [local go_sem ↓] reduceIte reduceCtorEq

/-- The fields: the exponent's, the fraction's; the sign. -/
def fe (b : Nat) : Nat := b / 4503599627370496 % 2048
def ff (b : Nat) : Nat := b % 4503599627370496
def fs (b : Nat) : Bool := decide (9223372036854775808 ≤ b)
def fsz (b : Nat) : Nat := b % 9223372036854775808
def kind (b : Nat) : Nat := if fe b = 0 ∧ ff b = 0 then 0 else if fe b = 0 then 1 else if fe b < 2047 then 2 else if ff b = 0 then 3 else if 2251799813685248 ≤ ff b then 4 else 5

theorem m_and (x k m : Nat) (hx : x < W) (hm : m = 2 ^ k - 1) (hk : m < W) : bits .and .u64 (x : Int) (m : Int) = ((x % 2 ^ k : Nat) : Int) := by
  rw [b_and hx hk, hm, Nat.and_two_pow_sub_one_eq_mod]
theorem a52 {x : Nat} (hx : x < W) : bits .and .u64 (x : Int) 4503599627370495 = ((ff x : Nat) : Int) := m_and x 52 4503599627370495 hx (by decide) (by decide)
theorem a11 {x : Nat} (hx : x < W) : bits .and .u64 (x : Int) 2047 = ((x % 2048 : Nat) : Int) := m_and x 11 2047 hx (by decide) (by decide)
theorem and_top {x : Nat} (hx : x < W) : x &&& 9223372036854775808 = if 9223372036854775808 ≤ x then 9223372036854775808 else 0 := by
  apply Nat.eq_of_testBit_eq
  intro i
  rw [Nat.testBit_and, show (9223372036854775808 : Nat) = 2 ^ 63 by decide, Nat.testBit_two_pow]
  by_cases hi : 63 = i
  · subst hi
    rw [decide_eq_true rfl, Bool.and_true]
    split
    · rename_i h
      rw [Nat.testBit_two_pow_self, Nat.testBit_eq_decide_div_mod_eq]
      have : x < 18446744073709551616 := hx
      simp only [decide_eq_true_eq]
      omega
    · rename_i h
      rw [Nat.zero_testBit]
      exact Nat.testBit_lt_two_pow (by omega)
  · rw [decide_eq_false hi, Bool.and_false]
    split
    · exact (Nat.testBit_two_pow_of_ne hi).symm
    · exact (Nat.zero_testBit i).symm
theorem a63 {x : Nat} (hx : x < W) : bits .and .u64 (x : Int) 9223372036854775808 = ((if 9223372036854775808 ≤ x then 9223372036854775808 else 0 : Nat) : Int) := by
  rw [← and_top hx]; exact b_and hx (by decide)
theorem n63 {x : Nat} (hx : x < W) : bits .andNot .u64 (x : Int) 9223372036854775808 = ((fsz x : Nat) : Int) := by
  have h := u64_andNot_nat x 9223372036854775808 hx (by decide)
  refine h.trans ?_
  rw [show (18446744073709551615 - 9223372036854775808 : Nat) = 2 ^ 63 - 1 by decide, Nat.and_two_pow_sub_one_eq_mod]; rfl
theorem o52 {f : Nat} (hf : f < 4503599627370496) : bits .or .u64 (f : Int) 4503599627370496 = ((f + 4503599627370496 : Nat) : Int) := by
  have h := b_or (a := f) (b := 4503599627370496) (Nat.lt_trans hf (by decide)) (by decide)
  refine h.trans ?_
  have := Nat.two_pow_add_eq_or_of_lt (i := 52) (b := f) hf 1
  rw [Nat.mul_one] at this
  rw [Nat.or_comm, show (4503599627370496 : Nat) = 2 ^ 52 by decide, ← this, Nat.add_comm]
theorem o63 {f : Nat} (hf : f < 9223372036854775808) : bits .or .u64 (f : Int) 9223372036854775808 = ((f + 9223372036854775808 : Nat) : Int) := by
  have h := b_or (a := f) (b := 9223372036854775808) (Nat.lt_trans hf (by decide)) (by decide)
  refine h.trans ?_
  have := Nat.two_pow_add_eq_or_of_lt (i := 63) (b := f) hf 1
  rw [Nat.mul_one] at this
  rw [Nat.or_comm, show (9223372036854775808 : Nat) = 2 ^ 63 by decide, ← this, Nat.add_comm]
theorem fe_lt (b : Nat) : fe b < 2048 := Nat.mod_lt _ (by decide)
theorem ff_lt (b : Nat) : ff b < 4503599627370496 := Nat.mod_lt _ (by decide)
theorem fsz_lt (b : Nat) : fsz b < 9223372036854775808 := Nat.mod_lt _ (by decide)

theorem c_field (b : Nat) (hb : b < W) : PC E 48 [u b] (.int .i64 (fe b)) := by
  refine PC.of_body follows Tryd.func48 (by decide +kernel) rfl (by kernel_rfl) (Nat.le_of_ble_eq_true rfl) (walk ?_)
  have e1 := b_shr hb 52
  have e2 := a11 (x := b / 2 ^ 52) (Nat.lt_of_le_of_lt (Nat.div_le_self _ _) hb)
  have e3 : IntKind.wrap .i64 ((b / 2 ^ 52 % 2048 : Nat) : Int) = ((fe b : Nat) : Int) := wrap64 (by omega) (by omega)
  simp only [Tryd.f48, u, e1, e2, e3, go_sem]

theorem c_Kind (b : Nat) (hb : b < W) : PC E 38 [u b] (.int .i64 (kind b)) := by
  refine PC.of_body follows Tryd.func38 (by decide +kernel) rfl (by kernel_rfl) (Nat.le_of_ble_eq_true rfl) (walk ?_)
  have e1 := a52 hb
  simp only [Tryd.f38, u, e1, go_sem]
  refine qcall_i (c_field b hb) ?_; simp only [Tryd.f38, u, e1, go_sem]
  unfold kind
  generalize fe b = e
  generalize ff b = f
  refine qif_d (fun h => ?_) (fun h => ?_)
  all_goals simp only [Tryd.f38, u, go_sem]
  · refine qif_d (fun h1 => ?_) (fun h1 => ?_)
    all_goals simp only [Tryd.f38, u, go_sem]
    · rw [if_pos (by omega)]; rfl
    · refine qif_dt (by omega) ?_
      simp only [Tryd.f38, u, go_sem]
      rw [if_neg (by omega), if_pos (by omega)]; rfl
  · refine qif_df (by omega) ?_
    simp only [Tryd.f38, u, go_sem]
    rw [if_neg (by omega), if_neg (by omega)]
    refine qif_d (fun h1 => ?_) (fun h1 => ?_)
    all_goals simp only [Tryd.f38, u, go_sem]
    · rw [if_pos (by omega)]; rfl
    · rw [if_neg (by omega)]
      refine qif_d (fun h2 => ?_) (fun h2 => ?_)
      all_goals simp only [Tryd.f38, u, go_sem]
      · rw [if_pos (by omega)]; rfl
      · rw [if_neg (by omega)]
        refine qif_d (fun h3 => ?_) (fun h3 => ?_)
        all_goals simp only [Tryd.f38, u, go_sem]
        · rw [if_pos (by omega)]; rfl
        · rw [if_neg (by omega)]; rfl

theorem c_Neg (b : Nat) (hb : b < W) : PC E 39 [u b] (.bool (fs b)) := by
  refine PC.of_body follows Tryd.func39 (by decide +kernel) rfl (by kernel_rfl) (Nat.le_of_ble_eq_true rfl) (walk ?_)
  have e1 := a63 hb
  simp only [Tryd.f39, u, e1, go_sem]
  unfold fs
  by_cases h : 9223372036854775808 ≤ b
  · rw [if_pos h, decide_eq_true h]; rfl
  · rw [if_neg h, decide_eq_false h]; rfl

theorem c_Finite (b : Nat) (hb : b < W) : PC E 13 [u b] (.bool (decide (fe b < 2047))) := by
  refine PC.of_body follows Tryd.func13 (by decide +kernel) rfl (by kernel_rfl) (Nat.le_of_ble_eq_true rfl) (walk ?_)
  simp only [Tryd.f13, go_sem]
  refine qcall_i (c_field b hb) ?_; simp only [Tryd.f13, go_sem]
  exact decide_eq_decide.2 (by omega)

theorem t52 (b : Nat) : Int.tdiv (b : Int) 4503599627370496 = ((b / 4503599627370496 : Nat) : Int) := n_tdiv b 4503599627370496
theorem m52 (b : Nat) : Int.tmod (b : Int) 4503599627370496 = ((ff b : Nat) : Int) := n_tmod b 4503599627370496
theorem m63 (b : Nat) : Int.tmod (b : Int) 9223372036854775808 = ((fsz b : Nat) : Int) := n_tmod b 9223372036854775808
theorem m11 (b : Nat) : Int.tmod ((b / 4503599627370496 : Nat) : Int) 2048 = ((fe b : Nat) : Int) := n_tmod (b / 4503599627370496) 2048
theorem w52 {b : Nat} (hb : b < W) : IntKind.wrap .u64 ((b / 4503599627370496 : Nat) : Int) = ((b / 4503599627370496 : Nat) : Int) := wrap_nat64 (Nat.lt_of_le_of_lt (Nat.div_le_self _ _) hb)

theorem c_rKind (b : Nat) (hb : b < W) : PC E 9 [u b] (.int .i64 (kind b)) := by
  refine PC.of_body follows Tryd.func9 (by decide +kernel) rfl (by kernel_rfl) (Nat.le_of_ble_eq_true rfl) (walk ?_)
  simp only [Tryd.f9, u, t52, w52 hb, m11, m52, go_sem]
  unfold kind
  generalize fe b = e
  generalize ff b = f
  refine qif_d (fun h => ?_) (fun h => ?_)
  all_goals simp only [Tryd.f9, u, go_sem]
  · refine qif_d (fun h1 => ?_) (fun h1 => ?_)
    all_goals simp only [Tryd.f9, u, go_sem]
    · rw [if_pos (by omega)]; rfl
    · refine qif_dt (by omega) ?_
      simp only [Tryd.f9, u, go_sem]
      rw [if_neg (by omega), if_pos (by omega)]; rfl
  · refine qif_df (by omega) ?_
    simp only [Tryd.f9, u, go_sem]
    rw [if_neg (by omega), if_neg (by omega)]
    refine qif_d (fun h1 => ?_) (fun h1 => ?_)
    all_goals simp only [Tryd.f9, u, go_sem]
    · rw [if_pos (by omega)]; rfl
    · rw [if_neg (by omega)]
      refine qif_d (fun h2 => ?_) (fun h2 => ?_)
      all_goals simp only [Tryd.f9, u, go_sem]
      · rw [if_pos (by omega)]; rfl
      · rw [if_neg (by omega)]
        refine qif_d (fun h3 => ?_) (fun h3 => ?_)
        all_goals simp only [Tryd.f9, u, go_sem]
        · rw [if_pos (by omega)]; rfl
        · rw [if_neg (by omega)]; rfl

theorem c_rSize (b : Nat) (hb : b < W) : PC E 33 [u b] (u (fsz b)) := by
  refine PC.of_body follows Tryd.func33 (by decide +kernel) rfl (by kernel_rfl) (Nat.le_of_ble_eq_true rfl) (walk ?_)
  simp only [Tryd.f33, u, m63, go_sem]
end Go.Proofs.YtejmlngnpekagaaDoor
end

/- What a binary64's bits are worth: float.Dyad, Whole, Parts. -/
section
open Go PG Go.Proofs
set_option maxRecDepth 100000
set_option linter.unusedSimpArgs false
set_option linter.unusedVariables false
namespace Go.Proofs.YtejmlngnpekagaaDoor
attribute [local go_sem] Lay2 Lay3 Lay4 Lay5 Lay6 Lay7 Lay8 Lay9 Lay10 Lay11 Lay12 Lay13 Lay14 Lay15 Lay16 Lay17 Lay18 Lay19 Lay21 Lay22 Lay23 Lay24 Lay25 Lay30 Lay33 Lay36 Lay37 Lay46 Lay47 Lay48 Lay53 Lay54 Lay55 Lay59 Lay100 Lay101 Lay127 Lay146 Lay162 Lay168 Lay169 Lay173 Lay185 Lay186 Lay187 Lay188 Lay189 Lay191 Lay192 Lay194 Lay195 Lay196 Lay199 qexec_seq qexec_skip qexec_exit qexec_ret qexec_block qexec_loop qexec_range qexec_cond qexec_region qexec_drawn qops_nil qops_none qops_some put_some put_none pblk_exit pblk_other newDsts_nil inlDsts_nil isInl sget_cons sget_nil qval_some qbool_some qgs_bool qgs_und qfree_some qgrd_true qgrd_false qif_true qif_false qval_ite qval_itn qand_true map_ite map_some' map_none' qdo_move qdo_assign qdo_binOp qdo_pick qdo_unOp qdo_convert qdo_extract qdo_field qdo_fieldAddr qdo_alloc qdo_box qdo_build qdo_buildSlice qdo_load qdo_store qdo_nilCheck qdo_makeFunc qdo_makeSlice qdo_slice qdo_indexAddr qdo_call qcont_val qcont_new qcont_st qcont_app0 qcont_app qcont_inl qcont_call njSV_val njSV_nil njSV_row njSV_ptr njSV_sub binV_val binV_nil binV_nn binV_ptr bin_np bin_nnp nilCmp bin_add bin_sub bin_mul bin_quo bin_rem bin_and bin_or bin_xor bin_andNot bin_eql bin_neq bin_lss bin_leq bin_gtr bin_geq bin_shl bin_shr bin_seql bin_sneq bin_sadd bin_beql bin_aeql bin_aneq eqAnd_some eqCells_nil eqCells_cons fieldTypes isStruct eqCell bin_bneq un_not un_neg nj_ite Nat.beq stepA stepR isNew opSV constSV RV.sv allSome E_mu E_own qkeyIn_none qkeyIn_some qkeyAt_none qkeyAt_some Bool.or_false Bool.false_or Bool.or_true Bool.true_or cst setB res resSV pstart startL killL kill1 eraL frzL svPV rvPV rvInt rvSlice frzOf close closeL pconv pbuiltin pmax2 partPV setCells fillPV zrow bound newSV PV.cells Bk.cells Bk.with SV.key pres presL_nil presL_tmp presL_cell presC2_some cellPV_ptr presC List.toList_toArray List.size_toArray List.getElem?_drop Nat.mul_one Int.toNat_natCast Nat.not_lt_zero Nat.lt_irrefl decide_true decide_false Nat.not_lt Option.some.injEq PV.lst.injEq PV.int.injEq PV.bool.injEq PV.tuple.injEq List.cons.injEq Option.map_some Option.map_none Option.bind_some Option.toList List.map_cons List.map_nil List.nil_append List.cons_append List.append_nil List.zip_cons_cons List.zip_nil_left List.zip_nil_right List.getElem?_cons_zero List.getElem?_cons_succ List.drop_zero List.drop_succ_cons List.take_succ_cons List.take_zero List.set_cons_zero List.set_cons_succ List.length_cons List.length_nil List.length_set List.replicate_one List.replicate_zero bne_self_eq_false beq_self_eq_true Nat.zero_add Nat.add_zero Nat.zero_mul Bool.false_eq_true Bool.true_eq_false Bool.not_true Bool.not_false and_true true_and false_and and_false or_false false_or or_true true_or not_true_eq_false not_false_eq_true ne_eq gt_iff_lt List.mem_cons List.not_mem_nil
attribute [local go_sem ↓] pseq_normal pseq_ret pseq_exit pblk_normal pblk_ret newDsts_cons inlDsts_cons gdst_zero gdst_succ retQ_normal retQ_ret qneed_nil qneed_cons retM_normal retM_ret endR_normal endR_ret endR_exit
attribute [local go_sem] Int.reduceToNat Int.reduceEq Int.reduceNe Int.reduceLT Int.reduceLE Int.reduceNeg Int.reduceAdd Nat.reduceEqDiff Nat.reduceAdd Nat.reduceSub Nat.reduceMul Nat.reduceLeDiff Nat.reduceLT
attribute [local go_sem ↓] reduceIte reduceCtorEq

theorem num_one {x : Nat} (h : x < W) : Num (.lst 1 [.int .u64 (x : Int)]) x :=
  ⟨[x], rfl, Ok.cons h Ok.nil, by simp [vl, dv], by simp⟩

/-- The fraction with its hidden bit. -/
def fm (b : Nat) : Nat := if fe b = 0 then ff b else ff b + 4503599627370496
/-- What they are worth (if they are a number). -/
def fd (b : Nat) : Dy := mkD (fs b) (fm b) (max (fe b : Int) 1 - 1075)

theorem fm_lt (b : Nat) : fm b < 9007199254740992 := by unfold fm; have := ff_lt b; split <;> omega
theorem fm_bits (b : Nat) : bitLen (fm b) ≤ 53 := (bitLen_le _ _).2 (fm_lt b)
theorem fm_W (b : Nat) : fm b < W := Nat.lt_trans (fm_lt b) (by decide)
theorem fd_e (b : Nat) : -1074 ≤ (fd b).e ∧ (fd b).e ≤ 1025 := by
  unfold fd mkD
  have h1 := fe_lt b
  have h2 := fm_bits b
  split
  · exact ⟨by decide, by decide⟩
  · rename_i h
    have h3 := tz_bits h
    show -1074 ≤ cut _ + (tz (fm b) : Int) ∧ cut _ + (tz (fm b) : Int) ≤ 1025
    rw [cut_id (by omega) (by omega)]
    omega
theorem fd_bits (b : Nat) : bitLen (fd b).m ≤ 53 := Nat.le_trans (mkD_bits _ _ _) (fm_bits b)
theorem fd_fits (b : Nat) : (fd b).fits := by have := fd_e b; exact ⟨by omega, by omega⟩

theorem c_FDyad (b : Nat) (hb : b < W) : PC E 66 [u b] (if fe b < 2047 then .tuple [(fd b).pv, .bool true] else .tuple [Dy.zero.pv, .bool false]) := by
  refine PC.of_body follows Tryd.func66 (by decide +kernel) rfl (by kernel_rfl) (Nat.le_of_ble_eq_true rfl) (walk ?_)
  have e1 := a52 hb
  have e2 := o52 (ff_lt b)
  have h1 := fe_lt b
  have hm : fm b = if fe b = 0 then ff b else ff b + 4503599627370496 := rfl
  have e3 : IntKind.wrap .i64 (max (fe b : Int) 1 - 1075) = max (fe b : Int) 1 - 1075 := wrap64 (by omega) (by omega)
  have fin : PC E 45 [.bool (fs b), .lst 1 [.int .u64 (fm b : Int)], .int .i64 (max (fe b : Int) 1 - 1075)] (.tuple [(fd b).pv, .int .i64 0]) :=
    PC.cast (c_Make (num_one (fm_W b)) (Nat.le_trans (fm_bits b) (by decide)) (fs b) _) (if_pos (fd_fits b))
  simp only [Tryd.f66, go_sem]
  refine qcall_i (c_Finite b hb) ?_; simp only [Tryd.f66, go_sem]
  by_cases hf : fe b < 2047
  · rw [decide_eq_true hf, if_pos hf]
    simp only [Tryd.f66, u, e1, go_sem]
    refine qcall_i (c_field b hb) ?_; simp only [Tryd.f66, u, e1, go_sem]
    refine qif_d (fun h => ?_) (fun h => ?_)
    · rw [if_neg (by omega)] at hm
      simp only [Tryd.f66, u, e2, go_sem]
      refine qcall_i (c_Neg b hb) ?_; simp only [Tryd.f66, u, e3, go_sem]
      rw [← hm]
      refine qcall_i (fin) ?_; simp only [Tryd.f66, Dy.pv, DP, NN, NL, go_sem]
    · rw [if_pos (by omega)] at hm
      simp only [Tryd.f66, u, e2, go_sem]
      refine qcall_i (c_Neg b hb) ?_; simp only [Tryd.f66, u, e3, go_sem]
      rw [← hm]
      refine qcall_i (fin) ?_; simp only [Tryd.f66, Dy.pv, DP, NN, NL, go_sem]
  · rw [decide_eq_false hf, if_neg hf]
    simp only [Tryd.f66, go_sem]
    rfl

theorem dg_one {x : Nat} (h0 : x ≠ 0) (h : x < W) : dg W x = [x] := by
  rw [dg_eq W2, if_neg h0, Nat.div_eq_of_lt h, Nat.mod_eq_of_lt h, dg_eq W2, if_pos rfl]

end Go.Proofs.YtejmlngnpekagaaDoor
end

/- The document's numbers: planimeterref05.Fits, To, Same; planimeterref06. -/
section
open Go PG Go.Proofs
set_option maxRecDepth 100000
set_option linter.unusedSimpArgs false
set_option linter.unusedVariables false
namespace Go.Proofs.YtejmlngnpekagaaDoor
attribute [local go_sem] Lay2 Lay3 Lay4 Lay5 Lay6 Lay7 Lay8 Lay9 Lay10 Lay11 Lay12 Lay13 Lay14 Lay15 Lay16 Lay17 Lay18 Lay19 Lay21 Lay22 Lay23 Lay24 Lay25 Lay30 Lay33 Lay36 Lay37 Lay46 Lay47 Lay48 Lay53 Lay54 Lay55 Lay59 Lay100 Lay101 Lay127 Lay146 Lay162 Lay168 Lay169 Lay173 Lay185 Lay186 Lay187 Lay188 Lay189 Lay191 Lay192 Lay194 Lay195 Lay196 Lay199 qexec_seq qexec_skip qexec_exit qexec_ret qexec_block qexec_loop qexec_range qexec_cond qexec_region qexec_drawn qops_nil qops_none qops_some put_some put_none pblk_exit pblk_other newDsts_nil inlDsts_nil isInl sget_cons sget_nil qval_some qbool_some qgs_bool qgs_und qfree_some qgrd_true qgrd_false qif_true qif_false qval_ite qval_itn qand_true map_ite map_some' map_none' qdo_move qdo_assign qdo_binOp qdo_pick qdo_unOp qdo_convert qdo_extract qdo_field qdo_fieldAddr qdo_alloc qdo_box qdo_build qdo_buildSlice qdo_load qdo_store qdo_nilCheck qdo_makeFunc qdo_makeSlice qdo_slice qdo_indexAddr qdo_call qcont_val qcont_new qcont_st qcont_app0 qcont_app qcont_inl qcont_call njSV_val njSV_nil njSV_row njSV_ptr njSV_sub binV_val binV_nil binV_nn binV_ptr bin_np bin_nnp nilCmp bin_add bin_sub bin_mul bin_quo bin_rem bin_and bin_or bin_xor bin_andNot bin_eql bin_neq bin_lss bin_leq bin_gtr bin_geq bin_shl bin_shr bin_seql bin_sneq bin_sadd bin_beql bin_aeql bin_aneq eqAnd_some eqCells_nil eqCells_cons fieldTypes isStruct eqCell bin_bneq un_not un_neg nj_ite Nat.beq stepA stepR isNew opSV constSV RV.sv allSome E_mu E_own qkeyIn_none qkeyIn_some qkeyAt_none qkeyAt_some Bool.or_false Bool.false_or Bool.or_true Bool.true_or cst setB res resSV pstart startL killL kill1 eraL frzL svPV rvPV rvInt rvSlice frzOf close closeL pconv pbuiltin pmax2 partPV setCells fillPV zrow bound newSV PV.cells Bk.cells Bk.with SV.key pres presL_nil presL_tmp presL_cell presC2_some cellPV_ptr presC List.toList_toArray List.size_toArray List.getElem?_drop Nat.mul_one Int.toNat_natCast Nat.not_lt_zero Nat.lt_irrefl decide_true decide_false Nat.not_lt Option.some.injEq PV.lst.injEq PV.int.injEq PV.bool.injEq PV.tuple.injEq List.cons.injEq Option.map_some Option.map_none Option.bind_some Option.toList List.map_cons List.map_nil List.nil_append List.cons_append List.append_nil List.zip_cons_cons List.zip_nil_left List.zip_nil_right List.getElem?_cons_zero List.getElem?_cons_succ List.drop_zero List.drop_succ_cons List.take_succ_cons List.take_zero List.set_cons_zero List.set_cons_succ List.length_cons List.length_nil List.length_set List.replicate_one List.replicate_zero bne_self_eq_false beq_self_eq_true Nat.zero_add Nat.add_zero Nat.zero_mul Bool.false_eq_true Bool.true_eq_false Bool.not_true Bool.not_false and_true true_and false_and and_false or_false false_or or_true true_or not_true_eq_false not_false_eq_true ne_eq gt_iff_lt List.mem_cons List.not_mem_nil
attribute [local go_sem ↓] pseq_normal pseq_ret pseq_exit pblk_normal pblk_ret newDsts_cons inlDsts_cons gdst_zero gdst_succ retQ_normal retQ_ret qneed_nil qneed_cons retM_normal retM_ret endR_normal endR_ret endR_exit
attribute [local go_sem] Int.reduceToNat Int.reduceEq Int.reduceNe Int.reduceLT Int.reduceLE Int.reduceNeg Int.reduceAdd Nat.reduceEqDiff Nat.reduceAdd Nat.reduceSub Nat.reduceMul Nat.reduceLeDiff Nat.reduceLT
attribute [local go_sem ↓] reduceIte reduceCtorEq

theorem mkD_zero_of {s : Bool} {x : Nat} {e : Int} (h : (mkD s x e).m = 0) : mkD s x e = .zero := by
  by_cases hx : x = 0
  · subst hx; rfl
  · exfalso
    rw [mkD, if_neg hx] at h
    obtain ⟨m, hm⟩ := tz_spec hx
    have : x / 2 ^ tz x = 2 * m + 1 := Nat.div_eq_of_eq_mul_right (Nat.two_pow_pos _) hm
    have h' : x / 2 ^ tz x = 0 := h
    omega

theorem c_Worth (b : Nat) (hb : b < W) : PC E 20 [u b] (fd b).nv := by
  refine PC.of_body follows Tryd.func20 (by decide +kernel) rfl (by kernel_rfl) (Nat.le_of_ble_eq_true rfl) (walk ?_)
  have hf := fe_lt b
  have hg := ff_lt b
  have e1 : IntKind.wrap .i64 (fe b : Int) = fe b := wrap64 (by omega) (by omega)
  have e2 : IntKind.wrap .i64 ((fe b : Int) - 1075) = fe b - 1075 := wrap64 (by omega) (by omega)
  have e3 : IntKind.wrap .u64 ((ff b : Int) + 4503599627370496) = ((ff b + 4503599627370496 : Nat) : Int) := by
    rw [show (ff b : Int) + 4503599627370496 = ((ff b + 4503599627370496 : Nat) : Int) by omega]
    exact wrap_nat64 (Nat.lt_of_lt_of_le (Nat.add_lt_add_right hg _) (by decide))
  have k := c_5Of (num_one (fm_W b)) (Nat.le_trans (fm_bits b) (by decide)) (fs b) (max (fe b : Int) 1 - 1075)
  rw [show mkD (fs b) (fm b) (max (fe b : Int) 1 - 1075) = fd b from rfl] at k
  simp only [Dy.nv, DP, VN, VL] at k ⊢
  have hs : decide ((b : Int) ≥ 9223372036854775808) = fs b := decide_eq_decide.2 (by omega)
  have hm : fm b = if fe b = 0 then ff b else ff b + 4503599627370496 := rfl
  simp only [Tryd.f20, u, t52, w52 hb, m11, m52, e1, go_sem]
  refine qif_d (fun h => ?_) (fun h => ?_)
  · rw [if_pos (by omega)] at hm
    rw [show max (fe b : Int) 1 - 1075 = -1074 by omega, hm] at k
    simp only [Tryd.f20, hs, go_sem]
    refine qcall_i (k) ?_; simp only [Tryd.f20, go_sem]
    rfl
  · rw [if_neg (by omega)] at hm
    rw [show max (fe b : Int) 1 - 1075 = fe b - 1075 by omega, hm] at k
    simp only [Tryd.f20, hs, e2, e3, go_sem]
    refine qcall_i (k) ?_; simp only [Tryd.f20, go_sem]
    rfl
end Go.Proofs.YtejmlngnpekagaaDoor
end

/- The order of numbers is the order of their bits: plain laws on what bits are worth. -/
section
open Go PG Go.Proofs
set_option maxRecDepth 100000
set_option linter.unusedSimpArgs false
set_option linter.unusedVariables false
namespace Go.Proofs.YtejmlngnpekagaaDoor

theorem at_shift (d : Dy) {k k' : Int} (h1 : k ≤ k') (h2 : k' ≤ d.e) : d.at k = d.at k' * ((2 ^ (k' - k).toNat : Nat) : Int) := by
  unfold Dy.at
  rw [show (d.e - k).toNat = (d.e - k').toNat + (k' - k).toNat by omega, Nat.pow_add, ← Nat.mul_assoc, Int.natCast_mul, Int.mul_assoc]
theorem sgn_mulI (x y : Int) (n : Nat) (h : 0 < n) : sgn (x * n) (y * n) = sgn x y := by
  have hn : (0 : Int) < n := by omega
  have h1 : x * n < y * n ↔ x < y := ⟨fun h => Int.lt_of_mul_lt_mul_right h (Int.le_of_lt hn), fun h => Int.mul_lt_mul_of_pos_right h hn⟩
  have h2 : y * n < x * n ↔ y < x := ⟨fun h => Int.lt_of_mul_lt_mul_right h (Int.le_of_lt hn), fun h => Int.mul_lt_mul_of_pos_right h hn⟩
  unfold sgn
  simp only [h1, h2]
/-- The order, at any unit that is small enough. -/
theorem cmpD_at (a b : Dy) {k : Int} (h1 : k ≤ a.e) (h2 : k ≤ b.e) : cmpD a b = sgn (a.at k) (b.at k) := by
  unfold cmpD
  rw [at_shift a (k := k) (k' := min a.e b.e) (by omega) (by omega), at_shift b (k := k) (k' := min a.e b.e) (by omega) (by omega), sgn_mulI _ _ _ (Nat.two_pow_pos _)]
theorem mkD_at (s : Bool) (x : Nat) {e k : Int} (h1 : -2147483648 ≤ e) (h2 : e ≤ 2147483648) (hk : k ≤ e) : (mkD s x e).at k = (if s = true then -1 else 1) * ((x * 2 ^ (e - k).toNat : Nat) : Int) := by
  unfold mkD
  by_cases hx : x = 0
  · rw [if_pos hx, hx]
    simp [Dy.at, Dy.zero]
  · rw [if_neg hx]
    obtain ⟨m, hm⟩ := tz_spec hx
    have : x / 2 ^ tz x = 2 * m + 1 := Nat.div_eq_of_eq_mul_right (Nat.two_pow_pos _) hm
    have hd : x / 2 ^ tz x * 2 ^ tz x = x := by rw [this, Nat.mul_comm]; exact hm.symm
    unfold Dy.at
    dsimp only
    rw [cut_id h1 h2, show (e + (tz x : Int) - k).toNat = tz x + (e - k).toNat by omega, Nat.pow_add, ← Nat.mul_assoc, hd]

/-- A number without a sign, in units of 2^-1074. -/
def fv (b : Nat) : Nat := fm b * 2 ^ (max (fe b) 1 - 1)
theorem fd_at (b : Nat) : (fd b).at (-1074) = (if fs b = true then -1 else 1) * (fv b : Int) := by
  have := fe_lt b
  rw [fd, mkD_at _ _ (by omega) (by omega) (by omega), fv]
  rw [show (max (fe b : Int) 1 - 1075 - -1074).toNat = max (fe b) 1 - 1 by omega]
theorem fv_lt {a b : Nat} (hb : b < 9223372036854775808) (h : a < b) : fv a < fv b := by
  have ha : a < 9223372036854775808 := Nat.lt_trans h hb
  have e1 : fe a = a / 4503599627370496 := by unfold fe; omega
  have e2 : fe b = b / 4503599627370496 := by unfold fe; omega
  have f1 : ff a = a % 4503599627370496 := rfl
  have f2 : ff b = b % 4503599627370496 := rfl
  unfold fv fm
  by_cases he : fe a = fe b
  · rw [he]
    refine Nat.mul_lt_mul_of_pos_right ?_ (Nat.two_pow_pos _)
    split <;> omega
  · have hlt : fe a < fe b := by omega
    have hb0 : fe b ≠ 0 := by omega
    rw [if_neg hb0]
    by_cases ha0 : fe a = 0
    · rw [if_pos ha0, ha0]
      have hp : 1 ≤ 2 ^ (max (fe b) 1 - 1) := Nat.two_pow_pos _
      have h3 : (ff b + 4503599627370496) * 1 ≤ (ff b + 4503599627370496) * 2 ^ (max (fe b) 1 - 1) := Nat.mul_le_mul_left _ hp
      have h4 : ff a < 4503599627370496 := ff_lt a
      rw [show max 0 1 - 1 = 0 from rfl, Nat.pow_zero, Nat.mul_one]
      omega
    · rw [if_neg ha0]
      have h5 : 2 ^ fe a ≤ 2 ^ (max (fe b) 1 - 1) := Nat.pow_le_pow_right (by decide) (by omega)
      have h6 : 2 ^ fe a = 2 * 2 ^ (max (fe a) 1 - 1) := by
        obtain ⟨n, hn⟩ : ∃ n, fe a = n + 1 := ⟨fe a - 1, by omega⟩
        rw [hn, show max (n + 1) 1 - 1 = n by omega, Nat.pow_succ, Nat.mul_comm]
      have h7 : 0 < 2 ^ (max (fe a) 1 - 1) := Nat.two_pow_pos _
      have h4 : ff a < 4503599627370496 := ff_lt a
      generalize 2 ^ (max (fe a) 1 - 1) = P at *
      generalize 2 ^ (max (fe b) 1 - 1) = Q at *
      have h8 : (ff a + 4503599627370496) * P < 9007199254740992 * P := Nat.mul_lt_mul_of_pos_right (by omega) h7
      have h9 : 4503599627370496 * Q ≤ (ff b + 4503599627370496) * Q := Nat.mul_le_mul_right _ (by omega)
      omega
theorem fv_sgn {a b : Nat} (ha : a < 9223372036854775808) (hb : b < 9223372036854775808) : sgn (fv a) (fv b) = sgn a b := by
  rcases Nat.lt_trichotomy a b with h | h | h
  · have := fv_lt hb h
    unfold sgn; rw [if_pos (by omega), if_pos (by omega)]
  · rw [h, sgn_self, sgn_self]
  · have := fv_lt ha h
    unfold sgn; rw [if_neg (by omega), if_pos (by omega), if_neg (by omega), if_pos (by omega)]
theorem fd_cmp {a b : Nat} (ha : a < 9223372036854775808) (hb : b < 9223372036854775808) : cmpD (fd a) (fd b) = sgn a b := by
  rw [cmpD_at (fd a) (fd b) (fd_e a).1 (fd_e b).1, fd_at, fd_at]
  have h1 : fs a = false := decide_eq_false (by omega)
  have h2 : fs b = false := decide_eq_false (by omega)
  rw [h1, h2, ← fv_sgn ha hb]
  simp
theorem fd_one : fd 4607182418800017408 = ⟨false, 1, 0⟩ := by
  have h : fm 4607182418800017408 = 2 ^ 52 * (2 * 0 + 1) := by decide
  have ht : tz (2 ^ 52 * (2 * 0 + 1)) = 52 := tz_of (m := 0) rfl
  unfold fd mkD
  rw [h, if_neg (by decide), ht]
  decide
theorem fd_ok (b : Nat) : (fd b).m = 0 ∨ (fd b).m % 2 = 1 := by
  unfold fd mkD
  split
  · exact .inl rfl
  · rename_i hx
    obtain ⟨m, hm⟩ := tz_spec hx
    have : fm b / 2 ^ tz (fm b) = 2 * m + 1 := Nat.div_eq_of_eq_mul_right (Nat.two_pow_pos _) hm
    right
    show fm b / 2 ^ tz (fm b) % 2 = 1
    omega
end Go.Proofs.YtejmlngnpekagaaDoor
end

/- The bits that are worth a dyad: float.Exact. -/
section
open Go PG Go.Proofs
set_option maxRecDepth 100000
set_option linter.unusedSimpArgs false
set_option linter.unusedVariables false
namespace Go.Proofs.YtejmlngnpekagaaDoor
attribute [local go_sem] Lay2 Lay3 Lay4 Lay5 Lay6 Lay7 Lay8 Lay9 Lay10 Lay11 Lay12 Lay13 Lay14 Lay15 Lay16 Lay17 Lay18 Lay19 Lay21 Lay22 Lay23 Lay24 Lay25 Lay30 Lay33 Lay36 Lay37 Lay46 Lay47 Lay48 Lay53 Lay54 Lay55 Lay59 Lay100 Lay101 Lay127 Lay146 Lay162 Lay168 Lay169 Lay173 Lay185 Lay186 Lay187 Lay188 Lay189 Lay191 Lay192 Lay194 Lay195 Lay196 Lay199 qexec_seq qexec_skip qexec_exit qexec_ret qexec_block qexec_loop qexec_range qexec_cond qexec_region qexec_drawn qops_nil qops_none qops_some put_some put_none pblk_exit pblk_other newDsts_nil inlDsts_nil isInl sget_cons sget_nil qval_some qbool_some qgs_bool qgs_und qfree_some qgrd_true qgrd_false qif_true qif_false qval_ite qval_itn qand_true map_ite map_some' map_none' qdo_move qdo_assign qdo_binOp qdo_pick qdo_unOp qdo_convert qdo_extract qdo_field qdo_fieldAddr qdo_alloc qdo_box qdo_build qdo_buildSlice qdo_load qdo_store qdo_nilCheck qdo_makeFunc qdo_makeSlice qdo_slice qdo_indexAddr qdo_call qcont_val qcont_new qcont_st qcont_app0 qcont_app qcont_inl qcont_call njSV_val njSV_nil njSV_row njSV_ptr njSV_sub binV_val binV_nil binV_nn binV_ptr bin_np bin_nnp nilCmp bin_add bin_sub bin_mul bin_quo bin_rem bin_and bin_or bin_xor bin_andNot bin_eql bin_neq bin_lss bin_leq bin_gtr bin_geq bin_shl bin_shr bin_seql bin_sneq bin_sadd bin_beql bin_aeql bin_aneq eqAnd_some eqCells_nil eqCells_cons fieldTypes isStruct eqCell bin_bneq un_not un_neg nj_ite Nat.beq stepA stepR isNew opSV constSV RV.sv allSome E_mu E_own qkeyIn_none qkeyIn_some qkeyAt_none qkeyAt_some Bool.or_false Bool.false_or Bool.or_true Bool.true_or cst setB res resSV pstart startL killL kill1 eraL frzL svPV rvPV rvInt rvSlice frzOf close closeL pconv pbuiltin pmax2 partPV setCells fillPV zrow bound newSV PV.cells Bk.cells Bk.with SV.key pres presL_nil presL_tmp presL_cell presC2_some cellPV_ptr presC List.toList_toArray List.size_toArray List.getElem?_drop Nat.mul_one Int.toNat_natCast Nat.not_lt_zero Nat.lt_irrefl decide_true decide_false Nat.not_lt Option.some.injEq PV.lst.injEq PV.int.injEq PV.bool.injEq PV.tuple.injEq List.cons.injEq Option.map_some Option.map_none Option.bind_some Option.toList List.map_cons List.map_nil List.nil_append List.cons_append List.append_nil List.zip_cons_cons List.zip_nil_left List.zip_nil_right List.getElem?_cons_zero List.getElem?_cons_succ List.drop_zero List.drop_succ_cons List.take_succ_cons List.take_zero List.set_cons_zero List.set_cons_succ List.length_cons List.length_nil List.length_set List.replicate_one List.replicate_zero bne_self_eq_false beq_self_eq_true Nat.zero_add Nat.add_zero Nat.zero_mul Bool.false_eq_true Bool.true_eq_false Bool.not_true Bool.not_false and_true true_and false_and and_false or_false false_or or_true true_or not_true_eq_false not_false_eq_true ne_eq gt_iff_lt List.mem_cons List.not_mem_nil
attribute [local go_sem ↓] pseq_normal pseq_ret pseq_exit pblk_normal pblk_ret newDsts_cons inlDsts_cons gdst_zero gdst_succ retQ_normal retQ_ret qneed_nil qneed_cons retM_normal retM_ret endR_normal endR_ret endR_exit
attribute [local go_sem] Int.reduceToNat Int.reduceEq Int.reduceNe Int.reduceLT Int.reduceLE Int.reduceNeg Int.reduceAdd Nat.reduceEqDiff Nat.reduceAdd Nat.reduceSub Nat.reduceMul Nat.reduceLeDiff Nat.reduceLT
attribute [local go_sem ↓] reduceIte reduceCtorEq

/-- The unit of the numbers round a top. -/
def unitOf (t : Int) : Int := max (t - 52) (-1074)
/-- The bits of so many units. -/
def packB (m : Nat) (unit : Int) : Nat := if 4503599627370496 ≤ m then m - 4503599627370496 + (unit + 1075).toNat * 4503599627370496 else m
def withS (s : Bool) (b : Nat) : Nat := if s = true then b + 9223372036854775808 else b
/-- The bits that are worth a bare dyad. -/
def exactS (d : Dy) : Option Nat :=
  if d.m = 0 then some 0 else if 1023 < d.top ∨ d.e < unitOf d.top then none
  else some (withS d.s (packB (d.m * 2 ^ (d.e - unitOf d.top).toNat) (unitOf d.top)))
def exPV (o : Option Nat) : PV := match o with
  | some b => .tuple [.int .u64 b, .bool true]
  | none => .tuple [.int .u64 0, .bool false]

theorem exact_bits {d : Dy} (h : d.m ≠ 0) (h2 : unitOf d.top ≤ d.e) : bitLen (d.m * 2 ^ (d.e - unitOf d.top).toNat) ≤ 53 := by
  rw [bitLen_shl _ _ h]
  unfold Dy.top at *
  rw [if_neg h] at *
  unfold unitOf at *
  omega
theorem o52k {f k : Nat} (hf : f < 4503599627370496) (hk : k < 2048) : bits .or .u64 (f : Int) ((k * 4503599627370496 : Nat) : Int) = ((f + k * 4503599627370496 : Nat) : Int) := by
  have h := b_or (a := f) (b := k * 4503599627370496) (Nat.lt_trans hf (by decide)) (by show _ < 18446744073709551616; omega)
  refine h.trans ?_
  have := Nat.two_pow_add_eq_or_of_lt (i := 52) (b := f) hf k
  rw [Nat.or_comm, Nat.mul_comm k, show (4503599627370496 : Nat) = 2 ^ 52 by decide, ← this, Nat.add_comm]
theorem packB_lt {m : Nat} {unit : Int} (hm : m < 9007199254740992) (h1 : -1074 ≤ unit) (h2 : unit ≤ 971) : packB m unit < 9223372036854775808 := by
  unfold packB; split <;> omega
theorem packS {s : Bool} {b : Nat} (hb : b < 9223372036854775808) : bits .or .u64 (b : Int) 9223372036854775808 = ((b + 9223372036854775808 : Nat) : Int) := o63 hb

theorem c_Exact {p : PV} {x : Nat} (hp : Num p x) (hb : bitLen x ≤ 1000000) (s : Bool) (e : Int) : PC E 46 [DP s p e] (exPV (if (mkD s x e).fits then exactS (mkD s x e) else none)) := by
  refine PC.of_body follows Tryd.func46 (by decide +kernel) rfl (by kernel_rfl) (Nat.le_of_ble_eq_true rfl) (walk ?_)
  have k1 := c_Top hp hb s e
  have k2 := c_DBare hp hb s e
  have b1 := mkD_bits s x e
  have b2 := mkD_range s x e hb
  have hz := @mkD_zero_of s x e
  have hx0 : x = 0 ↔ (mkD s x e).m = 0 := by
    constructor
    · intro h; subst h; rfl
    · intro h
      refine Decidable.byContradiction fun hx => ?_
      rw [mkD, if_neg hx] at h
      obtain ⟨m, hm⟩ := tz_spec hx
      have : x / 2 ^ tz x = 2 * m + 1 := Nat.div_eq_of_eq_mul_right (Nat.two_pow_pos _) hm
      have h' : x / 2 ^ tz x = 0 := h
      omega
  obtain ⟨l, rfl, ol, hlx, hl⟩ := hp
  clear hlx ol hl
  simp only [DP, NL] at k1 k2 ⊢
  generalize PV.lst l.length (U l) = P at *
  generalize hd : mkD s x e = d at *
  unfold exactS
  simp only [Tryd.f46, go_sem]
  refine qcall_i (k1) ?_; simp only [Tryd.f46, go_sem]
  by_cases h0 : d.m = 0
  · rw [decide_eq_false (by simpa using hx0.2 h0)]
    have hf : d.fits := by rw [hz h0]; decide
    rw [if_pos hf, if_pos h0]
    simp only [Tryd.f46, go_sem]
    rfl
  rw [decide_eq_true (show ¬ x = 0 from fun h => h0 (hx0.1 h))]
  by_cases hf : d.fits
  · rw [if_pos hf] at k2 ⊢
    rw [if_neg h0]
    have ht : d.top = bitLen d.m - 1 + d.e := if_neg h0
    have hbp := bitLen_pos h0
    have hu : unitOf d.top = max (d.top - 52) (-1074) := rfl
    have w1 : IntKind.wrap .i64 (d.top - 52) = d.top - 52 := wrap64 (by have := hf.1; omega) (by have := hf.2; omega)
    simp only [Dy.pv, DP, NN, NL] at k2
    simp only [Tryd.f46, go_sem]
    refine qcall_i (k2) ?_; simp only [Tryd.f46, w1, go_sem]
    rw [← hu]
    refine qif_d (fun h1 => ?_) (fun h1 => ?_)
    · simp only [Tryd.f46, go_sem]
      rw [if_pos (.inl h1)]; rfl
    simp only [Tryd.f46, go_sem]
    refine qif_d (fun h2 => ?_) (fun h2 => ?_)
    · simp only [Tryd.f46, go_sem]
      rw [if_pos (.inr h2)]; rfl
    rw [if_neg (by omega)]
    have h2' : unitOf d.top ≤ d.e := by omega
    have hM := exact_bits h0 h2'
    have hbs := bitLen_shl d.m (d.e - unitOf d.top).toNat h0
    have k3 := k_Shln (num_bits (x := d.m) (by omega)) (d.e - unitOf d.top).toNat (by omega)
    have hlt : d.m * 2 ^ (d.e - unitOf d.top).toNat < 9007199254740992 := (bitLen_le _ 53).1 hM
    generalize d.m * 2 ^ (d.e - unitOf d.top).toNat = M at *
    have hMW : M < W := Nat.lt_trans hlt (by decide)
    have k4 := k_Small (num_bits (x := M) (by omega))
    rw [if_pos hMW, decide_eq_true hMW] at k4
    have hr : -1074 ≤ unitOf d.top ∧ unitOf d.top ≤ 971 := by omega
    have w2 : IntKind.wrap .i64 (d.e - unitOf d.top) = ((d.e - unitOf d.top).toNat : Int) := by rw [wrap64 (by have := hf.1; omega) (by have := hf.2; omega)]; omega
    have w3 : IntKind.wrap .i64 (unitOf d.top + 1075) = ((unitOf d.top + 1075).toNat : Int) := by rw [wrap64 (by omega) (by omega)]; omega
    generalize unitOf d.top = t at *
    have hK : (t + 1075).toNat < 2048 := by omega
    have hpk : packB M t = if 4503599627370496 ≤ M then M - 4503599627370496 + (t + 1075).toNat * 4503599627370496 else M := rfl
    have hpl := packB_lt hlt hr.1 hr.2
    generalize (t + 1075).toNat = K at *
    have w4 : IntKind.wrap .u64 (K : Int) = (K : Int) := wrap_nat64 (Nat.lt_trans hK (by decide))
    have w5 : IntKind.wrap .u64 ((K : Int) * 2 ^ (min 52 64)) = ((K * 4503599627370496 : Nat) : Int) := by
      rw [b_shl K 52, show (2 ^ 52 : Nat) = 4503599627370496 by decide, Nat.mod_eq_of_lt (show K * 4503599627370496 < W by show _ < 18446744073709551616; omega)]
    have w6 := a52 hMW
    have w7 := o52k (f := ff M) (k := K) (ff_lt M) hK
    have w8 := packS (s := d.s) hpl
    simp only [Tryd.f46, w2, go_sem]
    refine qcall_i (k3) ?_; simp only [Tryd.f46, go_sem]
    refine qcall_i (k4) ?_; simp only [Tryd.f46, u, go_sem]
    refine qif_d (fun h3 => ?_) (fun h3 => ?_)
    · have e9 : ff M + K * 4503599627370496 = packB M t := by rw [hpk, if_pos (by omega)]; unfold ff; omega
      rw [e9] at w7
      unfold withS
      cases hs : d.s
      · simp only [Tryd.f46, w3, w4, w5, w6, w7, go_sem]
        rfl
      · simp only [Tryd.f46, w3, w4, w5, w6, w7, w8, go_sem]
        rfl
    · have e9 : M = packB M t := by rw [hpk, if_neg (by omega)]
      rw [← e9] at w8 ⊢
      unfold withS
      cases hs : d.s
      · simp only [Tryd.f46, go_sem]
        rfl
      · simp only [Tryd.f46, w8, go_sem]
        rfl
  · rw [if_neg hf] at k2 ⊢
    simp only [Dy.pv, Dy.zero, DP, NN, NL] at k2
    simp only [Tryd.f46, go_sem]
    refine qcall_i (k2) ?_; simp only [Tryd.f46, go_sem]
    rfl
end Go.Proofs.YtejmlngnpekagaaDoor
end
