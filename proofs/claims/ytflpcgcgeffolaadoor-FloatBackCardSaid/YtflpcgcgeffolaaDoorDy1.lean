/- A dyad as a sign, an odd number and an exponent; what dyad's functions that make one bare hand back. -/
import Derived.Test.YtflpcgcgeffolaaDoorNum
open Go PG Go.Proofs
set_option maxRecDepth 100000
set_option linter.unusedSimpArgs false
set_option linter.unusedVariables false
namespace Go.Proofs.YtflpcgcgeffolaaDoor
attribute [local go_sem] Lay2 Lay3 Lay4 Lay5 Lay6 Lay7 Lay8 Lay9 Lay10 Lay11 Lay12 Lay13 Lay14 Lay21 Lay22 Lay24 Lay25 Lay26 Lay27 Lay36 Lay37 Lay38 Lay39 Lay40 Lay41 Lay43 Lay46 Lay47 Lay66 Lay103 Lay105 Lay159 Lay164 Lay165 Lay166 Lay168 Lay169 Lay172 Lay173 qexec_seq qexec_skip qexec_exit qexec_ret qexec_block qexec_loop qexec_range qexec_cond qexec_region qops_nil qops_none qops_some put_some put_none pblk_exit pblk_other newDsts_nil sget_cons qval_some qbool_some qgs_bool qgs_und qfree_some qgrd_true qgrd_false qif_true qif_false qval_ite qval_itn qand_true map_ite map_some' map_none' qdo_move qdo_assign qdo_binOp qdo_pick qdo_unOp qdo_convert qdo_extract qdo_field qdo_fieldAddr qdo_alloc qdo_box qdo_build qdo_buildSlice qdo_load qdo_store qdo_nilCheck qdo_makeFunc qdo_makeSlice qdo_slice qdo_indexAddr qdo_call qcont_val qcont_new qcont_st qcont_app0 qcont_app qcont_inl qcont_call njSV_val njSV_nil njSV_row njSV_ptr njSV_sub binV_val binV_nil binV_nn nilCmp bin_add bin_sub bin_mul bin_quo bin_rem bin_and bin_or bin_xor bin_andNot bin_eql bin_neq bin_lss bin_leq bin_gtr bin_geq bin_shl bin_shr bin_seql bin_sneq bin_sadd bin_beql bin_aeql bin_aneq eqAnd_some eqCells_nil eqCells_cons fieldTypes isStruct eqCell bin_bneq un_not un_neg nj_ite Nat.beq stepA stepR isNew opSV constSV RV.sv allSome E_mu Bool.or_false Bool.false_or Bool.or_true Bool.true_or cst setB res resSV pstart startL killL kill1 eraL frzL svPV rvPV rvInt rvSlice frzOf close closeL pconv pbuiltin pmax2 partPV setCells fillPV zrow bound newSV PV.cells Bk.cells Bk.with SV.key pres presL_nil presL_tmp presL_cell presC2_some cellPV_ptr presC List.toList_toArray List.size_toArray List.getElem?_drop Nat.mul_one Int.toNat_natCast Nat.not_lt_zero Nat.lt_irrefl decide_true decide_false Nat.not_lt Option.some.injEq PV.lst.injEq PV.int.injEq PV.bool.injEq PV.tuple.injEq List.cons.injEq Option.map_some Option.map_none Option.bind_some Option.toList List.map_cons List.map_nil List.nil_append List.cons_append List.append_nil List.zip_cons_cons List.zip_nil_left List.zip_nil_right List.getElem?_cons_zero List.getElem?_cons_succ List.drop_zero List.drop_succ_cons List.take_succ_cons List.take_zero List.set_cons_zero List.set_cons_succ List.length_cons List.length_nil List.length_set List.replicate_one List.replicate_zero bne_self_eq_false beq_self_eq_true Nat.zero_add Nat.add_zero Nat.zero_mul Bool.false_eq_true Bool.true_eq_false Bool.not_true Bool.not_false and_true true_and false_and and_false or_false false_or or_true true_or not_true_eq_false not_false_eq_true ne_eq gt_iff_lt List.mem_cons List.not_mem_nil
attribute [local go_sem ↓] pseq_normal pseq_ret pseq_exit pblk_normal pblk_ret newDsts_cons gdst_zero gdst_succ retQ_normal retQ_ret retM_normal retM_ret endR_normal endR_ret endR_exit

/-- A bare dyad: an odd number, or 0 without a sign and an exponent. -/
structure Dy where
  s : Bool
  m : Nat
  e : Int
  deriving DecidableEq
def Dy.zero : Dy := ⟨false, 0, 0⟩
def DP (s : Bool) (p : PV) (e : Int) : PV := .agg [.bool s, p, .int .i64 e]
def Dy.pv (d : Dy) : PV := DP d.s (NN d.m) d.e
def Dy.nv (d : Dy) : PV := DP d.s (VN d.m) d.e

def cut (e : Int) : Int := if e < -2147483648 then -2147483648 else if 2147483648 < e then 2147483648 else e
theorem cut_le (e : Int) : -2147483648 ≤ cut e ∧ cut e ≤ 2147483648 := by unfold cut; split <;> (try split) <;> omega
theorem cut_id {e : Int} (h1 : -2147483648 ≤ e) (h2 : e ≤ 2147483648) : cut e = e := by unfold cut; rw [if_neg (by omega), if_neg (by omega)]

/-- The dyad that a sign, a number and an exponent make. -/
def mkD (s : Bool) (x : Nat) (e : Int) : Dy := if x = 0 then .zero else ⟨s, x / 2 ^ tz x, cut e + tz x⟩

theorem c_cut (e : Int) : PC E 132 [.int .i64 e] (.int .i64 (cut e)) := by
  refine PC.of_body follows Tryd.func132 (by decide +kernel) rfl (by kernel_rfl) (Nat.le_of_ble_eq_true rfl) (walk ?_)
  simp only [Tryd.f132, go_sem, Int.reduceToNat, Int.reduceEq, Int.reduceNe, Int.reduceLT, Int.reduceLE, Int.reduceNeg, Int.reduceAdd, ↓reduceIte, ↓reduceCtorEq, Nat.reduceEqDiff, Nat.reduceAdd, Nat.reduceSub, Nat.reduceMul, Nat.reduceLeDiff, Nat.reduceLT]
  unfold cut
  split <;> (try split) <;> omega

theorem c_rcut (e : Int) : PC E 83 [.int .i64 e] (.int .i64 (cut e)) := by
  refine PC.of_body follows Tryd.func83 (by decide +kernel) rfl (by kernel_rfl) (Nat.le_of_ble_eq_true rfl) (walk ?_)
  simp only [Tryd.f83, go_sem, Int.reduceToNat, Int.reduceEq, Int.reduceNe, Int.reduceLT, Int.reduceLE, Int.reduceNeg, Int.reduceAdd, ↓reduceIte, ↓reduceCtorEq, Nat.reduceEqDiff, Nat.reduceAdd, Nat.reduceSub, Nat.reduceMul, Nat.reduceLeDiff, Nat.reduceLT]
  refine qif_d (fun h => ?_) (fun h => ?_)
  · simp only [Tryd.f83, go_sem, Int.reduceToNat, Int.reduceEq, Int.reduceNe, Int.reduceLT, Int.reduceLE, Int.reduceNeg, Int.reduceAdd, ↓reduceIte, ↓reduceCtorEq, Nat.reduceEqDiff, Nat.reduceAdd, Nat.reduceSub, Nat.reduceMul, Nat.reduceLeDiff, Nat.reduceLT]
    unfold cut
    rw [if_neg (by omega), if_pos (by omega)]
  · simp only [Tryd.f83, go_sem, Int.reduceToNat, Int.reduceEq, Int.reduceNe, Int.reduceLT, Int.reduceLE, Int.reduceNeg, Int.reduceAdd, ↓reduceIte, ↓reduceCtorEq, Nat.reduceEqDiff, Nat.reduceAdd, Nat.reduceSub, Nat.reduceMul, Nat.reduceLeDiff, Nat.reduceLT]
    refine qif_d (fun h2 => ?_) (fun h2 => ?_)
    · simp only [Tryd.f83, go_sem, Int.reduceToNat, Int.reduceEq, Int.reduceNe, Int.reduceLT, Int.reduceLE, Int.reduceNeg, Int.reduceAdd, ↓reduceIte, ↓reduceCtorEq, Nat.reduceEqDiff, Nat.reduceAdd, Nat.reduceSub, Nat.reduceMul, Nat.reduceLeDiff, Nat.reduceLT]
      unfold cut
      rw [if_pos (by omega)]
    · simp only [Tryd.f83, go_sem, Int.reduceToNat, Int.reduceEq, Int.reduceNe, Int.reduceLT, Int.reduceLE, Int.reduceNeg, Int.reduceAdd, ↓reduceIte, ↓reduceCtorEq, Nat.reduceEqDiff, Nat.reduceAdd, Nat.reduceSub, Nat.reduceMul, Nat.reduceLeDiff, Nat.reduceLT]
      rw [cut_id (by omega) (by omega)]

theorem tz_bits {x : Nat} (h : x ≠ 0) : tz x < bitLen x := by
  obtain ⟨m, hm⟩ := tz_spec h
  rcases Nat.lt_or_ge (tz x) (bitLen x) with h1 | h1
  · exact h1
  · have h2 := (bitLen_le x _).1 h1
    generalize tz x = t at *
    have : 2 ^ t * 1 ≤ 2 ^ t * (2 * m + 1) := Nat.mul_le_mul_left _ (by omega)
    omega

theorem dg_nil {x : Nat} (h : (dg W x).length = 0) : x = 0 := by
  have := dv_dg W2 x
  rw [List.length_eq_zero_iff.1 h] at this
  exact this.symm

theorem c_bare {p : PV} {x : Nat} (hp : Num p x) (hb : bitLen x ≤ 1000000) (s : Bool) (e : Int) : PC E 104 [DP s p e] (mkD s x e).pv := by
  refine PC.of_body follows Tryd.func104 (by decide +kernel) rfl (by kernel_rfl) (Nat.le_of_ble_eq_true rfl) (walk ?_)
  simp only [DP]
  have cl := cut_le e
  simp only [Tryd.f104, go_sem, Int.reduceToNat, Int.reduceEq, Int.reduceNe, Int.reduceLT, Int.reduceLE, Int.reduceNeg, Int.reduceAdd, ↓reduceIte, ↓reduceCtorEq, Nat.reduceEqDiff, Nat.reduceAdd, Nat.reduceSub, Nat.reduceMul, Nat.reduceLeDiff, Nat.reduceLT]
  refine qcall_i (k_Bare hp) ?_; simp only [Tryd.f104, NN, NL, go_sem, Int.reduceToNat, Int.reduceEq, Int.reduceNe, Int.reduceLT, Int.reduceLE, Int.reduceNeg, Int.reduceAdd, ↓reduceIte, ↓reduceCtorEq, Nat.reduceEqDiff, Nat.reduceAdd, Nat.reduceSub, Nat.reduceMul, Nat.reduceLeDiff, Nat.reduceLT]
  by_cases hx : x = 0
  · subst hx
    refine qif_dt rfl ?_
    simp only [Tryd.f104, go_sem, Int.reduceToNat, Int.reduceEq, Int.reduceNe, Int.reduceLT, Int.reduceLE, Int.reduceNeg, Int.reduceAdd, ↓reduceIte, ↓reduceCtorEq, Nat.reduceEqDiff, Nat.reduceAdd, Nat.reduceSub, Nat.reduceMul, Nat.reduceLeDiff, Nat.reduceLT]
    rfl
  · refine qif_df (fun h => hx (dg_nil (by omega))) ?_
    have := tz_bits hx
    have e1 : IntKind.wrap .i64 (cut e + (tz x : Int)) = cut e + (tz x : Int) := wrap64 (by omega) (by omega)
    simp only [Tryd.f104, go_sem, Int.reduceToNat, Int.reduceEq, Int.reduceNe, Int.reduceLT, Int.reduceLE, Int.reduceNeg, Int.reduceAdd, ↓reduceIte, ↓reduceCtorEq, Nat.reduceEqDiff, Nat.reduceAdd, Nat.reduceSub, Nat.reduceMul, Nat.reduceLeDiff, Nat.reduceLT]
    refine qcall_i (k_Low (num_bits (x := x) hb)) ?_; simp only [Tryd.f104, go_sem, Int.reduceToNat, Int.reduceEq, Int.reduceNe, Int.reduceLT, Int.reduceLE, Int.reduceNeg, Int.reduceAdd, ↓reduceIte, ↓reduceCtorEq, Nat.reduceEqDiff, Nat.reduceAdd, Nat.reduceSub, Nat.reduceMul, Nat.reduceLeDiff, Nat.reduceLT]
    refine qcall_i (k_Shrn (num_bits (x := x) hb) (tz x)) ?_; simp only [Tryd.f104, go_sem, Int.reduceToNat, Int.reduceEq, Int.reduceNe, Int.reduceLT, Int.reduceLE, Int.reduceNeg, Int.reduceAdd, ↓reduceIte, ↓reduceCtorEq, Nat.reduceEqDiff, Nat.reduceAdd, Nat.reduceSub, Nat.reduceMul, Nat.reduceLeDiff, Nat.reduceLT]
    refine qcall_i (c_cut e) ?_; simp only [Tryd.f104, e1, NN, NL, go_sem, Int.reduceToNat, Int.reduceEq, Int.reduceNe, Int.reduceLT, Int.reduceLE, Int.reduceNeg, Int.reduceAdd, ↓reduceIte, ↓reduceCtorEq, Nat.reduceEqDiff, Nat.reduceAdd, Nat.reduceSub, Nat.reduceMul, Nat.reduceLeDiff, Nat.reduceLT]
    rw [mkD, if_neg hx]
    rfl

/-- Is its exponent within the ends that may be told? -/
def Dy.fits (d : Dy) : Prop := -1073741824 ≤ d.e ∧ d.e ≤ 1073741824
instance (d : Dy) : Decidable d.fits := inferInstanceAs (Decidable (_ ∧ _))

theorem c_DBare {p : PV} {x : Nat} (hp : Num p x) (hb : bitLen x ≤ 1000000) (s : Bool) (e : Int) :
    PC E 91 [DP s p e] (if (mkD s x e).fits then .tuple [(mkD s x e).pv, .int .i64 0] else .tuple [Dy.zero.pv, .int .i64 2]) := by
  refine PC.of_body follows Tryd.func91 (by decide +kernel) rfl (by kernel_rfl) (Nat.le_of_ble_eq_true rfl) (walk ?_)
  simp only [DP]
  simp only [Tryd.f91, go_sem, Int.reduceToNat, Int.reduceEq, Int.reduceNe, Int.reduceLT, Int.reduceLE, Int.reduceNeg, Int.reduceAdd, ↓reduceIte, ↓reduceCtorEq, Nat.reduceEqDiff, Nat.reduceAdd, Nat.reduceSub, Nat.reduceMul, Nat.reduceLeDiff, Nat.reduceLT]
  refine qcall_i (c_bare hp hb s e) ?_; simp only [Tryd.f91, Dy.pv, DP, NN, NL, go_sem, Int.reduceToNat, Int.reduceEq, Int.reduceNe, Int.reduceLT, Int.reduceLE, Int.reduceNeg, Int.reduceAdd, ↓reduceIte, ↓reduceCtorEq, Nat.reduceEqDiff, Nat.reduceAdd, Nat.reduceSub, Nat.reduceMul, Nat.reduceLeDiff, Nat.reduceLT]
  generalize mkD s x e = d
  refine qif_d (fun h => ?_) (fun h => ?_)
  · simp only [Tryd.f91, go_sem, Int.reduceToNat, Int.reduceEq, Int.reduceNe, Int.reduceLT, Int.reduceLE, Int.reduceNeg, Int.reduceAdd, ↓reduceIte, ↓reduceCtorEq, Nat.reduceEqDiff, Nat.reduceAdd, Nat.reduceSub, Nat.reduceMul, Nat.reduceLeDiff, Nat.reduceLT]
    rw [if_neg (fun h2 => by have := h2.1; omega)]; rfl
  · simp only [Tryd.f91, go_sem, Int.reduceToNat, Int.reduceEq, Int.reduceNe, Int.reduceLT, Int.reduceLE, Int.reduceNeg, Int.reduceAdd, ↓reduceIte, ↓reduceCtorEq, Nat.reduceEqDiff, Nat.reduceAdd, Nat.reduceSub, Nat.reduceMul, Nat.reduceLeDiff, Nat.reduceLT]
    refine qif_d (fun h1 => ?_) (fun h1 => ?_)
    · simp only [Tryd.f91, go_sem, Int.reduceToNat, Int.reduceEq, Int.reduceNe, Int.reduceLT, Int.reduceLE, Int.reduceNeg, Int.reduceAdd, ↓reduceIte, ↓reduceCtorEq, Nat.reduceEqDiff, Nat.reduceAdd, Nat.reduceSub, Nat.reduceMul, Nat.reduceLeDiff, Nat.reduceLT]
      rw [if_neg (fun h2 => by have := h2.2; omega)]; rfl
    · simp only [Tryd.f91, go_sem, Int.reduceToNat, Int.reduceEq, Int.reduceNe, Int.reduceLT, Int.reduceLE, Int.reduceNeg, Int.reduceAdd, ↓reduceIte, ↓reduceCtorEq, Nat.reduceEqDiff, Nat.reduceAdd, Nat.reduceSub, Nat.reduceMul, Nat.reduceLeDiff, Nat.reduceLT]
      rw [if_pos ⟨by omega, by omega⟩]; rfl

theorem c_Make {p : PV} {x : Nat} (hp : Num p x) (hb : bitLen x ≤ 1000000) (s : Bool) (e : Int) :
    PC E 87 [.bool s, p, .int .i64 e] (if (mkD s x e).fits then .tuple [(mkD s x e).pv, .int .i64 0] else .tuple [Dy.zero.pv, .int .i64 2]) := by
  refine PC.of_body follows Tryd.func87 (by decide +kernel) rfl (by kernel_rfl) (Nat.le_of_ble_eq_true rfl) (walk ?_)
  have h := c_DBare hp hb s e
  obtain ⟨l, rfl, ol, rfl, hl⟩ := hp
  simp only [DP, NL] at h ⊢
  generalize mkD s (vl l) e = d at h ⊢
  split at h
  · simp only [Tryd.f87, go_sem, Int.reduceToNat, Int.reduceEq, Int.reduceNe, Int.reduceLT, Int.reduceLE, Int.reduceNeg, Int.reduceAdd, ↓reduceIte, ↓reduceCtorEq, Nat.reduceEqDiff, Nat.reduceAdd, Nat.reduceSub, Nat.reduceMul, Nat.reduceLeDiff, Nat.reduceLT]
    refine qcall_i (h) ?_; simp only [Tryd.f87, Dy.pv, DP, NN, NL, go_sem, Int.reduceToNat, Int.reduceEq, Int.reduceNe, Int.reduceLT, Int.reduceLE, Int.reduceNeg, Int.reduceAdd, ↓reduceIte, ↓reduceCtorEq, Nat.reduceEqDiff, Nat.reduceAdd, Nat.reduceSub, Nat.reduceMul, Nat.reduceLeDiff, Nat.reduceLT]
    rw [if_pos ‹_›]
  · simp only [Tryd.f87, go_sem, Int.reduceToNat, Int.reduceEq, Int.reduceNe, Int.reduceLT, Int.reduceLE, Int.reduceNeg, Int.reduceAdd, ↓reduceIte, ↓reduceCtorEq, Nat.reduceEqDiff, Nat.reduceAdd, Nat.reduceSub, Nat.reduceMul, Nat.reduceLeDiff, Nat.reduceLT]
    refine qcall_i (h) ?_; simp only [Tryd.f87, Dy.pv, DP, NN, NL, go_sem, Int.reduceToNat, Int.reduceEq, Int.reduceNe, Int.reduceLT, Int.reduceLE, Int.reduceNeg, Int.reduceAdd, ↓reduceIte, ↓reduceCtorEq, Nat.reduceEqDiff, Nat.reduceAdd, Nat.reduceSub, Nat.reduceMul, Nat.reduceLeDiff, Nat.reduceLT]
    rw [if_neg ‹_›]

theorem mkD_bits (s : Bool) (x : Nat) (e : Int) : bitLen (mkD s x e).m ≤ bitLen x := by
  unfold mkD
  split
  · exact Nat.zero_le _
  · exact bitLen_mono (Nat.div_le_self _ _)

/-- The greatest power of two; 0 of 0. -/
def Dy.top (d : Dy) : Int := if d.m = 0 then 0 else bitLen d.m - 1 + d.e

theorem mkD_range (s : Bool) (x : Nat) (e : Int) (hb : bitLen x ≤ 1000000) : -2147483648 ≤ (mkD s x e).e ∧ (mkD s x e).e ≤ 2148483648 := by
  unfold mkD
  have := cut_le e
  split
  · exact ⟨by decide, by decide⟩
  · rename_i h
    have := tz_bits h
    show -2147483648 ≤ cut e + tz x ∧ cut e + tz x ≤ 2148483648
    omega

theorem c_Top {p : PV} {x : Nat} (hp : Num p x) (hb : bitLen x ≤ 1000000) (s : Bool) (e : Int) :
    PC E 85 [DP s p e] (.tuple [.int .i64 (mkD s x e).top, .bool (decide (x ≠ 0))]) := by
  refine PC.of_body follows Tryd.func85 (by decide +kernel) rfl (by kernel_rfl) (Nat.le_of_ble_eq_true rfl) (walk ?_)
  simp only [DP]
  have b1 := mkD_bits s x e
  have b2 := mkD_range s x e hb
  have b3 : x = 0 ↔ (mkD s x e).m = 0 := by
    constructor
    · intro h; subst h; rfl
    · intro h
      refine Decidable.byContradiction fun hx => ?_
      rw [mkD, if_neg hx] at h
      obtain ⟨m, hm⟩ := tz_spec hx
      have : x / 2 ^ tz x = 2 * m + 1 := Nat.div_eq_of_eq_mul_right (Nat.two_pow_pos _) hm
      have h' : x / 2 ^ tz x = 0 := h
      omega
  simp only [Tryd.f85, go_sem, Int.reduceToNat, Int.reduceEq, Int.reduceNe, Int.reduceLT, Int.reduceLE, Int.reduceNeg, Int.reduceAdd, ↓reduceIte, ↓reduceCtorEq, Nat.reduceEqDiff, Nat.reduceAdd, Nat.reduceSub, Nat.reduceMul, Nat.reduceLeDiff, Nat.reduceLT]
  refine qcall_i (c_bare hp hb s e) ?_; simp only [Tryd.f85, Dy.pv, DP, NN, NL, go_sem, Int.reduceToNat, Int.reduceEq, Int.reduceNe, Int.reduceLT, Int.reduceLE, Int.reduceNeg, Int.reduceAdd, ↓reduceIte, ↓reduceCtorEq, Nat.reduceEqDiff, Nat.reduceAdd, Nat.reduceSub, Nat.reduceMul, Nat.reduceLeDiff, Nat.reduceLT]
  generalize mkD s x e = d at *
  unfold Dy.top
  by_cases hx : x = 0
  · have hm := b3.1 hx
    refine qif_dt (by rw [hm]; rfl) ?_
    simp only [Tryd.f85, go_sem, Int.reduceToNat, Int.reduceEq, Int.reduceNe, Int.reduceLT, Int.reduceLE, Int.reduceNeg, Int.reduceAdd, ↓reduceIte, ↓reduceCtorEq, Nat.reduceEqDiff, Nat.reduceAdd, Nat.reduceSub, Nat.reduceMul, Nat.reduceLeDiff, Nat.reduceLT]
    rw [if_pos hm, decide_eq_false (by simpa using hx)]
    exact ⟨rfl, rfl⟩
  · have hm : d.m ≠ 0 := fun h => hx (b3.2 h)
    refine qif_df (fun h => hm (dg_nil (by omega))) ?_
    have hbp := bitLen_pos hm
    have e1 : IntKind.wrap .i64 ((bitLen d.m : Int) - 1) = bitLen d.m - 1 := wrap64 (by omega) (by omega)
    have e2 : IntKind.wrap .i64 ((bitLen d.m : Int) - 1 + d.e) = bitLen d.m - 1 + d.e := wrap64 (by omega) (by omega)
    simp only [Tryd.f85, go_sem, Int.reduceToNat, Int.reduceEq, Int.reduceNe, Int.reduceLT, Int.reduceLE, Int.reduceNeg, Int.reduceAdd, ↓reduceIte, ↓reduceCtorEq, Nat.reduceEqDiff, Nat.reduceAdd, Nat.reduceSub, Nat.reduceMul, Nat.reduceLeDiff, Nat.reduceLT]
    refine qcall_i (k_Bits (num_bits (x := d.m) (by omega))) ?_; simp only [Tryd.f85, e1, e2, go_sem, Int.reduceToNat, Int.reduceEq, Int.reduceNe, Int.reduceLT, Int.reduceLE, Int.reduceNeg, Int.reduceAdd, ↓reduceIte, ↓reduceCtorEq, Nat.reduceEqDiff, Nat.reduceAdd, Nat.reduceSub, Nat.reduceMul, Nat.reduceLeDiff, Nat.reduceLT]
    rw [if_neg hm, decide_eq_true hx]
    exact ⟨rfl, rfl⟩

theorem c_Sign {p : PV} {x : Nat} (hp : Num p x) (s : Bool) (e : Int) :
    PC E 59 [DP s p e] (.int .i64 (if x = 0 then 0 else if s = true then -1 else 1)) := by
  refine PC.of_body follows Tryd.func59 (by decide +kernel) rfl (by kernel_rfl) (Nat.le_of_ble_eq_true rfl) (walk ?_)
  obtain ⟨l, rfl, ol, rfl, hl⟩ := hp
  simp only [DP, NL]
  simp only [Tryd.f59, go_sem, Int.reduceToNat, Int.reduceEq, Int.reduceNe, Int.reduceLT, Int.reduceLE, Int.reduceNeg, Int.reduceAdd, ↓reduceIte, ↓reduceCtorEq, Nat.reduceEqDiff, Nat.reduceAdd, Nat.reduceSub, Nat.reduceMul, Nat.reduceLeDiff, Nat.reduceLT]
  refine qcall_i (k_Bits (num_NL ol hl)) ?_; simp only [Tryd.f59, go_sem, Int.reduceToNat, Int.reduceEq, Int.reduceNe, Int.reduceLT, Int.reduceLE, Int.reduceNeg, Int.reduceAdd, ↓reduceIte, ↓reduceCtorEq, Nat.reduceEqDiff, Nat.reduceAdd, Nat.reduceSub, Nat.reduceMul, Nat.reduceLeDiff, Nat.reduceLT]
  by_cases hx : vl l = 0
  · refine qif_dt (by rw [hx]; rfl) ?_
    simp only [Tryd.f59, go_sem, Int.reduceToNat, Int.reduceEq, Int.reduceNe, Int.reduceLT, Int.reduceLE, Int.reduceNeg, Int.reduceAdd, ↓reduceIte, ↓reduceCtorEq, Nat.reduceEqDiff, Nat.reduceAdd, Nat.reduceSub, Nat.reduceMul, Nat.reduceLeDiff, Nat.reduceLT]
    rw [if_pos hx]
  · have := bitLen_pos hx
    refine qif_df (by omega) ?_
    simp only [Tryd.f59, go_sem, Int.reduceToNat, Int.reduceEq, Int.reduceNe, Int.reduceLT, Int.reduceLE, Int.reduceNeg, Int.reduceAdd, ↓reduceIte, ↓reduceCtorEq, Nat.reduceEqDiff, Nat.reduceAdd, Nat.reduceSub, Nat.reduceMul, Nat.reduceLeDiff, Nat.reduceLT]
    rw [if_neg hx]
    cases s
    · simp only [Tryd.f59, go_sem, Int.reduceToNat, Int.reduceEq, Int.reduceNe, Int.reduceLT, Int.reduceLE, Int.reduceNeg, Int.reduceAdd, ↓reduceIte, ↓reduceCtorEq, Nat.reduceEqDiff, Nat.reduceAdd, Nat.reduceSub, Nat.reduceMul, Nat.reduceLeDiff, Nat.reduceLT]
    · simp only [Tryd.f59, go_sem, Int.reduceToNat, Int.reduceEq, Int.reduceNe, Int.reduceLT, Int.reduceLE, Int.reduceNeg, Int.reduceAdd, ↓reduceIte, ↓reduceCtorEq, Nat.reduceEqDiff, Nat.reduceAdd, Nat.reduceSub, Nat.reduceMul, Nat.reduceLeDiff, Nat.reduceLT]
end Go.Proofs.YtflpcgcgeffolaaDoor
