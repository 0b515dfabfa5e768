/- The bits that are worth a dyad: float.Exact. -/
import Derived.Test.YtflpcgcgeffolaaDoorFl3
open Go PG Go.Proofs
set_option maxRecDepth 100000
set_option linter.unusedSimpArgs false
set_option linter.unusedVariables false
namespace Go.Proofs.YtflpcgcgeffolaaDoor
attribute [local go_sem] Lay2 Lay3 Lay4 Lay5 Lay6 Lay7 Lay8 Lay9 Lay10 Lay11 Lay12 Lay13 Lay14 Lay21 Lay22 Lay24 Lay25 Lay26 Lay27 Lay36 Lay37 Lay38 Lay39 Lay40 Lay41 Lay43 Lay46 Lay47 Lay66 Lay103 Lay105 Lay159 Lay164 Lay165 Lay166 Lay168 Lay169 Lay172 Lay173 qexec_seq qexec_skip qexec_exit qexec_ret qexec_block qexec_loop qexec_range qexec_cond qexec_region qops_nil qops_none qops_some put_some put_none pblk_exit pblk_other newDsts_nil sget_cons qval_some qbool_some qgs_bool qgs_und qfree_some qgrd_true qgrd_false qif_true qif_false qval_ite qval_itn qand_true map_ite map_some' map_none' qdo_move qdo_assign qdo_binOp qdo_pick qdo_unOp qdo_convert qdo_extract qdo_field qdo_fieldAddr qdo_alloc qdo_box qdo_build qdo_buildSlice qdo_load qdo_store qdo_nilCheck qdo_makeFunc qdo_makeSlice qdo_slice qdo_indexAddr qdo_call qcont_val qcont_new qcont_st qcont_app0 qcont_app qcont_inl qcont_call njSV_val njSV_nil njSV_row njSV_ptr njSV_sub binV_val binV_nil binV_nn nilCmp bin_add bin_sub bin_mul bin_quo bin_rem bin_and bin_or bin_xor bin_andNot bin_eql bin_neq bin_lss bin_leq bin_gtr bin_geq bin_shl bin_shr bin_seql bin_sneq bin_sadd bin_beql bin_aeql bin_aneq eqAnd_some eqCells_nil eqCells_cons fieldTypes isStruct eqCell bin_bneq un_not un_neg nj_ite Nat.beq stepA stepR isNew opSV constSV RV.sv allSome E_mu Bool.or_false Bool.false_or Bool.or_true Bool.true_or cst setB res resSV pstart startL killL kill1 eraL frzL svPV rvPV rvInt rvSlice frzOf close closeL pconv pbuiltin pmax2 partPV setCells fillPV zrow bound newSV PV.cells Bk.cells Bk.with SV.key pres presL_nil presL_tmp presL_cell presC2_some cellPV_ptr presC List.toList_toArray List.size_toArray List.getElem?_drop Nat.mul_one Int.toNat_natCast Nat.not_lt_zero Nat.lt_irrefl decide_true decide_false Nat.not_lt Option.some.injEq PV.lst.injEq PV.int.injEq PV.bool.injEq PV.tuple.injEq List.cons.injEq Option.map_some Option.map_none Option.bind_some Option.toList List.map_cons List.map_nil List.nil_append List.cons_append List.append_nil List.zip_cons_cons List.zip_nil_left List.zip_nil_right List.getElem?_cons_zero List.getElem?_cons_succ List.drop_zero List.drop_succ_cons List.take_succ_cons List.take_zero List.set_cons_zero List.set_cons_succ List.length_cons List.length_nil List.length_set List.replicate_one List.replicate_zero bne_self_eq_false beq_self_eq_true Nat.zero_add Nat.add_zero Nat.zero_mul Bool.false_eq_true Bool.true_eq_false Bool.not_true Bool.not_false and_true true_and false_and and_false or_false false_or or_true true_or not_true_eq_false not_false_eq_true ne_eq gt_iff_lt List.mem_cons List.not_mem_nil
attribute [local go_sem ↓] pseq_normal pseq_ret pseq_exit pblk_normal pblk_ret newDsts_cons gdst_zero gdst_succ retQ_normal retQ_ret retM_normal retM_ret endR_normal endR_ret endR_exit

/-- The unit of the numbers round a top. -/
def unitOf (t : Int) : Int := max (t - 52) (-1074)
/-- The bits of so many units. -/
def packB (m : Nat) (unit : Int) : Nat := if 4503599627370496 ≤ m then m - 4503599627370496 + (unit + 1075).toNat * 4503599627370496 else m
def withS (s : Bool) (b : Nat) : Nat := if s = true then b + 9223372036854775808 else b
/-- The bits that are worth a bare dyad. -/
def exactS (d : Dy) : Option Nat :=
  if d.m = 0 then some 0 else if 1023 < d.top ∨ d.e < unitOf d.top then none
  else some (withS d.s (packB (d.m * 2 ^ (d.e - unitOf d.top).toNat) (unitOf d.top)))
def exPV (o : Option Nat) : PV := match o with
  | some b => .tuple [.int .u64 b, .bool true]
  | none => .tuple [.int .u64 0, .bool false]

theorem exact_bits {d : Dy} (h : d.m ≠ 0) (h2 : unitOf d.top ≤ d.e) : bitLen (d.m * 2 ^ (d.e - unitOf d.top).toNat) ≤ 53 := by
  rw [bitLen_shl _ _ h]
  unfold Dy.top at *
  rw [if_neg h] at *
  unfold unitOf at *
  omega
theorem o52k {f k : Nat} (hf : f < 4503599627370496) (hk : k < 2048) : bits .or .u64 (f : Int) ((k * 4503599627370496 : Nat) : Int) = ((f + k * 4503599627370496 : Nat) : Int) := by
  have h := b_or (a := f) (b := k * 4503599627370496) (Nat.lt_trans hf (by decide)) (by show _ < 18446744073709551616; omega)
  refine h.trans ?_
  have := Nat.two_pow_add_eq_or_of_lt (i := 52) (b := f) hf k
  rw [Nat.or_comm, Nat.mul_comm k, show (4503599627370496 : Nat) = 2 ^ 52 by decide, ← this, Nat.add_comm]
theorem packB_lt {m : Nat} {unit : Int} (hm : m < 9007199254740992) (h1 : -1074 ≤ unit) (h2 : unit ≤ 971) : packB m unit < 9223372036854775808 := by
  unfold packB; split <;> omega
theorem packS {s : Bool} {b : Nat} (hb : b < 9223372036854775808) : bits .or .u64 (b : Int) 9223372036854775808 = ((b + 9223372036854775808 : Nat) : Int) := o63 hb

theorem c_Exact {p : PV} {x : Nat} (hp : Num p x) (hb : bitLen x ≤ 1000000) (s : Bool) (e : Int) : PC E 29 [DP s p e] (exPV (if (mkD s x e).fits then exactS (mkD s x e) else none)) := by
  refine PC.of_body follows Tryd.func29 (by decide +kernel) rfl (by kernel_rfl) (Nat.le_of_ble_eq_true rfl) (walk ?_)
  have k1 := c_Top hp hb s e
  have k2 := c_DBare hp hb s e
  have b1 := mkD_bits s x e
  have b2 := mkD_range s x e hb
  have hz := @mkD_zero_of s x e
  have hx0 : x = 0 ↔ (mkD s x e).m = 0 := by
    constructor
    · intro h; subst h; rfl
    · intro h
      refine Decidable.byContradiction fun hx => ?_
      rw [mkD, if_neg hx] at h
      obtain ⟨m, hm⟩ := tz_spec hx
      have : x / 2 ^ tz x = 2 * m + 1 := Nat.div_eq_of_eq_mul_right (Nat.two_pow_pos _) hm
      have h' : x / 2 ^ tz x = 0 := h
      omega
  obtain ⟨l, rfl, ol, hlx, hl⟩ := hp
  clear hlx ol hl
  simp only [DP, NL] at k1 k2 ⊢
  generalize PV.lst l.length (U l) = P at *
  generalize hd : mkD s x e = d at *
  unfold exactS
  simp only [Tryd.f29, go_sem, Int.reduceToNat, Int.reduceEq, Int.reduceNe, Int.reduceLT, Int.reduceLE, Int.reduceNeg, Int.reduceAdd, ↓reduceIte, ↓reduceCtorEq, Nat.reduceEqDiff, Nat.reduceAdd, Nat.reduceSub, Nat.reduceMul, Nat.reduceLeDiff, Nat.reduceLT]
  refine qcall_i (k1) ?_; simp only [Tryd.f29, go_sem, Int.reduceToNat, Int.reduceEq, Int.reduceNe, Int.reduceLT, Int.reduceLE, Int.reduceNeg, Int.reduceAdd, ↓reduceIte, ↓reduceCtorEq, Nat.reduceEqDiff, Nat.reduceAdd, Nat.reduceSub, Nat.reduceMul, Nat.reduceLeDiff, Nat.reduceLT]
  by_cases h0 : d.m = 0
  · rw [decide_eq_false (by simpa using hx0.2 h0)]
    have hf : d.fits := by rw [hz h0]; decide
    rw [if_pos hf, if_pos h0]
    simp only [Tryd.f29, go_sem, Int.reduceToNat, Int.reduceEq, Int.reduceNe, Int.reduceLT, Int.reduceLE, Int.reduceNeg, Int.reduceAdd, ↓reduceIte, ↓reduceCtorEq, Nat.reduceEqDiff, Nat.reduceAdd, Nat.reduceSub, Nat.reduceMul, Nat.reduceLeDiff, Nat.reduceLT]
    rfl
  rw [decide_eq_true (show ¬ x = 0 from fun h => h0 (hx0.1 h))]
  by_cases hf : d.fits
  · rw [if_pos hf] at k2 ⊢
    rw [if_neg h0]
    have ht : d.top = bitLen d.m - 1 + d.e := if_neg h0
    have hbp := bitLen_pos h0
    have hu : unitOf d.top = max (d.top - 52) (-1074) := rfl
    have w1 : IntKind.wrap .i64 (d.top - 52) = d.top - 52 := wrap64 (by have := hf.1; omega) (by have := hf.2; omega)
    simp only [Dy.pv, DP, NN, NL] at k2
    simp only [Tryd.f29, go_sem, Int.reduceToNat, Int.reduceEq, Int.reduceNe, Int.reduceLT, Int.reduceLE, Int.reduceNeg, Int.reduceAdd, ↓reduceIte, ↓reduceCtorEq, Nat.reduceEqDiff, Nat.reduceAdd, Nat.reduceSub, Nat.reduceMul, Nat.reduceLeDiff, Nat.reduceLT]
    refine qcall_i (k2) ?_; simp only [Tryd.f29, w1, go_sem, Int.reduceToNat, Int.reduceEq, Int.reduceNe, Int.reduceLT, Int.reduceLE, Int.reduceNeg, Int.reduceAdd, ↓reduceIte, ↓reduceCtorEq, Nat.reduceEqDiff, Nat.reduceAdd, Nat.reduceSub, Nat.reduceMul, Nat.reduceLeDiff, Nat.reduceLT]
    rw [← hu]
    refine qif_d (fun h1 => ?_) (fun h1 => ?_)
    · simp only [Tryd.f29, go_sem, Int.reduceToNat, Int.reduceEq, Int.reduceNe, Int.reduceLT, Int.reduceLE, Int.reduceNeg, Int.reduceAdd, ↓reduceIte, ↓reduceCtorEq, Nat.reduceEqDiff, Nat.reduceAdd, Nat.reduceSub, Nat.reduceMul, Nat.reduceLeDiff, Nat.reduceLT]
      rw [if_pos (.inl h1)]; rfl
    simp only [Tryd.f29, go_sem, Int.reduceToNat, Int.reduceEq, Int.reduceNe, Int.reduceLT, Int.reduceLE, Int.reduceNeg, Int.reduceAdd, ↓reduceIte, ↓reduceCtorEq, Nat.reduceEqDiff, Nat.reduceAdd, Nat.reduceSub, Nat.reduceMul, Nat.reduceLeDiff, Nat.reduceLT]
    refine qif_d (fun h2 => ?_) (fun h2 => ?_)
    · simp only [Tryd.f29, go_sem, Int.reduceToNat, Int.reduceEq, Int.reduceNe, Int.reduceLT, Int.reduceLE, Int.reduceNeg, Int.reduceAdd, ↓reduceIte, ↓reduceCtorEq, Nat.reduceEqDiff, Nat.reduceAdd, Nat.reduceSub, Nat.reduceMul, Nat.reduceLeDiff, Nat.reduceLT]
      rw [if_pos (.inr h2)]; rfl
    rw [if_neg (by omega)]
    have h2' : unitOf d.top ≤ d.e := by omega
    have hM := exact_bits h0 h2'
    have hbs := bitLen_shl d.m (d.e - unitOf d.top).toNat h0
    have k3 := k_Shln (num_bits (x := d.m) (by omega)) (d.e - unitOf d.top).toNat (by omega)
    have hlt : d.m * 2 ^ (d.e - unitOf d.top).toNat < 9007199254740992 := (bitLen_le _ 53).1 hM
    generalize d.m * 2 ^ (d.e - unitOf d.top).toNat = M at *
    have hMW : M < W := Nat.lt_trans hlt (by decide)
    have k4 := k_Small (num_bits (x := M) (by omega))
    rw [if_pos hMW, decide_eq_true hMW] at k4
    have hr : -1074 ≤ unitOf d.top ∧ unitOf d.top ≤ 971 := by omega
    have w2 : IntKind.wrap .i64 (d.e - unitOf d.top) = ((d.e - unitOf d.top).toNat : Int) := by rw [wrap64 (by have := hf.1; omega) (by have := hf.2; omega)]; omega
    have w3 : IntKind.wrap .i64 (unitOf d.top + 1075) = ((unitOf d.top + 1075).toNat : Int) := by rw [wrap64 (by omega) (by omega)]; omega
    generalize unitOf d.top = t at *
    have hK : (t + 1075).toNat < 2048 := by omega
    have hpk : packB M t = if 4503599627370496 ≤ M then M - 4503599627370496 + (t + 1075).toNat * 4503599627370496 else M := rfl
    have hpl := packB_lt hlt hr.1 hr.2
    generalize (t + 1075).toNat = K at *
    have w4 : IntKind.wrap .u64 (K : Int) = (K : Int) := wrap_nat64 (Nat.lt_trans hK (by decide))
    have w5 : IntKind.wrap .u64 ((K : Int) * 2 ^ (min 52 64)) = ((K * 4503599627370496 : Nat) : Int) := by
      rw [b_shl K 52, show (2 ^ 52 : Nat) = 4503599627370496 by decide, Nat.mod_eq_of_lt (show K * 4503599627370496 < W by show _ < 18446744073709551616; omega)]
    have w6 := a52 hMW
    have w7 := o52k (f := ff M) (k := K) (ff_lt M) hK
    have w8 := packS (s := d.s) hpl
    simp only [Tryd.f29, w2, go_sem, Int.reduceToNat, Int.reduceEq, Int.reduceNe, Int.reduceLT, Int.reduceLE, Int.reduceNeg, Int.reduceAdd, ↓reduceIte, ↓reduceCtorEq, Nat.reduceEqDiff, Nat.reduceAdd, Nat.reduceSub, Nat.reduceMul, Nat.reduceLeDiff, Nat.reduceLT]
    refine qcall_i (k3) ?_; simp only [Tryd.f29, go_sem, Int.reduceToNat, Int.reduceEq, Int.reduceNe, Int.reduceLT, Int.reduceLE, Int.reduceNeg, Int.reduceAdd, ↓reduceIte, ↓reduceCtorEq, Nat.reduceEqDiff, Nat.reduceAdd, Nat.reduceSub, Nat.reduceMul, Nat.reduceLeDiff, Nat.reduceLT]
    refine qcall_i (k4) ?_; simp only [Tryd.f29, u, go_sem, Int.reduceToNat, Int.reduceEq, Int.reduceNe, Int.reduceLT, Int.reduceLE, Int.reduceNeg, Int.reduceAdd, ↓reduceIte, ↓reduceCtorEq, Nat.reduceEqDiff, Nat.reduceAdd, Nat.reduceSub, Nat.reduceMul, Nat.reduceLeDiff, Nat.reduceLT]
    refine qif_d (fun h3 => ?_) (fun h3 => ?_)
    · have e9 : ff M + K * 4503599627370496 = packB M t := by rw [hpk, if_pos (by omega)]; unfold ff; omega
      rw [e9] at w7
      unfold withS
      cases hs : d.s
      · simp only [Tryd.f29, w3, w4, w5, w6, w7, go_sem, Int.reduceToNat, Int.reduceEq, Int.reduceNe, Int.reduceLT, Int.reduceLE, Int.reduceNeg, Int.reduceAdd, ↓reduceIte, ↓reduceCtorEq, Nat.reduceEqDiff, Nat.reduceAdd, Nat.reduceSub, Nat.reduceMul, Nat.reduceLeDiff, Nat.reduceLT]
        rfl
      · simp only [Tryd.f29, w3, w4, w5, w6, w7, w8, go_sem, Int.reduceToNat, Int.reduceEq, Int.reduceNe, Int.reduceLT, Int.reduceLE, Int.reduceNeg, Int.reduceAdd, ↓reduceIte, ↓reduceCtorEq, Nat.reduceEqDiff, Nat.reduceAdd, Nat.reduceSub, Nat.reduceMul, Nat.reduceLeDiff, Nat.reduceLT]
        rfl
    · have e9 : M = packB M t := by rw [hpk, if_neg (by omega)]
      rw [← e9] at w8 ⊢
      unfold withS
      cases hs : d.s
      · simp only [Tryd.f29, go_sem, Int.reduceToNat, Int.reduceEq, Int.reduceNe, Int.reduceLT, Int.reduceLE, Int.reduceNeg, Int.reduceAdd, ↓reduceIte, ↓reduceCtorEq, Nat.reduceEqDiff, Nat.reduceAdd, Nat.reduceSub, Nat.reduceMul, Nat.reduceLeDiff, Nat.reduceLT]
        rfl
      · simp only [Tryd.f29, w8, go_sem, Int.reduceToNat, Int.reduceEq, Int.reduceNe, Int.reduceLT, Int.reduceLE, Int.reduceNeg, Int.reduceAdd, ↓reduceIte, ↓reduceCtorEq, Nat.reduceEqDiff, Nat.reduceAdd, Nat.reduceSub, Nat.reduceMul, Nat.reduceLeDiff, Nat.reduceLT]
        rfl
  · rw [if_neg hf] at k2 ⊢
    simp only [Dy.pv, Dy.zero, DP, NN, NL] at k2
    simp only [Tryd.f29, go_sem, Int.reduceToNat, Int.reduceEq, Int.reduceNe, Int.reduceLT, Int.reduceLE, Int.reduceNeg, Int.reduceAdd, ↓reduceIte, ↓reduceCtorEq, Nat.reduceEqDiff, Nat.reduceAdd, Nat.reduceSub, Nat.reduceMul, Nat.reduceLeDiff, Nat.reduceLT]
    refine qcall_i (k2) ?_; simp only [Tryd.f29, go_sem, Int.reduceToNat, Int.reduceEq, Int.reduceNe, Int.reduceLT, Int.reduceLE, Int.reduceNeg, Int.reduceAdd, ↓reduceIte, ↓reduceCtorEq, Nat.reduceEqDiff, Nat.reduceAdd, Nat.reduceSub, Nat.reduceMul, Nat.reduceLeDiff, Nat.reduceLT]
    rfl
end Go.Proofs.YtflpcgcgeffolaaDoor
