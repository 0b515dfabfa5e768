/- The document's dyads: what planimeterref05's functions hand back. -/
import Derived.Test.YtflpcgcgeffolaaDoorDy1
open Go PG Go.Proofs
set_option maxRecDepth 100000
set_option linter.unusedSimpArgs false
set_option linter.unusedVariables false
namespace Go.Proofs.YtflpcgcgeffolaaDoor
attribute [local go_sem] Lay2 Lay3 Lay4 Lay5 Lay6 Lay7 Lay8 Lay9 Lay10 Lay11 Lay12 Lay13 Lay14 Lay21 Lay22 Lay24 Lay25 Lay26 Lay27 Lay36 Lay37 Lay38 Lay39 Lay40 Lay41 Lay43 Lay46 Lay47 Lay66 Lay103 Lay105 Lay159 Lay164 Lay165 Lay166 Lay168 Lay169 Lay172 Lay173 qexec_seq qexec_skip qexec_exit qexec_ret qexec_block qexec_loop qexec_range qexec_cond qexec_region qops_nil qops_none qops_some put_some put_none pblk_exit pblk_other newDsts_nil sget_cons qval_some qbool_some qgs_bool qgs_und qfree_some qgrd_true qgrd_false qif_true qif_false qval_ite qval_itn qand_true map_ite map_some' map_none' qdo_move qdo_assign qdo_binOp qdo_pick qdo_unOp qdo_convert qdo_extract qdo_field qdo_fieldAddr qdo_alloc qdo_box qdo_build qdo_buildSlice qdo_load qdo_store qdo_nilCheck qdo_makeFunc qdo_makeSlice qdo_slice qdo_indexAddr qdo_call qcont_val qcont_new qcont_st qcont_app0 qcont_app qcont_inl qcont_call njSV_val njSV_nil njSV_row njSV_ptr njSV_sub binV_val binV_nil binV_nn nilCmp bin_add bin_sub bin_mul bin_quo bin_rem bin_and bin_or bin_xor bin_andNot bin_eql bin_neq bin_lss bin_leq bin_gtr bin_geq bin_shl bin_shr bin_seql bin_sneq bin_sadd bin_beql bin_aeql bin_aneq eqAnd_some eqCells_nil eqCells_cons fieldTypes isStruct eqCell bin_bneq un_not un_neg nj_ite Nat.beq stepA stepR isNew opSV constSV RV.sv allSome E_mu Bool.or_false Bool.false_or Bool.or_true Bool.true_or cst setB res resSV pstart startL killL kill1 eraL frzL svPV rvPV rvInt rvSlice frzOf close closeL pconv pbuiltin pmax2 partPV setCells fillPV zrow bound newSV PV.cells Bk.cells Bk.with SV.key pres presL_nil presL_tmp presL_cell presC2_some cellPV_ptr presC List.toList_toArray List.size_toArray List.getElem?_drop Nat.mul_one Int.toNat_natCast Nat.not_lt_zero Nat.lt_irrefl decide_true decide_false Nat.not_lt Option.some.injEq PV.lst.injEq PV.int.injEq PV.bool.injEq PV.tuple.injEq List.cons.injEq Option.map_some Option.map_none Option.bind_some Option.toList List.map_cons List.map_nil List.nil_append List.cons_append List.append_nil List.zip_cons_cons List.zip_nil_left List.zip_nil_right List.getElem?_cons_zero List.getElem?_cons_succ List.drop_zero List.drop_succ_cons List.take_succ_cons List.take_zero List.set_cons_zero List.set_cons_succ List.length_cons List.length_nil List.length_set List.replicate_one List.replicate_zero bne_self_eq_false beq_self_eq_true Nat.zero_add Nat.add_zero Nat.zero_mul Bool.false_eq_true Bool.true_eq_false Bool.not_true Bool.not_false and_true true_and false_and and_false or_false false_or or_true true_or not_true_eq_false not_false_eq_true ne_eq gt_iff_lt List.mem_cons List.not_mem_nil
attribute [local go_sem ↓] pseq_normal pseq_ret pseq_exit pblk_normal pblk_ret newDsts_cons gdst_zero gdst_succ retQ_normal retQ_ret retM_normal retM_ret endR_normal endR_ret endR_exit

theorem dgB_nil {x : Nat} (h : (dg B x).length = 0) : x = 0 := by
  have := dv_dg B2 x
  rw [List.length_eq_zero_iff.1 h] at this
  exact this.symm
theorem tz_step {x i : Nat} (h0 : x ≠ 0) (hz : x % 2 ^ i = 0) : (x / 2 ^ i % 2 = 0 → x % 2 ^ (i + 1) = 0 ∧ i < tz x) ∧ (x / 2 ^ i % 2 ≠ 0 → tz x = i) := by
  constructor
  · intro h
    refine ⟨by rw [Nat.pow_succ, Nat.mod_mul, hz, h, Nat.mul_zero], ?_⟩
    have := tz_lt (x := x) (n := i + 1) h0
    rw [Nat.pow_succ, Nat.mod_mul, hz, h, Nat.mul_zero] at this
    omega
  · intro h
    exact tz_of (m := x / 2 ^ i / 2) (by
      have := Nat.mod_add_div x (2 ^ i)
      rw [hz, Nat.zero_add] at this
      rw [show 2 * (x / 2 ^ i / 2) + 1 = x / 2 ^ i by omega]
      exact this.symm)

theorem c_5Of {p : PV} {x : Nat} (hp : Num p x) (hb : bitLen x ≤ 1000000) (s : Bool) (e : Int) : PC E 23 [DP s p e] (mkD s x e).nv := by
  refine PC.of_body follows Tryd.func23 (by decide +kernel) rfl (by kernel_rfl) (Nat.le_of_ble_eq_true rfl) (walk ?_)
  have cl := cut_le e
  have hB : (dg B x).length ≤ 4194304 := Nat.le_trans (dgB_le_of_bits (n := 62500) (by omega)) (by decide)
  have hto := k_To hp
  clear hp
  simp only [DP]
  simp only [Tryd.f23, go_sem, Int.reduceToNat, Int.reduceEq, Int.reduceNe, Int.reduceLT, Int.reduceLE, Int.reduceNeg, Int.reduceAdd, ↓reduceIte, ↓reduceCtorEq, Nat.reduceEqDiff, Nat.reduceAdd, Nat.reduceSub, Nat.reduceMul, Nat.reduceLeDiff, Nat.reduceLT]
  refine qcall_i (hto) ?_; simp only [Tryd.f23, VN, VL, go_sem, Int.reduceToNat, Int.reduceEq, Int.reduceNe, Int.reduceLT, Int.reduceLE, Int.reduceNeg, Int.reduceAdd, ↓reduceIte, ↓reduceCtorEq, Nat.reduceEqDiff, Nat.reduceAdd, Nat.reduceSub, Nat.reduceMul, Nat.reduceLeDiff, Nat.reduceLT]
  by_cases hx : x = 0
  · subst hx
    refine qif_dt rfl ?_
    simp only [Tryd.f23, go_sem, Int.reduceToNat, Int.reduceEq, Int.reduceNe, Int.reduceLT, Int.reduceLE, Int.reduceNeg, Int.reduceAdd, ↓reduceIte, ↓reduceCtorEq, Nat.reduceEqDiff, Nat.reduceAdd, Nat.reduceSub, Nat.reduceMul, Nat.reduceLeDiff, Nat.reduceLT]
    rfl
  · refine qif_df (fun h => hx (dgB_nil (by omega))) ?_
    have hlt := tz_bits hx
    have e1 : IntKind.wrap .i64 (cut e + (tz x : Int)) = cut e + (tz x : Int) := wrap64 (by omega) (by omega)
    have hs0 : bitLen (x / 2 ^ tz x) ≤ bitLen x := bitLen_mono (Nat.div_le_self _ _)
    simp only [Tryd.f23, go_sem, Int.reduceToNat, Int.reduceEq, Int.reduceNe, Int.reduceLT, Int.reduceLE, Int.reduceNeg, Int.reduceAdd, ↓reduceIte, ↓reduceCtorEq, Nat.reduceEqDiff, Nat.reduceAdd, Nat.reduceSub, Nat.reduceMul, Nat.reduceLeDiff, Nat.reduceLT]
    refine PLoop.intro (fun i : Nat => ⟨[(1, .ptr 1 0), (2, .ptr 2 0), (3, .val (VN x)), (4, .val (.int .i64 i))], [(1, (.box [.bool s, p, .int .i64 e], false)), (2, (.box [.bool false, .lst 0 [], .int .i64 0], false))]⟩) (fun i => i ≤ tz x ∧ x % 2 ^ i = 0) (fun i => bitLen x - i) 0 ⟨Nat.zero_le _, by simp [Nat.mod_one]⟩ ?_ fun i hi => walk ?_
    · simp [Wk, sget, killL, kill1, SV.key, NL, VL, u, e32, VN, VL]
    obtain ⟨hi, hz⟩ := hi
    have hst := tz_step hx hz
    have e4 : IntKind.wrap .i64 ((i : Int) + 1) = ((i + 1 : Nat) : Int) := by rw [wrap64 (by omega) (by omega)]; omega
    simp only [Tryd.f23, go_sem, Int.reduceToNat, Int.reduceEq, Int.reduceNe, Int.reduceLT, Int.reduceLE, Int.reduceNeg, Int.reduceAdd, ↓reduceIte, ↓reduceCtorEq, Nat.reduceEqDiff, Nat.reduceAdd, Nat.reduceSub, Nat.reduceMul, Nat.reduceLeDiff, Nat.reduceLT]
    refine qcall_i (c_rBit x i (by omega) hB) ?_
    rw [if_neg (by omega), Int.toNat_natCast]
    simp only [Tryd.f23, e32, go_sem, Int.reduceToNat, Int.reduceEq, Int.reduceNe, Int.reduceLT, Int.reduceLE, Int.reduceNeg, Int.reduceAdd, ↓reduceIte, ↓reduceCtorEq, Nat.reduceEqDiff, Nat.reduceAdd, Nat.reduceSub, Nat.reduceMul, Nat.reduceLeDiff, Nat.reduceLT]
    refine qif_d (fun h2 => ?_) (fun h2 => ?_)
    · simp only [Tryd.f23, e4, go_sem, Int.reduceToNat, Int.reduceEq, Int.reduceNe, Int.reduceLT, Int.reduceLE, Int.reduceNeg, Int.reduceAdd, ↓reduceIte, ↓reduceCtorEq, Nat.reduceEqDiff, Nat.reduceAdd, Nat.reduceSub, Nat.reduceMul, Nat.reduceLeDiff, Nat.reduceLT]
      have h3 := hst.1 (by omega)
      refine ⟨i + 1, ⟨by omega, h3.1⟩, by omega, ?_⟩
      simp [Wk, sget, killL, kill1, SV.key, NL, VL, u, e32]
    · have htz : tz x = i := hst.2 (by omega)
      simp only [Tryd.f23, go_sem, Int.reduceToNat, Int.reduceEq, Int.reduceNe, Int.reduceLT, Int.reduceLE, Int.reduceNeg, Int.reduceAdd, ↓reduceIte, ↓reduceCtorEq, Nat.reduceEqDiff, Nat.reduceAdd, Nat.reduceSub, Nat.reduceMul, Nat.reduceLeDiff, Nat.reduceLT]
      refine qcall_i (c_rShr x i (by omega) hB) ?_; simp only [Tryd.f23, go_sem, Int.reduceToNat, Int.reduceEq, Int.reduceNe, Int.reduceLT, Int.reduceLE, Int.reduceNeg, Int.reduceAdd, ↓reduceIte, ↓reduceCtorEq, Nat.reduceEqDiff, Nat.reduceAdd, Nat.reduceSub, Nat.reduceMul, Nat.reduceLeDiff, Nat.reduceLT]
      refine qcall_i (c_rcut e) ?_; simp only [Tryd.f23, VN, VL, go_sem, Int.reduceToNat, Int.reduceEq, Int.reduceNe, Int.reduceLT, Int.reduceLE, Int.reduceNeg, Int.reduceAdd, ↓reduceIte, ↓reduceCtorEq, Nat.reduceEqDiff, Nat.reduceAdd, Nat.reduceSub, Nat.reduceMul, Nat.reduceLeDiff, Nat.reduceLT]
      rw [mkD, if_neg hx, ← htz, e1]
      rfl

/-! ### Signs, sums and order -/
def Dy.sg (d : Dy) : Int := if d.m = 0 then 0 else if d.s = true then -1 else 1
/-- What it is worth, in units of 2^k, for k not above its exponent. -/
def Dy.at (d : Dy) (k : Int) : Int := (if d.s = true then -1 else 1) * ((d.m * 2 ^ (d.e - k).toNat : Nat) : Int)
/-- The order of what they are worth. -/
def cmpD (a b : Dy) : Int := sgn (a.at (min a.e b.e)) (b.at (min a.e b.e))

theorem at_sg (d : Dy) (k : Int) : (d.at k = 0 ↔ d.sg = 0) ∧ (0 < d.at k ↔ d.sg = 1) ∧ (d.at k < 0 ↔ d.sg = -1) := by
  unfold Dy.at Dy.sg
  by_cases h : d.m = 0
  · rw [if_pos h, h, Nat.zero_mul]
    cases d.s <;> simp
  · rw [if_neg h]
    have : 0 < d.m * 2 ^ (d.e - k).toNat := Nat.mul_pos (by omega) (Nat.two_pow_pos _)
    generalize d.m * 2 ^ (d.e - k).toNat = n at *
    cases d.s <;> simp <;> omega
theorem sg_range (d : Dy) : d.sg = 0 ∨ d.sg = 1 ∨ d.sg = -1 := by
  unfold Dy.sg; split
  · exact .inl rfl
  · split
    · exact .inr (.inr rfl)
    · exact .inr (.inl rfl)
theorem cmpD_sg {a b : Dy} (h : a.sg ≠ b.sg ∨ a.sg = 0) : cmpD a b = sgn a.sg b.sg := by
  unfold cmpD
  have h1 := at_sg a (min a.e b.e)
  have h2 := at_sg b (min a.e b.e)
  have r1 := sg_range a
  have r2 := sg_range b
  generalize a.at (min a.e b.e) = x at *
  generalize b.at (min a.e b.e) = y at *
  generalize a.sg = v at *
  generalize b.sg = w at *
  unfold sgn
  repeat' split
  all_goals omega
/-- The size in units of 2^k. -/
theorem at_bits (d : Dy) (k : Int) (hk : k ≤ d.e) (h : d.m ≠ 0) : (bitLen (d.m * 2 ^ (d.e - k).toNat) : Int) = d.top + 1 - k := by
  rw [bitLen_shl _ _ h, Dy.top, if_neg h]
  omega
theorem bits_lt {x y : Nat} (h : bitLen x < bitLen y) : x < y := by
  rcases Nat.lt_or_ge x y with h1 | h1
  · exact h1
  · have := bitLen_mono h1; omega
theorem cmpD_top {a b : Dy} (ha : a.m ≠ 0) (hb : b.m ≠ 0) (hs : a.s = b.s) (ht : a.top ≠ b.top) : cmpD a b = if (decide (a.top < b.top)) != a.s then -1 else 1 := by
  unfold cmpD Dy.at
  have h1 := at_bits a (min a.e b.e) (by omega) ha
  have h2 := at_bits b (min a.e b.e) (by omega) hb
  generalize a.m * 2 ^ (a.e - min a.e b.e).toNat = x at *
  generalize b.m * 2 ^ (b.e - min a.e b.e).toNat = y at *
  rw [← hs]
  by_cases hlt : a.top < b.top
  · have h3 : x < y := bits_lt (by omega)
    rw [decide_eq_true hlt]
    cases a.s
    · simp [sgn]; omega
    · simp [sgn]; omega
  · have h3 : y < x := bits_lt (by omega)
    rw [decide_eq_false hlt]
    cases a.s
    · simp [sgn]; omega
    · simp [sgn]; omega

/-- The document's sum, not made bare. -/
def addD (a b : Dy) : Dy :=
  if a.m = 0 then b else if b.m = 0 then a else
  if a.s = b.s then ⟨a.s, a.m * 2 ^ (a.e - min a.e b.e).toNat + b.m * 2 ^ (b.e - min a.e b.e).toNat, min a.e b.e⟩
  else if b.m * 2 ^ (b.e - min a.e b.e).toNat ≤ a.m * 2 ^ (a.e - min a.e b.e).toNat then ⟨a.s, a.m * 2 ^ (a.e - min a.e b.e).toNat - b.m * 2 ^ (b.e - min a.e b.e).toNat, min a.e b.e⟩
  else ⟨b.s, b.m * 2 ^ (b.e - min a.e b.e).toNat - a.m * 2 ^ (a.e - min a.e b.e).toNat, min a.e b.e⟩

theorem vn_bits {x : Nat} (h : bitLen x ≤ 16000000) : (dg B x).length ≤ 1048576 := Nat.le_trans (dgB_le_of_bits (n := 1000000) (by omega)) (by decide)

theorem c_5Sign (d : Dy) : PC E 114 [d.nv] (.int .i64 d.sg) := by
  refine PC.of_body follows Tryd.func114 (by decide +kernel) rfl (by kernel_rfl) (Nat.le_of_ble_eq_true rfl) (walk ?_)
  simp only [Dy.nv, DP, VN, VL]
  unfold Dy.sg
  simp only [Tryd.f114, go_sem, Int.reduceToNat, Int.reduceEq, Int.reduceNe, Int.reduceLT, Int.reduceLE, Int.reduceNeg, Int.reduceAdd, ↓reduceIte, ↓reduceCtorEq, Nat.reduceEqDiff, Nat.reduceAdd, Nat.reduceSub, Nat.reduceMul, Nat.reduceLeDiff, Nat.reduceLT]
  by_cases hx : d.m = 0
  · refine qif_dt (by rw [hx]; rfl) ?_
    simp only [Tryd.f114, go_sem, Int.reduceToNat, Int.reduceEq, Int.reduceNe, Int.reduceLT, Int.reduceLE, Int.reduceNeg, Int.reduceAdd, ↓reduceIte, ↓reduceCtorEq, Nat.reduceEqDiff, Nat.reduceAdd, Nat.reduceSub, Nat.reduceMul, Nat.reduceLeDiff, Nat.reduceLT]
    rw [if_pos hx]
  · refine qif_df (fun h => hx (dgB_nil (by omega))) ?_
    simp only [Tryd.f114, go_sem, Int.reduceToNat, Int.reduceEq, Int.reduceNe, Int.reduceLT, Int.reduceLE, Int.reduceNeg, Int.reduceAdd, ↓reduceIte, ↓reduceCtorEq, Nat.reduceEqDiff, Nat.reduceAdd, Nat.reduceSub, Nat.reduceMul, Nat.reduceLeDiff, Nat.reduceLT]
    rw [if_neg hx]
    cases d.s
    · simp only [Tryd.f114, go_sem, Int.reduceToNat, Int.reduceEq, Int.reduceNe, Int.reduceLT, Int.reduceLE, Int.reduceNeg, Int.reduceAdd, ↓reduceIte, ↓reduceCtorEq, Nat.reduceEqDiff, Nat.reduceAdd, Nat.reduceSub, Nat.reduceMul, Nat.reduceLeDiff, Nat.reduceLT]
    · simp only [Tryd.f114, go_sem, Int.reduceToNat, Int.reduceEq, Int.reduceNe, Int.reduceLT, Int.reduceLE, Int.reduceNeg, Int.reduceAdd, ↓reduceIte, ↓reduceCtorEq, Nat.reduceEqDiff, Nat.reduceAdd, Nat.reduceSub, Nat.reduceMul, Nat.reduceLeDiff, Nat.reduceLT]

theorem c_5Top (d : Dy) (h : d.m ≠ 0) (hb : bitLen d.m ≤ 1000000) (h1 : -1000000000000 ≤ d.e) (h2 : d.e ≤ 1000000000000) : PC E 115 [d.nv] (.int .i64 d.top) := by
  refine PC.of_body follows Tryd.func115 (by decide +kernel) rfl (by kernel_rfl) (Nat.le_of_ble_eq_true rfl) (walk ?_)
  simp only [Dy.nv, DP]
  have hp := bitLen_pos h
  have e1 : IntKind.wrap .i64 ((bitLen d.m : Int) - 1) = bitLen d.m - 1 := wrap64 (by omega) (by omega)
  have e2 : IntKind.wrap .i64 ((bitLen d.m : Int) - 1 + d.e) = bitLen d.m - 1 + d.e := wrap64 (by omega) (by omega)
  have hB := vn_bits (x := d.m) (by omega)
  simp only [Tryd.f115, go_sem, Int.reduceToNat, Int.reduceEq, Int.reduceNe, Int.reduceLT, Int.reduceLE, Int.reduceNeg, Int.reduceAdd, ↓reduceIte, ↓reduceCtorEq, Nat.reduceEqDiff, Nat.reduceAdd, Nat.reduceSub, Nat.reduceMul, Nat.reduceLeDiff, Nat.reduceLT]
  refine qcall_i (c_rBits d.m (by omega)) ?_; simp only [Tryd.f115, e1, e2, go_sem, Int.reduceToNat, Int.reduceEq, Int.reduceNe, Int.reduceLT, Int.reduceLE, Int.reduceNeg, Int.reduceAdd, ↓reduceIte, ↓reduceCtorEq, Nat.reduceEqDiff, Nat.reduceAdd, Nat.reduceSub, Nat.reduceMul, Nat.reduceLeDiff, Nat.reduceLT]
  rw [Dy.top, if_neg h]

theorem c_5Add (a b : Dy) (ha : bitLen a.m ≤ 1000000) (hb : bitLen b.m ≤ 1000000) (h1 : -1000000000000 ≤ a.e ∧ a.e ≤ 1000000000000) (h2 : -1000000000000 ≤ b.e ∧ b.e ≤ 1000000000000)
    (hn : a.m ≠ 0 → b.m ≠ 0 → a.e - b.e ≤ 1000000 ∧ b.e - a.e ≤ 1000000) : PC E 112 [a.nv, b.nv] (addD a b).nv := by
  refine PC.of_body follows Tryd.func112 (by decide +kernel) rfl (by kernel_rfl) (Nat.le_of_ble_eq_true rfl) (walk ?_)
  unfold addD
  simp only [Dy.nv, DP, VN, VL]
  simp only [Tryd.f112, go_sem, Int.reduceToNat, Int.reduceEq, Int.reduceNe, Int.reduceLT, Int.reduceLE, Int.reduceNeg, Int.reduceAdd, ↓reduceIte, ↓reduceCtorEq, Nat.reduceEqDiff, Nat.reduceAdd, Nat.reduceSub, Nat.reduceMul, Nat.reduceLeDiff, Nat.reduceLT]
  by_cases hx : a.m = 0
  · refine qif_dt (by rw [hx]; rfl) ?_
    simp only [Tryd.f112, go_sem, Int.reduceToNat, Int.reduceEq, Int.reduceNe, Int.reduceLT, Int.reduceLE, Int.reduceNeg, Int.reduceAdd, ↓reduceIte, ↓reduceCtorEq, Nat.reduceEqDiff, Nat.reduceAdd, Nat.reduceSub, Nat.reduceMul, Nat.reduceLeDiff, Nat.reduceLT]
    rw [if_pos hx]; rfl
  refine qif_df (fun h => hx (dgB_nil (by omega))) ?_
  simp only [Tryd.f112, go_sem, Int.reduceToNat, Int.reduceEq, Int.reduceNe, Int.reduceLT, Int.reduceLE, Int.reduceNeg, Int.reduceAdd, ↓reduceIte, ↓reduceCtorEq, Nat.reduceEqDiff, Nat.reduceAdd, Nat.reduceSub, Nat.reduceMul, Nat.reduceLeDiff, Nat.reduceLT]
  by_cases hy : b.m = 0
  · refine qif_dt (by rw [hy]; rfl) ?_
    simp only [Tryd.f112, go_sem, Int.reduceToNat, Int.reduceEq, Int.reduceNe, Int.reduceLT, Int.reduceLE, Int.reduceNeg, Int.reduceAdd, ↓reduceIte, ↓reduceCtorEq, Nat.reduceEqDiff, Nat.reduceAdd, Nat.reduceSub, Nat.reduceMul, Nat.reduceLeDiff, Nat.reduceLT]
    rw [if_neg hx, if_pos hy]; rfl
  refine qif_df (fun h => hy (dgB_nil (by omega))) ?_
  rw [if_neg hx, if_neg hy]
  have hn' := hn hx hy
  have s1 := bitLen_shl_le a.m (a.e - min a.e b.e).toNat
  have s2 := bitLen_shl_le b.m (b.e - min a.e b.e).toNat
  have e1 : IntKind.wrap .i64 (a.e - min a.e b.e) = ((a.e - min a.e b.e).toNat : Int) := by rw [wrap64 (by omega) (by omega)]; omega
  have e2 : IntKind.wrap .i64 (b.e - min a.e b.e) = ((b.e - min a.e b.e).toNat : Int) := by rw [wrap64 (by omega) (by omega)]; omega
  have k1 := c_rShl a.m (a.e - min a.e b.e).toNat (vn_bits (by omega)) (by omega)
  have k2 := c_rShl b.m (b.e - min a.e b.e).toNat (vn_bits (by omega)) (by omega)
  generalize hx' : a.m * 2 ^ (a.e - min a.e b.e).toNat = x at *
  generalize hy' : b.m * 2 ^ (b.e - min a.e b.e).toNat = y at *
  have b1 := vn_bits (x := x) (by omega)
  have b2 := vn_bits (x := y) (by omega)
  have k3 := c_rAdd x y (by omega) (by omega)
  have k4 := c_rCmp x y (by omega) (by omega)
  simp only [Tryd.f112, go_sem, Int.reduceToNat, Int.reduceEq, Int.reduceNe, Int.reduceLT, Int.reduceLE, Int.reduceNeg, Int.reduceAdd, ↓reduceIte, ↓reduceCtorEq, Nat.reduceEqDiff, Nat.reduceAdd, Nat.reduceSub, Nat.reduceMul, Nat.reduceLeDiff, Nat.reduceLT]
  by_cases hlt : b.e < a.e
  · refine qif_dt hlt ?_
    rw [show min a.e b.e = b.e by omega] at *
    simp only [Tryd.f112, e1, e2, go_sem, Int.reduceToNat, Int.reduceEq, Int.reduceNe, Int.reduceLT, Int.reduceLE, Int.reduceNeg, Int.reduceAdd, ↓reduceIte, ↓reduceCtorEq, Nat.reduceEqDiff, Nat.reduceAdd, Nat.reduceSub, Nat.reduceMul, Nat.reduceLeDiff, Nat.reduceLT]
    refine qcall_i (k1) ?_; simp only [Tryd.f112, e1, e2, go_sem, Int.reduceToNat, Int.reduceEq, Int.reduceNe, Int.reduceLT, Int.reduceLE, Int.reduceNeg, Int.reduceAdd, ↓reduceIte, ↓reduceCtorEq, Nat.reduceEqDiff, Nat.reduceAdd, Nat.reduceSub, Nat.reduceMul, Nat.reduceLeDiff, Nat.reduceLT]
    refine qcall_i (k2) ?_; simp only [Tryd.f112, VN, VL, go_sem, Int.reduceToNat, Int.reduceEq, Int.reduceNe, Int.reduceLT, Int.reduceLE, Int.reduceNeg, Int.reduceAdd, ↓reduceIte, ↓reduceCtorEq, Nat.reduceEqDiff, Nat.reduceAdd, Nat.reduceSub, Nat.reduceMul, Nat.reduceLeDiff, Nat.reduceLT]
    by_cases hs : a.s = b.s
    · have h6 : (a.s == b.s) = true := by rw [hs]; exact beq_self_eq_true _
      rw [if_pos hs]
      simp only [Tryd.f112, h6, go_sem, Int.reduceToNat, Int.reduceEq, Int.reduceNe, Int.reduceLT, Int.reduceLE, Int.reduceNeg, Int.reduceAdd, ↓reduceIte, ↓reduceCtorEq, Nat.reduceEqDiff, Nat.reduceAdd, Nat.reduceSub, Nat.reduceMul, Nat.reduceLeDiff, Nat.reduceLT]
      refine qcall_i (k3) ?_; simp only [Tryd.f112, VN, VL, go_sem, Int.reduceToNat, Int.reduceEq, Int.reduceNe, Int.reduceLT, Int.reduceLE, Int.reduceNeg, Int.reduceAdd, ↓reduceIte, ↓reduceCtorEq, Nat.reduceEqDiff, Nat.reduceAdd, Nat.reduceSub, Nat.reduceMul, Nat.reduceLeDiff, Nat.reduceLT]
      rfl
    · have h6 : (a.s == b.s) = false := by simpa using hs
      rw [if_neg hs]
      simp only [Tryd.f112, h6, go_sem, Int.reduceToNat, Int.reduceEq, Int.reduceNe, Int.reduceLT, Int.reduceLE, Int.reduceNeg, Int.reduceAdd, ↓reduceIte, ↓reduceCtorEq, Nat.reduceEqDiff, Nat.reduceAdd, Nat.reduceSub, Nat.reduceMul, Nat.reduceLeDiff, Nat.reduceLT]
      refine qcall_i (k4) ?_; simp only [Tryd.f112, go_sem, Int.reduceToNat, Int.reduceEq, Int.reduceNe, Int.reduceLT, Int.reduceLE, Int.reduceNeg, Int.reduceAdd, ↓reduceIte, ↓reduceCtorEq, Nat.reduceEqDiff, Nat.reduceAdd, Nat.reduceSub, Nat.reduceMul, Nat.reduceLeDiff, Nat.reduceLT]
      by_cases hxy : y ≤ x
      · refine qif_dt (by have := sgn_neg x y; omega) ?_
        rw [if_pos hxy]
        simp only [Tryd.f112, go_sem, Int.reduceToNat, Int.reduceEq, Int.reduceNe, Int.reduceLT, Int.reduceLE, Int.reduceNeg, Int.reduceAdd, ↓reduceIte, ↓reduceCtorEq, Nat.reduceEqDiff, Nat.reduceAdd, Nat.reduceSub, Nat.reduceMul, Nat.reduceLeDiff, Nat.reduceLT]
        refine qcall_i (c_rSub x y hxy (by omega)) ?_; simp only [Tryd.f112, VN, VL, go_sem, Int.reduceToNat, Int.reduceEq, Int.reduceNe, Int.reduceLT, Int.reduceLE, Int.reduceNeg, Int.reduceAdd, ↓reduceIte, ↓reduceCtorEq, Nat.reduceEqDiff, Nat.reduceAdd, Nat.reduceSub, Nat.reduceMul, Nat.reduceLeDiff, Nat.reduceLT]
        rfl
      · refine qif_df (by have := (sgn_neg x y).2 (by omega); omega) ?_
        rw [if_neg hxy]
        simp only [Tryd.f112, go_sem, Int.reduceToNat, Int.reduceEq, Int.reduceNe, Int.reduceLT, Int.reduceLE, Int.reduceNeg, Int.reduceAdd, ↓reduceIte, ↓reduceCtorEq, Nat.reduceEqDiff, Nat.reduceAdd, Nat.reduceSub, Nat.reduceMul, Nat.reduceLeDiff, Nat.reduceLT]
        refine qcall_i (c_rSub y x (by omega) (by omega)) ?_; simp only [Tryd.f112, VN, VL, go_sem, Int.reduceToNat, Int.reduceEq, Int.reduceNe, Int.reduceLT, Int.reduceLE, Int.reduceNeg, Int.reduceAdd, ↓reduceIte, ↓reduceCtorEq, Nat.reduceEqDiff, Nat.reduceAdd, Nat.reduceSub, Nat.reduceMul, Nat.reduceLeDiff, Nat.reduceLT]
        rfl
  · refine qif_df hlt ?_
    rw [show min a.e b.e = a.e by omega] at *
    simp only [Tryd.f112, e1, e2, go_sem, Int.reduceToNat, Int.reduceEq, Int.reduceNe, Int.reduceLT, Int.reduceLE, Int.reduceNeg, Int.reduceAdd, ↓reduceIte, ↓reduceCtorEq, Nat.reduceEqDiff, Nat.reduceAdd, Nat.reduceSub, Nat.reduceMul, Nat.reduceLeDiff, Nat.reduceLT]
    refine qcall_i (k1) ?_; simp only [Tryd.f112, e1, e2, go_sem, Int.reduceToNat, Int.reduceEq, Int.reduceNe, Int.reduceLT, Int.reduceLE, Int.reduceNeg, Int.reduceAdd, ↓reduceIte, ↓reduceCtorEq, Nat.reduceEqDiff, Nat.reduceAdd, Nat.reduceSub, Nat.reduceMul, Nat.reduceLeDiff, Nat.reduceLT]
    refine qcall_i (k2) ?_; simp only [Tryd.f112, VN, VL, go_sem, Int.reduceToNat, Int.reduceEq, Int.reduceNe, Int.reduceLT, Int.reduceLE, Int.reduceNeg, Int.reduceAdd, ↓reduceIte, ↓reduceCtorEq, Nat.reduceEqDiff, Nat.reduceAdd, Nat.reduceSub, Nat.reduceMul, Nat.reduceLeDiff, Nat.reduceLT]
    by_cases hs : a.s = b.s
    · have h6 : (a.s == b.s) = true := by rw [hs]; exact beq_self_eq_true _
      rw [if_pos hs]
      simp only [Tryd.f112, h6, go_sem, Int.reduceToNat, Int.reduceEq, Int.reduceNe, Int.reduceLT, Int.reduceLE, Int.reduceNeg, Int.reduceAdd, ↓reduceIte, ↓reduceCtorEq, Nat.reduceEqDiff, Nat.reduceAdd, Nat.reduceSub, Nat.reduceMul, Nat.reduceLeDiff, Nat.reduceLT]
      refine qcall_i (k3) ?_; simp only [Tryd.f112, VN, VL, go_sem, Int.reduceToNat, Int.reduceEq, Int.reduceNe, Int.reduceLT, Int.reduceLE, Int.reduceNeg, Int.reduceAdd, ↓reduceIte, ↓reduceCtorEq, Nat.reduceEqDiff, Nat.reduceAdd, Nat.reduceSub, Nat.reduceMul, Nat.reduceLeDiff, Nat.reduceLT]
      rfl
    · have h6 : (a.s == b.s) = false := by simpa using hs
      rw [if_neg hs]
      simp only [Tryd.f112, h6, go_sem, Int.reduceToNat, Int.reduceEq, Int.reduceNe, Int.reduceLT, Int.reduceLE, Int.reduceNeg, Int.reduceAdd, ↓reduceIte, ↓reduceCtorEq, Nat.reduceEqDiff, Nat.reduceAdd, Nat.reduceSub, Nat.reduceMul, Nat.reduceLeDiff, Nat.reduceLT]
      refine qcall_i (k4) ?_; simp only [Tryd.f112, go_sem, Int.reduceToNat, Int.reduceEq, Int.reduceNe, Int.reduceLT, Int.reduceLE, Int.reduceNeg, Int.reduceAdd, ↓reduceIte, ↓reduceCtorEq, Nat.reduceEqDiff, Nat.reduceAdd, Nat.reduceSub, Nat.reduceMul, Nat.reduceLeDiff, Nat.reduceLT]
      by_cases hxy : y ≤ x
      · refine qif_dt (by have := sgn_neg x y; omega) ?_
        rw [if_pos hxy]
        simp only [Tryd.f112, go_sem, Int.reduceToNat, Int.reduceEq, Int.reduceNe, Int.reduceLT, Int.reduceLE, Int.reduceNeg, Int.reduceAdd, ↓reduceIte, ↓reduceCtorEq, Nat.reduceEqDiff, Nat.reduceAdd, Nat.reduceSub, Nat.reduceMul, Nat.reduceLeDiff, Nat.reduceLT]
        refine qcall_i (c_rSub x y hxy (by omega)) ?_; simp only [Tryd.f112, VN, VL, go_sem, Int.reduceToNat, Int.reduceEq, Int.reduceNe, Int.reduceLT, Int.reduceLE, Int.reduceNeg, Int.reduceAdd, ↓reduceIte, ↓reduceCtorEq, Nat.reduceEqDiff, Nat.reduceAdd, Nat.reduceSub, Nat.reduceMul, Nat.reduceLeDiff, Nat.reduceLT]
        rfl
      · refine qif_df (by have := (sgn_neg x y).2 (by omega); omega) ?_
        rw [if_neg hxy]
        simp only [Tryd.f112, go_sem, Int.reduceToNat, Int.reduceEq, Int.reduceNe, Int.reduceLT, Int.reduceLE, Int.reduceNeg, Int.reduceAdd, ↓reduceIte, ↓reduceCtorEq, Nat.reduceEqDiff, Nat.reduceAdd, Nat.reduceSub, Nat.reduceMul, Nat.reduceLeDiff, Nat.reduceLT]
        refine qcall_i (c_rSub y x (by omega) (by omega)) ?_; simp only [Tryd.f112, VN, VL, go_sem, Int.reduceToNat, Int.reduceEq, Int.reduceNe, Int.reduceLT, Int.reduceLE, Int.reduceNeg, Int.reduceAdd, ↓reduceIte, ↓reduceCtorEq, Nat.reduceEqDiff, Nat.reduceAdd, Nat.reduceSub, Nat.reduceMul, Nat.reduceLeDiff, Nat.reduceLT]
        rfl

theorem c_5Cmp (a b : Dy) (ha : bitLen a.m ≤ 1000000) (hb : bitLen b.m ≤ 1000000) (h1 : -1000000000000 ≤ a.e ∧ a.e ≤ 1000000000000) (h2 : -1000000000000 ≤ b.e ∧ b.e ≤ 1000000000000)
    (hn : a.m ≠ 0 → b.m ≠ 0 → a.top = b.top → a.e - b.e ≤ 1000000 ∧ b.e - a.e ≤ 1000000) : PC E 67 [a.nv, b.nv] (.int .i64 (cmpD a b)) := by
  refine PC.of_body follows Tryd.func67 (by decide +kernel) rfl (by kernel_rfl) (Nat.le_of_ble_eq_true rfl) (walk ?_)
  have k1 := c_5Sign a
  have k2 := c_5Sign b
  simp only [Dy.nv, DP, VN, VL] at k1 k2 ⊢
  simp only [Tryd.f67, go_sem, Int.reduceToNat, Int.reduceEq, Int.reduceNe, Int.reduceLT, Int.reduceLE, Int.reduceNeg, Int.reduceAdd, ↓reduceIte, ↓reduceCtorEq, Nat.reduceEqDiff, Nat.reduceAdd, Nat.reduceSub, Nat.reduceMul, Nat.reduceLeDiff, Nat.reduceLT]
  refine qcall_i (k1) ?_; simp only [Tryd.f67, go_sem, Int.reduceToNat, Int.reduceEq, Int.reduceNe, Int.reduceLT, Int.reduceLE, Int.reduceNeg, Int.reduceAdd, ↓reduceIte, ↓reduceCtorEq, Nat.reduceEqDiff, Nat.reduceAdd, Nat.reduceSub, Nat.reduceMul, Nat.reduceLeDiff, Nat.reduceLT]
  refine qcall_i (k2) ?_; simp only [Tryd.f67, go_sem, Int.reduceToNat, Int.reduceEq, Int.reduceNe, Int.reduceLT, Int.reduceLE, Int.reduceNeg, Int.reduceAdd, ↓reduceIte, ↓reduceCtorEq, Nat.reduceEqDiff, Nat.reduceAdd, Nat.reduceSub, Nat.reduceMul, Nat.reduceLeDiff, Nat.reduceLT]
  by_cases hs : a.sg ≠ b.sg ∨ a.sg = 0
  · rw [cmpD_sg hs]
    unfold sgn
    by_cases h3 : a.sg = b.sg
    · refine qif_df (fun h => h h3) ?_
      simp only [Tryd.f67, go_sem, Int.reduceToNat, Int.reduceEq, Int.reduceNe, Int.reduceLT, Int.reduceLE, Int.reduceNeg, Int.reduceAdd, ↓reduceIte, ↓reduceCtorEq, Nat.reduceEqDiff, Nat.reduceAdd, Nat.reduceSub, Nat.reduceMul, Nat.reduceLeDiff, Nat.reduceLT]
      refine qif_dt (by omega) ?_
      simp only [Tryd.f67, go_sem, Int.reduceToNat, Int.reduceEq, Int.reduceNe, Int.reduceLT, Int.reduceLE, Int.reduceNeg, Int.reduceAdd, ↓reduceIte, ↓reduceCtorEq, Nat.reduceEqDiff, Nat.reduceAdd, Nat.reduceSub, Nat.reduceMul, Nat.reduceLeDiff, Nat.reduceLT]
      refine qif_df (by omega) ?_
      simp only [Tryd.f67, go_sem, Int.reduceToNat, Int.reduceEq, Int.reduceNe, Int.reduceLT, Int.reduceLE, Int.reduceNeg, Int.reduceAdd, ↓reduceIte, ↓reduceCtorEq, Nat.reduceEqDiff, Nat.reduceAdd, Nat.reduceSub, Nat.reduceMul, Nat.reduceLeDiff, Nat.reduceLT]
      refine qif_df (by omega) ?_
      simp only [Tryd.f67, go_sem, Int.reduceToNat, Int.reduceEq, Int.reduceNe, Int.reduceLT, Int.reduceLE, Int.reduceNeg, Int.reduceAdd, ↓reduceIte, ↓reduceCtorEq, Nat.reduceEqDiff, Nat.reduceAdd, Nat.reduceSub, Nat.reduceMul, Nat.reduceLeDiff, Nat.reduceLT]
      rw [if_neg (by omega), if_neg (by omega)]
    · refine qif_dt h3 ?_
      simp only [Tryd.f67, go_sem, Int.reduceToNat, Int.reduceEq, Int.reduceNe, Int.reduceLT, Int.reduceLE, Int.reduceNeg, Int.reduceAdd, ↓reduceIte, ↓reduceCtorEq, Nat.reduceEqDiff, Nat.reduceAdd, Nat.reduceSub, Nat.reduceMul, Nat.reduceLeDiff, Nat.reduceLT]
      refine qif_d (fun h4 => ?_) (fun h4 => ?_)
      · simp only [Tryd.f67, go_sem, Int.reduceToNat, Int.reduceEq, Int.reduceNe, Int.reduceLT, Int.reduceLE, Int.reduceNeg, Int.reduceAdd, ↓reduceIte, ↓reduceCtorEq, Nat.reduceEqDiff, Nat.reduceAdd, Nat.reduceSub, Nat.reduceMul, Nat.reduceLeDiff, Nat.reduceLT]
        rw [if_pos h4]
      · simp only [Tryd.f67, go_sem, Int.reduceToNat, Int.reduceEq, Int.reduceNe, Int.reduceLT, Int.reduceLE, Int.reduceNeg, Int.reduceAdd, ↓reduceIte, ↓reduceCtorEq, Nat.reduceEqDiff, Nat.reduceAdd, Nat.reduceSub, Nat.reduceMul, Nat.reduceLeDiff, Nat.reduceLT]
        refine qif_dt (by omega) ?_
        simp only [Tryd.f67, go_sem, Int.reduceToNat, Int.reduceEq, Int.reduceNe, Int.reduceLT, Int.reduceLE, Int.reduceNeg, Int.reduceAdd, ↓reduceIte, ↓reduceCtorEq, Nat.reduceEqDiff, Nat.reduceAdd, Nat.reduceSub, Nat.reduceMul, Nat.reduceLeDiff, Nat.reduceLT]
        rw [if_neg h4, if_pos (by omega)]
  · have hx : a.m ≠ 0 := fun h => hs (.inr (by unfold Dy.sg; rw [if_pos h]))
    have hy : b.m ≠ 0 := fun h => hs (by
      have : b.sg = 0 := by unfold Dy.sg; rw [if_pos h]
      omega)
    have hss : a.s = b.s := by
      have h5 : a.sg = b.sg := by omega
      unfold Dy.sg at h5
      rw [if_neg hx, if_neg hy] at h5
      revert h5
      cases a.s <;> cases b.s <;> simp
    refine qif_df (by omega) ?_
    simp only [Tryd.f67, go_sem, Int.reduceToNat, Int.reduceEq, Int.reduceNe, Int.reduceLT, Int.reduceLE, Int.reduceNeg, Int.reduceAdd, ↓reduceIte, ↓reduceCtorEq, Nat.reduceEqDiff, Nat.reduceAdd, Nat.reduceSub, Nat.reduceMul, Nat.reduceLeDiff, Nat.reduceLT]
    refine qif_df (by omega) ?_
    have k3 := c_5Top a hx ha (by omega) (by omega)
    have k4 := c_5Top b hy hb (by omega) (by omega)
    simp only [Dy.nv, DP, VN, VL] at k3 k4
    simp only [Tryd.f67, go_sem, Int.reduceToNat, Int.reduceEq, Int.reduceNe, Int.reduceLT, Int.reduceLE, Int.reduceNeg, Int.reduceAdd, ↓reduceIte, ↓reduceCtorEq, Nat.reduceEqDiff, Nat.reduceAdd, Nat.reduceSub, Nat.reduceMul, Nat.reduceLeDiff, Nat.reduceLT]
    refine qcall_i (k3) ?_; simp only [Tryd.f67, go_sem, Int.reduceToNat, Int.reduceEq, Int.reduceNe, Int.reduceLT, Int.reduceLE, Int.reduceNeg, Int.reduceAdd, ↓reduceIte, ↓reduceCtorEq, Nat.reduceEqDiff, Nat.reduceAdd, Nat.reduceSub, Nat.reduceMul, Nat.reduceLeDiff, Nat.reduceLT]
    refine qcall_i (k4) ?_; simp only [Tryd.f67, go_sem, Int.reduceToNat, Int.reduceEq, Int.reduceNe, Int.reduceLT, Int.reduceLE, Int.reduceNeg, Int.reduceAdd, ↓reduceIte, ↓reduceCtorEq, Nat.reduceEqDiff, Nat.reduceAdd, Nat.reduceSub, Nat.reduceMul, Nat.reduceLeDiff, Nat.reduceLT]
    by_cases ht : a.top = b.top
    · refine qif_df (fun h => h ht) ?_
      have hnn := hn hx hy ht
      have k5 := c_5Add a ⟨!b.s, b.m, b.e⟩ ha hb h1 h2 (fun _ _ => hnn)
      have k6 := c_5Sign (addD a ⟨!b.s, b.m, b.e⟩)
      have e9 : (addD a ⟨!b.s, b.m, b.e⟩).sg = cmpD a b := by
        have hne : ¬a.s = !b.s := by rw [hss]; cases b.s <;> simp
        unfold addD cmpD Dy.at
        dsimp only
        rw [if_neg hx, if_neg hy, if_neg hne, ← hss]
        generalize a.m * 2 ^ (a.e - min a.e b.e).toNat = x at *
        generalize b.m * 2 ^ (b.e - min a.e b.e).toNat = y at *
        unfold sgn
        cases a.s
        · rcases Nat.lt_trichotomy x y with h | h | h
          · rw [if_neg (by omega), if_pos (by simp; omega)]
            simp [Dy.sg]; omega
          · rw [if_pos (by omega), if_neg (by simp; omega), if_neg (by simp; omega)]
            simp [Dy.sg]; omega
          · rw [if_pos (by omega), if_neg (by simp; omega), if_pos (by simp; omega)]
            simp [Dy.sg]; omega
        · rcases Nat.lt_trichotomy x y with h | h | h
          · rw [if_neg (by omega), if_neg (by simp; omega), if_pos (by simp; omega)]
            simp [Dy.sg]; omega
          · rw [if_pos (by omega), if_neg (by simp; omega), if_neg (by simp; omega)]
            simp [Dy.sg]; omega
          · rw [if_pos (by omega), if_pos (by simp; omega)]
            simp [Dy.sg]; omega
      rw [e9] at k6
      simp only [Dy.nv, DP, VN, VL] at k5 k6
      simp only [Tryd.f67, go_sem, Int.reduceToNat, Int.reduceEq, Int.reduceNe, Int.reduceLT, Int.reduceLE, Int.reduceNeg, Int.reduceAdd, ↓reduceIte, ↓reduceCtorEq, Nat.reduceEqDiff, Nat.reduceAdd, Nat.reduceSub, Nat.reduceMul, Nat.reduceLeDiff, Nat.reduceLT]
      refine qcall_i (k5) ?_; simp only [Tryd.f67, go_sem, Int.reduceToNat, Int.reduceEq, Int.reduceNe, Int.reduceLT, Int.reduceLE, Int.reduceNeg, Int.reduceAdd, ↓reduceIte, ↓reduceCtorEq, Nat.reduceEqDiff, Nat.reduceAdd, Nat.reduceSub, Nat.reduceMul, Nat.reduceLeDiff, Nat.reduceLT]
      refine qcall_i (k6) ?_; simp only [Tryd.f67, go_sem, Int.reduceToNat, Int.reduceEq, Int.reduceNe, Int.reduceLT, Int.reduceLE, Int.reduceNeg, Int.reduceAdd, ↓reduceIte, ↓reduceCtorEq, Nat.reduceEqDiff, Nat.reduceAdd, Nat.reduceSub, Nat.reduceMul, Nat.reduceLeDiff, Nat.reduceLT]
    · refine qif_dt ht ?_
      simp only [Tryd.f67, go_sem, Int.reduceToNat, Int.reduceEq, Int.reduceNe, Int.reduceLT, Int.reduceLE, Int.reduceNeg, Int.reduceAdd, ↓reduceIte, ↓reduceCtorEq, Nat.reduceEqDiff, Nat.reduceAdd, Nat.reduceSub, Nat.reduceMul, Nat.reduceLeDiff, Nat.reduceLT]
      refine qcall_i (k3) ?_; simp only [Tryd.f67, go_sem, Int.reduceToNat, Int.reduceEq, Int.reduceNe, Int.reduceLT, Int.reduceLE, Int.reduceNeg, Int.reduceAdd, ↓reduceIte, ↓reduceCtorEq, Nat.reduceEqDiff, Nat.reduceAdd, Nat.reduceSub, Nat.reduceMul, Nat.reduceLeDiff, Nat.reduceLT]
      refine qcall_i (k4) ?_; simp only [Tryd.f67, go_sem, Int.reduceToNat, Int.reduceEq, Int.reduceNe, Int.reduceLT, Int.reduceLE, Int.reduceNeg, Int.reduceAdd, ↓reduceIte, ↓reduceCtorEq, Nat.reduceEqDiff, Nat.reduceAdd, Nat.reduceSub, Nat.reduceMul, Nat.reduceLeDiff, Nat.reduceLT]
      rw [cmpD_top hx hy hss ht]
      cases hc : (decide (a.top < b.top) != a.s)
      · simp only [Tryd.f67, go_sem, Int.reduceToNat, Int.reduceEq, Int.reduceNe, Int.reduceLT, Int.reduceLE, Int.reduceNeg, Int.reduceAdd, ↓reduceIte, ↓reduceCtorEq, Nat.reduceEqDiff, Nat.reduceAdd, Nat.reduceSub, Nat.reduceMul, Nat.reduceLeDiff, Nat.reduceLT]
      · simp only [Tryd.f67, go_sem, Int.reduceToNat, Int.reduceEq, Int.reduceNe, Int.reduceLT, Int.reduceLE, Int.reduceNeg, Int.reduceAdd, ↓reduceIte, ↓reduceCtorEq, Nat.reduceEqDiff, Nat.reduceAdd, Nat.reduceSub, Nat.reduceMul, Nat.reduceLeDiff, Nat.reduceLT]
end Go.Proofs.YtflpcgcgeffolaaDoor
