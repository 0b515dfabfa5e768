/- strconv.FormatUint at base 16. -/
import Derived.Test.YtmnojbkakgfinaaDoorStr5
import Derived.Test.YtmnojbkakgfinaaDoorK1
import Derived.Test.YtmnojbkakgfinaaDoorG4
open Go PG Go.Proofs
set_option maxRecDepth 100000
set_option linter.unusedSimpArgs false
set_option linter.unusedVariables false
namespace Go.Proofs.YtmnojbkakgfinaaDoor
attribute [local go_sem] Lay2 Lay3 Lay4 Lay5 Lay6 Lay7 Lay8 Lay9 Lay10 Lay11 Lay12 Lay13 Lay14 Lay15 Lay16 Lay17 Lay18 Lay19 Lay21 Lay23 Lay24 Lay30 Lay31 Lay32 Lay33 Lay34 Lay36 Lay37 Lay49 Lay50 Lay51 Lay52 Lay59 Lay75 Lay77 Lay85 Lay87 Lay89 Lay96 Lay101 Lay112 Lay113 Lay118 Lay119 Lay120 Lay122 Lay123 Lay124 Lay125 Lay126 Lay127 Lay128 Lay129 Lay130 Lay132 Lay133 qexec_seq qexec_skip qexec_exit qexec_ret qexec_block qexec_loop qexec_range qexec_cond qexec_region qexec_drawn qops_nil qops_none qops_some put_some put_none pblk_exit pblk_other newDsts_nil inlDsts_nil isInl sget_cons sget_nil qval_some qbool_some qgs_bool qgs_und qfree_some qgrd_true qgrd_false qif_true qif_false qval_ite qval_itn qand_true map_ite map_some' map_none' qdo_move qdo_assign qdo_binOp qdo_pick qdo_unOp qdo_convert qdo_extract qdo_field qdo_fieldAddr qdo_alloc qdo_box qdo_build qdo_buildSlice qdo_load qdo_store qdo_nilCheck qdo_makeFunc qdo_makeSlice qdo_slice qdo_indexAddr qdo_call qcont_val qcont_new qcont_st qcont_app0 qcont_app qcont_inl qcont_call njSV_val njSV_nil njSV_row njSV_ptr njSV_sub binV_val binV_nil binV_nn binV_ptr bin_np bin_nnp nilCmp bin_add bin_sub bin_mul bin_quo bin_rem bin_and bin_or bin_xor bin_andNot bin_eql bin_neq bin_lss bin_leq bin_gtr bin_geq bin_shl bin_shr bin_seql bin_sneq bin_sadd bin_beql bin_aeql bin_aneq eqAnd_some eqCells_nil eqCells_cons fieldTypes isStruct eqCell bin_bneq un_not un_neg nj_ite Nat.beq stepA stepR isNew opSV constSV RV.sv allSome E_mu E_own qkeyIn_none qkeyIn_some qkeyAt_none qkeyAt_some Bool.or_false Bool.false_or Bool.or_true Bool.true_or cst setB res resSV pstart startL killL kill1 eraL frzL svPV rvPV rvInt rvSlice rvBytes frzOf close closeL pconv pbuiltin pmax2 partPV setCells fillPV zrow bound newSV PV.cells Bk.cells Bk.with SV.key pres presL_nil presL_tmp presL_cell presC2_some cellPV_ptr presC List.toList_toArray List.size_toArray List.getElem?_drop Nat.mul_one Int.toNat_natCast Nat.not_lt_zero Nat.lt_irrefl decide_true decide_false Nat.not_lt Option.some.injEq PV.lst.injEq PV.int.injEq PV.bool.injEq PV.tuple.injEq List.cons.injEq Option.map_some Option.map_none Option.bind_some Option.toList List.map_cons List.map_nil List.nil_append List.cons_append List.append_nil List.zip_cons_cons List.zip_nil_left List.zip_nil_right List.getElem?_cons_zero List.getElem?_cons_succ List.drop_zero List.drop_succ_cons List.take_succ_cons List.take_zero List.set_cons_zero List.set_cons_succ List.length_cons List.length_nil List.length_set List.replicate_one List.replicate_zero bne_self_eq_false beq_self_eq_true Nat.zero_add Nat.add_zero Nat.zero_mul Bool.false_eq_true Bool.true_eq_false Bool.not_true Bool.not_false and_true true_and false_and and_false or_false false_or or_true true_or not_true_eq_false not_false_eq_true ne_eq gt_iff_lt List.mem_cons List.not_mem_nil
attribute [local go_sem ↓] pseq_normal pseq_ret pseq_exit pblk_normal pblk_ret newDsts_cons inlDsts_cons gdst_zero gdst_succ retQ_normal retQ_ret qneed_nil qneed_cons retM_normal retM_ret endR_normal endR_ret endR_exit
attribute [local go_sem] Int.reduceToNat Int.reduceEq Int.reduceNe Int.reduceLT Int.reduceLE Int.reduceNeg Int.reduceAdd Nat.reduceEqDiff Nat.reduceAdd Nat.reduceSub Nat.reduceMul Nat.reduceLeDiff Nat.reduceLT
attribute [local go_sem ↓] reduceIte reduceCtorEq

/-- A hex digit's sign. -/
def hxd (n : Nat) : UInt8 := UInt8.ofNat (if n < 10 then 48 + n else 87 + n)
theorem hxd_nat {n : Nat} (h : n < 16) : (hxd n).toNat = if n < 10 then 48 + n else 87 + n := by
  unfold hxd
  split <;> simp <;> omega
/-- Hex digits, without noughts ahead. -/
def hexL (x : Nat) : List UInt8 := if h : x < 16 then [hxd x] else hexL (x / 16) ++ [hxd (x % 16)]
termination_by x
decreasing_by omega
theorem hexL_lt {x : Nat} (h : x < 16) : hexL x = [hxd x] := by rw [hexL, dif_pos h]
theorem hexL_ge {x : Nat} (h : ¬ x < 16) : hexL x = hexL (x / 16) ++ [hxd (x % 16)] := by rw [hexL, dif_neg h]
theorem rep_set (z v : PV) (k : Nat) (r : List PV) (h : 0 < k) : (List.replicate k z ++ r).set (k - 1) v = List.replicate (k - 1) z ++ v :: r := by
  obtain ⟨j, rfl⟩ : ∃ j, k = j + 1 := ⟨k - 1, by omega⟩
  rw [Nat.add_sub_cancel, List.replicate_succ', List.append_assoc, List.set_append, if_neg (by simp)]
  simp
def HEXD : List UInt8 := [48, 49, 50, 51, 52, 53, 54, 55, 56, 57, 97, 98, 99, 100, 101, 102, 103, 104, 105, 106, 107, 108, 109, 110, 111, 112, 113, 114, 115, 116, 117, 118, 119, 120, 121, 122]
theorem idx_hex {n : Nat} (h : n < 16) : idxS (B8 HEXD) (n : Int) = some (.val (.int .u8 ((hxd n).toNat : Nat))) := by
  have e : ∀ k : Fin 16, HEXD.getD k.val 0 = hxd k.val := by decide +kernel
  rw [idxS_B8 (l := HEXD) (by omega) (by rw [Int.toNat_natCast]; exact Nat.lt_of_lt_of_le h (by decide)), Int.toNat_natCast, e ⟨n, h⟩]
theorem s_isPow16 : PC E 80 [.int .i64 16] (.bool true) := by
  refine PC.of_body follows Tryd.func80 (by decide +kernel) rfl (by kernel_rfl) (Nat.le_of_ble_eq_true rfl) (walk ?_)
  simp only [Tryd.f80, go_sem]
  have e : bits .and .i64 16 (IntKind.wrap .i64 (16 - 1)) = 0 := by decide +kernel
  simp only [Tryd.f80, e, go_sem]
  try rfl
theorem s_TZ16 : PC E 81 [.int .u64 16] (.int .i64 4) := by
  have k1 := c_TrailingZeros64 16 (by decide)
  have e : Lib.ctz 64 16 = 4 := by decide +kernel
  rw [e] at k1
  simp only [u] at k1
  rw [show ((16 : Nat) : Int) = 16 from rfl, show ((4 : Nat) : Int) = 4 from rfl] at k1
  refine PC.of_body follows Tryd.func81 (by decide +kernel) rfl (by kernel_rfl) (Nat.le_of_ble_eq_true rfl) (walk ?_)
  simp only [Tryd.f81, go_sem]
  refine qcall_i (k1) ?_; simp only [Tryd.f81, go_sem]
  try rfl
def Z8 : PV := .int .u8 0
/-- What the array holds: signs at its end. -/
def arr (t : List UInt8) : List PV := List.replicate (65 - t.length) Z8 ++ BL t
theorem arr_len {t : List UInt8} (h : t.length ≤ 65) : (arr t).length = 65 := by
  unfold arr
  rw [List.length_append, List.length_replicate, BL_length]; omega
theorem arr_set {t : List UInt8} (c : UInt8) (h : t.length < 65) : (arr t).set (65 - t.length - 1) (.int .u8 (c.toNat : Nat)) = arr (c :: t) := by
  unfold arr
  rw [rep_set _ _ _ _ (by omega), List.length_cons, show 65 - (t.length + 1) = 65 - t.length - 1 by omega]
  rfl
theorem arr_cut {t : List UInt8} (h : t.length ≤ 65) : ((arr t).drop (65 - t.length)).take t.length = BL t := by
  unfold arr
  rw [List.drop_append, List.length_replicate, Nat.sub_self, List.drop_zero, List.drop_of_length_le (by simp), List.nil_append, List.take_of_length_le (by rw [BL_length]; exact Nat.le_refl _)]
theorem s_formatBits {x : Nat} (hx : x < W) : PC E 67 [.lst 0 [], u x, .int .i64 16, .bool false, .bool false] (.tuple [.lst 0 [], TX (hexL x)]) := by
  have k1 := s_isPow16
  have k2 := s_TZ16
  have wm : IntKind.wrap .u64 (16 - 1) = 15 := by decide +kernel
  have w65 : IntKind.wrap .u64 16 = 16 := by decide +kernel
  have w4 : IntKind.wrap .u64 4 = 4 := by decide +kernel
  have eH : B8 [48, 49, 50, 51, 52, 53, 54, 55, 56, 57, 97, 98, 99, 100, 101, 102, 103, 104, 105, 106, 107, 108, 109, 110, 111, 112, 113, 114, 115, 116, 117, 118, 119, 120, 121, 122] = B8 HEXD := rfl
  have W16 : W = 16 ^ 16 := by decide
  simp only [u, TX]
  refine PC.of_body follows Tryd.func67 (by decide +kernel) rfl (by kernel_rfl) (Nat.le_of_ble_eq_true rfl) (walk ?_)
  simp only [Tryd.f67, B8_size, B8_cut, B8_eq, B8_mk, B8_app, Int.toNat_natCast, go_sem]
  refine qcall_i (k1) ?_; simp only [Tryd.f67, B8_size, B8_cut, B8_eq, B8_mk, B8_app, Int.toNat_natCast, go_sem]
  refine qcall_i (k2) ?_; simp only [Tryd.f67, B8_size, B8_cut, B8_eq, B8_mk, B8_app, Int.toNat_natCast, wm, w65, w4, go_sem]
  refine PLoop.intro (fun p : List UInt8 × Nat => ⟨[(0, .val (.lst 0 [])), (1, .val (.int .u64 p.2)), (2, .val (.int .i64 16)), (3, .val (.bool false)), (4, .val (.bool false)), (10, .nil), (12, .ptr 12 0), (13, .val (.int .i64 ((65 - p.1.length : Nat) : Int))), (14, .val (.int .u64 4)), (15, .val (.int .u64 16)), (16, .val (.int .u64 15))], [(12, (.box (arr p.1), false))]⟩)
    (fun p => p.1.length ≤ 15 ∧ p.2 < 16 ^ (16 - p.1.length) ∧ hexL x = hexL p.2 ++ p.1) (fun p => p.2) ([], x) ⟨by simp, by simpa [W16] using hx, by simp⟩ ?_ fun p hp => walk ?_
  · simp [Wk, sget, killL, kill1, SV.key]
    try exact ⟨rfl, rfl⟩
    try rfl
  obtain ⟨t, v⟩ := p
  obtain ⟨h1, h2, h3⟩ := hp
  dsimp only at h1 h2 h3 ⊢
  have hvW : v < W := Nat.lt_of_lt_of_le h2 (by rw [W16]; exact Nat.pow_le_pow_right (by decide) (by omega))
  have wi : IntKind.wrap .i64 (((65 - t.length : Nat) : Int) - 1) = ((65 - t.length - 1 : Nat) : Int) := by rw [wrap64 (by omega) (by omega)]; omega
  have hal := arr_len (t := t) (by omega)
  simp only [Tryd.f67, B8_size, B8_cut, B8_eq, B8_mk, B8_app, Int.toNat_natCast, go_sem]
  refine qif_d (fun h => ?_) (fun h => ?_)
  · have e1 : bits .and .u64 (v : Int) 15 = ((v % 16 : Nat) : Int) := by
      rw [show (15 : Int) = ((15 : Nat) : Int) from rfl, b_and hvW (by decide), show (15 : Nat) = 2 ^ 4 - 1 from rfl, Nat.and_two_pow_sub_one_eq_mod]
    have e2 : (v : Int).fdiv (2 ^ min 4 64) = ((v / 16 : Nat) : Int) := by
      rw [show ((2 : Int) ^ min 4 64) = 16 by decide, Int.fdiv_eq_ediv_of_nonneg _ (by decide)]
      omega
    have hi := idx_hex (n := v % 16) (by omega)
    have hs := arr_set (t := t) (hxd (v % 16)) (by omega)
    have h3' := hexL_ge (x := v) (by omega)
    have h14 : t.length ≤ 14 := by
      rcases Nat.lt_or_ge 14 t.length with hh | hh
      · have e : 16 - t.length = 1 := by omega
        rw [e] at h2
        omega
      · exact hh
    simp only [Tryd.f67, B8_size, B8_cut, B8_eq, B8_mk, B8_app, Int.toNat_natCast, wi, e1, eH, go_sem]
    refine qdo_indexS Lay9.1 rfl rfl ?_
    simp only [Tryd.f67, B8_size, B8_cut, B8_eq, B8_mk, B8_app, Int.toNat_natCast, hi, go_sem]
    refine qand_i (by omega) ?_
    simp only [Tryd.f67, B8_size, B8_cut, B8_eq, B8_mk, B8_app, Int.toNat_natCast, hal, go_sem]
    refine qand_i (by omega) ?_
    simp only [Tryd.f67, B8_size, B8_cut, B8_eq, B8_mk, B8_app, Int.toNat_natCast, e2, go_sem]
    refine ⟨(hxd (v % 16) :: t, v / 16), ⟨by simp; omega, ?_, ?_⟩, by dsimp only; omega, ?_⟩
    · dsimp only
      rw [List.length_cons, Nat.div_lt_iff_lt_mul (by decide), ← Nat.pow_succ]
      exact Nat.lt_of_lt_of_le h2 (Nat.pow_le_pow_right (by decide) (by omega))
    · dsimp only
      rw [h3, h3', List.append_assoc]; rfl
    · simp [Wk, sget, killL, kill1, SV.key, hs]
      try omega
  · have hi := idx_hex (n := v) (by omega)
    have hs := arr_set (t := t) (hxd v) (by omega)
    rw [hexL_lt (x := v) (by omega)] at h3
    have hc := arr_cut (t := hxd v :: t) (by simp; omega)
    have hb := bconv_BL (P := E.P) (e := 5) (d := 9) (l := hxd v :: t) (n := t.length + 1) Lay5.1 Lay9.1 (by simp)
    have hal2 := arr_len (t := hxd v :: t) (by simp; omega)
    rw [List.length_cons, show 65 - (t.length + 1) = 65 - t.length - 1 by omega] at hc
    simp only [Tryd.f67, B8_size, B8_cut, B8_eq, B8_mk, B8_app, Int.toNat_natCast, wi, eH, go_sem]
    refine qdo_indexS Lay9.1 rfl rfl ?_
    simp only [Tryd.f67, B8_size, B8_cut, B8_eq, B8_mk, B8_app, Int.toNat_natCast, hi, go_sem]
    refine qand_i (by omega) ?_
    simp only [Tryd.f67, B8_size, B8_cut, B8_eq, B8_mk, B8_app, Int.toNat_natCast, hal, go_sem]
    refine qand_i (by omega) ?_
    simp only [Tryd.f67, B8_size, B8_cut, B8_eq, B8_mk, B8_app, Int.toNat_natCast, hs, go_sem]
    refine qand_i ⟨by omega, by omega, by omega, by decide⟩ ?_
    simp only [Tryd.f67, B8_size, B8_cut, B8_eq, B8_mk, B8_app, Int.toNat_natCast, go_sem]
    rw [if_pos (by rw [hal2]; omega), show 65 - (65 - t.length - 1) = t.length + 1 by omega, hc]
    simp only [Tryd.f67, hb, go_sem]
    rw [h3]
    try rfl
theorem s_FormatUintI {x : Nat} (hx : x < W) : PC E 60 [u x, .int .i64 16] (TX (hexL x)) := by
  have k1 := s_formatBits hx
  simp only [u, TX] at k1 ⊢
  refine PC.of_body follows Tryd.func60 (by decide +kernel) rfl (by kernel_rfl) (Nat.le_of_ble_eq_true rfl) (walk ?_)
  simp only [Tryd.f60, B8_size, B8_cut, B8_eq, B8_mk, B8_app, Int.toNat_natCast, go_sem]
  refine qcall_i (k1) ?_; simp only [Tryd.f60, B8_size, B8_cut, B8_eq, B8_mk, B8_app, Int.toNat_natCast, go_sem]
  try rfl
theorem s_FormatUint {x : Nat} (hx : x < W) : PC E 43 [u x, .int .i64 16] (TX (hexL x)) := by
  have k1 := s_FormatUintI hx
  simp only [u, TX] at k1 ⊢
  refine PC.of_body follows Tryd.func43 (by decide +kernel) rfl (by kernel_rfl) (Nat.le_of_ble_eq_true rfl) (walk ?_)
  simp only [Tryd.f43, B8_size, B8_cut, B8_eq, B8_mk, B8_app, Int.toNat_natCast, go_sem]
  refine qcall_i (k1) ?_; simp only [Tryd.f43, B8_size, B8_cut, B8_eq, B8_mk, B8_app, Int.toNat_natCast, go_sem]
  try rfl
end Go.Proofs.YtmnojbkakgfinaaDoor
