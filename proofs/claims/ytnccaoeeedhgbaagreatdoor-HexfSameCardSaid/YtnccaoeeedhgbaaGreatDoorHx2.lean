/- hexf.Dyad: what a text of hex digits is worth. -/
import Derived.Test.YtnccaoeeedhgbaaGreatDoorHxN
import Derived.Test.YtnccaoeeedhgbaaGreatDoorHx1
import Derived.Test.YtnccaoeeedhgbaaGreatDoorI1
open Go PG Go.Proofs
set_option maxRecDepth 100000
set_option linter.unusedSimpArgs false
set_option linter.unusedVariables false
namespace Go.Proofs.YtnccaoeeedhgbaaGreatDoor
attribute [local go_sem] Lay2 Lay3 Lay4 Lay5 Lay6 Lay7 Lay8 Lay9 Lay10 Lay11 Lay12 Lay13 Lay14 Lay15 Lay16 Lay17 Lay18 Lay19 Lay21 Lay23 Lay24 Lay25 Lay26 Lay27 Lay28 Lay31 Lay32 Lay33 Lay34 Lay37 Lay38 Lay39 Lay42 Lay46 Lay47 Lay54 Lay65 Lay66 Lay96 Lay97 Lay106 Lay136 Lay147 Lay148 Lay152 Lay160 Lay161 Lay187 Lay201 Lay202 Lay203 Lay204 Lay212 Lay215 Lay220 Lay221 Lay234 Lay244 Lay247 Lay248 Lay249 Lay250 Lay251 Lay252 Lay253 Lay254 Lay255 Lay256 Lay257 Lay258 Lay259 Lay260 Lay261 Lay262 Lay264 Lay265 qexec_seq qexec_skip qexec_exit qexec_ret qexec_block qexec_loop qexec_range qexec_cond qexec_region qexec_drawn qops_nil qops_none qops_some put_some put_none pblk_exit pblk_other newDsts_nil inlDsts_nil isInl sget_cons sget_nil qval_some qbool_some qgs_bool qgs_und qfree_some qgrd_true qgrd_false qif_true qif_false qval_ite qval_itn qand_true map_ite map_some' map_none' qdo_move qdo_assign qdo_binOp qdo_pick qdo_unOp qdo_convert qdo_extract qdo_field qdo_fieldAddr qdo_alloc qdo_box qdo_build qdo_buildSlice qdo_load qdo_store qdo_nilCheck qdo_makeFunc qdo_makeSlice qdo_slice qdo_indexAddr qdo_call qcont_val qcont_new qcont_st qcont_app0 qcont_app qcont_inl qcont_call njSV_val njSV_nil njSV_row njSV_ptr njSV_sub binV_val binV_nil binV_nn binV_ptr bin_np bin_nnp nilCmp bin_add bin_sub bin_mul bin_quo bin_rem bin_and bin_or bin_xor bin_andNot bin_eql bin_neq bin_lss bin_leq bin_gtr bin_geq bin_shl bin_shr bin_seql bin_sneq bin_sadd bin_beql bin_aeql bin_aneq eqAnd_some eqCells_nil eqCells_cons fieldTypes isStruct eqCell bin_bneq un_not un_neg nj_ite Nat.beq stepA stepR isNew opSV constSV RV.sv allSome E_mu E_own qkeyIn_none qkeyIn_some qkeyAt_none qkeyAt_some Bool.or_false Bool.false_or Bool.or_true Bool.true_or cst setB res resSV pstart startL killL kill1 eraL frzL svPV rvPV rvInt rvSlice rvBytes frzOf close closeL pconv pbuiltin pmax2 partPV setCells fillPV zrow bound newSV PV.cells Bk.cells Bk.with SV.key pres presL_nil presL_tmp presL_cell presC2_some cellPV_ptr presC List.toList_toArray List.size_toArray List.getElem?_drop Nat.mul_one Int.toNat_natCast Nat.not_lt_zero Nat.lt_irrefl decide_true decide_false Nat.not_lt Option.some.injEq PV.lst.injEq PV.int.injEq PV.bool.injEq PV.tuple.injEq List.cons.injEq Option.map_some Option.map_none Option.bind_some Option.toList List.map_cons List.map_nil List.nil_append List.cons_append List.append_nil List.zip_cons_cons List.zip_nil_left List.zip_nil_right List.getElem?_cons_zero List.getElem?_cons_succ List.drop_zero List.drop_succ_cons List.take_succ_cons List.take_zero List.set_cons_zero List.set_cons_succ List.length_cons List.length_nil List.length_set List.replicate_one List.replicate_zero bne_self_eq_false beq_self_eq_true Nat.zero_add Nat.add_zero Nat.zero_mul Bool.false_eq_true Bool.true_eq_false Bool.not_true Bool.not_false and_true true_and false_and and_false or_false false_or or_true true_or not_true_eq_false not_false_eq_true ne_eq gt_iff_lt List.mem_cons List.not_mem_nil
attribute [local go_sem ↓] pseq_normal pseq_ret pseq_exit pblk_normal pblk_ret newDsts_cons inlDsts_cons gdst_zero gdst_succ retQ_normal retQ_ret qneed_nil qneed_cons retM_normal retM_ret endR_normal endR_ret endR_exit
attribute [local go_sem] Int.reduceToNat Int.reduceEq Int.reduceNe Int.reduceLT Int.reduceLE Int.reduceNeg Int.reduceAdd Nat.reduceEqDiff Nat.reduceAdd Nat.reduceSub Nat.reduceMul Nat.reduceLeDiff Nat.reduceLT
attribute [local go_sem ↓] reduceIte reduceCtorEq

def numR (l : List UInt8) : PV := if l.all hx = true then NN (hn l) else .lst 0 []
theorem h_numberR {l : List UInt8} (hl : l.length ≤ 1000) : PC E 35 [TX l] (.tuple [numR l, .bool (l.all hx && decide (l ≠ []))]) := by
  have k := h_number hl
  unfold numR
  by_cases h : l.all hx = true
  · rw [if_pos h] at k ⊢
    rw [h, Bool.true_and]; exact k
  · rw [if_neg h] at k ⊢
    have : l.all hx = false := by simpa using h
    rw [this, Bool.false_and]; exact k
/-- The parts of a text. -/
def hexN (l : List UInt8) : Bool := hasP l [45]
def hexR1 (l : List UInt8) : List UInt8 := if hasP l [45] = true then l.drop [(45 : UInt8)].length else l
def hexX (l : List UInt8) : Bool := hasP (hexR1 l) [48, 120]
def hexR2 (l : List UInt8) : List UInt8 := if hasP (hexR1 l) [48, 120] = true then (hexR1 l).drop [(48 : UInt8), 120].length else hexR1 l
def hexAll (l : List UInt8) : List UInt8 := cutA 112 (hexR2 l)
def hexE (l : List UInt8) : List UInt8 := cutB 112 (hexR2 l)
def hexH (l : List UInt8) : Bool := hasC 112 (hexR2 l)
def hexW (l : List UInt8) : List UInt8 := cutA 46 (hexAll l)
def hexF (l : List UInt8) : List UInt8 := cutB 46 (hexAll l)
def hexPt (l : List UInt8) : Bool := hasC 46 (hexAll l)
def hexOk (l : List UInt8) : Bool := decide (l.length ≤ 400) && (hexX l && (hexH l && (((hexW l ++ hexF l).all hx && decide (hexW l ++ hexF l ≠ [])) && (expOk (hexE l) && (!decide (hexW l = []) && !(hexPt l && decide (hexF l = [])))))))
def hexM (l : List UInt8) : Nat := hn (hexW l ++ hexF l)
def hexV (l : List UInt8) : Int := expV (hexE l) - 4 * (hexF l).length
def hexD (l : List UInt8) : Dy := mkD (hexN l) (hexM l) (hexV l)
theorem cut_len (c : UInt8) (l : List UInt8) : (cutA c l).length ≤ l.length ∧ (cutB c l).length ≤ l.length := by
  rw [← take_pos, ← drop_pos, List.length_take, List.length_drop]
  omega
theorem cut_sum (c : UInt8) (l : List UInt8) : (cutA c l).length + (cutB c l).length ≤ l.length := by
  have := pos_le c l
  rw [← take_pos, ← drop_pos, List.length_take, List.length_drop]
  omega
theorem hexR1_le (l : List UInt8) : (hexR1 l).length ≤ l.length := by unfold hexR1; split <;> simp
theorem hexR2_le (l : List UInt8) : (hexR2 l).length ≤ l.length := by
  have := hexR1_le l
  unfold hexR2; split
  · rw [List.length_drop]; omega
  · exact this
theorem hexOk_all {l : List UInt8} (h : hexOk l = true) : l.length ≤ 400 ∧ hexX l = true ∧ hexH l = true ∧ (hexW l ++ hexF l).all hx = true ∧ expOk (hexE l) = true ∧ hexW l ≠ [] ∧ (hexPt l = true → hexF l ≠ []) := by
  unfold hexOk at h
  simp only [Bool.and_eq_true, decide_eq_true_eq, Bool.not_eq_true', Bool.and_eq_false_iff, decide_eq_false_iff_not] at h
  obtain ⟨h1, h2, h3, ⟨h4, _⟩, h5, h6, h7⟩ := h
  refine ⟨h1, h2, h3, h4, h5, h6, fun hp => ?_⟩
  rcases h7 with h7 | h7
  · rw [hp] at h7; cases h7
  · exact h7
theorem hex_lens {l : List UInt8} (h : l.length ≤ 400) : (hexW l ++ hexF l).length ≤ 400 ∧ (hexF l).length ≤ 400 ∧ (hexE l).length ≤ 400 := by
  have h1 := hexR2_le l
  have h2 := cut_len 112 (hexR2 l)
  have h3 := cut_sum 46 (hexAll l)
  have h4 := cut_len 46 (hexAll l)
  have h5 : (hexAll l).length ≤ (hexR2 l).length := h2.1
  refine ⟨?_, ?_, ?_⟩
  · rw [List.length_append]; exact Nat.le_trans h3 (by omega)
  · exact Nat.le_trans h4.2 (by omega)
  · exact Nat.le_trans h2.2 (by omega)
theorem hexM_bits {l : List UInt8} (h : hexOk l = true) : bitLen (hexM l) ≤ 1600 := by
  obtain ⟨h1, _, _, h4, _⟩ := hexOk_all h
  have h2 := (hex_lens h1).1
  exact Nat.le_trans (bitLen16 _ _ (hn_lt _ h4)) (by omega)
theorem hexV_le {l : List UInt8} (h : hexOk l = true) : -102000 ≤ hexV l ∧ hexV l ≤ 100000 := by
  obtain ⟨h1, _, _, _, h5, _⟩ := hexOk_all h
  have h2 := (hex_lens h1).2.1
  have h3 := expV_le h5
  unfold hexV
  omega
theorem hexD_fits {l : List UInt8} (h : hexOk l = true) : (hexD l).fits := by
  have h1 := hexM_bits h
  have h2 := hexV_le h
  exact mkD_fits (by omega) (by omega) (by omega)
set_option maxHeartbeats 4000000 in
theorem h_Dyad {l : List UInt8} (hl : l.length < 9223372036854775807) : PC E 12 [TX l] (if hexOk l = true then .tuple [(hexD l).pv, .bool (hexN l), .int .i64 0] else .tuple [Dy.zero.pv, .bool false, .int .i64 4]) := by
  obtain ⟨R, hR⟩ : ∃ R, R = (if hexOk l = true then PV.tuple [(hexD l).pv, .bool (hexN l), .int .i64 0] else .tuple [Dy.zero.pv, .bool false, .int .i64 4]) := ⟨_, rfl⟩
  rw [← hR]
  have zp : Dy.zero.pv = .agg [.bool false, .lst 0 [], .int .i64 0] := rfl
  by_cases h4 : l.length ≤ 400
  case neg =>
    rw [if_neg (fun h => h4 (hexOk_all h).1), zp] at hR
    simp only [TX]
    refine PC.of_body follows Tryz.func12 (by decide +kernel) rfl (by kernel_rfl) (Nat.le_of_ble_eq_true rfl) (walk ?_)
    simp only [Tryz.f12, B8_size, B8_cut, B8_eq, B8_mk, B8_app, Int.toNat_natCast, go_sem]
    refine qif_dt (by omega) ?_
    simp only [Tryz.f12, B8_size, B8_cut, B8_eq, B8_mk, B8_app, Int.toNat_natCast, go_sem]
    rw [hR]
  have kMk := fun (h : hexOk l = true) => r_Make (num_bits (x := hexM l) (by have := hexM_bits h; omega)) (by have := hexM_bits h; omega) (hexN l) (hexV l)
  have hf := fun (h : hexOk l = true) => hexD_fits h
  have hnr : hexOk l = true → numR (hexW l ++ hexF l) = NN (hexM l) := fun h => if_pos (hexOk_all h).2.2.2.1
  have hvle := fun (h : hexOk l = true) => hexV_le h
  have hele := fun (h : hexOk l = true) => expV_le (hexOk_all h).2.2.2.2.1
  have h1 := hexR1_le l
  have h2 := hexR2_le l
  have h3 := cut_len 112 (hexR2 l)
  obtain ⟨l1, l2, l3⟩ := hex_lens h4
  have k1 := s_CutPrefix l [45]
  rw [show (if hasP l [45] = true then l.drop [(45 : UInt8)].length else l) = hexR1 l from rfl, show hasP l [45] = hexN l from rfl] at k1
  have k2 := s_CutPrefix (hexR1 l) [48, 120]
  rw [show (if hasP (hexR1 l) [48, 120] = true then (hexR1 l).drop [(48 : UInt8), 120].length else hexR1 l) = hexR2 l from rfl, show hasP (hexR1 l) [48, 120] = hexX l from rfl] at k2
  have k3 := s_Cut (hexR2 l) 112 (by omega)
  rw [show cutA 112 (hexR2 l) = hexAll l from rfl, show cutB 112 (hexR2 l) = hexE l from rfl, show hasC 112 (hexR2 l) = hexH l from rfl] at k3
  have k4 := s_Cut (hexAll l) 46 (by have : (hexAll l).length ≤ (hexR2 l).length := h3.1; omega)
  rw [show cutA 46 (hexAll l) = hexW l from rfl, show cutB 46 (hexAll l) = hexF l from rfl, show hasC 46 (hexAll l) = hexPt l from rfl] at k4
  have k5 := h_numberR (l := hexW l ++ hexF l) (by omega)
  have k6 := h_exponent (l := hexE l) (by omega)
  have hok : hexOk l = (hexX l && (hexH l && (((hexW l ++ hexF l).all hx && decide (hexW l ++ hexF l ≠ [])) && (expOk (hexE l) && (!decide (hexW l = []) && !(hexPt l && decide (hexF l = []))))))) := by
    unfold hexOk; rw [decide_eq_true h4, Bool.true_and]
  have hV : hexV l = expV (hexE l) - 4 * (hexF l).length := rfl
  have hD : mkD (hexN l) (hexM l) (hexV l) = hexD l := rfl
  rw [hD] at kMk
  rw [hok] at hR kMk hf hnr hvle hele
  have l5 : (hexW l ++ hexF l).length ≤ 400 := l1
  rw [List.length_append] at l5
  clear hok hD h1 h2 h3 l1 l3
  generalize ((hexW l ++ hexF l).all hx && decide (hexW l ++ hexF l ≠ [])) = bo at *
  generalize numR (hexW l ++ hexF l) = nR at *
  generalize hexOk l = _ok at *
  generalize hexD l = d at *
  generalize hexV l = hV' at *
  generalize hexM l = hM' at *
  generalize expV (hexE l) = ev at *
  generalize expOk (hexE l) = be at *
  generalize hexX l = bx at *
  generalize hexH l = bh at *
  generalize hexPt l = bp at *
  generalize hexN l = bn at *
  generalize hexR1 l = r1 at *
  generalize hexR2 l = r2 at *
  generalize hexAll l = r3 at *
  generalize hexE l = r4 at *
  generalize hexW l = sw at *
  generalize hexF l = sf at *
  simp only [TX] at k1 k2 k3 k4 k5 k6 ⊢
  refine PC.of_body follows Tryz.func12 (by decide +kernel) rfl (by kernel_rfl) (Nat.le_of_ble_eq_true rfl) (walk ?_)
  simp only [Tryz.f12, B8_size, B8_cut, B8_eq, B8_mk, B8_app, Int.toNat_natCast, go_sem]
  refine qif_df (by omega) ?_
  simp only [Tryz.f12, B8_size, B8_cut, B8_eq, B8_mk, B8_app, Int.toNat_natCast, go_sem]
  refine qcall_i (k1) ?_; simp only [Tryz.f12, B8_size, B8_cut, B8_eq, B8_mk, B8_app, Int.toNat_natCast, go_sem]
  refine qcall_i (k2) ?_; simp only [Tryz.f12, B8_size, B8_cut, B8_eq, B8_mk, B8_app, Int.toNat_natCast, go_sem]
  refine qcall_i (k3) ?_; simp only [Tryz.f12, B8_size, B8_cut, B8_eq, B8_mk, B8_app, Int.toNat_natCast, go_sem]
  refine qcall_i (k4) ?_; simp only [Tryz.f12, B8_size, B8_cut, B8_eq, B8_mk, B8_app, Int.toNat_natCast, go_sem]
  refine qand_i (by simp [maxLen]; omega) ?_
  simp only [Tryz.f12, B8_size, B8_cut, B8_eq, B8_mk, B8_app, Int.toNat_natCast, go_sem]
  refine qcall_i (k5) ?_; simp only [Tryz.f12, B8_size, B8_cut, B8_eq, B8_mk, B8_app, Int.toNat_natCast, go_sem]
  refine qcall_i (k6) ?_; simp only [Tryz.f12, B8_size, B8_cut, B8_eq, B8_mk, B8_app, Int.toNat_natCast, go_sem]
  cases bx
  · rw [if_neg (by simp), zp] at hR
    simp only [Tryz.f12, B8_size, B8_cut, B8_eq, B8_mk, B8_app, Int.toNat_natCast, go_sem]
    rw [hR]
  simp only [Tryz.f12, B8_size, B8_cut, B8_eq, B8_mk, B8_app, Int.toNat_natCast, go_sem]
  cases bh
  · rw [if_neg (by simp), zp] at hR
    simp only [Tryz.f12, B8_size, B8_cut, B8_eq, B8_mk, B8_app, Int.toNat_natCast, go_sem]
    rw [hR]
  simp only [Tryz.f12, B8_size, B8_cut, B8_eq, B8_mk, B8_app, Int.toNat_natCast, go_sem]
  cases bo
  · rw [if_neg (by simp), zp] at hR
    simp only [Tryz.f12, B8_size, B8_cut, B8_eq, B8_mk, B8_app, Int.toNat_natCast, go_sem]
    rw [hR]
  simp only [Tryz.f12, B8_size, B8_cut, B8_eq, B8_mk, B8_app, Int.toNat_natCast, go_sem]
  cases be
  · rw [if_neg (by simp), zp] at hR
    simp only [Tryz.f12, B8_size, B8_cut, B8_eq, B8_mk, B8_app, Int.toNat_natCast, go_sem]
    rw [hR]
  simp only [Tryz.f12, B8_size, B8_cut, B8_eq, B8_mk, B8_app, Int.toNat_natCast, go_sem]
  by_cases h0 : sw = []
  · rw [if_neg (by simp [h0]), zp] at hR
    refine qif_dt h0 ?_
    simp only [Tryz.f12, B8_size, B8_cut, B8_eq, B8_mk, B8_app, Int.toNat_natCast, go_sem]
    rw [hR]
  refine qif_df h0 ?_
  simp only [Tryz.f12, B8_size, B8_cut, B8_eq, B8_mk, B8_app, Int.toNat_natCast, go_sem]
  cases bp
  · have hc := show (true && (true && (true && (true && (!decide (sw = []) && !(false && decide (sf = []))))))) = true by simp [h0]
    rw [if_pos hc] at hR
    have k7 := kMk hc
    have hfd := hf hc
    have hv1 := hvle hc
    have he1 := hele hc
    rw [hnr hc]
    unfold okD at k7
    rw [if_pos hfd] at k7
    have w1 : IntKind.wrap .i64 (4 * (sf.length : Int)) = 4 * (sf.length : Int) := wrap64 (by omega) (by omega)
    have w2 : IntKind.wrap .i64 (ev - 4 * (sf.length : Int)) = hV' := by rw [wrap64 (by omega) (by omega)]; omega
    simp only [Dy.pv, DP, NN, NL] at k7 hR ⊢
    simp only [Tryz.f12, B8_size, B8_cut, B8_eq, B8_mk, B8_app, Int.toNat_natCast, w1, w2, go_sem]
    refine qcall_i (k7) ?_; simp only [Tryz.f12, B8_size, B8_cut, B8_eq, B8_mk, B8_app, Int.toNat_natCast, go_sem]
    rw [hR]
  · simp only [Tryz.f12, B8_size, B8_cut, B8_eq, B8_mk, B8_app, Int.toNat_natCast, go_sem]
    by_cases h9 : sf = []
    · rw [if_neg (by simp [h9]), zp] at hR
      refine qif_dt h9 ?_
      simp only [Tryz.f12, B8_size, B8_cut, B8_eq, B8_mk, B8_app, Int.toNat_natCast, go_sem]
      rw [hR]
    refine qif_df h9 ?_
    have hc := show (true && (true && (true && (true && (!decide (sw = []) && !(true && decide (sf = []))))))) = true by simp [h0, h9]
    rw [if_pos hc] at hR
    have k7 := kMk hc
    have hfd := hf hc
    have hv1 := hvle hc
    have he1 := hele hc
    rw [hnr hc]
    unfold okD at k7
    rw [if_pos hfd] at k7
    have w1 : IntKind.wrap .i64 (4 * (sf.length : Int)) = 4 * (sf.length : Int) := wrap64 (by omega) (by omega)
    have w2 : IntKind.wrap .i64 (ev - 4 * (sf.length : Int)) = hV' := by rw [wrap64 (by omega) (by omega)]; omega
    simp only [Dy.pv, DP, NN, NL] at k7 hR ⊢
    simp only [Tryz.f12, B8_size, B8_cut, B8_eq, B8_mk, B8_app, Int.toNat_natCast, w1, w2, go_sem]
    refine qcall_i (k7) ?_; simp only [Tryz.f12, B8_size, B8_cut, B8_eq, B8_mk, B8_app, Int.toNat_natCast, go_sem]
    rw [hR]
end Go.Proofs.YtnccaoeeedhgbaaGreatDoor
