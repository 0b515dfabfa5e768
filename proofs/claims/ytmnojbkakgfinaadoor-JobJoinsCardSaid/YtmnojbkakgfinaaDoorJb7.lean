/- job.read. -/
import Derived.Test.YtmnojbkakgfinaaDoorJb6
import Derived.Test.YtmnojbkakgfinaaDoorJbI
open Go PG Go.Proofs Go.RowKit
set_option maxRecDepth 100000
set_option linter.unusedSimpArgs false
set_option linter.unusedVariables false
namespace Go.Proofs.YtmnojbkakgfinaaDoor
attribute [local go_sem] Lay2 Lay3 Lay4 Lay5 Lay6 Lay7 Lay8 Lay9 Lay10 Lay11 Lay12 Lay13 Lay14 Lay15 Lay16 Lay17 Lay18 Lay19 Lay21 Lay23 Lay24 Lay30 Lay31 Lay32 Lay33 Lay34 Lay36 Lay37 Lay49 Lay50 Lay51 Lay52 Lay59 Lay75 Lay77 Lay85 Lay87 Lay89 Lay96 Lay101 Lay112 Lay113 Lay118 Lay119 Lay120 Lay122 Lay123 Lay124 Lay125 Lay126 Lay127 Lay128 Lay129 Lay130 Lay132 Lay133 qexec_seq qexec_skip qexec_exit qexec_ret qexec_block qexec_loop qexec_range qexec_cond qexec_region qexec_drawn qops_nil qops_none qops_some put_some put_none pblk_exit pblk_other newDsts_nil inlDsts_nil isInl sget_cons sget_nil qval_some qbool_some qgs_bool qgs_und qfree_some qgrd_true qgrd_false qif_true qif_false qval_ite qval_itn qand_true map_ite map_some' map_none' qdo_move qdo_assign qdo_binOp qdo_pick qdo_unOp qdo_convert qdo_extract qdo_makeInterface qdo_field qdo_fieldAddr qdo_alloc qdo_box qdo_build qdo_buildSlice qdo_load qdo_store qdo_nilCheck qdo_makeFunc qdo_makeSlice qdo_slice qdo_indexAddr qdo_call qcont_val qcont_new qcont_st qcont_app0 qcont_app qcont_inl qcont_call njSV_val njSV_nil njSV_row njSV_ptr njSV_sub binV_val binV_nil binV_nn binV_ptr bin_np bin_nnp nilCmp bin_add bin_sub bin_mul bin_quo bin_rem bin_and bin_or bin_xor bin_andNot bin_eql bin_neq bin_lss bin_leq bin_gtr bin_geq bin_shl bin_shr bin_seql bin_sneq bin_sadd bin_beql bin_aeql bin_aneq eqAnd_some eqCells_nil eqCells_cons fieldTypes isStruct eqCell bin_bneq un_not un_neg nj_ite Nat.beq stepA stepR isNew opSV constSV RV.sv allSome E_mu E_own qkeyIn_none qkeyIn_some qkeyAt_none qkeyAt_some Bool.or_false Bool.false_or Bool.or_true Bool.true_or cst setB res resSV pstart startL killL kill1 eraL frzL svPV rvPV rvInt rvSlice rvBytes frzOf close closeL pconv pbuiltin pmax2 partPV setCells fillPV zrow bound newSV PV.cells Bk.cells Bk.with SV.key pres presL_nil presL_tmp presL_cell presC2_some cellPV_ptr presC List.toList_toArray List.size_toArray List.getElem?_drop Nat.mul_one Int.toNat_natCast Nat.not_lt_zero Nat.lt_irrefl decide_true decide_false Nat.not_lt Option.some.injEq PV.lst.injEq PV.int.injEq PV.bool.injEq PV.tuple.injEq List.cons.injEq Option.map_some Option.map_none Option.bind_some Option.toList List.map_cons List.map_nil List.nil_append List.cons_append List.append_nil List.zip_cons_cons List.zip_nil_left List.zip_nil_right List.getElem?_cons_zero List.getElem?_cons_succ List.drop_zero List.drop_succ_cons List.take_succ_cons List.take_zero List.set_cons_zero List.set_cons_succ List.length_cons List.length_nil List.length_set List.replicate_one List.replicate_zero bne_self_eq_false beq_self_eq_true Nat.zero_add Nat.add_zero Nat.zero_mul Bool.false_eq_true Bool.true_eq_false Bool.not_true Bool.not_false and_true true_and false_and and_false or_false false_or or_true true_or not_true_eq_false not_false_eq_true ne_eq gt_iff_lt List.mem_cons List.not_mem_nil
attribute [local go_sem ↓] pseq_normal pseq_ret pseq_exit pblk_normal pblk_ret newDsts_cons inlDsts_cons gdst_zero gdst_succ retQ_normal retQ_ret qneed_nil qneed_cons retM_normal retM_ret endR_normal endR_ret endR_exit
attribute [local go_sem] Int.reduceToNat Int.reduceEq Int.reduceNe Int.reduceLT Int.reduceLE Int.reduceNeg Int.reduceAdd Nat.reduceEqDiff Nat.reduceAdd Nat.reduceSub Nat.reduceMul Nat.reduceLeDiff Nat.reduceLT
attribute [local go_sem ↓] reduceIte reduceCtorEq

def nmL : List (List UInt8) := [[112, 111, 119], [112, 111, 119, 110], [114, 111, 111, 116, 110], [99, 111, 109, 112, 111, 117, 110, 100]]
def wyL : List (List UInt8) := [[110, 101, 97, 114], [122, 101, 114, 111], [117, 112], [100, 111, 119, 110]]
/-- What stands behind the mark. -/
def rd0 (s : List UInt8) : List UInt8 := if hasP s [33, 32] = true then s.drop 2 else s
def rdX (s : List UInt8) : List UInt8 := cutB 32 (rd0 s)
def rdY (s : List UInt8) : List UInt8 := cutB 32 (rdX s)
/-- The job that a line's parts spell, right or not. -/
def rdJ (s : List UInt8) : Jb := ⟨posL nmL (cutA 32 (rd0 s)), (puX (cutA 32 (rdX s))).1, if posL nmL (cutA 32 (rd0 s)) = 0 then (puX (cutA 32 (rdY s))).1 else 0,
  if posL nmL (cutA 32 (rd0 s)) = 0 then 0 else piV (cutA 32 (rdY s)), posL wyL (cutB 32 (rdY s)), hasP s [33, 32]⟩
def rdOk (s : List UInt8) : Bool := (rdJ s).ok && decide ((rdJ s).line = s ++ [10])
theorem posL_rng (L : List (List UInt8)) (x : List UInt8) : -1 ≤ posL L x ∧ posL L x < L.length ∨ posL L x = -1 := by
  unfold posL; split <;> omega
theorem rdJ_wf (s : List UInt8) : (rdJ s).wf := by
  have h1 := posL_rng nmL (cutA 32 (rd0 s))
  have h2 := posL_rng wyL (cutB 32 (rdY s))
  have e1 : nmL.length = 4 := rfl
  have e2 : wyL.length = 4 := rfl
  have h3 := piV_rng (cutA 32 (rdY s))
  have hW : 0 < W := by decide
  unfold rdJ
  refine ⟨?_, ?_, puX_lt _, ?_, ?_, ?_, ?_, ?_⟩ <;> dsimp only
  · omega
  · omega
  · split
    · exact puX_lt _
    · exact hW
  · split <;> omega
  · split <;> omega
  · omega
  · omega
theorem cutB_len (c : UInt8) (l : List UInt8) : (cutB c l).length ≤ l.length := by
  unfold cutB
  rw [List.length_drop]
  have := (List.dropWhile_sublist (· != c) (l := l)).length_le
  omega
theorem cutA_len (c : UInt8) (l : List UInt8) : (cutA c l).length ≤ l.length := (List.takeWhile_sublist _).length_le
set_option maxHeartbeats 4000000 in
theorem j_read {s : List UInt8} (hs : s.length ≤ 90000) : PC E 16 [TX s] (.tuple [(rdJ s).pv, .bool (rdOk s)]) := by
  have h0 : (rd0 s).length ≤ s.length := by unfold rd0; split <;> simp
  have h1 : (rdX s).length ≤ (rd0 s).length := cutB_len _ _
  have h2 : (rdY s).length ≤ (rdX s).length := cutB_len _ _
  have h3 := cutA_len 32 (rdX s)
  have h4 := cutA_len 32 (rdY s)
  have k1 := s_CutPrefix s [33, 32]
  have k2 := s_Cut (rd0 s) 32 (by omega)
  have k3 := s_Cut (rdX s) 32 (by omega)
  have k4 := s_Cut (rdY s) 32 (by omega)
  have k5 := j_names
  have k6 := j_ways
  have k7 := s_IndexS (L := nmL) (by decide) (cutA 32 (rd0 s)) (by decide)
  have k8 := s_IndexS (L := wyL) (by decide) (cutB 32 (rdY s)) (by decide)
  have k9 := s_ParseUint (l := cutA 32 (rdX s)) (by omega)
  have k10 := s_ParseUint (l := cutA 32 (rdY s)) (by omega)
  have k11 := s_ParseInt (l := cutA 32 (rdY s)) (by omega)
  have k12 := j_Check (rdJ s)
  have k13 := fun (h : (rdJ s).ok = true) => j_line (rdJ_wf s) h
  have hok : rdOk s = ((rdJ s).ok && decide ((rdJ s).line = s ++ [10])) := rfl
  have hJ : rdJ s = ⟨posL nmL (cutA 32 (rd0 s)), (puX (cutA 32 (rdX s))).1, if posL nmL (cutA 32 (rd0 s)) = 0 then (puX (cutA 32 (rdY s))).1 else 0,
    if posL nmL (cutA 32 (rd0 s)) = 0 then 0 else piV (cutA 32 (rdY s)), posL wyL (cutB 32 (rdY s)), hasP s [33, 32]⟩ := rfl
  have e1 : (if hasP s [33, 32] = true then s.drop ([33, 32] : List UInt8).length else s) = rd0 s := rfl
  have e2 : cutB 32 (rd0 s) = rdX s := rfl
  have e3 : cutB 32 (rdX s) = rdY s := rfl
  rw [e1] at k1
  rw [e2] at k2
  rw [e3] at k3
  have hmx : maxLen = 9223372036854775807 := rfl
  generalize rdOk s = OK at *
  generalize rdJ s = J at *
  generalize (puX (cutA 32 (rdX s))).1 = X at *
  generalize (puX (cutA 32 (rdY s))).1 = Y at *
  generalize piV (cutA 32 (rdY s)) = Z at *
  generalize puE (puX (cutA 32 (rdX s))).2 = Xe at *
  generalize puE (puX (cutA 32 (rdY s))).2 = Ye at *
  generalize posL nmL (cutA 32 (rd0 s)) = O at *
  generalize posL wyL (cutB 32 (rdY s)) = D at *
  generalize hasP s [33, 32] = U at *
  generalize J.ok = C at *
  generalize J.line = L at *
  clear e1 e2 e3 h0 h1 h2 h3 h4
  generalize cutA 32 (rd0 s) = a1 at *
  generalize cutA 32 (rdX s) = a2 at *
  generalize cutA 32 (rdY s) = a3 at *
  generalize cutB 32 (rdY s) = a4 at *
  generalize hasC 32 (rd0 s) = q1 at *
  generalize hasC 32 (rdX s) = q2 at *
  generalize hasC 32 (rdY s) = q3 at *
  generalize rd0 s = b1 at *
  generalize rdX s = b2 at *
  generalize rdY s = b3 at *
  simp only [TX, u, nmL, wyL, List.map_cons, List.map_nil, List.length_cons, List.length_nil] at *
  refine PC.of_body follows Tryd.func16 (by decide +kernel) rfl (by kernel_rfl) (Nat.le_of_ble_eq_true rfl) (walk ?_)
  simp only [Tryd.f16, B8_size, B8_cut, B8_eq, B8_mk, B8_app, Int.toNat_natCast, List.range_zero, List.getD_cons_zero, List.getD_cons_succ, Nat.reduceMod, go_sem]
  refine qcall_i (k1) ?_; simp only [Tryd.f16, B8_size, B8_cut, B8_eq, B8_mk, B8_app, Int.toNat_natCast, List.range_zero, List.getD_cons_zero, List.getD_cons_succ, Nat.reduceMod, go_sem]
  refine qcall_i (k2) ?_; simp only [Tryd.f16, B8_size, B8_cut, B8_eq, B8_mk, B8_app, Int.toNat_natCast, List.range_zero, List.getD_cons_zero, List.getD_cons_succ, Nat.reduceMod, go_sem]
  refine qcall_i (k3) ?_; simp only [Tryd.f16, B8_size, B8_cut, B8_eq, B8_mk, B8_app, Int.toNat_natCast, List.range_zero, List.getD_cons_zero, List.getD_cons_succ, Nat.reduceMod, go_sem]
  refine qcall_i (k4) ?_; simp only [Tryd.f16, B8_size, B8_cut, B8_eq, B8_mk, B8_app, Int.toNat_natCast, List.range_zero, List.getD_cons_zero, List.getD_cons_succ, Nat.reduceMod, go_sem]
  simp only [Nat.zero_add, Nat.reduceAdd] at k7 k8
  refine qcall_i (k5) ?_; simp only [Tryd.f16, B8_size, B8_cut, B8_eq, B8_mk, B8_app, Int.toNat_natCast, List.range_zero, List.getD_cons_zero, List.getD_cons_succ, Nat.reduceMod, go_sem]
  refine qcall_i (k7) ?_; simp only [Tryd.f16, B8_size, B8_cut, B8_eq, B8_mk, B8_app, Int.toNat_natCast, List.range_zero, List.getD_cons_zero, List.getD_cons_succ, Nat.reduceMod, go_sem]
  refine qcall_i (k6) ?_; simp only [Tryd.f16, B8_size, B8_cut, B8_eq, B8_mk, B8_app, Int.toNat_natCast, List.range_zero, List.getD_cons_zero, List.getD_cons_succ, Nat.reduceMod, go_sem]
  refine qcall_i (k8) ?_; simp only [Tryd.f16, B8_size, B8_cut, B8_eq, B8_mk, B8_app, Int.toNat_natCast, List.range_zero, List.getD_cons_zero, List.getD_cons_succ, Nat.reduceMod, go_sem]
  refine qcall_i (k9) ?_; simp only [Tryd.f16, B8_size, B8_cut, B8_eq, B8_mk, B8_app, Int.toNat_natCast, List.range_zero, List.getD_cons_zero, List.getD_cons_succ, Nat.reduceMod, go_sem]
  refine qif_d (fun h => ?_) (fun h => ?_)
  all_goals
    first
      | (rw [if_pos h, if_pos h] at hJ
         rw [hJ] at k12 k13 ⊢
         unfold Jb.pv at k12 k13 ⊢
         dsimp only at k12 k13 ⊢
         simp only [Tryd.f16, B8_size, B8_cut, B8_eq, B8_mk, B8_app, Int.toNat_natCast, List.range_zero, List.getD_cons_zero, List.getD_cons_succ, Nat.reduceMod, go_sem]
         refine qcall_i (k10) ?_; simp only [Tryd.f16, B8_size, B8_cut, B8_eq, B8_mk, B8_app, Int.toNat_natCast, List.range_zero, List.getD_cons_zero, List.getD_cons_succ, Nat.reduceMod, go_sem])
      | (rw [if_neg h, if_neg h] at hJ
         rw [hJ] at k12 k13 ⊢
         unfold Jb.pv at k12 k13 ⊢
         dsimp only at k12 k13 ⊢
         simp only [Tryd.f16, B8_size, B8_cut, B8_eq, B8_mk, B8_app, Int.toNat_natCast, List.range_zero, List.getD_cons_zero, List.getD_cons_succ, Nat.reduceMod, go_sem]
         refine qcall_i (k11) ?_; simp only [Tryd.f16, B8_size, B8_cut, B8_eq, B8_mk, B8_app, Int.toNat_natCast, List.range_zero, List.getD_cons_zero, List.getD_cons_succ, Nat.reduceMod, go_sem])
    cases C with
    | false =>
      rw [if_neg (by decide)] at k12
      refine qcall_i k12 ?_
      simp only [Tryd.f16, B8_size, B8_cut, B8_eq, B8_mk, B8_app, Int.toNat_natCast, List.range_zero, List.getD_cons_zero, List.getD_cons_succ, Nat.reduceMod, go_sem]
      rw [hok]
      all_goals first | exact ⟨rfl, rfl⟩ | rfl
    | true =>
      rw [if_pos rfl] at k12
      have k13 := k13 rfl
      refine qcall_i k12 ?_
      simp only [Tryd.f16, B8_size, B8_cut, B8_eq, B8_mk, B8_app, Int.toNat_natCast, List.range_zero, List.getD_cons_zero, List.getD_cons_succ, Nat.reduceMod, go_sem]
      refine qcall_i k13 ?_
      simp only [Tryd.f16, B8_size, B8_cut, B8_eq, B8_mk, B8_app, Int.toNat_natCast, List.range_zero, List.getD_cons_zero, List.getD_cons_succ, Nat.reduceMod, go_sem]
      refine qand_i (by rw [hmx]; omega) ?_
      simp only [Tryd.f16, B8_size, B8_cut, B8_eq, B8_mk, B8_app, Int.toNat_natCast, List.range_zero, List.getD_cons_zero, List.getD_cons_succ, Nat.reduceMod, go_sem]
      rw [hok, Bool.true_and]
      all_goals first | exact ⟨rfl, rfl⟩ | rfl
end Go.Proofs.YtmnojbkakgfinaaDoor
