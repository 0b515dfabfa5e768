/- job.Parse. -/
import Derived.Test.YtmnojbkakgfinaaDoorJb7
open Go PG Go.Proofs Go.RowKit
set_option maxRecDepth 100000
set_option linter.unusedSimpArgs false
set_option linter.unusedVariables false
namespace Go.Proofs.YtmnojbkakgfinaaDoor
attribute [local go_sem] Lay2 Lay3 Lay4 Lay5 Lay6 Lay7 Lay8 Lay9 Lay10 Lay11 Lay12 Lay13 Lay14 Lay15 Lay16 Lay17 Lay18 Lay19 Lay21 Lay23 Lay24 Lay30 Lay31 Lay32 Lay33 Lay34 Lay36 Lay37 Lay49 Lay50 Lay51 Lay52 Lay59 Lay75 Lay77 Lay85 Lay87 Lay89 Lay96 Lay101 Lay112 Lay113 Lay118 Lay119 Lay120 Lay122 Lay123 Lay124 Lay125 Lay126 Lay127 Lay128 Lay129 Lay130 Lay132 Lay133 qexec_seq qexec_skip qexec_exit qexec_ret qexec_block qexec_loop qexec_range qexec_cond qexec_region qexec_drawn qops_nil qops_none qops_some put_some put_none pblk_exit pblk_other newDsts_nil inlDsts_nil isInl sget_cons sget_nil qval_some qbool_some qgs_bool qgs_und qfree_some qgrd_true qgrd_false qif_true qif_false qval_ite qval_itn qand_true map_ite map_some' map_none' qdo_move qdo_assign qdo_binOp qdo_pick qdo_unOp qdo_convert qdo_extract qdo_makeInterface qdo_field qdo_fieldAddr qdo_alloc qdo_box qdo_build qdo_buildSlice qdo_load qdo_store qdo_nilCheck qdo_makeFunc qdo_makeSlice qdo_slice qdo_indexAddr qdo_call qcont_val qcont_new qcont_st qcont_app0 qcont_app qcont_inl qcont_call njSV_val njSV_nil njSV_row njSV_ptr njSV_sub binV_val binV_nil binV_nn binV_ptr bin_np bin_nnp nilCmp bin_add bin_sub bin_mul bin_quo bin_rem bin_and bin_or bin_xor bin_andNot bin_eql bin_neq bin_lss bin_leq bin_gtr bin_geq bin_shl bin_shr bin_seql bin_sneq bin_sadd bin_beql bin_aeql bin_aneq eqAnd_some eqCells_nil eqCells_cons fieldTypes isStruct eqCell bin_bneq un_not un_neg nj_ite Nat.beq stepA stepR isNew opSV constSV RV.sv allSome E_mu E_own qkeyIn_none qkeyIn_some qkeyAt_none qkeyAt_some Bool.or_false Bool.false_or Bool.or_true Bool.true_or cst setB res resSV pstart startL killL kill1 eraL frzL svPV rvPV rvInt rvSlice rvBytes frzOf close closeL pconv pbuiltin pmax2 partPV setCells fillPV zrow bound newSV PV.cells Bk.cells Bk.with SV.key pres presL_nil presL_tmp presL_cell presC2_some cellPV_ptr presC List.toList_toArray List.size_toArray List.getElem?_drop Nat.mul_one Int.toNat_natCast Nat.not_lt_zero Nat.lt_irrefl decide_true decide_false Nat.not_lt Option.some.injEq PV.lst.injEq PV.int.injEq PV.bool.injEq PV.tuple.injEq List.cons.injEq Option.map_some Option.map_none Option.bind_some Option.toList List.map_cons List.map_nil List.nil_append List.cons_append List.append_nil List.zip_cons_cons List.zip_nil_left List.zip_nil_right List.getElem?_cons_zero List.getElem?_cons_succ List.drop_zero List.drop_succ_cons List.take_succ_cons List.take_zero List.set_cons_zero List.set_cons_succ List.length_cons List.length_nil List.length_set List.replicate_one List.replicate_zero bne_self_eq_false beq_self_eq_true Nat.zero_add Nat.add_zero Nat.zero_mul Bool.false_eq_true Bool.true_eq_false Bool.not_true Bool.not_false and_true true_and false_and and_false or_false false_or or_true true_or not_true_eq_false not_false_eq_true ne_eq gt_iff_lt List.mem_cons List.not_mem_nil
attribute [local go_sem ↓] pseq_normal pseq_ret pseq_exit pblk_normal pblk_ret newDsts_cons inlDsts_cons gdst_zero gdst_succ retQ_normal retQ_ret qneed_nil qneed_cons retM_normal retM_ret endR_normal endR_ret endR_exit
attribute [local go_sem] Int.reduceToNat Int.reduceEq Int.reduceNe Int.reduceLT Int.reduceLE Int.reduceNeg Int.reduceAdd Nat.reduceEqDiff Nat.reduceAdd Nat.reduceSub Nat.reduceMul Nat.reduceLeDiff Nat.reduceLT
attribute [local go_sem ↓] reduceIte reduceCtorEq

def Jb.cs (j : Jb) : List PV := [.int .i64 j.op, .int .u64 (j.x : Nat), .int .u64 (j.y : Nat), .int .i64 j.n, .int .i64 j.dir, .bool j.urg]
/-- The cells of a list of jobs. -/
def JC (l : List Jb) : List PV := l.flatMap Jb.cs
theorem JC_nil : JC [] = [] := rfl
theorem JC_snoc (l : List Jb) (j : Jb) : JC (l ++ [j]) = JC l ++ j.cs := by unfold JC; rw [List.flatMap_append]; simp
theorem JC_len (l : List Jb) : (JC l).length = l.length * 6 := by
  induction l with
  | nil => rfl
  | cons j l ih =>
    unfold JC at ih ⊢
    rw [List.flatMap_cons, List.length_append, ih, List.length_cons]
    have : j.cs.length = 6 := rfl
    omega
theorem cutB_lt (c : UInt8) {l : List UInt8} (h : l ≠ []) : (cutB c l).length < l.length := by
  unfold cutB
  rw [List.length_drop]
  have := (List.dropWhile_sublist (· != c) (l := l)).length_le
  have := List.length_pos_iff.2 h
  omega
/-- What is read, line by line. -/
def psF (acc : List Jb) (s : List UInt8) : List Jb × Nat × Int :=
  if h : s = [] then (acc, 0, 0)
  else if rdOk (cutA 10 s) = true ∧ hasC 10 s = true then psF (acc ++ [rdJ (cutA 10 s)]) (cutB 10 s) else ([], acc.length + 1, 4)
termination_by s.length
decreasing_by exact cutB_lt 10 h
def stP (p : List Jb × List UInt8) : ES := match p.1 with
  | [] => ⟨[(0, .val (TX p.2)), (5, .nil)], []⟩
  | _ => ⟨[(0, .val (TX p.2)), (5, .row 44)], [(44, (.row 34 6 p.1.length (JC p.1), false))]⟩
theorem stP_snoc (acc : List Jb) (j : Jb) (r : List UInt8) : stP (acc ++ [j], r) = ⟨[(0, .val (TX r)), (5, .row 44)], [(44, (.row 34 6 (acc.length + 1) (JC acc ++ j.cs), false))]⟩ := by
  rw [← JC_snoc]
  unfold stP
  cases acc with
  | nil => rfl
  | cons a l => simp
set_option maxHeartbeats 4000000 in
theorem j_Parse {s : List UInt8} (hs : s.length ≤ 4096) : PC E 7 [TX s] (.tuple [.lst (psF [] s).1.length (JC (psF [] s).1), .int .i64 ((psF [] s).2.1 : Nat), .int .i64 (psF [] s).2.2]) := by
  have k1 := s_Count1 s 10
  have hc : s.count 10 ≤ s.length := List.count_le_length
  have hmx : maxLen = 9223372036854775807 := rfl
  generalize s.count 10 = cn at *
  obtain ⟨R, hR⟩ : ∃ R, R = psF [] s := ⟨_, rfl⟩
  rw [← hR]
  simp only [TX] at k1 ⊢
  refine PC.of_body follows Tryd.func7 (by decide +kernel) rfl (by kernel_rfl) (Nat.le_of_ble_eq_true rfl) (walk ?_)
  simp only [Tryd.f7, B8_size, B8_cut, B8_eq, B8_mk, B8_app, Int.toNat_natCast, go_sem]
  refine qif_df (by omega) ?_
  simp only [Tryd.f7, B8_size, B8_cut, B8_eq, B8_mk, B8_app, Int.toNat_natCast, go_sem]
  refine qcall_i (k1) ?_; simp only [Tryd.f7, B8_size, B8_cut, B8_eq, B8_mk, B8_app, Int.toNat_natCast, go_sem]
  refine qif_df (by omega) ?_
  simp only [Tryd.f7, B8_size, B8_cut, B8_eq, B8_mk, B8_app, Int.toNat_natCast, go_sem]
  refine PLoop.intro stP (fun p => p.1.length + p.2.length ≤ s.length ∧ R = psF p.1 p.2) (fun p => p.2.length) ([], s) ⟨by simp, hR⟩ ?_ fun p hp => walk ?_
  · simp [stP, Wk, sget, killL, kill1, SV.key, TX]
  obtain ⟨acc, r⟩ := p
  obtain ⟨hp1, hp2⟩ := hp
  dsimp only at hp1 hp2
  have k2 := s_Cut r 10 (by omega)
  have k3 := j_read (s := cutA 10 r) (by have := cutA_len 10 r; omega)
  rw [psF] at hp2
  have hlt : ∀ h : r ≠ [], (cutB 10 r).length < r.length := fun h => cutB_lt 10 h
  have hwf := rdJ_wf (cutA 10 r)
  have hsn := JC_snoc acc (rdJ (cutA 10 r))
  have hjl := JC_len acc
  generalize rdOk (cutA 10 r) = ok at *
  generalize hasC 10 r = wh at *
  generalize rdJ (cutA 10 r) = j at *
  generalize cutA 10 r = one at *
  generalize cutB 10 r = rest at *
  simp only [TX] at k2 k3
  obtain ⟨jo, jx, jy, jn, jd, ju⟩ := j
  unfold Jb.pv at k3
  unfold Jb.cs at hsn
  dsimp only at k3 hsn
  cases hac : acc with
  | nil =>
    rw [hac] at hp1 hp2 hsn hjl
    rw [show stP ([], r) = ⟨[(0, .val (TX r)), (5, .nil)], []⟩ from rfl]
    simp only [Tryd.f7, B8_size, B8_cut, B8_eq, B8_mk, B8_app, Int.toNat_natCast, TX, go_sem]
    refine qif_d (fun h => ?_) (fun h => ?_)
    rotate_left
    · simp only [Tryd.f7, B8_size, B8_cut, B8_eq, B8_mk, B8_app, Int.toNat_natCast, TX, go_sem]
      rw [dif_pos (by simpa using h)] at hp2
      rw [hp2]
      exact ⟨⟨rfl, rfl⟩, rfl, rfl⟩
    simp only [Tryd.f7, B8_size, B8_cut, B8_eq, B8_mk, B8_app, Int.toNat_natCast, TX, go_sem]
    rw [dif_neg h] at hp2
    refine qcall_i (k2) ?_; simp only [Tryd.f7, B8_size, B8_cut, B8_eq, B8_mk, B8_app, Int.toNat_natCast, List.range_zero, List.getD_cons_zero, List.getD_cons_succ, Nat.reduceMod, go_sem]
    refine qcall_i (k3) ?_; simp only [Tryd.f7, B8_size, B8_cut, B8_eq, B8_mk, B8_app, Int.toNat_natCast, List.range_zero, List.getD_cons_zero, List.getD_cons_succ, Nat.reduceMod, go_sem]
    cases ok with
    | false =>
      rw [if_neg (by simp)] at hp2
      simp only [Tryd.f7, B8_size, B8_cut, B8_eq, B8_mk, B8_app, Int.toNat_natCast, List.range_zero, List.getD_cons_zero, List.getD_cons_succ, Nat.reduceMod, go_sem]
      rw [hp2]
      exact ⟨⟨rfl, rfl⟩, rfl, rfl⟩
    | true =>
      cases wh with
      | false =>
        rw [if_neg (by simp)] at hp2
        simp only [Tryd.f7, B8_size, B8_cut, B8_eq, B8_mk, B8_app, Int.toNat_natCast, List.range_zero, List.getD_cons_zero, List.getD_cons_succ, Nat.reduceMod, go_sem]
        rw [hp2]
        exact ⟨⟨rfl, rfl⟩, rfl, rfl⟩
      | true =>
        rw [if_pos (by simp)] at hp2
        simp only [Tryd.f7, B8_size, B8_cut, B8_eq, B8_mk, B8_app, Int.toNat_natCast, List.range_zero, List.getD_cons_zero, List.getD_cons_succ, Nat.reduceMod, go_sem]
        refine qand_i (by rw [hmx]; omega) ?_
        simp only [Tryd.f7, B8_size, B8_cut, B8_eq, B8_mk, B8_app, Int.toNat_natCast, List.range_zero, List.getD_cons_zero, List.getD_cons_succ, Nat.reduceMod, go_sem]
        refine ⟨([] ++ [⟨jo, jx, jy, jn, jd, ju⟩], rest), ⟨by have := hlt h; simp; omega, hp2⟩, hlt h, ?_⟩
        rw [stP_snoc]
        simp [Wk, sget, killL, kill1, SV.key, TX, JC, Jb.cs]
  | cons j0 acc0 =>
    rw [← hac]
    have hst : stP (acc, r) = ⟨[(0, .val (TX r)), (5, .row 44)], [(44, (.row 34 6 acc.length (JC acc), false))]⟩ := by unfold stP; rw [hac]
    rw [hst]
    simp only [Tryd.f7, B8_size, B8_cut, B8_eq, B8_mk, B8_app, Int.toNat_natCast, TX, go_sem]
    refine qif_d (fun h => ?_) (fun h => ?_)
    rotate_left
    · simp only [Tryd.f7, B8_size, B8_cut, B8_eq, B8_mk, B8_app, Int.toNat_natCast, TX, go_sem]
      rw [dif_pos (by simpa using h)] at hp2
      rw [hp2]
      exact ⟨⟨rfl, rfl⟩, rfl, rfl⟩
    simp only [Tryd.f7, B8_size, B8_cut, B8_eq, B8_mk, B8_app, Int.toNat_natCast, TX, go_sem]
    rw [dif_neg h] at hp2
    refine qcall_i (k2) ?_; simp only [Tryd.f7, B8_size, B8_cut, B8_eq, B8_mk, B8_app, Int.toNat_natCast, List.range_zero, List.getD_cons_zero, List.getD_cons_succ, Nat.reduceMod, go_sem]
    refine qcall_i (k3) ?_; simp only [Tryd.f7, B8_size, B8_cut, B8_eq, B8_mk, B8_app, Int.toNat_natCast, List.range_zero, List.getD_cons_zero, List.getD_cons_succ, Nat.reduceMod, go_sem]
    cases ok with
    | false =>
      rw [if_neg (by simp)] at hp2
      simp only [Tryd.f7, B8_size, B8_cut, B8_eq, B8_mk, B8_app, Int.toNat_natCast, List.range_zero, List.getD_cons_zero, List.getD_cons_succ, Nat.reduceMod, go_sem]
      rw [hp2, wrap64 (by omega) (by omega)]
      exact ⟨⟨rfl, rfl⟩, rfl, rfl⟩
    | true =>
      cases wh with
      | false =>
        rw [if_neg (by simp)] at hp2
        simp only [Tryd.f7, B8_size, B8_cut, B8_eq, B8_mk, B8_app, Int.toNat_natCast, List.range_zero, List.getD_cons_zero, List.getD_cons_succ, Nat.reduceMod, go_sem]
        rw [hp2, wrap64 (by omega) (by omega)]
        exact ⟨⟨rfl, rfl⟩, rfl, rfl⟩
      | true =>
        rw [if_pos (by simp)] at hp2
        simp only [Tryd.f7, B8_size, B8_cut, B8_eq, B8_mk, B8_app, Int.toNat_natCast, List.range_zero, List.getD_cons_zero, List.getD_cons_succ, Nat.reduceMod, go_sem]
        refine qand_i (by rw [hmx]; omega) ?_
        simp only [Tryd.f7, B8_size, B8_cut, B8_eq, B8_mk, B8_app, Int.toNat_natCast, List.range_zero, List.getD_cons_zero, List.getD_cons_succ, Nat.reduceMod, go_sem]
        refine ⟨(acc ++ [⟨jo, jx, jy, jn, jd, ju⟩], rest), ⟨by have := hlt h; simp; omega, hp2⟩, hlt h, ?_⟩
        rw [stP_snoc]
        simp [Wk, sget, killL, kill1, SV.key, TX, Jb.cs]
end Go.Proofs.YtmnojbkakgfinaaDoor
