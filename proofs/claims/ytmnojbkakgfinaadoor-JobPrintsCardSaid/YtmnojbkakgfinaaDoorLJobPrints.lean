/- The contract of the law JobPrints: at whatever reads as its argument it returns true. -/
import Derived.Test.YtmnojbkakgfinaaDoorJc
import Derived.Test.YtmnojbkakgfinaaDoorJe
import Derived.Test.YtmnojbkakgfinaaDoorJb2
import Derived.Test.YtmnojbkakgfinaaDoorJb9
import Derived.Test.YtmnojbkakgfinaaDoorArgJ
open Go PG Go.Proofs
set_option maxRecDepth 100000
set_option linter.unusedSimpArgs false
set_option linter.unusedVariables false
namespace Go.Proofs.YtmnojbkakgfinaaDoor
attribute [local go_sem] Lay2 Lay3 Lay4 Lay5 Lay6 Lay7 Lay8 Lay9 Lay10 Lay11 Lay12 Lay13 Lay14 Lay15 Lay16 Lay17 Lay18 Lay19 Lay21 Lay23 Lay24 Lay30 Lay31 Lay32 Lay33 Lay34 Lay36 Lay37 Lay49 Lay50 Lay51 Lay52 Lay59 Lay75 Lay77 Lay85 Lay87 Lay89 Lay96 Lay101 Lay112 Lay113 Lay118 Lay119 Lay120 Lay122 Lay123 Lay124 Lay125 Lay126 Lay127 Lay128 Lay129 Lay130 Lay132 Lay133 qexec_seq qexec_skip qexec_exit qexec_ret qexec_block qexec_loop qexec_range qexec_cond qexec_region qexec_drawn qops_nil qops_none qops_some put_some put_none pblk_exit pblk_other newDsts_nil inlDsts_nil isInl sget_cons sget_nil qval_some qbool_some qgs_bool qgs_und qfree_some qgrd_true qgrd_false qif_true qif_false qval_ite qval_itn qand_true map_ite map_some' map_none' qdo_move qdo_assign qdo_binOp qdo_pick qdo_unOp qdo_convert qdo_extract qdo_makeInterface qdo_field qdo_fieldAddr qdo_alloc qdo_box qdo_build qdo_buildSlice qdo_load qdo_store qdo_nilCheck qdo_makeFunc qdo_makeSlice qdo_slice qdo_indexAddr qdo_call qcont_val qcont_new qcont_st qcont_app0 qcont_app qcont_inl qcont_call njSV_val njSV_nil njSV_row njSV_ptr njSV_sub binV_val binV_nil binV_nn binV_ptr bin_np bin_nnp nilCmp bin_add bin_sub bin_mul bin_quo bin_rem bin_and bin_or bin_xor bin_andNot bin_eql bin_neq bin_lss bin_leq bin_gtr bin_geq bin_shl bin_shr bin_seql bin_sneq bin_sadd bin_beql bin_aeql bin_aneq eqAnd_some eqCells_nil eqCells_cons fieldTypes isStruct eqCell bin_bneq un_not un_neg nj_ite Nat.beq stepA stepR isNew opSV constSV RV.sv allSome E_mu E_own qkeyIn_none qkeyIn_some qkeyAt_none qkeyAt_some Bool.or_false Bool.false_or Bool.or_true Bool.true_or cst setB res resSV pstart startL killL kill1 eraL frzL svPV rvPV rvInt rvSlice rvBytes frzOf close closeL pconv pbuiltin pmax2 partPV setCells fillPV zrow bound newSV PV.cells Bk.cells Bk.with SV.key pres presL_nil presL_tmp presL_cell presC2_some cellPV_ptr presC List.toList_toArray List.size_toArray List.getElem?_drop Nat.mul_one Int.toNat_natCast Nat.not_lt_zero Nat.lt_irrefl decide_true decide_false Nat.not_lt Option.some.injEq PV.lst.injEq PV.int.injEq PV.bool.injEq PV.tuple.injEq List.cons.injEq Option.map_some Option.map_none Option.bind_some Option.toList List.map_cons List.map_nil List.nil_append List.cons_append List.append_nil List.zip_cons_cons List.zip_nil_left List.zip_nil_right List.getElem?_cons_zero List.getElem?_cons_succ List.drop_zero List.drop_succ_cons List.take_succ_cons List.take_zero List.set_cons_zero List.set_cons_succ List.length_cons List.length_nil List.length_set List.replicate_one List.replicate_zero bne_self_eq_false beq_self_eq_true Nat.zero_add Nat.add_zero Nat.zero_mul Bool.false_eq_true Bool.true_eq_false Bool.not_true Bool.not_false and_true true_and false_and and_false or_false false_or or_true true_or not_true_eq_false not_false_eq_true ne_eq gt_iff_lt List.mem_cons List.not_mem_nil
attribute [local go_sem ↓] pseq_normal pseq_ret pseq_exit pblk_normal pblk_ret newDsts_cons inlDsts_cons gdst_zero gdst_succ retQ_normal retQ_ret qneed_nil qneed_cons retM_normal retM_ret endR_normal endR_ret endR_exit
attribute [local go_sem] Int.reduceToNat Int.reduceEq Int.reduceNe Int.reduceLT Int.reduceLE Int.reduceNeg Int.reduceAdd Nat.reduceEqDiff Nat.reduceAdd Nat.reduceSub Nat.reduceMul Nat.reduceLeDiff Nat.reduceLT
attribute [local go_sem ↓] reduceIte reduceCtorEq

def stQ (L : List Jb) (p : Nat × List UInt8) : ES := match p.1 with
  | 0 => ⟨[(0, .val (.lst L.length (JC L))), (3, .nil), (4, .val (.str (B8 p.2))), (5, .val (.bool true)), (6, .val (.int .i64 0))], []⟩
  | _ => ⟨[(0, .val (.lst L.length (JC L))), (3, .row 33), (4, .val (.str (B8 p.2))), (5, .val (.bool ((L.take p.1).all Jb.ok))), (6, .val (.int .i64 (p.1 : Nat)))], [(33, (.row 34 6 p.1 (JC (L.take p.1)), false))]⟩
set_option maxHeartbeats 4000000 in
theorem law_JobPrints (pvs : List PV) (h : Fits [qJobs] pvs) : PC E 4 pvs (.bool true) := by
  obtain ⟨_, rfl, ⟨L, rfl, hwf⟩⟩ := fitsO1 h
  have k0 := l_25alive
  have hmx : maxLen = 9223372036854775807 := rfl
  have hJL := JC_len L
  by_cases h6 : 60 < L.length
  · refine PC.of_body follows Tryd.func4 (by decide +kernel) rfl (by kernel_rfl) (Nat.le_of_ble_eq_true rfl) (walk ?_)
    simp only [Tryd.f4, B8_size, B8_cut, B8_eq, B8_mk, B8_app, Int.toNat_natCast, go_sem]
    refine qcall_i (k0) ?_; simp only [Tryd.f4, B8_size, B8_cut, B8_eq, B8_mk, B8_app, Int.toNat_natCast, go_sem]
    refine qif_dt (by omega) ?_
    simp only [Tryd.f4, B8_size, B8_cut, B8_eq, B8_mk, B8_app, Int.toNat_natCast, go_sem]
    try rfl
  refine PC.of_body follows Tryd.func4 (by decide +kernel) rfl (by kernel_rfl) (Nat.le_of_ble_eq_true rfl) (walk ?_)
  simp only [Tryd.f4, B8_size, B8_cut, B8_eq, B8_mk, B8_app, Int.toNat_natCast, go_sem]
  refine qcall_i (k0) ?_; simp only [Tryd.f4, B8_size, B8_cut, B8_eq, B8_mk, B8_app, Int.toNat_natCast, go_sem]
  refine qif_df (by omega) ?_
  simp only [Tryd.f4, B8_size, B8_cut, B8_eq, B8_mk, B8_app, Int.toNat_natCast, go_sem]
  refine PLoop.intro (stQ L) (fun p => p.1 ≤ L.length ∧ p.2.length ≤ 60 * p.1 ∧ ((L.take p.1).all Jb.ok = true → p.2 = (L.take p.1).flatMap Jb.line)) (fun p => L.length - p.1) (0, []) ⟨Nat.zero_le _, by simp, by simp⟩ ?_ fun p hp => walk ?_
  · simp [stQ, Wk, sget, killL, kill1, SV.key]
  obtain ⟨i, t⟩ := p
  obtain ⟨hi, ht, hft⟩ := hp
  dsimp only at hi ht hft
  by_cases hlt : i < L.length
  · obtain ⟨j, hj⟩ : ∃ j, L[i]? = some j := ⟨L[i], List.getElem?_eq_getElem hlt⟩
    have hjw := hwf j (List.mem_of_getElem? hj)
    have a1 := JC_at hj
    have a2 := JC_take hj
    have k1 := l_25Of j
    have k2 := c_25Right j
    have k3 := j_Check j
    have k4 := fun h => c_25Line hjw h
    have k5 := j_Bare j
    have e : ∀ j : Jb, j.pv = .agg j.cs := fun _ => rfl
    have e2 : ∀ i : Nat, i * 6 = i * 6 + 0 := fun _ => rfl
    rw [e] at k1 k2 k3 k5
    rw [e] at k5
    simp only [e] at k4
    obtain ⟨jo, jx, jy, jn, jd, ju⟩ := j
    generalize hok : ({ op := jo, x := jx, y := jy, n := jn, dir := jd, urg := ju } : Jb).ok = ok at *
    generalize hln : ({ op := jo, x := jx, y := jy, n := jn, dir := jd, urg := ju } : Jb).line = ln at *
    unfold Jb.cs at a1 a2 k1 k2 k3 k4 k5
    dsimp only at a1 a2 k1 k2 k3 k4 k5
    cases i with
    | zero =>
      rw [show stQ L (0, t) = ⟨[(0, .val (.lst L.length (JC L))), (3, .nil), (4, .val (.str (B8 t))), (5, .val (.bool true)), (6, .val (.int .i64 0))], []⟩ from rfl]
      simp only [Tryd.f4, B8_size, B8_cut, B8_eq, B8_mk, B8_app, Int.toNat_natCast, List.range_zero, List.getD_cons_zero, List.getD_cons_succ, Nat.reduceMod, go_sem]
      refine qif_dt (by omega) ?_
      simp only [Tryd.f4, B8_size, B8_cut, B8_eq, B8_mk, B8_app, Int.toNat_natCast, List.range_zero, List.getD_cons_zero, List.getD_cons_succ, Nat.reduceMod, go_sem]
      have a1' : (JC L).take 6 = [PV.int .i64 jo, .int .u64 (jx : Nat), .int .u64 (jy : Nat), .int .i64 jn, .int .i64 jd, .bool ju] := a1
      have a2' : JC (L.take 1) = [PV.int .i64 jo, .int .u64 (jx : Nat), .int .u64 (jy : Nat), .int .i64 jn, .int .i64 jd, .bool ju] := a2
      have hall : (L.take 1).all Jb.ok = ok := by
        rw [show (1 : Nat) = 0 + 1 from rfl, List.take_add_one, hj, ← hok]
        simp
      have hfl : (L.take 1).flatMap Jb.line = ln := by
        rw [show (1 : Nat) = 0 + 1 from rfl, List.take_add_one, hj, ← hln]
        simp
      have hlnl := line_len hjw
      rw [hln] at hlnl
      have ht0 : t = [] := hft rfl
      subst ht0
      have w1 : IntKind.wrap .i64 (0 + 1) = ((1 : Nat) : Int) := by decide
      have w1' : IntKind.wrap .i64 1 = ((1 : Nat) : Int) := by decide
      cases ok
      all_goals
        first | rw [if_neg (by decide)] at k3 | rw [if_pos rfl] at k3
        repeat' first
          | ((with_reducible refine qcall_i k1 ?_); simp only [Tryd.f4, B8_size, B8_cut, B8_eq, B8_mk, B8_app, Int.toNat_natCast, List.range_zero, List.getD_cons_zero, List.getD_cons_succ, Nat.reduceMod, a1', TX, w1, w1', go_sem])
          | ((with_reducible refine qcall_i k2 ?_); simp only [Tryd.f4, B8_size, B8_cut, B8_eq, B8_mk, B8_app, Int.toNat_natCast, List.range_zero, List.getD_cons_zero, List.getD_cons_succ, Nat.reduceMod, a1', TX, w1, w1', go_sem])
          | ((with_reducible refine qcall_i k3 ?_); simp only [Tryd.f4, B8_size, B8_cut, B8_eq, B8_mk, B8_app, Int.toNat_natCast, List.range_zero, List.getD_cons_zero, List.getD_cons_succ, Nat.reduceMod, a1', TX, w1, w1', go_sem])
          | ((with_reducible refine qcall_i k5 ?_); simp only [Tryd.f4, B8_size, B8_cut, B8_eq, B8_mk, B8_app, Int.toNat_natCast, List.range_zero, List.getD_cons_zero, List.getD_cons_succ, Nat.reduceMod, a1', TX, w1, w1', go_sem])
          | ((refine qcall_i (k4 rfl) ?_); simp only [Tryd.f4, B8_size, B8_cut, B8_eq, B8_mk, B8_app, Int.toNat_natCast, List.range_zero, List.getD_cons_zero, List.getD_cons_succ, Nat.reduceMod, a1', TX, w1, w1', go_sem])
          | ((refine qand_i (by first | omega | (rw [hmx]; omega) | (rw [hJL]; omega) | (rw [List.length_drop, hJL]; omega) | (simp; done) | (simp; omega)) ?_); simp only [Tryd.f4, B8_size, B8_cut, B8_eq, B8_mk, B8_app, Int.toNat_natCast, List.range_zero, List.getD_cons_zero, List.getD_cons_succ, Nat.reduceMod, a1', TX, w1, w1', go_sem])
      · refine ⟨(1, []), ⟨hlt, by simp, fun h => by dsimp only at h; rw [hall] at h; cases h⟩, by dsimp only; omega, ?_⟩
        rw [show stQ L (1, []) = ⟨[(0, .val (.lst L.length (JC L))), (3, .row 33), (4, .val (.str (B8 []))), (5, .val (.bool ((L.take 1).all Jb.ok))), (6, .val (.int .i64 ((1 : Nat) : Int)))], [(33, (.row 34 6 1 (JC (L.take 1)), false))]⟩ from rfl, a2', hall]
        simp [Wk, sget, killL, kill1, SV.key]
      · refine ⟨(1, ln), ⟨hlt, by dsimp only; omega, fun _ => by dsimp only; rw [hfl]⟩, by dsimp only; omega, ?_⟩
        rw [show stQ L (1, ln) = ⟨[(0, .val (.lst L.length (JC L))), (3, .row 33), (4, .val (.str (B8 ln))), (5, .val (.bool ((L.take 1).all Jb.ok))), (6, .val (.int .i64 ((1 : Nat) : Int)))], [(33, (.row 34 6 1 (JC (L.take 1)), false))]⟩ from rfl, a2', hall]
        simp [Wk, sget, killL, kill1, SV.key]
    | succ i =>
      rw [show stQ L (i + 1, t) = ⟨[(0, .val (.lst L.length (JC L))), (3, .row 33), (4, .val (.str (B8 t))), (5, .val (.bool ((L.take (i + 1)).all Jb.ok))), (6, .val (.int .i64 ((i + 1 : Nat) : Int)))], [(33, (.row 34 6 (i + 1) (JC (L.take (i + 1))), false))]⟩ from rfl]
      simp only [Tryd.f4, B8_size, B8_cut, B8_eq, B8_mk, B8_app, Int.toNat_natCast, List.range_zero, List.getD_cons_zero, List.getD_cons_succ, Nat.reduceMod, go_sem]
      refine qif_dt (by omega) ?_
      simp only [Tryd.f4, B8_size, B8_cut, B8_eq, B8_mk, B8_app, Int.toNat_natCast, List.range_zero, List.getD_cons_zero, List.getD_cons_succ, Nat.reduceMod, go_sem]
      refine qand_i (by omega) ?_
      simp only [Tryd.f4, B8_size, B8_cut, B8_eq, B8_mk, B8_app, Int.toNat_natCast, List.range_zero, List.getD_cons_zero, List.getD_cons_succ, Nat.reduceMod, go_sem]
      refine qand_i (by rw [List.length_drop, hJL]; omega) ?_
      have hpre : (JC (L.take (i + 1))).length = (i + 1) * 6 := by rw [JC_len, List.length_take]; congr 1; omega
      have hall : (L.take (i + 1 + 1)).all Jb.ok = ((L.take (i + 1)).all Jb.ok && ok) := by rw [List.take_add_one, hj, List.all_append, ← hok]; simp
      have hfl : (L.take (i + 1 + 1)).flatMap Jb.line = (L.take (i + 1)).flatMap Jb.line ++ ln := by rw [List.take_add_one, hj, List.flatMap_append, ← hln]; simp
      have hlnl := line_len hjw
      rw [hln] at hlnl
      generalize hPRE : JC (L.take (i + 1)) = PRE at *
      have a3 : (PRE ++ [PV.int .i64 jo, .int .u64 (jx : Nat), .int .u64 (jy : Nat), .int .i64 jn, .int .i64 jd, .bool ju]).drop ((i + 1) * 6) = [PV.int .i64 jo, .int .u64 (jx : Nat), .int .u64 (jy : Nat), .int .i64 jn, .int .i64 jd, .bool ju] := by rw [← hpre, List.drop_left]
      have hpl : (PRE ++ [PV.int .i64 jo, .int .u64 (jx : Nat), .int .u64 (jy : Nat), .int .i64 jn, .int .i64 jd, .bool ju]).length = (i + 1 + 1) * 6 := by rw [List.length_append, hpre]; simp; omega
      have g0 : (PRE ++ [PV.int .i64 jo, .int .u64 (jx : Nat), .int .u64 (jy : Nat), .int .i64 jn, .int .i64 jd, .bool ju])[(i + 1) * 6]? = some (.int .i64 jo) := by rw [List.getElem?_append_right (by omega), hpre]; rw [Nat.sub_self]; rfl
      have g1 : (PRE ++ [PV.int .i64 jo, .int .u64 (jx : Nat), .int .u64 (jy : Nat), .int .i64 jn, .int .i64 jd, .bool ju])[(i + 1) * 6 + 1]? = some (.int .u64 (jx : Nat)) := by rw [List.getElem?_append_right (by omega), hpre]; rw [Nat.add_sub_cancel_left]; rfl
      have g2 : (PRE ++ [PV.int .i64 jo, .int .u64 (jx : Nat), .int .u64 (jy : Nat), .int .i64 jn, .int .i64 jd, .bool ju])[(i + 1) * 6 + 2]? = some (.int .u64 (jy : Nat)) := by rw [List.getElem?_append_right (by omega), hpre]; rw [Nat.add_sub_cancel_left]; rfl
      have g3 : (PRE ++ [PV.int .i64 jo, .int .u64 (jx : Nat), .int .u64 (jy : Nat), .int .i64 jn, .int .i64 jd, .bool ju])[(i + 1) * 6 + 3]? = some (.int .i64 jn) := by rw [List.getElem?_append_right (by omega), hpre]; rw [Nat.add_sub_cancel_left]; rfl
      have g4 : (PRE ++ [PV.int .i64 jo, .int .u64 (jx : Nat), .int .u64 (jy : Nat), .int .i64 jn, .int .i64 jd, .bool ju])[(i + 1) * 6 + 4]? = some (.int .i64 jd) := by rw [List.getElem?_append_right (by omega), hpre]; rw [Nat.add_sub_cancel_left]; rfl
      have g5 : (PRE ++ [PV.int .i64 jo, .int .u64 (jx : Nat), .int .u64 (jy : Nat), .int .i64 jn, .int .i64 jd, .bool ju])[(i + 1) * 6 + 5]? = some (.bool ju) := by rw [List.getElem?_append_right (by omega), hpre]; rw [Nat.add_sub_cancel_left]; rfl
      generalize hAL : (L.take (i + 1)).all Jb.ok = AL at *
      have w1 : IntKind.wrap .i64 (((i + 1 : Nat) : Int) + 1) = ((i + 1 + 1 : Nat) : Int) := by rw [wrap64 (by omega) (by omega)]; omega
      cases AL <;> cases ok
      all_goals
        first | rw [if_neg (by decide)] at k3 | rw [if_pos rfl] at k3
        simp only [Tryd.f4, B8_size, B8_cut, B8_eq, B8_mk, B8_app, Int.toNat_natCast, List.range_zero, List.getD_cons_zero, List.getD_cons_succ, Nat.reduceMod, a1, TX, go_sem]
        repeat' first
          | ((with_reducible refine qcall_i k1 ?_); simp only [Tryd.f4, B8_size, B8_cut, B8_eq, B8_mk, B8_app, Int.toNat_natCast, List.range_zero, List.getD_cons_zero, List.getD_cons_succ, Nat.reduceMod, a1, a3, TX, w1, g0, g1, g2, g3, g4, g5, go_sem])
          | ((with_reducible refine qcall_i k2 ?_); simp only [Tryd.f4, B8_size, B8_cut, B8_eq, B8_mk, B8_app, Int.toNat_natCast, List.range_zero, List.getD_cons_zero, List.getD_cons_succ, Nat.reduceMod, a1, a3, TX, w1, g0, g1, g2, g3, g4, g5, go_sem])
          | ((with_reducible refine qcall_i k3 ?_); simp only [Tryd.f4, B8_size, B8_cut, B8_eq, B8_mk, B8_app, Int.toNat_natCast, List.range_zero, List.getD_cons_zero, List.getD_cons_succ, Nat.reduceMod, a1, a3, TX, w1, g0, g1, g2, g3, g4, g5, go_sem])
          | ((with_reducible refine qcall_i k5 ?_); simp only [Tryd.f4, B8_size, B8_cut, B8_eq, B8_mk, B8_app, Int.toNat_natCast, List.range_zero, List.getD_cons_zero, List.getD_cons_succ, Nat.reduceMod, a1, a3, TX, w1, g0, g1, g2, g3, g4, g5, go_sem])
          | ((refine qcall_i (k4 rfl) ?_); simp only [Tryd.f4, B8_size, B8_cut, B8_eq, B8_mk, B8_app, Int.toNat_natCast, List.range_zero, List.getD_cons_zero, List.getD_cons_succ, Nat.reduceMod, a1, a3, TX, w1, g0, g1, g2, g3, g4, g5, go_sem])
          | ((refine qand_i (by first | omega | (rw [hmx]; omega) | (rw [List.length_drop, hJL]; omega) | (rw [List.length_drop, hpl]; omega)) ?_); simp only [Tryd.f4, B8_size, B8_cut, B8_eq, B8_mk, B8_app, Int.toNat_natCast, List.range_zero, List.getD_cons_zero, List.getD_cons_succ, Nat.reduceMod, a1, a3, TX, w1, g0, g1, g2, g3, g4, g5, go_sem])
      rotate_right
      · refine ⟨(i + 1 + 1, t ++ ln), ⟨hlt, by dsimp only; rw [List.length_append]; omega, fun _ => by dsimp only; rw [hfl, hft rfl]⟩, by dsimp only; omega, ?_⟩
        rw [show stQ L (i + 1 + 1, t ++ ln) = ⟨[(0, .val (.lst L.length (JC L))), (3, .row 33), (4, .val (.str (B8 (t ++ ln)))), (5, .val (.bool ((L.take (i + 1 + 1)).all Jb.ok))), (6, .val (.int .i64 ((i + 1 + 1 : Nat) : Int)))], [(33, (.row 34 6 (i + 1 + 1) (JC (L.take (i + 1 + 1))), false))]⟩ from rfl, a2, hall]
        simp [Wk, sget, killL, kill1, SV.key]
      all_goals
        refine ⟨(i + 1 + 1, t), ⟨hlt, by dsimp only; omega, fun h => by dsimp only at h; rw [hall] at h; cases h⟩, by dsimp only; omega, ?_⟩
        rw [show stQ L (i + 1 + 1, t) = ⟨[(0, .val (.lst L.length (JC L))), (3, .row 33), (4, .val (.str (B8 t))), (5, .val (.bool ((L.take (i + 1 + 1)).all Jb.ok))), (6, .val (.int .i64 ((i + 1 + 1 : Nat) : Int)))], [(33, (.row 34 6 (i + 1 + 1) (JC (L.take (i + 1 + 1))), false))]⟩ from rfl, a2, hall]
        simp [Wk, sget, killL, kill1, SV.key]
  · have hiL : i = L.length := by omega
    have k6 := j_Print (l := L) (by omega) hwf rfl
    rw [hiL, List.take_length] at hft
    have hfl := flat_len L hwf
    cases i with
    | zero =>
      have hL0 : L = [] := List.length_eq_zero_iff.1 hiL.symm
      subst hL0
      have ht0 : t = [] := hft rfl
      subst ht0
      have k7 := j_Parse (s := []) (by decide)
      rw [psF_nil] at k7
      simp only [TX, List.flatMap_nil, List.all_nil, if_true, JC_nil, List.length_nil] at k6 k7
      rw [show stQ [] (0, []) = ⟨[(0, .val (.lst 0 [])), (3, .nil), (4, .val (.str (B8 []))), (5, .val (.bool true)), (6, .val (.int .i64 0))], []⟩ from rfl]
      simp only [Tryd.f4, B8_size, B8_cut, B8_eq, B8_mk, B8_app, Int.toNat_natCast, List.range_zero, List.getD_cons_zero, List.getD_cons_succ, Nat.reduceMod, go_sem]
      try (refine qif_df (by decide) ?_; simp only [Tryd.f4, B8_size, B8_cut, B8_eq, B8_mk, B8_app, Int.toNat_natCast, List.range_zero, List.getD_cons_zero, List.getD_cons_succ, Nat.reduceMod, go_sem])
      refine qcall_i (k6) ?_; simp only [Tryd.f4, B8_size, B8_cut, B8_eq, B8_mk, B8_app, Int.toNat_natCast, List.range_zero, List.getD_cons_zero, List.getD_cons_succ, Nat.reduceMod, go_sem]
      refine qcall_i (k7) ?_; simp only [Tryd.f4, B8_size, B8_cut, B8_eq, B8_mk, B8_app, Int.toNat_natCast, List.range_zero, List.getD_cons_zero, List.getD_cons_succ, Nat.reduceMod, go_sem]
      refine qif_df (by decide) ?_
      simp only [Tryd.f4, B8_size, B8_cut, B8_eq, B8_mk, B8_app, Int.toNat_natCast, List.range_zero, List.getD_cons_zero, List.getD_cons_succ, Nat.reduceMod, go_sem]
      try (refine qif_df (by decide) ?_; simp only [Tryd.f4, B8_size, B8_cut, B8_eq, B8_mk, B8_app, Int.toNat_natCast, List.range_zero, List.getD_cons_zero, List.getD_cons_succ, Nat.reduceMod, go_sem])
      refine PLoop.intro (fun _ : Unit => ⟨[(3, .nil), (11, .val (.lst 0 [])), (14, .val (.int .i64 0))], []⟩) (fun _ => True) (fun _ => 0) () trivial ?_ fun _ _ => walk ?_
      · simp [Wk, sget, killL, kill1, SV.key]
      simp only [Tryd.f4, B8_size, B8_cut, B8_eq, B8_mk, B8_app, Int.toNat_natCast, List.range_zero, List.getD_cons_zero, List.getD_cons_succ, Nat.reduceMod, go_sem]
      try (refine qif_df (by decide) ?_; simp only [Tryd.f4, B8_size, B8_cut, B8_eq, B8_mk, B8_app, Int.toNat_natCast, List.range_zero, List.getD_cons_zero, List.getD_cons_succ, Nat.reduceMod, go_sem])
      try rfl
    | succ i =>
      rw [show stQ L (i + 1, t) = ⟨[(0, .val (.lst L.length (JC L))), (3, .row 33), (4, .val (.str (B8 t))), (5, .val (.bool ((L.take (i + 1)).all Jb.ok))), (6, .val (.int .i64 ((i + 1 : Nat) : Int)))], [(33, (.row 34 6 (i + 1) (JC (L.take (i + 1))), false))]⟩ from rfl]
      rw [hiL, List.take_length]
      cases hall : L.all Jb.ok with
      | false =>
        rw [hall, if_neg (by decide)] at k6
        simp only [TX] at k6
        simp only [Tryd.f4, B8_size, B8_cut, B8_eq, B8_mk, B8_app, Int.toNat_natCast, List.range_zero, List.getD_cons_zero, List.getD_cons_succ, Nat.reduceMod, go_sem]
        try (refine qif_df (by omega) ?_; simp only [Tryd.f4, B8_size, B8_cut, B8_eq, B8_mk, B8_app, Int.toNat_natCast, List.range_zero, List.getD_cons_zero, List.getD_cons_succ, Nat.reduceMod, go_sem])
        refine qcall_i (k6) ?_; simp only [Tryd.f4, B8_size, B8_cut, B8_eq, B8_mk, B8_app, Int.toNat_natCast, List.range_zero, List.getD_cons_zero, List.getD_cons_succ, Nat.reduceMod, go_sem]
      | true =>
        rw [hall, if_pos rfl] at k6
        have k7 := j_Parse (s := L.flatMap Jb.line) (by omega)
        have hps := psF_lines L [] [] (fun j hj => ⟨hwf j hj, List.all_eq_true.1 hall j hj⟩)
        rw [List.append_nil, psF_nil, List.nil_append] at hps
        rw [hps] at k7
        have ht0 := hft hall
        subst ht0
        simp only [TX] at k6 k7
        simp only [Tryd.f4, B8_size, B8_cut, B8_eq, B8_mk, B8_app, Int.toNat_natCast, List.range_zero, List.getD_cons_zero, List.getD_cons_succ, Nat.reduceMod, go_sem]
        try (refine qif_df (by omega) ?_; simp only [Tryd.f4, B8_size, B8_cut, B8_eq, B8_mk, B8_app, Int.toNat_natCast, List.range_zero, List.getD_cons_zero, List.getD_cons_succ, Nat.reduceMod, go_sem])
        refine qcall_i (k6) ?_; simp only [Tryd.f4, B8_size, B8_cut, B8_eq, B8_mk, B8_app, Int.toNat_natCast, List.range_zero, List.getD_cons_zero, List.getD_cons_succ, Nat.reduceMod, go_sem]
        refine qcall_i (k7) ?_; simp only [Tryd.f4, B8_size, B8_cut, B8_eq, B8_mk, B8_app, Int.toNat_natCast, List.range_zero, List.getD_cons_zero, List.getD_cons_succ, Nat.reduceMod, go_sem]
        refine qif_df (by decide) ?_
        simp only [Tryd.f4, B8_size, B8_cut, B8_eq, B8_mk, B8_app, Int.toNat_natCast, List.range_zero, List.getD_cons_zero, List.getD_cons_succ, Nat.reduceMod, go_sem]
        try (refine qif_df (by decide) ?_; simp only [Tryd.f4, B8_size, B8_cut, B8_eq, B8_mk, B8_app, Int.toNat_natCast, List.range_zero, List.getD_cons_zero, List.getD_cons_succ, Nat.reduceMod, go_sem])
        refine PLoop.intro (fun m : Nat => ⟨[(3, .row 33), (11, .val (.lst L.length (JC L))), (14, .val (.int .i64 (m : Nat)))], [(33, (.row 34 6 L.length (JC L), true))]⟩) (fun m => m ≤ L.length) (fun m => L.length - m) 0 (Nat.zero_le _) ?_ fun m hm => walk ?_
        · simp [Wk, sget, killL, kill1, SV.key]
        by_cases hlt : m < L.length
        · obtain ⟨j, hj⟩ : ∃ j, L[m]? = some j := ⟨L[m], List.getElem?_eq_getElem hlt⟩
          have a1 := JC_at hj
          obtain ⟨jo, jx, jy, jn, jd, ju⟩ := j
          unfold Jb.cs at a1
          dsimp only at a1
          simp only [Tryd.f4, B8_size, B8_cut, B8_eq, B8_mk, B8_app, Int.toNat_natCast, List.range_zero, List.getD_cons_zero, List.getD_cons_succ, Nat.reduceMod, go_sem]
          refine qif_dt (by omega) ?_
          simp only [Tryd.f4, B8_size, B8_cut, B8_eq, B8_mk, B8_app, Int.toNat_natCast, List.range_zero, List.getD_cons_zero, List.getD_cons_succ, Nat.reduceMod, go_sem]
          repeat' first
            | ((refine qand_i (by first | omega | (rw [List.length_drop, hJL]; omega)) ?_); simp only [Tryd.f4, B8_size, B8_cut, B8_eq, B8_mk, B8_app, Int.toNat_natCast, List.range_zero, List.getD_cons_zero, List.getD_cons_succ, Nat.reduceMod, a1, go_sem])
          refine qif_f rfl ?_
          simp only [Tryd.f4, B8_size, B8_cut, B8_eq, B8_mk, B8_app, Int.toNat_natCast, List.range_zero, List.getD_cons_zero, List.getD_cons_succ, Nat.reduceMod, go_sem]
          rw [wrap64 (by omega) (by omega)]
          refine ⟨m + 1, by omega, by omega, ?_⟩
          simp [Wk, sget, killL, kill1, SV.key]
        · simp only [Tryd.f4, B8_size, B8_cut, B8_eq, B8_mk, B8_app, Int.toNat_natCast, List.range_zero, List.getD_cons_zero, List.getD_cons_succ, Nat.reduceMod, go_sem]
          refine qif_df (by omega) ?_
          simp only [Tryd.f4, B8_size, B8_cut, B8_eq, B8_mk, B8_app, Int.toNat_natCast, List.range_zero, List.getD_cons_zero, List.getD_cons_succ, Nat.reduceMod, go_sem]
          try rfl
end Go.Proofs.YtmnojbkakgfinaaDoor
