/- The contract of the law JobJoins: at whatever reads as its arguments it returns true. -/
import Derived.Test.YtmnojbkakgfinaaDoorJc
import Derived.Test.YtmnojbkakgfinaaDoorJe
import Derived.Test.YtmnojbkakgfinaaDoorJb9
import Derived.Test.YtmnojbkakgfinaaDoorArgJ
open Go PG Go.Proofs
set_option maxRecDepth 100000
set_option linter.unusedSimpArgs false
set_option linter.unusedVariables false
namespace Go.Proofs.YtmnojbkakgfinaaDoor
attribute [local go_sem] Lay2 Lay3 Lay4 Lay5 Lay6 Lay7 Lay8 Lay9 Lay10 Lay11 Lay12 Lay13 Lay14 Lay15 Lay16 Lay17 Lay18 Lay19 Lay21 Lay23 Lay24 Lay30 Lay31 Lay32 Lay33 Lay34 Lay36 Lay37 Lay49 Lay50 Lay51 Lay52 Lay59 Lay75 Lay77 Lay85 Lay87 Lay89 Lay96 Lay101 Lay112 Lay113 Lay118 Lay119 Lay120 Lay122 Lay123 Lay124 Lay125 Lay126 Lay127 Lay128 Lay129 Lay130 Lay132 Lay133 qexec_seq qexec_skip qexec_exit qexec_ret qexec_block qexec_loop qexec_range qexec_cond qexec_region qexec_drawn qops_nil qops_none qops_some put_some put_none pblk_exit pblk_other newDsts_nil inlDsts_nil isInl sget_cons sget_nil qval_some qbool_some qgs_bool qgs_und qfree_some qgrd_true qgrd_false qif_true qif_false qval_ite qval_itn qand_true map_ite map_some' map_none' qdo_move qdo_assign qdo_binOp qdo_pick qdo_unOp qdo_convert qdo_extract qdo_makeInterface qdo_field qdo_fieldAddr qdo_alloc qdo_box qdo_build qdo_buildSlice qdo_load qdo_store qdo_nilCheck qdo_makeFunc qdo_makeSlice qdo_slice qdo_indexAddr qdo_call qcont_val qcont_new qcont_st qcont_app0 qcont_app qcont_inl qcont_call njSV_val njSV_nil njSV_row njSV_ptr njSV_sub binV_val binV_nil binV_nn binV_ptr bin_np bin_nnp nilCmp bin_add bin_sub bin_mul bin_quo bin_rem bin_and bin_or bin_xor bin_andNot bin_eql bin_neq bin_lss bin_leq bin_gtr bin_geq bin_shl bin_shr bin_seql bin_sneq bin_sadd bin_beql bin_aeql bin_aneq eqAnd_some eqCells_nil eqCells_cons fieldTypes isStruct eqCell bin_bneq un_not un_neg nj_ite Nat.beq stepA stepR isNew opSV constSV RV.sv allSome E_mu E_own qkeyIn_none qkeyIn_some qkeyAt_none qkeyAt_some Bool.or_false Bool.false_or Bool.or_true Bool.true_or cst setB res resSV pstart startL killL kill1 eraL frzL svPV rvPV rvInt rvSlice rvBytes frzOf close closeL pconv pbuiltin pmax2 partPV setCells fillPV zrow bound newSV PV.cells Bk.cells Bk.with SV.key pres presL_nil presL_tmp presL_cell presC2_some cellPV_ptr presC List.toList_toArray List.size_toArray List.getElem?_drop Nat.mul_one Int.toNat_natCast Nat.not_lt_zero Nat.lt_irrefl decide_true decide_false Nat.not_lt Option.some.injEq PV.lst.injEq PV.int.injEq PV.bool.injEq PV.tuple.injEq List.cons.injEq Option.map_some Option.map_none Option.bind_some Option.toList List.map_cons List.map_nil List.nil_append List.cons_append List.append_nil List.zip_cons_cons List.zip_nil_left List.zip_nil_right List.getElem?_cons_zero List.getElem?_cons_succ List.drop_zero List.drop_succ_cons List.take_succ_cons List.take_zero List.set_cons_zero List.set_cons_succ List.length_cons List.length_nil List.length_set List.replicate_one List.replicate_zero bne_self_eq_false beq_self_eq_true Nat.zero_add Nat.add_zero Nat.zero_mul Bool.false_eq_true Bool.true_eq_false Bool.not_true Bool.not_false and_true true_and false_and and_false or_false false_or or_true true_or not_true_eq_false not_false_eq_true ne_eq gt_iff_lt List.mem_cons List.not_mem_nil
attribute [local go_sem ↓] pseq_normal pseq_ret pseq_exit pblk_normal pblk_ret newDsts_cons inlDsts_cons gdst_zero gdst_succ retQ_normal retQ_ret qneed_nil qneed_cons retM_normal retM_ret endR_normal endR_ret endR_exit
attribute [local go_sem] Int.reduceToNat Int.reduceEq Int.reduceNe Int.reduceLT Int.reduceLE Int.reduceNeg Int.reduceAdd Nat.reduceEqDiff Nat.reduceAdd Nat.reduceSub Nat.reduceMul Nat.reduceLeDiff Nat.reduceLT
attribute [local go_sem ↓] reduceIte reduceCtorEq

theorem urg_line (j : Jb) : ({ j with urg := true } : Jb).line = 33 :: 32 :: ({ j with urg := false } : Jb).line := by
  unfold Jb.line Jb.row
  simp
theorem JC_one (j : Jb) : JC [j] = j.cs := by unfold JC; simp
def stJ (a b : List Jb) (p : Nat × Nat) : ES := match p.1, p.2 with
  | 0, 0 => ⟨[(0, .val (.lst a.length (JC a))), (1, .val (.lst b.length (JC b))), (5, .nil), (6, .nil), (7, .val (.int .i64 0))], []⟩
  | nx + 1, 0 => ⟨[(0, .val (.lst a.length (JC a))), (1, .val (.lst b.length (JC b))), (5, .row 53), (6, .nil), (7, .val (.int .i64 ((nx + 1 : Nat) : Int)))], [(53, (.row 34 6 (nx + 1) (JC (a.take (nx + 1))), false))]⟩
  | 0, ny + 1 => ⟨[(0, .val (.lst a.length (JC a))), (1, .val (.lst b.length (JC b))), (5, .nil), (6, .row 65), (7, .val (.int .i64 ((ny + 1 : Nat) : Int)))], [(65, (.row 34 6 (ny + 1) (JC (b.take (ny + 1))), false))]⟩
  | nx + 1, ny + 1 => ⟨[(0, .val (.lst a.length (JC a))), (1, .val (.lst b.length (JC b))), (5, .row 53), (6, .row 65), (7, .val (.int .i64 ((nx + 1 + (ny + 1) : Nat) : Int)))], [(53, (.row 34 6 (nx + 1) (JC (a.take (nx + 1))), false)), (65, (.row 34 6 (ny + 1) (JC (b.take (ny + 1))), false))]⟩
set_option maxHeartbeats 8000000 in
theorem law_JobJoins (pvs : List PV) (h : Fits [qJobs, qJobs] pvs) : PC E 5 pvs (.bool true) := by
  obtain ⟨_, _, rfl, ⟨a, rfl, hwa⟩, ⟨b, rfl, hwb⟩⟩ := fits2 h
  have k0 := l_25alive
  have hmx : maxLen = 9223372036854775807 := rfl
  have hJa := JC_len a
  have hJb := JC_len b
  by_cases h6 : 30 < a.length ∨ 30 < b.length
  · refine PC.of_body follows Tryd.func5 (by decide +kernel) rfl (by kernel_rfl) (Nat.le_of_ble_eq_true rfl) (walk ?_)
    simp only [Tryd.f5, B8_size, B8_cut, B8_eq, B8_mk, B8_app, Int.toNat_natCast, go_sem]
    refine qcall_i (k0) ?_; simp only [Tryd.f5, B8_size, B8_cut, B8_eq, B8_mk, B8_app, Int.toNat_natCast, go_sem]
    refine qif_d (fun h => ?_) (fun h => ?_)
    · simp only [Tryd.f5, B8_size, B8_cut, B8_eq, B8_mk, B8_app, Int.toNat_natCast, go_sem]
      try rfl
    · simp only [Tryd.f5, B8_size, B8_cut, B8_eq, B8_mk, B8_app, Int.toNat_natCast, go_sem]
      refine qif_dt (by omega) ?_
      simp only [Tryd.f5, B8_size, B8_cut, B8_eq, B8_mk, B8_app, Int.toNat_natCast, go_sem]
      try rfl
  have wlen : IntKind.wrap .i64 ((a.length : Int) + (b.length : Int)) = ((a.length + b.length : Nat) : Int) := by rw [wrap64 (by omega) (by omega)]; omega
  refine PC.of_body follows Tryd.func5 (by decide +kernel) rfl (by kernel_rfl) (Nat.le_of_ble_eq_true rfl) (walk ?_)
  simp only [Tryd.f5, B8_size, B8_cut, B8_eq, B8_mk, B8_app, Int.toNat_natCast, go_sem]
  refine qcall_i (k0) ?_; simp only [Tryd.f5, B8_size, B8_cut, B8_eq, B8_mk, B8_app, Int.toNat_natCast, go_sem]
  refine qif_df (by omega) ?_
  simp only [Tryd.f5, B8_size, B8_cut, B8_eq, B8_mk, B8_app, Int.toNat_natCast, go_sem]
  refine qif_df (by omega) ?_
  simp only [Tryd.f5, B8_size, B8_cut, B8_eq, B8_mk, B8_app, Int.toNat_natCast, go_sem]
  refine PLoop.intro (stJ a b) (fun p => p.1 ≤ a.length ∧ p.2 ≤ b.length ∧ (0 < p.2 → p.1 = a.length) ∧ (a.take p.1).all Jb.ok = true ∧ (b.take p.2).all Jb.ok = true) (fun p => a.length + b.length - (p.1 + p.2)) (0, 0) ⟨Nat.zero_le _, Nat.zero_le _, fun h => absurd h (Nat.lt_irrefl 0), rfl, rfl⟩ ?_ fun p hp => walk ?_
  · simp [stJ, Wk, sget, killL, kill1, SV.key]
  obtain ⟨nx, ny⟩ := p
  obtain ⟨h1, h2, h3, h4, h5⟩ := hp
  dsimp only at h1 h2 h3 h4 h5
  have prep : ∀ j : Jb, j.wf → PC E 9 [.agg j.cs] (.agg j.cs) ∧ PC E 10 [.agg j.cs] (.bool j.ok) ∧ PC E 9 [.agg ({ j with urg := true } : Jb).cs] (.agg ({ j with urg := true } : Jb).cs) ∧ PC E 13 [.agg ({ j with urg := true } : Jb).cs] (.agg ({ j with urg := false } : Jb).cs) ∧
      (j.ok = true → PC E 8 [.lst 1 ({ j with urg := true } : Jb).cs] (.tuple [.str (B8 (33 :: 32 :: ({ j with urg := false } : Jb).line)), .int .i64 0]) ∧ PC E 8 [.lst 1 ({ j with urg := false } : Jb).cs] (.tuple [.str (B8 ({ j with urg := false } : Jb).line), .int .i64 0])) := fun j hw => by
    refine ⟨l_25Of j, c_25Right j, l_25Of _, j_Bare _, fun hok => ?_⟩
    have w1 : ({ j with urg := true } : Jb).wf := ⟨hw.op1, hw.op2, hw.x, hw.y, hw.n1, hw.n2, hw.d1, hw.d2⟩
    have w0 : ({ j with urg := false } : Jb).wf := ⟨hw.op1, hw.op2, hw.x, hw.y, hw.n1, hw.n2, hw.d1, hw.d2⟩
    have p1 := j_Print (l := [({ j with urg := true } : Jb)]) (by simp) (fun x hx => by rw [List.mem_singleton] at hx; subst hx; exact w1) rfl
    have p0 := j_Print (l := [({ j with urg := false } : Jb)]) (by simp) (fun x hx => by rw [List.mem_singleton] at hx; subst hx; exact w0) rfl
    have o1 : ({ j with urg := true } : Jb).ok = true := hok
    have o0 : ({ j with urg := false } : Jb).ok = true := hok
    simp only [List.all_cons, List.all_nil, o1, o0, Bool.and_true, if_true, List.flatMap_cons, List.flatMap_nil, List.append_nil, urg_line j, JC_one, List.length_cons, List.length_nil, Nat.zero_add, TX] at p1 p0
    exact ⟨p1, p0⟩
  by_cases hA : nx < a.length
  · have hny : ny = 0 := by
      rcases Nat.eq_zero_or_pos ny with h | h
      · exact h
      · have := h3 h; omega
    subst hny
    obtain ⟨j, hj⟩ : ∃ j, a[nx]? = some j := ⟨a[nx], List.getElem?_eq_getElem hA⟩
    have hjw := hwa j (List.mem_of_getElem? hj)
    have al := JC_at hj
    obtain ⟨k1, k2, k3, k4, k5⟩ := prep j hjw
    have hall : (a.take (nx + 1)).all Jb.ok = j.ok := by rw [List.take_add_one, hj, List.all_append, h4]; simp
    have hcs : JC (a.take (nx + 1)) = JC (a.take nx) ++ j.cs := JC_take hj
    have hlnl : ({ j with urg := false } : Jb).line.length ≤ 60 := line_len ⟨hjw.op1, hjw.op2, hjw.x, hjw.y, hjw.n1, hjw.n2, hjw.d1, hjw.d2⟩
    obtain ⟨jo, jx, jy, jn, jd, ju⟩ := j
    dsimp only at k3 k4 k5 hall hlnl
    generalize ({ op := jo, x := jx, y := jy, n := jn, dir := jd, urg := ju } : Jb).ok = ok at *
    generalize ({ op := jo, x := jx, y := jy, n := jn, dir := jd, urg := false } : Jb).line = ln at *
    unfold Jb.cs at al k1 k2 k3 k4 k5 hcs
    dsimp only at al k1 k2 k3 k4 k5 hcs
    cases nx with
    | zero =>
      rw [show stJ a b (0, 0) = ⟨[(0, .val (.lst a.length (JC a))), (1, .val (.lst b.length (JC b))), (5, .nil), (6, .nil), (7, .val (.int .i64 0))], []⟩ from rfl]
      have wi : IntKind.wrap .i64 ((0 : Int) + 1) = ((1 : Nat) : Int) := by rw [wrap64 (by omega) (by omega)]; omega
      have ws := wlen
      have al0 := al
      rw [Nat.zero_mul, List.drop_zero] at al0
      simp only [Tryd.f5, B8_size, B8_cut, B8_eq, B8_mk, B8_app, Int.toNat_natCast, List.range_zero, List.getD_cons_zero, List.getD_cons_succ, Nat.reduceMod, wlen, go_sem]
      refine qif_dt (by omega) ?_
      simp only [Tryd.f5, B8_size, B8_cut, B8_eq, B8_mk, B8_app, Int.toNat_natCast, List.range_zero, List.getD_cons_zero, List.getD_cons_succ, Nat.reduceMod, List.filter_cons, List.filter_nil, al, al0, TX, wlen, wi, ws, List.cons_append, List.nil_append, go_sem]
      refine qif_dt (by omega) ?_
      simp only [Tryd.f5, B8_size, B8_cut, B8_eq, B8_mk, B8_app, Int.toNat_natCast, List.range_zero, List.getD_cons_zero, List.getD_cons_succ, Nat.reduceMod, List.filter_cons, List.filter_nil, al, al0, TX, wlen, wi, ws, List.cons_append, List.nil_append, go_sem]
      cases ok with
      | false =>
        repeat' first
          | ((with_reducible refine qcall_i k1 ?_); simp only [Tryd.f5, B8_size, B8_cut, B8_eq, B8_mk, B8_app, Int.toNat_natCast, List.range_zero, List.getD_cons_zero, List.getD_cons_succ, Nat.reduceMod, List.filter_cons, List.filter_nil, al, al0, TX, wlen, wi, ws, List.cons_append, List.nil_append, go_sem])
          | ((with_reducible refine qcall_i k2 ?_); simp only [Tryd.f5, B8_size, B8_cut, B8_eq, B8_mk, B8_app, Int.toNat_natCast, List.range_zero, List.getD_cons_zero, List.getD_cons_succ, Nat.reduceMod, List.filter_cons, List.filter_nil, al, al0, TX, wlen, wi, ws, List.cons_append, List.nil_append, go_sem])
          | ((with_reducible refine qcall_i k3 ?_); simp only [Tryd.f5, B8_size, B8_cut, B8_eq, B8_mk, B8_app, Int.toNat_natCast, List.range_zero, List.getD_cons_zero, List.getD_cons_succ, Nat.reduceMod, List.filter_cons, List.filter_nil, al, al0, TX, wlen, wi, ws, List.cons_append, List.nil_append, go_sem])
          | ((with_reducible refine qcall_i k4 ?_); simp only [Tryd.f5, B8_size, B8_cut, B8_eq, B8_mk, B8_app, Int.toNat_natCast, List.range_zero, List.getD_cons_zero, List.getD_cons_succ, Nat.reduceMod, List.filter_cons, List.filter_nil, al, al0, TX, wlen, wi, ws, List.cons_append, List.nil_append, go_sem])
          | ((refine qand_i ?_ ?_; focus (first | omega | (rw [hmx]; omega) | (rw [hJa]; omega) | (rw [hJb]; omega) | (rw [List.length_drop, hJa]; omega) | (rw [List.length_drop, hJb]; omega) | (rw [hmx]; simp; omega) | (simp; done) | (simp; omega))); simp only [Tryd.f5, B8_size, B8_cut, B8_eq, B8_mk, B8_app, Int.toNat_natCast, List.range_zero, List.getD_cons_zero, List.getD_cons_succ, Nat.reduceMod, List.filter_cons, List.filter_nil, al, al0, TX, wlen, wi, ws, List.cons_append, List.nil_append, go_sem])
        try rfl
      | true =>
        obtain ⟨p1, p0⟩ := k5 rfl
        repeat' first
          | ((with_reducible refine qcall_i k1 ?_); simp only [Tryd.f5, B8_size, B8_cut, B8_eq, B8_mk, B8_app, Int.toNat_natCast, List.range_zero, List.getD_cons_zero, List.getD_cons_succ, Nat.reduceMod, List.filter_cons, List.filter_nil, al, al0, TX, wlen, wi, ws, List.cons_append, List.nil_append, go_sem])
          | ((with_reducible refine qcall_i k2 ?_); simp only [Tryd.f5, B8_size, B8_cut, B8_eq, B8_mk, B8_app, Int.toNat_natCast, List.range_zero, List.getD_cons_zero, List.getD_cons_succ, Nat.reduceMod, List.filter_cons, List.filter_nil, al, al0, TX, wlen, wi, ws, List.cons_append, List.nil_append, go_sem])
          | ((with_reducible refine qcall_i k3 ?_); simp only [Tryd.f5, B8_size, B8_cut, B8_eq, B8_mk, B8_app, Int.toNat_natCast, List.range_zero, List.getD_cons_zero, List.getD_cons_succ, Nat.reduceMod, List.filter_cons, List.filter_nil, al, al0, TX, wlen, wi, ws, List.cons_append, List.nil_append, go_sem])
          | ((with_reducible refine qcall_i k4 ?_); simp only [Tryd.f5, B8_size, B8_cut, B8_eq, B8_mk, B8_app, Int.toNat_natCast, List.range_zero, List.getD_cons_zero, List.getD_cons_succ, Nat.reduceMod, List.filter_cons, List.filter_nil, al, al0, TX, wlen, wi, ws, List.cons_append, List.nil_append, go_sem])
          | ((with_reducible refine qcall_i p1 ?_); simp only [Tryd.f5, B8_size, B8_cut, B8_eq, B8_mk, B8_app, Int.toNat_natCast, List.range_zero, List.getD_cons_zero, List.getD_cons_succ, Nat.reduceMod, List.filter_cons, List.filter_nil, al, al0, TX, wlen, wi, ws, List.cons_append, List.nil_append, go_sem])
          | ((with_reducible refine qcall_i p0 ?_); simp only [Tryd.f5, B8_size, B8_cut, B8_eq, B8_mk, B8_app, Int.toNat_natCast, List.range_zero, List.getD_cons_zero, List.getD_cons_succ, Nat.reduceMod, List.filter_cons, List.filter_nil, al, al0, TX, wlen, wi, ws, List.cons_append, List.nil_append, go_sem])
          | ((refine qand_i ?_ ?_; focus (first | omega | (rw [hmx]; omega) | (rw [hJa]; omega) | (rw [hJb]; omega) | (rw [List.length_drop, hJa]; omega) | (rw [List.length_drop, hJb]; omega) | (rw [hmx]; simp; omega) | (simp; done) | (simp; omega))); simp only [Tryd.f5, B8_size, B8_cut, B8_eq, B8_mk, B8_app, Int.toNat_natCast, List.range_zero, List.getD_cons_zero, List.getD_cons_succ, Nat.reduceMod, List.filter_cons, List.filter_nil, al, al0, TX, wlen, wi, ws, List.cons_append, List.nil_append, go_sem])
        refine ⟨(0 + 1, 0), ⟨by dsimp only; omega, by dsimp only; omega, fun _ => by dsimp only; omega, ?_, ?_⟩, by dsimp only; omega, ?_⟩
        · exact hall
        · exact h5
        rw [show stJ a b (0 + 1, 0) = ⟨[(0, .val (.lst a.length (JC a))), (1, .val (.lst b.length (JC b))), (5, .row 53), (6, .nil), (7, .val (.int .i64 ((0 + 1 : Nat) : Int)))], [(53, (.row 34 6 (0 + 1) (JC (a.take (0 + 1))), false))]⟩ from rfl]
        rw [hcs, show JC (a.take 0) = [] from rfl, List.nil_append]
        simp [Wk, sget, killL, kill1, SV.key]
        try first | omega | decide
    | succ nx =>
      rw [show stJ a b (nx + 1, 0) = ⟨[(0, .val (.lst a.length (JC a))), (1, .val (.lst b.length (JC b))), (5, .row 53), (6, .nil), (7, .val (.int .i64 ((nx + 1 : Nat) : Int)))], [(53, (.row 34 6 (nx + 1) (JC (a.take (nx + 1))), false))]⟩ from rfl]
      have wi : IntKind.wrap .i64 (((nx + 1 : Nat) : Int) + 1) = ((nx + 1 + 1 : Nat) : Int) := by rw [wrap64 (by omega) (by omega)]; omega
      have ws := wlen
      have al0 := al
      simp only [Tryd.f5, B8_size, B8_cut, B8_eq, B8_mk, B8_app, Int.toNat_natCast, List.range_zero, List.getD_cons_zero, List.getD_cons_succ, Nat.reduceMod, wlen, go_sem]
      refine qif_dt (by omega) ?_
      simp only [Tryd.f5, B8_size, B8_cut, B8_eq, B8_mk, B8_app, Int.toNat_natCast, List.range_zero, List.getD_cons_zero, List.getD_cons_succ, Nat.reduceMod, List.filter_cons, List.filter_nil, al, al0, TX, wlen, wi, ws, List.cons_append, List.nil_append, go_sem]
      refine qif_dt (by omega) ?_
      simp only [Tryd.f5, B8_size, B8_cut, B8_eq, B8_mk, B8_app, Int.toNat_natCast, List.range_zero, List.getD_cons_zero, List.getD_cons_succ, Nat.reduceMod, List.filter_cons, List.filter_nil, al, al0, TX, wlen, wi, ws, List.cons_append, List.nil_append, go_sem]
      cases ok with
      | false =>
        repeat' first
          | ((with_reducible refine qcall_i k1 ?_); simp only [Tryd.f5, B8_size, B8_cut, B8_eq, B8_mk, B8_app, Int.toNat_natCast, List.range_zero, List.getD_cons_zero, List.getD_cons_succ, Nat.reduceMod, List.filter_cons, List.filter_nil, al, al0, TX, wlen, wi, ws, List.cons_append, List.nil_append, go_sem])
          | ((with_reducible refine qcall_i k2 ?_); simp only [Tryd.f5, B8_size, B8_cut, B8_eq, B8_mk, B8_app, Int.toNat_natCast, List.range_zero, List.getD_cons_zero, List.getD_cons_succ, Nat.reduceMod, List.filter_cons, List.filter_nil, al, al0, TX, wlen, wi, ws, List.cons_append, List.nil_append, go_sem])
          | ((with_reducible refine qcall_i k3 ?_); simp only [Tryd.f5, B8_size, B8_cut, B8_eq, B8_mk, B8_app, Int.toNat_natCast, List.range_zero, List.getD_cons_zero, List.getD_cons_succ, Nat.reduceMod, List.filter_cons, List.filter_nil, al, al0, TX, wlen, wi, ws, List.cons_append, List.nil_append, go_sem])
          | ((with_reducible refine qcall_i k4 ?_); simp only [Tryd.f5, B8_size, B8_cut, B8_eq, B8_mk, B8_app, Int.toNat_natCast, List.range_zero, List.getD_cons_zero, List.getD_cons_succ, Nat.reduceMod, List.filter_cons, List.filter_nil, al, al0, TX, wlen, wi, ws, List.cons_append, List.nil_append, go_sem])
          | ((refine qand_i ?_ ?_; focus (first | omega | (rw [hmx]; omega) | (rw [hJa]; omega) | (rw [hJb]; omega) | (rw [List.length_drop, hJa]; omega) | (rw [List.length_drop, hJb]; omega) | (rw [hmx]; simp; omega) | (simp; done) | (simp; omega))); simp only [Tryd.f5, B8_size, B8_cut, B8_eq, B8_mk, B8_app, Int.toNat_natCast, List.range_zero, List.getD_cons_zero, List.getD_cons_succ, Nat.reduceMod, List.filter_cons, List.filter_nil, al, al0, TX, wlen, wi, ws, List.cons_append, List.nil_append, go_sem])
        try rfl
      | true =>
        obtain ⟨p1, p0⟩ := k5 rfl
        repeat' first
          | ((with_reducible refine qcall_i k1 ?_); simp only [Tryd.f5, B8_size, B8_cut, B8_eq, B8_mk, B8_app, Int.toNat_natCast, List.range_zero, List.getD_cons_zero, List.getD_cons_succ, Nat.reduceMod, List.filter_cons, List.filter_nil, al, al0, TX, wlen, wi, ws, List.cons_append, List.nil_append, go_sem])
          | ((with_reducible refine qcall_i k2 ?_); simp only [Tryd.f5, B8_size, B8_cut, B8_eq, B8_mk, B8_app, Int.toNat_natCast, List.range_zero, List.getD_cons_zero, List.getD_cons_succ, Nat.reduceMod, List.filter_cons, List.filter_nil, al, al0, TX, wlen, wi, ws, List.cons_append, List.nil_append, go_sem])
          | ((with_reducible refine qcall_i k3 ?_); simp only [Tryd.f5, B8_size, B8_cut, B8_eq, B8_mk, B8_app, Int.toNat_natCast, List.range_zero, List.getD_cons_zero, List.getD_cons_succ, Nat.reduceMod, List.filter_cons, List.filter_nil, al, al0, TX, wlen, wi, ws, List.cons_append, List.nil_append, go_sem])
          | ((with_reducible refine qcall_i k4 ?_); simp only [Tryd.f5, B8_size, B8_cut, B8_eq, B8_mk, B8_app, Int.toNat_natCast, List.range_zero, List.getD_cons_zero, List.getD_cons_succ, Nat.reduceMod, List.filter_cons, List.filter_nil, al, al0, TX, wlen, wi, ws, List.cons_append, List.nil_append, go_sem])
          | ((with_reducible refine qcall_i p1 ?_); simp only [Tryd.f5, B8_size, B8_cut, B8_eq, B8_mk, B8_app, Int.toNat_natCast, List.range_zero, List.getD_cons_zero, List.getD_cons_succ, Nat.reduceMod, List.filter_cons, List.filter_nil, al, al0, TX, wlen, wi, ws, List.cons_append, List.nil_append, go_sem])
          | ((with_reducible refine qcall_i p0 ?_); simp only [Tryd.f5, B8_size, B8_cut, B8_eq, B8_mk, B8_app, Int.toNat_natCast, List.range_zero, List.getD_cons_zero, List.getD_cons_succ, Nat.reduceMod, List.filter_cons, List.filter_nil, al, al0, TX, wlen, wi, ws, List.cons_append, List.nil_append, go_sem])
          | ((refine qand_i ?_ ?_; focus (first | omega | (rw [hmx]; omega) | (rw [hJa]; omega) | (rw [hJb]; omega) | (rw [List.length_drop, hJa]; omega) | (rw [List.length_drop, hJb]; omega) | (rw [hmx]; simp; omega) | (simp; done) | (simp; omega))); simp only [Tryd.f5, B8_size, B8_cut, B8_eq, B8_mk, B8_app, Int.toNat_natCast, List.range_zero, List.getD_cons_zero, List.getD_cons_succ, Nat.reduceMod, List.filter_cons, List.filter_nil, al, al0, TX, wlen, wi, ws, List.cons_append, List.nil_append, go_sem])
        refine ⟨(nx + 1 + 1, 0), ⟨by dsimp only; omega, by dsimp only; omega, fun _ => by dsimp only; omega, ?_, ?_⟩, by dsimp only; omega, ?_⟩
        · exact hall
        · exact h5
        rw [show stJ a b (nx + 1 + 1, 0) = ⟨[(0, .val (.lst a.length (JC a))), (1, .val (.lst b.length (JC b))), (5, .row 53), (6, .nil), (7, .val (.int .i64 ((nx + 1 + 1 : Nat) : Int)))], [(53, (.row 34 6 (nx + 1 + 1) (JC (a.take (nx + 1 + 1))), false))]⟩ from rfl]
        rw [hcs]
        simp [Wk, sget, killL, kill1, SV.key]
        try first | omega | decide
  have hxa : nx = a.length := by omega
  by_cases hB : ny < b.length
  · obtain ⟨j, hj⟩ : ∃ j, b[ny]? = some j := ⟨b[ny], List.getElem?_eq_getElem hB⟩
    have hjw := hwb j (List.mem_of_getElem? hj)
    have al := JC_at hj
    obtain ⟨k1, k2, k3, k4, k5⟩ := prep j hjw
    have hall : (b.take (ny + 1)).all Jb.ok = j.ok := by rw [List.take_add_one, hj, List.all_append, h5]; simp
    have hcs : JC (b.take (ny + 1)) = JC (b.take ny) ++ j.cs := JC_take hj
    have hlnl : ({ j with urg := false } : Jb).line.length ≤ 60 := line_len ⟨hjw.op1, hjw.op2, hjw.x, hjw.y, hjw.n1, hjw.n2, hjw.d1, hjw.d2⟩
    obtain ⟨jo, jx, jy, jn, jd, ju⟩ := j
    dsimp only at k3 k4 k5 hall hlnl
    generalize ({ op := jo, x := jx, y := jy, n := jn, dir := jd, urg := ju } : Jb).ok = ok at *
    generalize ({ op := jo, x := jx, y := jy, n := jn, dir := jd, urg := false } : Jb).line = ln at *
    unfold Jb.cs at al k1 k2 k3 k4 k5 hcs
    dsimp only at al k1 k2 k3 k4 k5 hcs
    cases nx with
    | zero =>
      cases ny with
      | zero =>
        rw [show stJ a b (0, 0) = ⟨[(0, .val (.lst a.length (JC a))), (1, .val (.lst b.length (JC b))), (5, .nil), (6, .nil), (7, .val (.int .i64 0))], []⟩ from rfl]
        have wi : IntKind.wrap .i64 ((0 : Int) + 1) = ((1 : Nat) : Int) := by rw [wrap64 (by omega) (by omega)]; omega
        have ws : IntKind.wrap .i64 ((0 : Int) - (a.length : Int)) = ((0 : Nat) : Int) := by rw [wrap64 (by omega) (by omega)]; omega
        have al0 := al
        rw [Nat.zero_mul, List.drop_zero] at al0
        simp only [Tryd.f5, B8_size, B8_cut, B8_eq, B8_mk, B8_app, Int.toNat_natCast, List.range_zero, List.getD_cons_zero, List.getD_cons_succ, Nat.reduceMod, wlen, go_sem]
        refine qif_dt (by omega) ?_
        simp only [Tryd.f5, B8_size, B8_cut, B8_eq, B8_mk, B8_app, Int.toNat_natCast, List.range_zero, List.getD_cons_zero, List.getD_cons_succ, Nat.reduceMod, List.filter_cons, List.filter_nil, al, al0, TX, wlen, wi, ws, List.cons_append, List.nil_append, go_sem]
        refine qif_df (by omega) ?_
        simp only [Tryd.f5, B8_size, B8_cut, B8_eq, B8_mk, B8_app, Int.toNat_natCast, List.range_zero, List.getD_cons_zero, List.getD_cons_succ, Nat.reduceMod, List.filter_cons, List.filter_nil, al, al0, TX, wlen, wi, ws, List.cons_append, List.nil_append, go_sem]
        cases ok with
        | false =>
          repeat' first
            | ((with_reducible refine qcall_i k1 ?_); simp only [Tryd.f5, B8_size, B8_cut, B8_eq, B8_mk, B8_app, Int.toNat_natCast, List.range_zero, List.getD_cons_zero, List.getD_cons_succ, Nat.reduceMod, List.filter_cons, List.filter_nil, al, al0, TX, wlen, wi, ws, List.cons_append, List.nil_append, go_sem])
            | ((with_reducible refine qcall_i k2 ?_); simp only [Tryd.f5, B8_size, B8_cut, B8_eq, B8_mk, B8_app, Int.toNat_natCast, List.range_zero, List.getD_cons_zero, List.getD_cons_succ, Nat.reduceMod, List.filter_cons, List.filter_nil, al, al0, TX, wlen, wi, ws, List.cons_append, List.nil_append, go_sem])
            | ((with_reducible refine qcall_i k3 ?_); simp only [Tryd.f5, B8_size, B8_cut, B8_eq, B8_mk, B8_app, Int.toNat_natCast, List.range_zero, List.getD_cons_zero, List.getD_cons_succ, Nat.reduceMod, List.filter_cons, List.filter_nil, al, al0, TX, wlen, wi, ws, List.cons_append, List.nil_append, go_sem])
            | ((with_reducible refine qcall_i k4 ?_); simp only [Tryd.f5, B8_size, B8_cut, B8_eq, B8_mk, B8_app, Int.toNat_natCast, List.range_zero, List.getD_cons_zero, List.getD_cons_succ, Nat.reduceMod, List.filter_cons, List.filter_nil, al, al0, TX, wlen, wi, ws, List.cons_append, List.nil_append, go_sem])
            | ((refine qand_i ?_ ?_; focus (first | omega | (rw [hmx]; omega) | (rw [hJa]; omega) | (rw [hJb]; omega) | (rw [List.length_drop, hJa]; omega) | (rw [List.length_drop, hJb]; omega) | (rw [hmx]; simp; omega) | (simp; done) | (simp; omega))); simp only [Tryd.f5, B8_size, B8_cut, B8_eq, B8_mk, B8_app, Int.toNat_natCast, List.range_zero, List.getD_cons_zero, List.getD_cons_succ, Nat.reduceMod, List.filter_cons, List.filter_nil, al, al0, TX, wlen, wi, ws, List.cons_append, List.nil_append, go_sem])
          try rfl
        | true =>
          obtain ⟨p1, p0⟩ := k5 rfl
          repeat' first
            | ((with_reducible refine qcall_i k1 ?_); simp only [Tryd.f5, B8_size, B8_cut, B8_eq, B8_mk, B8_app, Int.toNat_natCast, List.range_zero, List.getD_cons_zero, List.getD_cons_succ, Nat.reduceMod, List.filter_cons, List.filter_nil, al, al0, TX, wlen, wi, ws, List.cons_append, List.nil_append, go_sem])
            | ((with_reducible refine qcall_i k2 ?_); simp only [Tryd.f5, B8_size, B8_cut, B8_eq, B8_mk, B8_app, Int.toNat_natCast, List.range_zero, List.getD_cons_zero, List.getD_cons_succ, Nat.reduceMod, List.filter_cons, List.filter_nil, al, al0, TX, wlen, wi, ws, List.cons_append, List.nil_append, go_sem])
            | ((with_reducible refine qcall_i k3 ?_); simp only [Tryd.f5, B8_size, B8_cut, B8_eq, B8_mk, B8_app, Int.toNat_natCast, List.range_zero, List.getD_cons_zero, List.getD_cons_succ, Nat.reduceMod, List.filter_cons, List.filter_nil, al, al0, TX, wlen, wi, ws, List.cons_append, List.nil_append, go_sem])
            | ((with_reducible refine qcall_i k4 ?_); simp only [Tryd.f5, B8_size, B8_cut, B8_eq, B8_mk, B8_app, Int.toNat_natCast, List.range_zero, List.getD_cons_zero, List.getD_cons_succ, Nat.reduceMod, List.filter_cons, List.filter_nil, al, al0, TX, wlen, wi, ws, List.cons_append, List.nil_append, go_sem])
            | ((with_reducible refine qcall_i p1 ?_); simp only [Tryd.f5, B8_size, B8_cut, B8_eq, B8_mk, B8_app, Int.toNat_natCast, List.range_zero, List.getD_cons_zero, List.getD_cons_succ, Nat.reduceMod, List.filter_cons, List.filter_nil, al, al0, TX, wlen, wi, ws, List.cons_append, List.nil_append, go_sem])
            | ((with_reducible refine qcall_i p0 ?_); simp only [Tryd.f5, B8_size, B8_cut, B8_eq, B8_mk, B8_app, Int.toNat_natCast, List.range_zero, List.getD_cons_zero, List.getD_cons_succ, Nat.reduceMod, List.filter_cons, List.filter_nil, al, al0, TX, wlen, wi, ws, List.cons_append, List.nil_append, go_sem])
            | ((refine qand_i ?_ ?_; focus (first | omega | (rw [hmx]; omega) | (rw [hJa]; omega) | (rw [hJb]; omega) | (rw [List.length_drop, hJa]; omega) | (rw [List.length_drop, hJb]; omega) | (rw [hmx]; simp; omega) | (simp; done) | (simp; omega))); simp only [Tryd.f5, B8_size, B8_cut, B8_eq, B8_mk, B8_app, Int.toNat_natCast, List.range_zero, List.getD_cons_zero, List.getD_cons_succ, Nat.reduceMod, List.filter_cons, List.filter_nil, al, al0, TX, wlen, wi, ws, List.cons_append, List.nil_append, go_sem])
          refine ⟨(0, 0 + 1), ⟨by dsimp only; omega, by dsimp only; omega, fun _ => by dsimp only; omega, ?_, ?_⟩, by dsimp only; omega, ?_⟩
          · exact h4
          · exact hall
          rw [show stJ a b (0, 0 + 1) = ⟨[(0, .val (.lst a.length (JC a))), (1, .val (.lst b.length (JC b))), (5, .nil), (6, .row 65), (7, .val (.int .i64 ((0 + 1 : Nat) : Int)))], [(65, (.row 34 6 (0 + 1) (JC (b.take (0 + 1))), false))]⟩ from rfl]
          rw [hcs, show JC (b.take 0) = [] from rfl, List.nil_append]
          simp [Wk, sget, killL, kill1, SV.key]
          try first | omega | decide
      | succ ny =>
        rw [show stJ a b (0, ny + 1) = ⟨[(0, .val (.lst a.length (JC a))), (1, .val (.lst b.length (JC b))), (5, .nil), (6, .row 65), (7, .val (.int .i64 ((ny + 1 : Nat) : Int)))], [(65, (.row 34 6 (ny + 1) (JC (b.take (ny + 1))), false))]⟩ from rfl]
        have wi : IntKind.wrap .i64 (((ny + 1 : Nat) : Int) + 1) = ((ny + 1 + 1 : Nat) : Int) := by rw [wrap64 (by omega) (by omega)]; omega
        have ws : IntKind.wrap .i64 (((ny + 1 : Nat) : Int) - (a.length : Int)) = ((ny + 1 : Nat) : Int) := by rw [wrap64 (by omega) (by omega)]; omega
        have al0 := al
        simp only [Tryd.f5, B8_size, B8_cut, B8_eq, B8_mk, B8_app, Int.toNat_natCast, List.range_zero, List.getD_cons_zero, List.getD_cons_succ, Nat.reduceMod, wlen, go_sem]
        refine qif_dt (by omega) ?_
        simp only [Tryd.f5, B8_size, B8_cut, B8_eq, B8_mk, B8_app, Int.toNat_natCast, List.range_zero, List.getD_cons_zero, List.getD_cons_succ, Nat.reduceMod, List.filter_cons, List.filter_nil, al, al0, TX, wlen, wi, ws, List.cons_append, List.nil_append, go_sem]
        refine qif_df (by omega) ?_
        simp only [Tryd.f5, B8_size, B8_cut, B8_eq, B8_mk, B8_app, Int.toNat_natCast, List.range_zero, List.getD_cons_zero, List.getD_cons_succ, Nat.reduceMod, List.filter_cons, List.filter_nil, al, al0, TX, wlen, wi, ws, List.cons_append, List.nil_append, go_sem]
        cases ok with
        | false =>
          repeat' first
            | ((with_reducible refine qcall_i k1 ?_); simp only [Tryd.f5, B8_size, B8_cut, B8_eq, B8_mk, B8_app, Int.toNat_natCast, List.range_zero, List.getD_cons_zero, List.getD_cons_succ, Nat.reduceMod, List.filter_cons, List.filter_nil, al, al0, TX, wlen, wi, ws, List.cons_append, List.nil_append, go_sem])
            | ((with_reducible refine qcall_i k2 ?_); simp only [Tryd.f5, B8_size, B8_cut, B8_eq, B8_mk, B8_app, Int.toNat_natCast, List.range_zero, List.getD_cons_zero, List.getD_cons_succ, Nat.reduceMod, List.filter_cons, List.filter_nil, al, al0, TX, wlen, wi, ws, List.cons_append, List.nil_append, go_sem])
            | ((with_reducible refine qcall_i k3 ?_); simp only [Tryd.f5, B8_size, B8_cut, B8_eq, B8_mk, B8_app, Int.toNat_natCast, List.range_zero, List.getD_cons_zero, List.getD_cons_succ, Nat.reduceMod, List.filter_cons, List.filter_nil, al, al0, TX, wlen, wi, ws, List.cons_append, List.nil_append, go_sem])
            | ((with_reducible refine qcall_i k4 ?_); simp only [Tryd.f5, B8_size, B8_cut, B8_eq, B8_mk, B8_app, Int.toNat_natCast, List.range_zero, List.getD_cons_zero, List.getD_cons_succ, Nat.reduceMod, List.filter_cons, List.filter_nil, al, al0, TX, wlen, wi, ws, List.cons_append, List.nil_append, go_sem])
            | ((refine qand_i ?_ ?_; focus (first | omega | (rw [hmx]; omega) | (rw [hJa]; omega) | (rw [hJb]; omega) | (rw [List.length_drop, hJa]; omega) | (rw [List.length_drop, hJb]; omega) | (rw [hmx]; simp; omega) | (simp; done) | (simp; omega))); simp only [Tryd.f5, B8_size, B8_cut, B8_eq, B8_mk, B8_app, Int.toNat_natCast, List.range_zero, List.getD_cons_zero, List.getD_cons_succ, Nat.reduceMod, List.filter_cons, List.filter_nil, al, al0, TX, wlen, wi, ws, List.cons_append, List.nil_append, go_sem])
          try rfl
        | true =>
          obtain ⟨p1, p0⟩ := k5 rfl
          repeat' first
            | ((with_reducible refine qcall_i k1 ?_); simp only [Tryd.f5, B8_size, B8_cut, B8_eq, B8_mk, B8_app, Int.toNat_natCast, List.range_zero, List.getD_cons_zero, List.getD_cons_succ, Nat.reduceMod, List.filter_cons, List.filter_nil, al, al0, TX, wlen, wi, ws, List.cons_append, List.nil_append, go_sem])
            | ((with_reducible refine qcall_i k2 ?_); simp only [Tryd.f5, B8_size, B8_cut, B8_eq, B8_mk, B8_app, Int.toNat_natCast, List.range_zero, List.getD_cons_zero, List.getD_cons_succ, Nat.reduceMod, List.filter_cons, List.filter_nil, al, al0, TX, wlen, wi, ws, List.cons_append, List.nil_append, go_sem])
            | ((with_reducible refine qcall_i k3 ?_); simp only [Tryd.f5, B8_size, B8_cut, B8_eq, B8_mk, B8_app, Int.toNat_natCast, List.range_zero, List.getD_cons_zero, List.getD_cons_succ, Nat.reduceMod, List.filter_cons, List.filter_nil, al, al0, TX, wlen, wi, ws, List.cons_append, List.nil_append, go_sem])
            | ((with_reducible refine qcall_i k4 ?_); simp only [Tryd.f5, B8_size, B8_cut, B8_eq, B8_mk, B8_app, Int.toNat_natCast, List.range_zero, List.getD_cons_zero, List.getD_cons_succ, Nat.reduceMod, List.filter_cons, List.filter_nil, al, al0, TX, wlen, wi, ws, List.cons_append, List.nil_append, go_sem])
            | ((with_reducible refine qcall_i p1 ?_); simp only [Tryd.f5, B8_size, B8_cut, B8_eq, B8_mk, B8_app, Int.toNat_natCast, List.range_zero, List.getD_cons_zero, List.getD_cons_succ, Nat.reduceMod, List.filter_cons, List.filter_nil, al, al0, TX, wlen, wi, ws, List.cons_append, List.nil_append, go_sem])
            | ((with_reducible refine qcall_i p0 ?_); simp only [Tryd.f5, B8_size, B8_cut, B8_eq, B8_mk, B8_app, Int.toNat_natCast, List.range_zero, List.getD_cons_zero, List.getD_cons_succ, Nat.reduceMod, List.filter_cons, List.filter_nil, al, al0, TX, wlen, wi, ws, List.cons_append, List.nil_append, go_sem])
            | ((refine qand_i ?_ ?_; focus (first | omega | (rw [hmx]; omega) | (rw [hJa]; omega) | (rw [hJb]; omega) | (rw [List.length_drop, hJa]; omega) | (rw [List.length_drop, hJb]; omega) | (rw [hmx]; simp; omega) | (simp; done) | (simp; omega))); simp only [Tryd.f5, B8_size, B8_cut, B8_eq, B8_mk, B8_app, Int.toNat_natCast, List.range_zero, List.getD_cons_zero, List.getD_cons_succ, Nat.reduceMod, List.filter_cons, List.filter_nil, al, al0, TX, wlen, wi, ws, List.cons_append, List.nil_append, go_sem])
          refine ⟨(0, ny + 1 + 1), ⟨by dsimp only; omega, by dsimp only; omega, fun _ => by dsimp only; omega, ?_, ?_⟩, by dsimp only; omega, ?_⟩
          · exact h4
          · exact hall
          rw [show stJ a b (0, ny + 1 + 1) = ⟨[(0, .val (.lst a.length (JC a))), (1, .val (.lst b.length (JC b))), (5, .nil), (6, .row 65), (7, .val (.int .i64 ((ny + 1 + 1 : Nat) : Int)))], [(65, (.row 34 6 (ny + 1 + 1) (JC (b.take (ny + 1 + 1))), false))]⟩ from rfl]
          rw [hcs]
          simp [Wk, sget, killL, kill1, SV.key]
          try first | omega | decide
    | succ nx =>
      cases ny with
      | zero =>
        rw [show stJ a b (nx + 1, 0) = ⟨[(0, .val (.lst a.length (JC a))), (1, .val (.lst b.length (JC b))), (5, .row 53), (6, .nil), (7, .val (.int .i64 ((nx + 1 : Nat) : Int)))], [(53, (.row 34 6 (nx + 1) (JC (a.take (nx + 1))), false))]⟩ from rfl]
        have wi : IntKind.wrap .i64 (((nx + 1 : Nat) : Int) + 1) = ((nx + 1 + (1) : Nat) : Int) := by rw [wrap64 (by omega) (by omega)]; omega
        have ws : IntKind.wrap .i64 (((nx + 1 : Nat) : Int) - (a.length : Int)) = ((0 : Nat) : Int) := by rw [wrap64 (by omega) (by omega)]; omega
        have al0 := al
        rw [Nat.zero_mul, List.drop_zero] at al0
        simp only [Tryd.f5, B8_size, B8_cut, B8_eq, B8_mk, B8_app, Int.toNat_natCast, List.range_zero, List.getD_cons_zero, List.getD_cons_succ, Nat.reduceMod, wlen, go_sem]
        refine qif_dt (by omega) ?_
        simp only [Tryd.f5, B8_size, B8_cut, B8_eq, B8_mk, B8_app, Int.toNat_natCast, List.range_zero, List.getD_cons_zero, List.getD_cons_succ, Nat.reduceMod, List.filter_cons, List.filter_nil, al, al0, TX, wlen, wi, ws, List.cons_append, List.nil_append, go_sem]
        refine qif_df (by omega) ?_
        simp only [Tryd.f5, B8_size, B8_cut, B8_eq, B8_mk, B8_app, Int.toNat_natCast, List.range_zero, List.getD_cons_zero, List.getD_cons_succ, Nat.reduceMod, List.filter_cons, List.filter_nil, al, al0, TX, wlen, wi, ws, List.cons_append, List.nil_append, go_sem]
        cases ok with
        | false =>
          repeat' first
            | ((with_reducible refine qcall_i k1 ?_); simp only [Tryd.f5, B8_size, B8_cut, B8_eq, B8_mk, B8_app, Int.toNat_natCast, List.range_zero, List.getD_cons_zero, List.getD_cons_succ, Nat.reduceMod, List.filter_cons, List.filter_nil, al, al0, TX, wlen, wi, ws, List.cons_append, List.nil_append, go_sem])
            | ((with_reducible refine qcall_i k2 ?_); simp only [Tryd.f5, B8_size, B8_cut, B8_eq, B8_mk, B8_app, Int.toNat_natCast, List.range_zero, List.getD_cons_zero, List.getD_cons_succ, Nat.reduceMod, List.filter_cons, List.filter_nil, al, al0, TX, wlen, wi, ws, List.cons_append, List.nil_append, go_sem])
            | ((with_reducible refine qcall_i k3 ?_); simp only [Tryd.f5, B8_size, B8_cut, B8_eq, B8_mk, B8_app, Int.toNat_natCast, List.range_zero, List.getD_cons_zero, List.getD_cons_succ, Nat.reduceMod, List.filter_cons, List.filter_nil, al, al0, TX, wlen, wi, ws, List.cons_append, List.nil_append, go_sem])
            | ((with_reducible refine qcall_i k4 ?_); simp only [Tryd.f5, B8_size, B8_cut, B8_eq, B8_mk, B8_app, Int.toNat_natCast, List.range_zero, List.getD_cons_zero, List.getD_cons_succ, Nat.reduceMod, List.filter_cons, List.filter_nil, al, al0, TX, wlen, wi, ws, List.cons_append, List.nil_append, go_sem])
            | ((refine qand_i ?_ ?_; focus (first | omega | (rw [hmx]; omega) | (rw [hJa]; omega) | (rw [hJb]; omega) | (rw [List.length_drop, hJa]; omega) | (rw [List.length_drop, hJb]; omega) | (rw [hmx]; simp; omega) | (simp; done) | (simp; omega))); simp only [Tryd.f5, B8_size, B8_cut, B8_eq, B8_mk, B8_app, Int.toNat_natCast, List.range_zero, List.getD_cons_zero, List.getD_cons_succ, Nat.reduceMod, List.filter_cons, List.filter_nil, al, al0, TX, wlen, wi, ws, List.cons_append, List.nil_append, go_sem])
          try rfl
        | true =>
          obtain ⟨p1, p0⟩ := k5 rfl
          repeat' first
            | ((with_reducible refine qcall_i k1 ?_); simp only [Tryd.f5, B8_size, B8_cut, B8_eq, B8_mk, B8_app, Int.toNat_natCast, List.range_zero, List.getD_cons_zero, List.getD_cons_succ, Nat.reduceMod, List.filter_cons, List.filter_nil, al, al0, TX, wlen, wi, ws, List.cons_append, List.nil_append, go_sem])
            | ((with_reducible refine qcall_i k2 ?_); simp only [Tryd.f5, B8_size, B8_cut, B8_eq, B8_mk, B8_app, Int.toNat_natCast, List.range_zero, List.getD_cons_zero, List.getD_cons_succ, Nat.reduceMod, List.filter_cons, List.filter_nil, al, al0, TX, wlen, wi, ws, List.cons_append, List.nil_append, go_sem])
            | ((with_reducible refine qcall_i k3 ?_); simp only [Tryd.f5, B8_size, B8_cut, B8_eq, B8_mk, B8_app, Int.toNat_natCast, List.range_zero, List.getD_cons_zero, List.getD_cons_succ, Nat.reduceMod, List.filter_cons, List.filter_nil, al, al0, TX, wlen, wi, ws, List.cons_append, List.nil_append, go_sem])
            | ((with_reducible refine qcall_i k4 ?_); simp only [Tryd.f5, B8_size, B8_cut, B8_eq, B8_mk, B8_app, Int.toNat_natCast, List.range_zero, List.getD_cons_zero, List.getD_cons_succ, Nat.reduceMod, List.filter_cons, List.filter_nil, al, al0, TX, wlen, wi, ws, List.cons_append, List.nil_append, go_sem])
            | ((with_reducible refine qcall_i p1 ?_); simp only [Tryd.f5, B8_size, B8_cut, B8_eq, B8_mk, B8_app, Int.toNat_natCast, List.range_zero, List.getD_cons_zero, List.getD_cons_succ, Nat.reduceMod, List.filter_cons, List.filter_nil, al, al0, TX, wlen, wi, ws, List.cons_append, List.nil_append, go_sem])
            | ((with_reducible refine qcall_i p0 ?_); simp only [Tryd.f5, B8_size, B8_cut, B8_eq, B8_mk, B8_app, Int.toNat_natCast, List.range_zero, List.getD_cons_zero, List.getD_cons_succ, Nat.reduceMod, List.filter_cons, List.filter_nil, al, al0, TX, wlen, wi, ws, List.cons_append, List.nil_append, go_sem])
            | ((refine qand_i ?_ ?_; focus (first | omega | (rw [hmx]; omega) | (rw [hJa]; omega) | (rw [hJb]; omega) | (rw [List.length_drop, hJa]; omega) | (rw [List.length_drop, hJb]; omega) | (rw [hmx]; simp; omega) | (simp; done) | (simp; omega))); simp only [Tryd.f5, B8_size, B8_cut, B8_eq, B8_mk, B8_app, Int.toNat_natCast, List.range_zero, List.getD_cons_zero, List.getD_cons_succ, Nat.reduceMod, List.filter_cons, List.filter_nil, al, al0, TX, wlen, wi, ws, List.cons_append, List.nil_append, go_sem])
          refine ⟨(nx + 1, 0 + 1), ⟨by dsimp only; omega, by dsimp only; omega, fun _ => by dsimp only; omega, ?_, ?_⟩, by dsimp only; omega, ?_⟩
          · exact h4
          · exact hall
          rw [show stJ a b (nx + 1, 0 + 1) = ⟨[(0, .val (.lst a.length (JC a))), (1, .val (.lst b.length (JC b))), (5, .row 53), (6, .row 65), (7, .val (.int .i64 ((nx + 1 + (0 + 1) : Nat) : Int)))], [(53, (.row 34 6 (nx + 1) (JC (a.take (nx + 1))), false)), (65, (.row 34 6 (0 + 1) (JC (b.take (0 + 1))), false))]⟩ from rfl]
          rw [hcs, show JC (b.take 0) = [] from rfl, List.nil_append]
          simp [Wk, sget, killL, kill1, SV.key]
          try first | omega | decide
      | succ ny =>
        rw [show stJ a b (nx + 1, ny + 1) = ⟨[(0, .val (.lst a.length (JC a))), (1, .val (.lst b.length (JC b))), (5, .row 53), (6, .row 65), (7, .val (.int .i64 ((nx + 1 + (ny + 1) : Nat) : Int)))], [(53, (.row 34 6 (nx + 1) (JC (a.take (nx + 1))), false)), (65, (.row 34 6 (ny + 1) (JC (b.take (ny + 1))), false))]⟩ from rfl]
        have wi : IntKind.wrap .i64 (((nx + 1 + (ny + 1) : Nat) : Int) + 1) = ((nx + 1 + (ny + 1 + 1) : Nat) : Int) := by rw [wrap64 (by omega) (by omega)]; omega
        have ws : IntKind.wrap .i64 (((nx + 1 + (ny + 1) : Nat) : Int) - (a.length : Int)) = ((ny + 1 : Nat) : Int) := by rw [wrap64 (by omega) (by omega)]; omega
        have al0 := al
        simp only [Tryd.f5, B8_size, B8_cut, B8_eq, B8_mk, B8_app, Int.toNat_natCast, List.range_zero, List.getD_cons_zero, List.getD_cons_succ, Nat.reduceMod, wlen, go_sem]
        refine qif_dt (by omega) ?_
        simp only [Tryd.f5, B8_size, B8_cut, B8_eq, B8_mk, B8_app, Int.toNat_natCast, List.range_zero, List.getD_cons_zero, List.getD_cons_succ, Nat.reduceMod, List.filter_cons, List.filter_nil, al, al0, TX, wlen, wi, ws, List.cons_append, List.nil_append, go_sem]
        refine qif_df (by omega) ?_
        simp only [Tryd.f5, B8_size, B8_cut, B8_eq, B8_mk, B8_app, Int.toNat_natCast, List.range_zero, List.getD_cons_zero, List.getD_cons_succ, Nat.reduceMod, List.filter_cons, List.filter_nil, al, al0, TX, wlen, wi, ws, List.cons_append, List.nil_append, go_sem]
        cases ok with
        | false =>
          repeat' first
            | ((with_reducible refine qcall_i k1 ?_); simp only [Tryd.f5, B8_size, B8_cut, B8_eq, B8_mk, B8_app, Int.toNat_natCast, List.range_zero, List.getD_cons_zero, List.getD_cons_succ, Nat.reduceMod, List.filter_cons, List.filter_nil, al, al0, TX, wlen, wi, ws, List.cons_append, List.nil_append, go_sem])
            | ((with_reducible refine qcall_i k2 ?_); simp only [Tryd.f5, B8_size, B8_cut, B8_eq, B8_mk, B8_app, Int.toNat_natCast, List.range_zero, List.getD_cons_zero, List.getD_cons_succ, Nat.reduceMod, List.filter_cons, List.filter_nil, al, al0, TX, wlen, wi, ws, List.cons_append, List.nil_append, go_sem])
            | ((with_reducible refine qcall_i k3 ?_); simp only [Tryd.f5, B8_size, B8_cut, B8_eq, B8_mk, B8_app, Int.toNat_natCast, List.range_zero, List.getD_cons_zero, List.getD_cons_succ, Nat.reduceMod, List.filter_cons, List.filter_nil, al, al0, TX, wlen, wi, ws, List.cons_append, List.nil_append, go_sem])
            | ((with_reducible refine qcall_i k4 ?_); simp only [Tryd.f5, B8_size, B8_cut, B8_eq, B8_mk, B8_app, Int.toNat_natCast, List.range_zero, List.getD_cons_zero, List.getD_cons_succ, Nat.reduceMod, List.filter_cons, List.filter_nil, al, al0, TX, wlen, wi, ws, List.cons_append, List.nil_append, go_sem])
            | ((refine qand_i ?_ ?_; focus (first | omega | (rw [hmx]; omega) | (rw [hJa]; omega) | (rw [hJb]; omega) | (rw [List.length_drop, hJa]; omega) | (rw [List.length_drop, hJb]; omega) | (rw [hmx]; simp; omega) | (simp; done) | (simp; omega))); simp only [Tryd.f5, B8_size, B8_cut, B8_eq, B8_mk, B8_app, Int.toNat_natCast, List.range_zero, List.getD_cons_zero, List.getD_cons_succ, Nat.reduceMod, List.filter_cons, List.filter_nil, al, al0, TX, wlen, wi, ws, List.cons_append, List.nil_append, go_sem])
          try rfl
        | true =>
          obtain ⟨p1, p0⟩ := k5 rfl
          repeat' first
            | ((with_reducible refine qcall_i k1 ?_); simp only [Tryd.f5, B8_size, B8_cut, B8_eq, B8_mk, B8_app, Int.toNat_natCast, List.range_zero, List.getD_cons_zero, List.getD_cons_succ, Nat.reduceMod, List.filter_cons, List.filter_nil, al, al0, TX, wlen, wi, ws, List.cons_append, List.nil_append, go_sem])
            | ((with_reducible refine qcall_i k2 ?_); simp only [Tryd.f5, B8_size, B8_cut, B8_eq, B8_mk, B8_app, Int.toNat_natCast, List.range_zero, List.getD_cons_zero, List.getD_cons_succ, Nat.reduceMod, List.filter_cons, List.filter_nil, al, al0, TX, wlen, wi, ws, List.cons_append, List.nil_append, go_sem])
            | ((with_reducible refine qcall_i k3 ?_); simp only [Tryd.f5, B8_size, B8_cut, B8_eq, B8_mk, B8_app, Int.toNat_natCast, List.range_zero, List.getD_cons_zero, List.getD_cons_succ, Nat.reduceMod, List.filter_cons, List.filter_nil, al, al0, TX, wlen, wi, ws, List.cons_append, List.nil_append, go_sem])
            | ((with_reducible refine qcall_i k4 ?_); simp only [Tryd.f5, B8_size, B8_cut, B8_eq, B8_mk, B8_app, Int.toNat_natCast, List.range_zero, List.getD_cons_zero, List.getD_cons_succ, Nat.reduceMod, List.filter_cons, List.filter_nil, al, al0, TX, wlen, wi, ws, List.cons_append, List.nil_append, go_sem])
            | ((with_reducible refine qcall_i p1 ?_); simp only [Tryd.f5, B8_size, B8_cut, B8_eq, B8_mk, B8_app, Int.toNat_natCast, List.range_zero, List.getD_cons_zero, List.getD_cons_succ, Nat.reduceMod, List.filter_cons, List.filter_nil, al, al0, TX, wlen, wi, ws, List.cons_append, List.nil_append, go_sem])
            | ((with_reducible refine qcall_i p0 ?_); simp only [Tryd.f5, B8_size, B8_cut, B8_eq, B8_mk, B8_app, Int.toNat_natCast, List.range_zero, List.getD_cons_zero, List.getD_cons_succ, Nat.reduceMod, List.filter_cons, List.filter_nil, al, al0, TX, wlen, wi, ws, List.cons_append, List.nil_append, go_sem])
            | ((refine qand_i ?_ ?_; focus (first | omega | (rw [hmx]; omega) | (rw [hJa]; omega) | (rw [hJb]; omega) | (rw [List.length_drop, hJa]; omega) | (rw [List.length_drop, hJb]; omega) | (rw [hmx]; simp; omega) | (simp; done) | (simp; omega))); simp only [Tryd.f5, B8_size, B8_cut, B8_eq, B8_mk, B8_app, Int.toNat_natCast, List.range_zero, List.getD_cons_zero, List.getD_cons_succ, Nat.reduceMod, List.filter_cons, List.filter_nil, al, al0, TX, wlen, wi, ws, List.cons_append, List.nil_append, go_sem])
          refine ⟨(nx + 1, ny + 1 + 1), ⟨by dsimp only; omega, by dsimp only; omega, fun _ => by dsimp only; omega, ?_, ?_⟩, by dsimp only; omega, ?_⟩
          · exact h4
          · exact hall
          rw [show stJ a b (nx + 1, ny + 1 + 1) = ⟨[(0, .val (.lst a.length (JC a))), (1, .val (.lst b.length (JC b))), (5, .row 53), (6, .row 65), (7, .val (.int .i64 ((nx + 1 + (ny + 1 + 1) : Nat) : Int)))], [(53, (.row 34 6 (nx + 1) (JC (a.take (nx + 1))), false)), (65, (.row 34 6 (ny + 1 + 1) (JC (b.take (ny + 1 + 1))), false))]⟩ from rfl]
          rw [hcs]
          simp [Wk, sget, killL, kill1, SV.key]
          try first | omega | decide
  have hyb : ny = b.length := by omega
  have haa : a.all Jb.ok = true := by rw [hxa, List.take_length] at h4; exact h4
  have hbb : b.all Jb.ok = true := by rw [hyb, List.take_length] at h5; exact h5
  have fa := flat_len a hwa
  have fb := flat_len b hwb
  have kA := j_Print (l := a) (by omega) hwa rfl
  have kB := j_Print (l := b) (by omega) hwb rfl
  rw [if_pos haa] at kA
  rw [if_pos hbb] at kB
  have kP := j_Parse (s := a.flatMap Jb.line ++ b.flatMap Jb.line) (by rw [List.length_append]; omega)
  have hps := psF_lines (a ++ b) [] [] (fun j hj => by
    rcases List.mem_append.1 hj with hj | hj
    · exact ⟨hwa j hj, List.all_eq_true.1 haa j hj⟩
    · exact ⟨hwb j hj, List.all_eq_true.1 hbb j hj⟩)
  rw [List.append_nil, psF_nil, List.nil_append, List.flatMap_append] at hps
  rw [hps] at kP
  have hN : (a ++ b).length = a.length + b.length := List.length_append
  have hJab := JC_len (a ++ b)
  dsimp only at kP
  rw [hN] at kP hJab
  have hat : ∀ m, m < a.length → ∃ j : Jb, ((JC (a ++ b)).drop (m * 6)).take 6 = j.cs ∧ ((JC a).drop (m * 6)).take 6 = j.cs := fun m hm => by
    have hj : a[m]? = some a[m] := List.getElem?_eq_getElem hm
    exact ⟨a[m], JC_at (by rw [List.getElem?_append_left hm]; exact hj), JC_at hj⟩
  have hbt : ∀ m, a.length ≤ m → m < a.length + b.length → ∃ j : Jb, ((JC (a ++ b)).drop (m * 6)).take 6 = j.cs ∧ ((JC b).drop ((m - a.length) * 6)).take 6 = j.cs := fun m h1 h2 => by
    have hj : b[m - a.length]? = some (b[m - a.length]'(by omega)) := List.getElem?_eq_getElem _
    exact ⟨_, JC_at (by rw [List.getElem?_append_right h1]; exact hj), JC_at hj⟩
  simp only [TX] at kA kB kP
  clear prep hps h4 h5 haa hbb
  generalize hABc : JC (a ++ b) = AB at *
  generalize a.flatMap Jb.line = la at *
  generalize b.flatMap Jb.line = lb at *
  cases nx with
  | zero =>
    cases ny with
    | zero =>
      rw [show stJ a b (0, 0) = ⟨[(0, .val (.lst a.length (JC a))), (1, .val (.lst b.length (JC b))), (5, .nil), (6, .nil), (7, .val (.int .i64 0))], []⟩ from rfl]
      have ha0 : a = [] := List.length_eq_zero_iff.1 hxa.symm
      subst ha0
      have hla0 : la = [] := List.length_eq_zero_iff.1 (by rw [List.length_nil] at fa; omega)
      subst hla0
      simp only [List.length_nil, JC_nil, Nat.zero_add, List.nil_append] at *
      have hb0 : b = [] := List.length_eq_zero_iff.1 hyb.symm
      subst hb0
      have hlb0 : lb = [] := List.length_eq_zero_iff.1 (by rw [List.length_nil] at fb; omega)
      subst hlb0
      simp only [List.length_nil, JC_nil, Nat.add_zero, List.append_nil] at *
      have wl2 := wlen
      simp only [Tryd.f5, B8_size, B8_cut, B8_eq, B8_mk, B8_app, Int.toNat_natCast, List.range_zero, List.getD_cons_zero, List.getD_cons_succ, Nat.reduceMod, TX, wlen, wl2, List.nil_append, List.append_nil, go_sem]
      try (refine qif_df (by omega) ?_; simp only [Tryd.f5, B8_size, B8_cut, B8_eq, B8_mk, B8_app, Int.toNat_natCast, List.range_zero, List.getD_cons_zero, List.getD_cons_succ, Nat.reduceMod, TX, wlen, wl2, List.nil_append, List.append_nil, go_sem])
      repeat' first
        | ((with_reducible refine qcall_i kA ?_); simp only [Tryd.f5, B8_size, B8_cut, B8_eq, B8_mk, B8_app, Int.toNat_natCast, List.range_zero, List.getD_cons_zero, List.getD_cons_succ, Nat.reduceMod, TX, wlen, wl2, List.nil_append, List.append_nil, go_sem])
        | ((with_reducible refine qcall_i kB ?_); simp only [Tryd.f5, B8_size, B8_cut, B8_eq, B8_mk, B8_app, Int.toNat_natCast, List.range_zero, List.getD_cons_zero, List.getD_cons_succ, Nat.reduceMod, TX, wlen, wl2, List.nil_append, List.append_nil, go_sem])
        | ((with_reducible refine qcall_i kP ?_); simp only [Tryd.f5, B8_size, B8_cut, B8_eq, B8_mk, B8_app, Int.toNat_natCast, List.range_zero, List.getD_cons_zero, List.getD_cons_succ, Nat.reduceMod, TX, wlen, wl2, List.nil_append, List.append_nil, go_sem])
        | ((refine qand_i ?_ ?_; focus (first | omega | (rw [hmx]; omega))); simp only [Tryd.f5, B8_size, B8_cut, B8_eq, B8_mk, B8_app, Int.toNat_natCast, List.range_zero, List.getD_cons_zero, List.getD_cons_succ, Nat.reduceMod, TX, wlen, wl2, List.nil_append, List.append_nil, go_sem])
      refine qif_df ?_ ?_
      · decide
      simp only [Tryd.f5, B8_size, B8_cut, B8_eq, B8_mk, B8_app, Int.toNat_natCast, List.range_zero, List.getD_cons_zero, List.getD_cons_succ, Nat.reduceMod, TX, wlen, wl2, List.nil_append, List.append_nil, go_sem]
      repeat' first
        | ((refine qif_f rfl ?_); simp only [Tryd.f5, B8_size, B8_cut, B8_eq, B8_mk, B8_app, Int.toNat_natCast, List.range_zero, List.getD_cons_zero, List.getD_cons_succ, Nat.reduceMod, TX, wlen, wl2, List.nil_append, List.append_nil, go_sem])
        | ((refine qif_df ?_ ?_; focus omega); simp only [Tryd.f5, B8_size, B8_cut, B8_eq, B8_mk, B8_app, Int.toNat_natCast, List.range_zero, List.getD_cons_zero, List.getD_cons_succ, Nat.reduceMod, TX, wlen, wl2, List.nil_append, List.append_nil, go_sem])
      refine PLoop.intro (fun m : Nat => ⟨[(5, .nil), (6, .nil), (17, .val (.lst (0) AB)), (20, .val (.int .i64 (m : Nat)))], []⟩) (fun m => m ≤ 0) (fun m => (0) - m) 0 (Nat.zero_le _) ?_ fun m hm => walk ?_
      · simp [Wk, sget, killL, kill1, SV.key]
      by_cases hend : 0 ≤ m
      · simp only [Tryd.f5, B8_size, B8_cut, B8_eq, B8_mk, B8_app, Int.toNat_natCast, List.range_zero, List.getD_cons_zero, List.getD_cons_succ, Nat.reduceMod, TX, wlen, go_sem]
        try (refine qif_df ?_ ?_; focus omega)
        try simp only [Tryd.f5, B8_size, B8_cut, B8_eq, B8_mk, B8_app, Int.toNat_natCast, List.range_zero, List.getD_cons_zero, List.getD_cons_succ, Nat.reduceMod, TX, wlen, go_sem]
        try rfl
      exact absurd (Nat.zero_le m) hend
    | succ ny =>
      rw [show stJ a b (0, ny + 1) = ⟨[(0, .val (.lst a.length (JC a))), (1, .val (.lst b.length (JC b))), (5, .nil), (6, .row 65), (7, .val (.int .i64 ((ny + 1 : Nat) : Int)))], [(65, (.row 34 6 (ny + 1) (JC (b.take (ny + 1))), false))]⟩ from rfl]
      have ha0 : a = [] := List.length_eq_zero_iff.1 hxa.symm
      subst ha0
      have hla0 : la = [] := List.length_eq_zero_iff.1 (by rw [List.length_nil] at fa; omega)
      subst hla0
      simp only [List.length_nil, JC_nil, Nat.zero_add, List.nil_append] at *
      rw [hyb, List.take_length]
      have wl2 : IntKind.wrap .i64 (0 + (b.length : Int)) = ((b.length : Nat) : Int) := by rw [wrap64 (by omega) (by omega)]; omega
      simp only [Tryd.f5, B8_size, B8_cut, B8_eq, B8_mk, B8_app, Int.toNat_natCast, List.range_zero, List.getD_cons_zero, List.getD_cons_succ, Nat.reduceMod, TX, wlen, wl2, List.nil_append, List.append_nil, go_sem]
      try (refine qif_df (by omega) ?_; simp only [Tryd.f5, B8_size, B8_cut, B8_eq, B8_mk, B8_app, Int.toNat_natCast, List.range_zero, List.getD_cons_zero, List.getD_cons_succ, Nat.reduceMod, TX, wlen, wl2, List.nil_append, List.append_nil, go_sem])
      repeat' first
        | ((with_reducible refine qcall_i kA ?_); simp only [Tryd.f5, B8_size, B8_cut, B8_eq, B8_mk, B8_app, Int.toNat_natCast, List.range_zero, List.getD_cons_zero, List.getD_cons_succ, Nat.reduceMod, TX, wlen, wl2, List.nil_append, List.append_nil, go_sem])
        | ((with_reducible refine qcall_i kB ?_); simp only [Tryd.f5, B8_size, B8_cut, B8_eq, B8_mk, B8_app, Int.toNat_natCast, List.range_zero, List.getD_cons_zero, List.getD_cons_succ, Nat.reduceMod, TX, wlen, wl2, List.nil_append, List.append_nil, go_sem])
        | ((with_reducible refine qcall_i kP ?_); simp only [Tryd.f5, B8_size, B8_cut, B8_eq, B8_mk, B8_app, Int.toNat_natCast, List.range_zero, List.getD_cons_zero, List.getD_cons_succ, Nat.reduceMod, TX, wlen, wl2, List.nil_append, List.append_nil, go_sem])
        | ((refine qand_i ?_ ?_; focus (first | omega | (rw [hmx]; omega))); simp only [Tryd.f5, B8_size, B8_cut, B8_eq, B8_mk, B8_app, Int.toNat_natCast, List.range_zero, List.getD_cons_zero, List.getD_cons_succ, Nat.reduceMod, TX, wlen, wl2, List.nil_append, List.append_nil, go_sem])
      refine qif_df ?_ ?_
      · decide
      simp only [Tryd.f5, B8_size, B8_cut, B8_eq, B8_mk, B8_app, Int.toNat_natCast, List.range_zero, List.getD_cons_zero, List.getD_cons_succ, Nat.reduceMod, TX, wlen, wl2, List.nil_append, List.append_nil, go_sem]
      repeat' first
        | ((refine qif_f rfl ?_); simp only [Tryd.f5, B8_size, B8_cut, B8_eq, B8_mk, B8_app, Int.toNat_natCast, List.range_zero, List.getD_cons_zero, List.getD_cons_succ, Nat.reduceMod, TX, wlen, wl2, List.nil_append, List.append_nil, go_sem])
        | ((refine qif_df ?_ ?_; focus omega); simp only [Tryd.f5, B8_size, B8_cut, B8_eq, B8_mk, B8_app, Int.toNat_natCast, List.range_zero, List.getD_cons_zero, List.getD_cons_succ, Nat.reduceMod, TX, wlen, wl2, List.nil_append, List.append_nil, go_sem])
      refine PLoop.intro (fun m : Nat => ⟨[(5, .nil), (6, .row 65), (17, .val (.lst (b.length) AB)), (20, .val (.int .i64 (m : Nat)))], [(65, (.row 34 6 b.length (JC b), true))]⟩) (fun m => m ≤ b.length) (fun m => (b.length) - m) 0 (Nat.zero_le _) ?_ fun m hm => walk ?_
      · simp [Wk, sget, killL, kill1, SV.key]
      by_cases hend : b.length ≤ m
      · simp only [Tryd.f5, B8_size, B8_cut, B8_eq, B8_mk, B8_app, Int.toNat_natCast, List.range_zero, List.getD_cons_zero, List.getD_cons_succ, Nat.reduceMod, TX, wlen, go_sem]
        try (refine qif_df ?_ ?_; focus omega)
        try simp only [Tryd.f5, B8_size, B8_cut, B8_eq, B8_mk, B8_app, Int.toNat_natCast, List.range_zero, List.getD_cons_zero, List.getD_cons_succ, Nat.reduceMod, TX, wlen, go_sem]
        try rfl
      · obtain ⟨⟨jo, jx, jy, jn, jd, ju⟩, e1, e2⟩ := hbt m (by omega) (by omega)
        rw [Nat.sub_zero] at e2
        unfold Jb.cs at e1 e2
        dsimp only at e1 e2
        have ws : IntKind.wrap .i64 ((m : Int) - 0) = ((m : Nat) : Int) := by rw [wrap64 (by omega) (by omega)]; omega
        simp only [Tryd.f5, B8_size, B8_cut, B8_eq, B8_mk, B8_app, Int.toNat_natCast, List.range_zero, List.getD_cons_zero, List.getD_cons_succ, Nat.reduceMod, TX, wlen, go_sem]
        repeat' first
          | ((refine qif_f rfl ?_); simp only [Tryd.f5, B8_size, B8_cut, B8_eq, B8_mk, B8_app, Int.toNat_natCast, List.range_zero, List.getD_cons_zero, List.getD_cons_succ, Nat.reduceMod, TX, wlen, e1, e2, ws, go_sem])
          | ((refine qif_dt ?_ ?_; focus omega); simp only [Tryd.f5, B8_size, B8_cut, B8_eq, B8_mk, B8_app, Int.toNat_natCast, List.range_zero, List.getD_cons_zero, List.getD_cons_succ, Nat.reduceMod, TX, wlen, e1, e2, ws, go_sem])
          | ((refine qif_df ?_ ?_; focus omega); simp only [Tryd.f5, B8_size, B8_cut, B8_eq, B8_mk, B8_app, Int.toNat_natCast, List.range_zero, List.getD_cons_zero, List.getD_cons_succ, Nat.reduceMod, TX, wlen, e1, e2, ws, go_sem])
          | ((refine qand_i ?_ ?_; focus (first | omega | (rw [List.length_drop, hJab]; omega) | (rw [List.length_drop, hJa]; omega) | (rw [List.length_drop, hJb]; omega))); simp only [Tryd.f5, B8_size, B8_cut, B8_eq, B8_mk, B8_app, Int.toNat_natCast, List.range_zero, List.getD_cons_zero, List.getD_cons_succ, Nat.reduceMod, TX, wlen, e1, e2, ws, go_sem])
        rw [wrap64 (by omega) (by omega)]
        refine ⟨m + 1, by omega, by omega, ?_⟩
        simp [Wk, sget, killL, kill1, SV.key]
  | succ nx =>
    cases ny with
    | zero =>
      rw [show stJ a b (nx + 1, 0) = ⟨[(0, .val (.lst a.length (JC a))), (1, .val (.lst b.length (JC b))), (5, .row 53), (6, .nil), (7, .val (.int .i64 ((nx + 1 : Nat) : Int)))], [(53, (.row 34 6 (nx + 1) (JC (a.take (nx + 1))), false))]⟩ from rfl]
      rw [hxa, List.take_length]
      have hb0 : b = [] := List.length_eq_zero_iff.1 hyb.symm
      subst hb0
      have hlb0 : lb = [] := List.length_eq_zero_iff.1 (by rw [List.length_nil] at fb; omega)
      subst hlb0
      simp only [List.length_nil, JC_nil, Nat.add_zero, List.append_nil] at *
      have wl2 : IntKind.wrap .i64 ((a.length : Int) + 0) = ((a.length : Nat) : Int) := by rw [wrap64 (by omega) (by omega)]; omega
      simp only [Tryd.f5, B8_size, B8_cut, B8_eq, B8_mk, B8_app, Int.toNat_natCast, List.range_zero, List.getD_cons_zero, List.getD_cons_succ, Nat.reduceMod, TX, wlen, wl2, List.nil_append, List.append_nil, go_sem]
      try (refine qif_df (by omega) ?_; simp only [Tryd.f5, B8_size, B8_cut, B8_eq, B8_mk, B8_app, Int.toNat_natCast, List.range_zero, List.getD_cons_zero, List.getD_cons_succ, Nat.reduceMod, TX, wlen, wl2, List.nil_append, List.append_nil, go_sem])
      repeat' first
        | ((with_reducible refine qcall_i kA ?_); simp only [Tryd.f5, B8_size, B8_cut, B8_eq, B8_mk, B8_app, Int.toNat_natCast, List.range_zero, List.getD_cons_zero, List.getD_cons_succ, Nat.reduceMod, TX, wlen, wl2, List.nil_append, List.append_nil, go_sem])
        | ((with_reducible refine qcall_i kB ?_); simp only [Tryd.f5, B8_size, B8_cut, B8_eq, B8_mk, B8_app, Int.toNat_natCast, List.range_zero, List.getD_cons_zero, List.getD_cons_succ, Nat.reduceMod, TX, wlen, wl2, List.nil_append, List.append_nil, go_sem])
        | ((with_reducible refine qcall_i kP ?_); simp only [Tryd.f5, B8_size, B8_cut, B8_eq, B8_mk, B8_app, Int.toNat_natCast, List.range_zero, List.getD_cons_zero, List.getD_cons_succ, Nat.reduceMod, TX, wlen, wl2, List.nil_append, List.append_nil, go_sem])
        | ((refine qand_i ?_ ?_; focus (first | omega | (rw [hmx]; omega))); simp only [Tryd.f5, B8_size, B8_cut, B8_eq, B8_mk, B8_app, Int.toNat_natCast, List.range_zero, List.getD_cons_zero, List.getD_cons_succ, Nat.reduceMod, TX, wlen, wl2, List.nil_append, List.append_nil, go_sem])
      refine qif_df ?_ ?_
      · decide
      simp only [Tryd.f5, B8_size, B8_cut, B8_eq, B8_mk, B8_app, Int.toNat_natCast, List.range_zero, List.getD_cons_zero, List.getD_cons_succ, Nat.reduceMod, TX, wlen, wl2, List.nil_append, List.append_nil, go_sem]
      repeat' first
        | ((refine qif_f rfl ?_); simp only [Tryd.f5, B8_size, B8_cut, B8_eq, B8_mk, B8_app, Int.toNat_natCast, List.range_zero, List.getD_cons_zero, List.getD_cons_succ, Nat.reduceMod, TX, wlen, wl2, List.nil_append, List.append_nil, go_sem])
        | ((refine qif_df ?_ ?_; focus omega); simp only [Tryd.f5, B8_size, B8_cut, B8_eq, B8_mk, B8_app, Int.toNat_natCast, List.range_zero, List.getD_cons_zero, List.getD_cons_succ, Nat.reduceMod, TX, wlen, wl2, List.nil_append, List.append_nil, go_sem])
      refine PLoop.intro (fun m : Nat => ⟨[(5, .row 53), (6, .nil), (17, .val (.lst (a.length) AB)), (20, .val (.int .i64 (m : Nat)))], [(53, (.row 34 6 a.length (JC a), true))]⟩) (fun m => m ≤ a.length) (fun m => (a.length) - m) 0 (Nat.zero_le _) ?_ fun m hm => walk ?_
      · simp [Wk, sget, killL, kill1, SV.key]
      by_cases hend : a.length ≤ m
      · simp only [Tryd.f5, B8_size, B8_cut, B8_eq, B8_mk, B8_app, Int.toNat_natCast, List.range_zero, List.getD_cons_zero, List.getD_cons_succ, Nat.reduceMod, TX, wlen, go_sem]
        try (refine qif_df ?_ ?_; focus omega)
        try simp only [Tryd.f5, B8_size, B8_cut, B8_eq, B8_mk, B8_app, Int.toNat_natCast, List.range_zero, List.getD_cons_zero, List.getD_cons_succ, Nat.reduceMod, TX, wlen, go_sem]
        try rfl
      · obtain ⟨⟨jo, jx, jy, jn, jd, ju⟩, e1, e2⟩ := hat m (by omega)
        unfold Jb.cs at e1 e2
        dsimp only at e1 e2
        have ws := wlen
        simp only [Tryd.f5, B8_size, B8_cut, B8_eq, B8_mk, B8_app, Int.toNat_natCast, List.range_zero, List.getD_cons_zero, List.getD_cons_succ, Nat.reduceMod, TX, wlen, go_sem]
        repeat' first
          | ((refine qif_f rfl ?_); simp only [Tryd.f5, B8_size, B8_cut, B8_eq, B8_mk, B8_app, Int.toNat_natCast, List.range_zero, List.getD_cons_zero, List.getD_cons_succ, Nat.reduceMod, TX, wlen, e1, e2, ws, go_sem])
          | ((refine qif_dt ?_ ?_; focus omega); simp only [Tryd.f5, B8_size, B8_cut, B8_eq, B8_mk, B8_app, Int.toNat_natCast, List.range_zero, List.getD_cons_zero, List.getD_cons_succ, Nat.reduceMod, TX, wlen, e1, e2, ws, go_sem])
          | ((refine qif_df ?_ ?_; focus omega); simp only [Tryd.f5, B8_size, B8_cut, B8_eq, B8_mk, B8_app, Int.toNat_natCast, List.range_zero, List.getD_cons_zero, List.getD_cons_succ, Nat.reduceMod, TX, wlen, e1, e2, ws, go_sem])
          | ((refine qand_i ?_ ?_; focus (first | omega | (rw [List.length_drop, hJab]; omega) | (rw [List.length_drop, hJa]; omega) | (rw [List.length_drop, hJb]; omega))); simp only [Tryd.f5, B8_size, B8_cut, B8_eq, B8_mk, B8_app, Int.toNat_natCast, List.range_zero, List.getD_cons_zero, List.getD_cons_succ, Nat.reduceMod, TX, wlen, e1, e2, ws, go_sem])
        rw [wrap64 (by omega) (by omega)]
        refine ⟨m + 1, by omega, by omega, ?_⟩
        simp [Wk, sget, killL, kill1, SV.key]
    | succ ny =>
      rw [show stJ a b (nx + 1, ny + 1) = ⟨[(0, .val (.lst a.length (JC a))), (1, .val (.lst b.length (JC b))), (5, .row 53), (6, .row 65), (7, .val (.int .i64 ((nx + 1 + (ny + 1) : Nat) : Int)))], [(53, (.row 34 6 (nx + 1) (JC (a.take (nx + 1))), false)), (65, (.row 34 6 (ny + 1) (JC (b.take (ny + 1))), false))]⟩ from rfl]
      rw [hxa, List.take_length]
      rw [hyb, List.take_length]
      have wl2 := wlen
      simp only [Tryd.f5, B8_size, B8_cut, B8_eq, B8_mk, B8_app, Int.toNat_natCast, List.range_zero, List.getD_cons_zero, List.getD_cons_succ, Nat.reduceMod, TX, wlen, wl2, List.nil_append, List.append_nil, go_sem]
      try (refine qif_df (by omega) ?_; simp only [Tryd.f5, B8_size, B8_cut, B8_eq, B8_mk, B8_app, Int.toNat_natCast, List.range_zero, List.getD_cons_zero, List.getD_cons_succ, Nat.reduceMod, TX, wlen, wl2, List.nil_append, List.append_nil, go_sem])
      repeat' first
        | ((with_reducible refine qcall_i kA ?_); simp only [Tryd.f5, B8_size, B8_cut, B8_eq, B8_mk, B8_app, Int.toNat_natCast, List.range_zero, List.getD_cons_zero, List.getD_cons_succ, Nat.reduceMod, TX, wlen, wl2, List.nil_append, List.append_nil, go_sem])
        | ((with_reducible refine qcall_i kB ?_); simp only [Tryd.f5, B8_size, B8_cut, B8_eq, B8_mk, B8_app, Int.toNat_natCast, List.range_zero, List.getD_cons_zero, List.getD_cons_succ, Nat.reduceMod, TX, wlen, wl2, List.nil_append, List.append_nil, go_sem])
        | ((with_reducible refine qcall_i kP ?_); simp only [Tryd.f5, B8_size, B8_cut, B8_eq, B8_mk, B8_app, Int.toNat_natCast, List.range_zero, List.getD_cons_zero, List.getD_cons_succ, Nat.reduceMod, TX, wlen, wl2, List.nil_append, List.append_nil, go_sem])
        | ((refine qand_i ?_ ?_; focus (first | omega | (rw [hmx]; omega))); simp only [Tryd.f5, B8_size, B8_cut, B8_eq, B8_mk, B8_app, Int.toNat_natCast, List.range_zero, List.getD_cons_zero, List.getD_cons_succ, Nat.reduceMod, TX, wlen, wl2, List.nil_append, List.append_nil, go_sem])
      refine qif_df ?_ ?_
      · decide
      simp only [Tryd.f5, B8_size, B8_cut, B8_eq, B8_mk, B8_app, Int.toNat_natCast, List.range_zero, List.getD_cons_zero, List.getD_cons_succ, Nat.reduceMod, TX, wlen, wl2, List.nil_append, List.append_nil, go_sem]
      repeat' first
        | ((refine qif_f rfl ?_); simp only [Tryd.f5, B8_size, B8_cut, B8_eq, B8_mk, B8_app, Int.toNat_natCast, List.range_zero, List.getD_cons_zero, List.getD_cons_succ, Nat.reduceMod, TX, wlen, wl2, List.nil_append, List.append_nil, go_sem])
        | ((refine qif_df ?_ ?_; focus omega); simp only [Tryd.f5, B8_size, B8_cut, B8_eq, B8_mk, B8_app, Int.toNat_natCast, List.range_zero, List.getD_cons_zero, List.getD_cons_succ, Nat.reduceMod, TX, wlen, wl2, List.nil_append, List.append_nil, go_sem])
      refine PLoop.intro (fun m : Nat => ⟨[(5, .row 53), (6, .row 65), (17, .val (.lst (a.length + b.length) AB)), (20, .val (.int .i64 (m : Nat)))], [(53, (.row 34 6 a.length (JC a), true)), (65, (.row 34 6 b.length (JC b), true))]⟩) (fun m => m ≤ a.length + b.length) (fun m => (a.length + b.length) - m) 0 (Nat.zero_le _) ?_ fun m hm => walk ?_
      · simp [Wk, sget, killL, kill1, SV.key]
      by_cases hend : a.length + b.length ≤ m
      · simp only [Tryd.f5, B8_size, B8_cut, B8_eq, B8_mk, B8_app, Int.toNat_natCast, List.range_zero, List.getD_cons_zero, List.getD_cons_succ, Nat.reduceMod, TX, wlen, go_sem]
        try (refine qif_df ?_ ?_; focus omega)
        try simp only [Tryd.f5, B8_size, B8_cut, B8_eq, B8_mk, B8_app, Int.toNat_natCast, List.range_zero, List.getD_cons_zero, List.getD_cons_succ, Nat.reduceMod, TX, wlen, go_sem]
        try rfl
      by_cases hm2 : m < a.length
      · obtain ⟨⟨jo, jx, jy, jn, jd, ju⟩, e1, e2⟩ := hat m hm2
        unfold Jb.cs at e1 e2
        dsimp only at e1 e2
        have ws := wlen
        simp only [Tryd.f5, B8_size, B8_cut, B8_eq, B8_mk, B8_app, Int.toNat_natCast, List.range_zero, List.getD_cons_zero, List.getD_cons_succ, Nat.reduceMod, TX, wlen, go_sem]
        repeat' first
          | ((refine qif_f rfl ?_); simp only [Tryd.f5, B8_size, B8_cut, B8_eq, B8_mk, B8_app, Int.toNat_natCast, List.range_zero, List.getD_cons_zero, List.getD_cons_succ, Nat.reduceMod, TX, wlen, e1, e2, ws, go_sem])
          | ((refine qif_dt ?_ ?_; focus omega); simp only [Tryd.f5, B8_size, B8_cut, B8_eq, B8_mk, B8_app, Int.toNat_natCast, List.range_zero, List.getD_cons_zero, List.getD_cons_succ, Nat.reduceMod, TX, wlen, e1, e2, ws, go_sem])
          | ((refine qif_df ?_ ?_; focus omega); simp only [Tryd.f5, B8_size, B8_cut, B8_eq, B8_mk, B8_app, Int.toNat_natCast, List.range_zero, List.getD_cons_zero, List.getD_cons_succ, Nat.reduceMod, TX, wlen, e1, e2, ws, go_sem])
          | ((refine qand_i ?_ ?_; focus (first | omega | (rw [List.length_drop, hJab]; omega) | (rw [List.length_drop, hJa]; omega) | (rw [List.length_drop, hJb]; omega))); simp only [Tryd.f5, B8_size, B8_cut, B8_eq, B8_mk, B8_app, Int.toNat_natCast, List.range_zero, List.getD_cons_zero, List.getD_cons_succ, Nat.reduceMod, TX, wlen, e1, e2, ws, go_sem])
        rw [wrap64 (by omega) (by omega)]
        refine ⟨m + 1, by omega, by omega, ?_⟩
        simp [Wk, sget, killL, kill1, SV.key]
      · obtain ⟨⟨jo, jx, jy, jn, jd, ju⟩, e1, e2⟩ := hbt m (by omega) (by omega)
        unfold Jb.cs at e1 e2
        dsimp only at e1 e2
        have ws : IntKind.wrap .i64 ((m : Int) - (a.length : Int)) = ((m - a.length : Nat) : Int) := by rw [wrap64 (by omega) (by omega)]; omega
        simp only [Tryd.f5, B8_size, B8_cut, B8_eq, B8_mk, B8_app, Int.toNat_natCast, List.range_zero, List.getD_cons_zero, List.getD_cons_succ, Nat.reduceMod, TX, wlen, go_sem]
        repeat' first
          | ((refine qif_f rfl ?_); simp only [Tryd.f5, B8_size, B8_cut, B8_eq, B8_mk, B8_app, Int.toNat_natCast, List.range_zero, List.getD_cons_zero, List.getD_cons_succ, Nat.reduceMod, TX, wlen, e1, e2, ws, go_sem])
          | ((refine qif_dt ?_ ?_; focus omega); simp only [Tryd.f5, B8_size, B8_cut, B8_eq, B8_mk, B8_app, Int.toNat_natCast, List.range_zero, List.getD_cons_zero, List.getD_cons_succ, Nat.reduceMod, TX, wlen, e1, e2, ws, go_sem])
          | ((refine qif_df ?_ ?_; focus omega); simp only [Tryd.f5, B8_size, B8_cut, B8_eq, B8_mk, B8_app, Int.toNat_natCast, List.range_zero, List.getD_cons_zero, List.getD_cons_succ, Nat.reduceMod, TX, wlen, e1, e2, ws, go_sem])
          | ((refine qand_i ?_ ?_; focus (first | omega | (rw [List.length_drop, hJab]; omega) | (rw [List.length_drop, hJa]; omega) | (rw [List.length_drop, hJb]; omega))); simp only [Tryd.f5, B8_size, B8_cut, B8_eq, B8_mk, B8_app, Int.toNat_natCast, List.range_zero, List.getD_cons_zero, List.getD_cons_succ, Nat.reduceMod, TX, wlen, e1, e2, ws, go_sem])
        rw [wrap64 (by omega) (by omega)]
        refine ⟨m + 1, by omega, by omega, ?_⟩
        simp [Wk, sget, killL, kill1, SV.key]
end Go.Proofs.YtmnojbkakgfinaaDoor
