/- job.line. -/
import Derived.Test.YtmnojbkakgfinaaDoorJb4
import Derived.Test.YtmnojbkakgfinaaDoorStrJ
open Go PG Go.Proofs Go.RowKit
set_option maxRecDepth 100000
set_option linter.unusedSimpArgs false
set_option linter.unusedVariables false
namespace Go.Proofs.YtmnojbkakgfinaaDoor
attribute [local go_sem] Lay2 Lay3 Lay4 Lay5 Lay6 Lay7 Lay8 Lay9 Lay10 Lay11 Lay12 Lay13 Lay14 Lay15 Lay16 Lay17 Lay18 Lay19 Lay21 Lay23 Lay24 Lay30 Lay31 Lay32 Lay33 Lay34 Lay36 Lay37 Lay49 Lay50 Lay51 Lay52 Lay59 Lay75 Lay77 Lay85 Lay87 Lay89 Lay96 Lay101 Lay112 Lay113 Lay118 Lay119 Lay120 Lay122 Lay123 Lay124 Lay125 Lay126 Lay127 Lay128 Lay129 Lay130 Lay132 Lay133 qexec_seq qexec_skip qexec_exit qexec_ret qexec_block qexec_loop qexec_range qexec_cond qexec_region qexec_drawn qops_nil qops_none qops_some put_some put_none pblk_exit pblk_other newDsts_nil inlDsts_nil isInl sget_cons sget_nil qval_some qbool_some qgs_bool qgs_und qfree_some qgrd_true qgrd_false qif_true qif_false qval_ite qval_itn qand_true map_ite map_some' map_none' qdo_move qdo_assign qdo_binOp qdo_pick qdo_unOp qdo_convert qdo_extract qdo_makeInterface qdo_field qdo_fieldAddr qdo_alloc qdo_box qdo_build qdo_buildSlice qdo_load qdo_store qdo_nilCheck qdo_makeFunc qdo_makeSlice qdo_slice qdo_indexAddr qdo_call qcont_val qcont_new qcont_st qcont_app0 qcont_app qcont_inl qcont_call njSV_val njSV_nil njSV_row njSV_ptr njSV_sub binV_val binV_nil binV_nn binV_ptr bin_np bin_nnp nilCmp bin_add bin_sub bin_mul bin_quo bin_rem bin_and bin_or bin_xor bin_andNot bin_eql bin_neq bin_lss bin_leq bin_gtr bin_geq bin_shl bin_shr bin_seql bin_sneq bin_sadd bin_beql bin_aeql bin_aneq eqAnd_some eqCells_nil eqCells_cons fieldTypes isStruct eqCell bin_bneq un_not un_neg nj_ite Nat.beq stepA stepR isNew opSV constSV RV.sv allSome E_mu E_own qkeyIn_none qkeyIn_some qkeyAt_none qkeyAt_some Bool.or_false Bool.false_or Bool.or_true Bool.true_or cst setB res resSV pstart startL killL kill1 eraL frzL svPV rvPV rvInt rvSlice rvBytes frzOf close closeL pconv pbuiltin pmax2 partPV setCells fillPV zrow bound newSV PV.cells Bk.cells Bk.with SV.key pres presL_nil presL_tmp presL_cell presC2_some cellPV_ptr presC List.toList_toArray List.size_toArray List.getElem?_drop Nat.mul_one Int.toNat_natCast Nat.not_lt_zero Nat.lt_irrefl decide_true decide_false Nat.not_lt Option.some.injEq PV.lst.injEq PV.int.injEq PV.bool.injEq PV.tuple.injEq List.cons.injEq Option.map_some Option.map_none Option.bind_some Option.toList List.map_cons List.map_nil List.nil_append List.cons_append List.append_nil List.zip_cons_cons List.zip_nil_left List.zip_nil_right List.getElem?_cons_zero List.getElem?_cons_succ List.drop_zero List.drop_succ_cons List.take_succ_cons List.take_zero List.set_cons_zero List.set_cons_succ List.length_cons List.length_nil List.length_set List.replicate_one List.replicate_zero bne_self_eq_false beq_self_eq_true Nat.zero_add Nat.add_zero Nat.zero_mul Bool.false_eq_true Bool.true_eq_false Bool.not_true Bool.not_false and_true true_and false_and and_false or_false false_or or_true true_or not_true_eq_false not_false_eq_true ne_eq gt_iff_lt List.mem_cons List.not_mem_nil
attribute [local go_sem ↓] pseq_normal pseq_ret pseq_exit pblk_normal pblk_ret newDsts_cons inlDsts_cons gdst_zero gdst_succ retQ_normal retQ_ret qneed_nil qneed_cons retM_normal retM_ret endR_normal endR_ret endR_exit
attribute [local go_sem] Int.reduceToNat Int.reduceEq Int.reduceNe Int.reduceLT Int.reduceLE Int.reduceNeg Int.reduceAdd Nat.reduceEqDiff Nat.reduceAdd Nat.reduceSub Nat.reduceMul Nat.reduceLeDiff Nat.reduceLT
attribute [local go_sem ↓] reduceIte reduceCtorEq

theorem join4 (a b c d : List UInt8) : Lib.join [a, b, c, d] [32] = a ++ (32 :: (b ++ (32 :: (c ++ (32 :: d))))) := by
  unfold Lib.join; simp [List.intercalate]
theorem join5 (z a b c d : List UInt8) : Lib.join [z, a, b, c, d] [32] = z ++ (32 :: (a ++ (32 :: (b ++ (32 :: (c ++ (32 :: d))))))) := by
  unfold Lib.join; simp [List.intercalate]
theorem nmJ_len (op : Int) : (nmJ op).length ≤ 8 := by unfold nmJ; (repeat' split) <;> decide
theorem wyJ_len (d : Int) : (wyJ d).length ≤ 4 := by unfold wyJ; (repeat' split) <;> decide
/-- The line of a job that is not urgent. -/
def Jb.row0 (j : Jb) : List UInt8 := nmJ j.op ++ (32 :: (hz 16 j.x ++ (32 :: ((if j.op = 0 then hz 16 j.y else Lib.itoa j.n) ++ (32 :: wyJ j.dir)))))
set_option maxHeartbeats 4000000 in
theorem j_line0 {j : Jb} (hw : j.wf) (hok : j.ok = true) (hu : j.urg = false) : PC E 18 [j.pv] (TX j.line) := by
  obtain ⟨r1, r2, r3, r4⟩ := Jb.ok_rng hok
  obtain ⟨w1, w2, w3, w4, w5, w6, w7, w8⟩ := hw
  have k1 := j_hex w3
  have k2 := j_hex w4
  have k3 := s_FormatInt j.n w5 w6
  have k4 := j_names
  have k5 := j_ways
  have l1 := hz_len 16 j.x
  have l2 := hz_len 16 j.y
  have l3 := itoa_len64 w5 w6
  have hmx : maxLen = 9223372036854775807 := rfl
  clear hok r3 r4 w1 w2 w7 w8
  obtain ⟨op, x, y, n, dir, urg⟩ := j
  dsimp only at hu
  subst hu
  unfold Jb.pv Jb.line Jb.row
  dsimp only at *
  have kJ := fun a b c d (ha : a.length ≤ 8) (hb : b.length = 16) (hc : c.length ≤ 20) (hd : d.length ≤ 4) => show PC E 36 [.lst 4 [TX a, TX b, TX c, TX d], TX [32]] (TX (Lib.join [a, b, c, d] [32])) from s_Join (L := [a, b, c, d]) (by simp) [32] (by simp) (by rw [join4]; simp; omega)
  have hj4 := join4
  generalize hz 16 x = hx at *
  generalize hz 16 y = hy at *
  generalize Lib.itoa n = it at *
  simp only [TX, u] at k1 k2 k3 k4 k5 kJ ⊢
  rcases r1 with rfl | rfl | rfl | rfl <;> rcases r2 with rfl | rfl | rfl | rfl
  all_goals
    refine PC.of_body follows Tryd.func18 (by decide +kernel) rfl (by kernel_rfl) (Nat.le_of_ble_eq_true rfl) (walk ?_)
    simp only [Tryd.f18, B8_size, B8_cut, B8_eq, B8_mk, B8_app, Int.toNat_natCast, List.range_zero, List.getD_cons_zero, List.getD_cons_succ, Nat.reduceMod, go_sem]
    repeat' first
      | ((with_reducible refine qcall_i k1 ?_); simp only [Tryd.f18, B8_size, B8_cut, B8_eq, B8_mk, B8_app, Int.toNat_natCast, List.range_zero, List.getD_cons_zero, List.getD_cons_succ, Nat.reduceMod, go_sem])
      | ((with_reducible refine qcall_i k2 ?_); simp only [Tryd.f18, B8_size, B8_cut, B8_eq, B8_mk, B8_app, Int.toNat_natCast, List.range_zero, List.getD_cons_zero, List.getD_cons_succ, Nat.reduceMod, go_sem])
      | ((with_reducible refine qcall_i k3 ?_); simp only [Tryd.f18, B8_size, B8_cut, B8_eq, B8_mk, B8_app, Int.toNat_natCast, List.range_zero, List.getD_cons_zero, List.getD_cons_succ, Nat.reduceMod, go_sem])
      | ((with_reducible refine qcall_i k4 ?_); simp only [Tryd.f18, B8_size, B8_cut, B8_eq, B8_mk, B8_app, Int.toNat_natCast, List.range_zero, List.getD_cons_zero, List.getD_cons_succ, Nat.reduceMod, go_sem])
      | ((with_reducible refine qcall_i k5 ?_); simp only [Tryd.f18, B8_size, B8_cut, B8_eq, B8_mk, B8_app, Int.toNat_natCast, List.range_zero, List.getD_cons_zero, List.getD_cons_succ, Nat.reduceMod, go_sem])
      | ((with_reducible refine qcall_i (kJ _ _ _ _ (by first | omega | decide) (by omega) (by omega) (by first | omega | decide)) ?_); simp only [Tryd.f18, B8_size, B8_cut, B8_eq, B8_mk, B8_app, Int.toNat_natCast, List.range_zero, List.getD_cons_zero, List.getD_cons_succ, Nat.reduceMod, hj4, go_sem])
      | ((refine qand_i (by (try rw [hmx]); (try simp only [List.length_append, List.length_cons, List.length_nil]); omega) ?_); simp only [Tryd.f18, B8_size, B8_cut, B8_eq, B8_mk, B8_app, Int.toNat_natCast, List.range_zero, List.getD_cons_zero, List.getD_cons_succ, Nat.reduceMod, go_sem])
      | ((refine qval_i rfl ?_); simp only [Tryd.f18, B8_size, B8_cut, B8_eq, B8_mk, B8_app, Int.toNat_natCast, List.range_zero, List.getD_cons_zero, List.getD_cons_succ, Nat.reduceMod, go_sem])
      | (simp only [List.replicate_succ, List.replicate_zero, List.set_cons_zero, List.set_cons_succ]; done)
      | simp only [List.replicate_succ, List.replicate_zero, List.set_cons_zero, List.set_cons_succ]
    simp [nmJ, wyJ]
theorem step_at {ops : Array Oper} {i : Nat} {o : Oper} {s s' : PS} (ho : ops[i]? = some o) (hg : o.guard = none) (hs : StepP E o s s') : StepI E ops i s s' := ⟨o, ho, by rw [hg]; exact hs⟩
/-- Region by region: a row of four strings, one more ahead. -/
theorem ins_ops {N : Nat} {wk : Gh} {w0 : Fm} {Pr0 : Nat → Nat → Prop} {m : Nat → Value} {Pr : Nat → Nat → Prop} {a : Act} {w : World} {Q : Exit → Act → World → Prop} {t0 t1 t2 t3 : TypeId} {p0 p1 p2 p3 : String} {f0 f1 f2 f3 : Array Edge} {ats : Array TypeId} {c1 c2 c3 c4 : PV} {cb : PV} (hN : 37 ≤ N)
    (hr : Rel E N wk w0 Pr0 (ES.den ⟨[(30, .val cb), (3, .row 20)], [(20, (.row 9 1 4 [c1, c2, c3, c4], false))]⟩) m Pr a w)
    (hQ : ∀ m' Pr' a' w', Rel E N wk w0 Pr0 (ES.den ⟨[(3, .val (.lst 5 [TX [33], c1, c2, c3, c4]))], []⟩) m' Pr' a' w' → Q .normal a' w') :
    wpOpsIn (RF none) 0 E.P #[⟨some 31, .move (.tmp 3), t0, p0, f0, none⟩, ⟨some 32, .buildSlice 59 1 #[(0, .const (.string ⟨#[33]⟩))], t1, p1, f1, none⟩,
      ⟨some 33, .call ⟨.value (.func 35), #[.tmp 31, .const (.int .i64 0), .tmp 32], ats⟩, t2, p2, f2, none⟩, ⟨some 3, .assign (.tmp 33), t3, p3, f3, none⟩] Q [0, 1, 2, 3] a w := by
  obtain ⟨o0, h0⟩ : ∃ o : Oper, o = ⟨some 31, .move (.tmp 3), t0, p0, f0, none⟩ := ⟨_, rfl⟩
  obtain ⟨o1, h1⟩ : ∃ o : Oper, o = ⟨some 32, .buildSlice 59 1 #[(0, .const (.string ⟨#[33]⟩))], t1, p1, f1, none⟩ := ⟨_, rfl⟩
  obtain ⟨o2, h2⟩ : ∃ o : Oper, o = ⟨some 33, .call ⟨.value (.func 35), #[.tmp 31, .const (.int .i64 0), .tmp 32], ats⟩, t2, p2, f2, none⟩ := ⟨_, rfl⟩
  obtain ⟨o3, h3⟩ : ∃ o : Oper, o = ⟨some 3, .assign (.tmp 33), t3, p3, f3, none⟩ := ⟨_, rfl⟩
  rw [← h0, ← h1, ← h2, ← h3]
  have hds : dstsOk N #[o0, o1, o2, o3] = true := by
    subst h0 h1 h2 h3
    rw [dstsOk, ← Array.all_toList]
    simp only [List.all_cons, List.all_nil, Bool.and_true, Bool.and_eq_true, decide_eq_true_eq]
    exact ⟨(by omega : 31 < N), (by omega : 32 < N), (by omega : 33 < N), (by omega : 3 < N)⟩
  rw [wpOpsIn_cons]
  refine stepI_sound (s' := ⟨putτ (sget [(30, .val cb), (3, .row 20)]) (some 31) (.row 20), sget [(20, (.row 9 1 4 [c1, c2, c3, c4], false))]⟩) hds hr ?_ (step_at (o := o0) rfl (by rw [h0]) ?_) fun m1 Pr1 a1 w1 hr1 => ?_
  rotate_left
  · rw [h0]
    show StepP E ⟨some 31, .move (.tmp 3), t0, p0, f0, none⟩ _ ⟨putτ (sget [(30, .val cb), (3, .row 20)]) (some 31) (.row 20), sget [(20, (.row 9 1 4 [c1, c2, c3, c4], false))]⟩
    unfold StepP
    exact (if_pos (show isA (Op.move (Operand.tmp 3)) = true from rfl)).mpr ⟨.row 20, rfl, rfl⟩
  rotate_left
  · intro i hi o ho hn
    rw [List.mem_singleton] at hi
    subst hi
    have : o = o0 := (Option.some.inj ho).symm
    rw [this, h0] at hn
    cases hn
  rw [wpOpsIn_cons]
  refine stepI_sound (s' := ⟨putτ (putτ (sget [(30, .val cb), (3, .row 20)]) (some 31) (.row 20)) (some 32) (.row 32), updσ (frzσ (sget [(20, (.row 9 1 4 [c1, c2, c3, c4], false))]) []) 32 (some (.row 9 1 1 [TX [33]], false))⟩) hds hr1 ?_ (step_at (o := o1) rfl (by rw [h1]) ?_) fun m2 Pr2 a2 w2 hr2 => ?_
  rotate_left
  · rw [h1]
    show StepP E ⟨some 32, .buildSlice 59 1 #[(0, .const (.string ⟨#[33]⟩))], t1, p1, f1, none⟩ _ ⟨putτ (putτ (sget [(30, .val cb), (3, .row 20)]) (some 31) (.row 20)) (some 32) (.row 32), updσ (frzσ (sget [(20, (.row 9 1 4 [c1, c2, c3, c4], false))]) []) 32 (some (.row 9 1 1 [TX [33]], false))⟩
    unfold StepP
    refine (if_neg (show ¬ isA (Op.buildSlice 59 1 #[(0, Operand.const (.string ⟨#[33]⟩))]) = true from Bool.false_ne_true)).mpr ?_
    refine ⟨.new (.row 9 1 1 [TX [33]]), [], ?_, ⟨32, rfl, rfl⟩⟩
    have e1 : lk E.P 59 = .slice 9 := Lay59.1
    have e2 : sz E.P 9 = some 1 := Lay9.2.1
    have e3 : zr E.P 9 = some [.str (B8 [])] := Lay9.2.2.2
    simp only [stepR, e1, e2, e3]
    rfl
  rotate_left
  · intro i hi o ho hn dd hdd t u' hu' hk'
    rw [List.mem_singleton] at hi
    subst hi
    have : o = o1 := (Option.some.inj ho).symm
    rw [this, h1] at hdd
    cases hdd
    simp only [putτ, sget] at hu'
    repeat' split at hu'
    all_goals first
      | (cases hu'; done)
      | (cases hu'; cases hk'; done)
  rw [wpOpsIn_cons]
  unfold wpOpIn
  have e2 : (#[o0, o1, o2, o3] : Array Oper)[2]? = some o2 := rfl
  rw [e2]
  simp only
  rw [if_pos (by rw [h2]; simp [Region.wanted]), h2]
  refine wpIn_of_wp (fun c hc => by cases hc) (ins_op (k := 20) (j := 32) (cs := [c1, c2, c3, c4]) (c := TX [33]) hr2 rfl rfl rfl rfl (by decide) rfl (Nat.lt_of_lt_of_le (by decide) hN) fun m3 Pr3 a3 w3 hr3 => ?_)
  rw [← h2, wpOpsIn_cons]
  refine stepI_sound (s' := ⟨putτ (sget [(33, .val (.lst 5 [TX [33], c1, c2, c3, c4]))]) (some 3) (.val (.lst 5 [TX [33], c1, c2, c3, c4])), sget []⟩) hds hr3 ?_ (step_at (o := o3) rfl (by rw [h3]) ?_) fun m4 Pr4 a4 w4 hr4 => ?_
  rotate_left
  · rw [h3]
    show StepP E ⟨some 3, .assign (.tmp 33), t3, p3, f3, none⟩ _ ⟨putτ (sget [(33, .val (.lst 5 [TX [33], c1, c2, c3, c4]))]) (some 3) (.val (.lst 5 [TX [33], c1, c2, c3, c4])), sget []⟩
    unfold StepP
    exact (if_pos (show isA (Op.assign (Operand.tmp 33)) = true from rfl)).mpr ⟨_, rfl, rfl⟩
  rotate_left
  · intro i hi o ho hn
    rw [List.mem_singleton] at hi
    subst hi
    have : o = o3 := (Option.some.inj ho).symm
    rw [this, h3] at hn
    cases hn
  refine hQ m4 Pr4 a4 w4 ?_
  have hr5 : Rel E N wk w0 Pr0 (ES.den ⟨[(3, .val (.lst 5 [TX [33], c1, c2, c3, c4])), (33, .val (.lst 5 [TX [33], c1, c2, c3, c4]))], []⟩) m4 Pr4 a4 w4 := by
    refine ⟨hr4.below, hr4.dfr, hr4.pin, hr4.keep, hr4.sz, hr4.pr0, hr4.new, hr4.bnd, hr4.glob, fun t v hv => hr4.tmp t v ?_, hr4.blk, hr4.sep⟩
    simp only [ES.den, sget] at hv
    simp only [putτ, sget]
    exact hv
  exact hr5.weak (by simp [Wk, sget])
set_option maxHeartbeats 4000000 in
/-- The urgent ones: from the state ahead of the test on. -/
theorem j_urgent {a b c d : List UInt8} {op n dir : Int} {x y : Nat} (ha : a.length ≤ 8) (hb : b.length = 16) (hc : c.length ≤ 20) (hd : d.length ≤ 4) {cd : Code} (hcd : Tryd.f18.body = some cd) :
    PSem E 37 none (after 3 cd) (retQ E Tryd.f18.results.toList (TX (33 :: 32 :: (a ++ (32 :: (b ++ (32 :: (c ++ (32 :: d))))) ++ [10])))) ⟨[(1, .ptr 1 0), (3, .row 20)], [(1, (.box [.int .i64 op, .int .u64 (x : Nat), .int .u64 (y : Nat), .int .i64 n, .int .i64 dir, .bool true], false)), (20, (.row 9 1 4 [TX a, TX b, TX c, TX d], false))]⟩ := by
  have kJ : PC E 36 [.lst 5 [TX [33], TX a, TX b, TX c, TX d], TX [32]] (TX (Lib.join [[33], a, b, c, d] [32])) := s_Join (L := [[33], a, b, c, d]) (by simp) [32] (by simp) (by rw [join5]; simp; omega)
  rw [join5] at kJ
  have hmx : maxLen = 9223372036854775807 := rfl
  cases hcd
  -- the rest of PC.of_body follows Tryd.func18 (by decide +kernel) rfl (by kernel_rfl) (Nat.le_of_ble_eq_true rfl) (walk ?_)
  simp only [after_succ, after_zero]
  intro wk w0 Pr0 m Pr act w hr
  refine wpIn_seq (wpIn_mono (Q := lift E 37 wk w0 Pr0 fun e s => e = .normal ∧ s = ⟨[(3, .val (.lst 5 [TX [33], TX a, TX b, TX c, TX d]))], []⟩) ?_ ?_)
  · refine wpIn_seq (wpIn_mono (PSem.last (Q := fun e s => e = .normal ∧ Wk s ⟨[(30, .val (.bool true)), (3, .row 20)], [(20, (.row 9 1 4 [TX a, TX b, TX c, TX d], false))]⟩) follows (by kernel_rfl) ?_ wk w0 Pr0 m Pr act w hr) ?_)
    · simp only [Tryd.f18, go_sem]
      simp [Wk, sget, killL, kill1, SV.key]
    · rintro e a' w' ⟨s', m', Pr', ⟨rfl, hw⟩, hr'⟩
      have hr2 := hr'.weak hw
      have hv := (hr2.opSV (x := .tmp 30) (v := .val (.bool true)) rfl : Rep _ _ _).bool_inv
      refine wpIn_cond_true hv (wpIn_region ?_)
      exact ins_ops (N := 37) (by decide) hr2 fun m' Pr' a' w' hr => ⟨_, m', Pr', ⟨rfl, rfl⟩, hr⟩
  · rintro e a' w' ⟨s', m', Pr', ⟨rfl, rfl⟩, hr'⟩
    refine PSem.last follows (by kernel_rfl) ?_ wk w0 Pr0 m' Pr' a' w' hr'
    simp only [TX] at kJ ⊢
    simp only [Tryd.f18, B8_size, B8_cut, B8_eq, B8_mk, B8_app, Int.toNat_natCast, go_sem]
    refine qcall_i (kJ) ?_; simp only [Tryd.f18, B8_size, B8_cut, B8_eq, B8_mk, B8_app, Int.toNat_natCast, go_sem]
    refine qand_i (by rw [hmx]; simp; omega) ?_
    simp only [Tryd.f18, B8_size, B8_cut, B8_eq, B8_mk, B8_app, Int.toNat_natCast, go_sem]
    simp [TX]
end Go.Proofs.YtmnojbkakgfinaaDoor
