/- strconv.ParseUint at base 16, every text: the walk. -/
import Derived.Test.YtmnojbkakgfinaaDoorJbW
open Go PG Go.Proofs Go.RowKit
set_option maxRecDepth 100000
set_option linter.unusedSimpArgs false
set_option linter.unusedVariables false
namespace Go.Proofs.YtmnojbkakgfinaaDoor
attribute [local go_sem] Lay2 Lay3 Lay4 Lay5 Lay6 Lay7 Lay8 Lay9 Lay10 Lay11 Lay12 Lay13 Lay14 Lay15 Lay16 Lay17 Lay18 Lay19 Lay21 Lay23 Lay24 Lay30 Lay31 Lay32 Lay33 Lay34 Lay36 Lay37 Lay49 Lay50 Lay51 Lay52 Lay59 Lay75 Lay77 Lay85 Lay87 Lay89 Lay96 Lay101 Lay112 Lay113 Lay118 Lay119 Lay120 Lay122 Lay123 Lay124 Lay125 Lay126 Lay127 Lay128 Lay129 Lay130 Lay132 Lay133 qexec_seq qexec_skip qexec_exit qexec_ret qexec_block qexec_loop qexec_range qexec_cond qexec_region qexec_drawn qops_nil qops_none qops_some put_some put_none pblk_exit pblk_other newDsts_nil inlDsts_nil isInl sget_cons sget_nil qval_some qbool_some qgs_bool qgs_und qfree_some qgrd_true qgrd_false qif_true qif_false qval_ite qval_itn qand_true map_ite map_some' map_none' qdo_move qdo_assign qdo_binOp qdo_pick qdo_unOp qdo_convert qdo_extract qdo_makeInterface qdo_field qdo_fieldAddr qdo_alloc qdo_box qdo_build qdo_buildSlice qdo_load qdo_store qdo_nilCheck qdo_makeFunc qdo_makeSlice qdo_slice qdo_indexAddr qdo_call qcont_val qcont_new qcont_st qcont_app0 qcont_app qcont_inl qcont_call njSV_val njSV_nil njSV_row njSV_ptr njSV_sub binV_val binV_nil binV_nn binV_ptr bin_np bin_nnp nilCmp bin_add bin_sub bin_mul bin_quo bin_rem bin_and bin_or bin_xor bin_andNot bin_eql bin_neq bin_lss bin_leq bin_gtr bin_geq bin_shl bin_shr bin_seql bin_sneq bin_sadd bin_beql bin_aeql bin_aneq eqAnd_some eqCells_nil eqCells_cons fieldTypes isStruct eqCell bin_bneq un_not un_neg nj_ite Nat.beq stepA stepR isNew opSV constSV RV.sv allSome E_mu E_own qkeyIn_none qkeyIn_some qkeyAt_none qkeyAt_some Bool.or_false Bool.false_or Bool.or_true Bool.true_or cst setB res resSV pstart startL killL kill1 eraL frzL svPV rvPV rvInt rvSlice rvBytes frzOf close closeL pconv pbuiltin pmax2 partPV setCells fillPV zrow bound newSV PV.cells Bk.cells Bk.with SV.key pres presL_nil presL_tmp presL_cell presC2_some cellPV_ptr presC List.toList_toArray List.size_toArray List.getElem?_drop Nat.mul_one Int.toNat_natCast Nat.not_lt_zero Nat.lt_irrefl decide_true decide_false Nat.not_lt Option.some.injEq PV.lst.injEq PV.int.injEq PV.bool.injEq PV.tuple.injEq List.cons.injEq Option.map_some Option.map_none Option.bind_some Option.toList List.map_cons List.map_nil List.nil_append List.cons_append List.append_nil List.zip_cons_cons List.zip_nil_left List.zip_nil_right List.getElem?_cons_zero List.getElem?_cons_succ List.drop_zero List.drop_succ_cons List.take_succ_cons List.take_zero List.set_cons_zero List.set_cons_succ List.length_cons List.length_nil List.length_set List.replicate_one List.replicate_zero bne_self_eq_false beq_self_eq_true Nat.zero_add Nat.add_zero Nat.zero_mul Bool.false_eq_true Bool.true_eq_false Bool.not_true Bool.not_false and_true true_and false_and and_false or_false false_or or_true true_or not_true_eq_false not_false_eq_true ne_eq gt_iff_lt List.mem_cons List.not_mem_nil
attribute [local go_sem ↓] pseq_normal pseq_ret pseq_exit pblk_normal pblk_ret newDsts_cons inlDsts_cons gdst_zero gdst_succ retQ_normal retQ_ret qneed_nil qneed_cons retM_normal retM_ret endR_normal endR_ret endR_exit
attribute [local go_sem] Int.reduceToNat Int.reduceEq Int.reduceNe Int.reduceLT Int.reduceLE Int.reduceNeg Int.reduceAdd Nat.reduceEqDiff Nat.reduceAdd Nat.reduceSub Nat.reduceMul Nat.reduceLeDiff Nat.reduceLT
attribute [local go_sem ↓] reduceIte reduceCtorEq

theorem neq_ops {N : Nat} {wk : Gh} {w0 : Fm} {Pr0 : Nat → Nat → Prop} {m : Nat → Value} {Pr : Nat → Nat → Prop} {a : Act} {w : World} {Q : Exit → Act → World → Prop} {t0 t1 : TypeId} {p0 p1 : String} {f0 f1 : Array Edge} {τ : List (Nat × SV)} {e : PV} {b : Bool} (hN : 26 ≤ N)
    (hr : Rel E N wk w0 Pr0 (ES.den ⟨τ, []⟩) m Pr a w) (h9 : sget τ 9 = some (.val e)) (he : (e = .nif ∧ b = false) ∨ (∃ t k n, e = .ifv t k n) ∧ b = true)
    (hQ : ∀ m' Pr' a' w', Rel E N wk w0 Pr0 (ES.den ⟨(18, .val (.bool b)) :: (17, .val e) :: τ, []⟩) m' Pr' a' w' → Q .normal a' w') :
    wpOpsIn (RF none) 0 E.P #[⟨some 17, .move (.tmp 9), t0, p0, f0, none⟩, ⟨some 18, .binOp .neq 54 (.tmp 17) (.const .nilIface) 54, t1, p1, f1, none⟩] Q [0, 1] a w := by
  obtain ⟨o0, h0⟩ : ∃ o : Oper, o = ⟨some 17, .move (.tmp 9), t0, p0, f0, none⟩ := ⟨_, rfl⟩
  obtain ⟨o1, h1⟩ : ∃ o : Oper, o = ⟨some 18, .binOp .neq 54 (.tmp 17) (.const .nilIface) 54, t1, p1, f1, none⟩ := ⟨_, rfl⟩
  rw [← h0, ← h1]
  have hds : dstsOk N #[o0, o1] = true := by
    subst h0 h1
    rw [dstsOk, ← Array.all_toList]
    simp only [List.all_cons, List.all_nil, Bool.and_true, Bool.and_eq_true, decide_eq_true_eq]
    exact ⟨(by omega : 17 < N), (by omega : 18 < N)⟩
  have nm : ∀ (i : Nat) (o : Oper) (s : PS), #[o0, o1][i]? = some o → isNew o.op = false → NMs #[o0, o1] [i] s := fun i o s ho hn j hj o' ho' hn' => by
    rw [List.mem_singleton] at hj
    subst hj
    rw [ho] at ho'
    cases ho'
    rw [hn] at hn'
    cases hn'
  rw [wpOpsIn_cons]
  refine stepI_sound (s' := ES.den ⟨(17, .val e) :: τ, []⟩) hds hr (nm 0 o0 _ rfl (by rw [h0]; rfl)) (step_atU (o := o0) rfl (by rw [h0]) ?_) fun m1 Pr1 a1 w1 hr1 => ?_
  · rw [h0]
    show StepP E ⟨some 17, .move (.tmp 9), t0, p0, f0, none⟩ _ _
    unfold StepP
    refine (if_pos (show isA (Op.move (Operand.tmp 9)) = true from rfl)).mpr ⟨.val e, ?_, rfl⟩
    show stepA E (Op.move (Operand.tmp 9)) (opSV E (sget τ)) = _
    simp only [stepA, opSV, h9]
  rw [wpOpsIn_cons]
  unfold wpOpIn
  have e1 : (#[o0, o1] : Array Oper)[1]? = some o1 := rfl
  rw [e1]
  simp only
  rw [if_pos (by rw [h1]; simp [Region.wanted]), h1]
  obtain ⟨xv, hxv, ex⟩ := hr1.tmp 17 (.val e) rfl
  have ev : a1.eval (.tmp 17) = xv := by simp only [Act.eval, getD_of hxv]
  have hty : ∃ ms, Tryd.prog.underlying 54 = some (.interface ms) := ⟨_, Tryd.underlying54⟩
  obtain ⟨ms, hty⟩ := hty
  have hrun : (execOp a1.eval ⟨some 18, .binOp .neq 54 (.tmp 17) (.const .nilIface) 54, t1, p1, f1, none⟩).run E.P w1 = .ok (.value (.bool b)) w1 := by
    simp only [execOp]
    rw [ev, show a1.eval (.const .nilIface) = .nilIface from rfl]
    rcases he with ⟨rfl, rfl⟩ | ⟨⟨t, k, n, rfl⟩, rfl⟩
    · have : xv = .nilIface := by
        have ex' : Rep _ .nif xv := ex
        cases ex'
        rfl
      subst this
      rw [Sem.run_bind, show E.P = Tryd.prog from rfl, und_nil w1 hty]
      rfl
    · have : xv = .iface t (.int k n) := by
        have ex' : Rep _ (.ifv t k n) xv := ex
        cases ex'
        rfl
      subst this
      rw [Sem.run_bind, show E.P = Tryd.prog from rfl, und_err w1 hty]
      rfl
  refine wpIn_of_wp (fun c hc => by cases hc) (val_step hr1 (fun d hd => by cases hd; exact Nat.lt_of_lt_of_le (by decide) hN) hrun (v := .val (.bool b)) (Rep.bool b) fun m2 Pr2 a2 w2 hr2 => ?_)
  exact hQ m2 Pr2 a2 w2 hr2
set_option maxHeartbeats 4000000 in
theorem s_ParseUint {l : List UInt8} (hl : l.length ≤ 100000) : PC E 30 [TX l, .int .i64 16, .int .i64 64] (.tuple [.int .u64 ((puX l).1 : Nat), puE (puX l).2]) := by
  have k1 := s_ParseUintI hl
  have k2 := fun (k : Int) hk => s_toError (k := k) hk [80, 97, 114, 115, 101, 85, 105, 110, 116] l hl
  have hx := puX_err l
  generalize (puX l).1 = v at *
  generalize (puX l).2 = e at *
  simp only [TX] at k1 k2 ⊢
  refine PC.of_sem Tryd.func30 (by decide +kernel) rfl (Nat.le_of_ble_eq_true rfl) ?_
  refine PSem.cut follows (by kernel_rfl) 2 (fun _ : Unit => ⟨[(0, .val (.str (B8 l))), (1, .val (.int .i64 16)), (2, .val (.int .i64 64)), (8, .val (.int .u64 (v : Nat))), (9, .val e)], []⟩) (fun _ => True) ?_ (fun _ _ => ?_)
  · simp only [Tryd.f30, B8_size, B8_cut, B8_eq, B8_mk, B8_app, Int.toNat_natCast, qfirst_succ, qfirst_zero, after_succ, after_zero, go_sem]
    refine qcall_i (k1) ?_; simp only [Tryd.f30, B8_size, B8_cut, B8_eq, B8_mk, B8_app, Int.toNat_natCast, qfirst_succ, qfirst_zero, after_succ, after_zero, go_sem]
    try refine ⟨(), ?_⟩
    simp [Wk, sget, killL, kill1, SV.key]
  · intro wk w0 Pr0 m Pr act w hr
    simp only [after_succ, after_zero]
    rcases hx with rfl | hx
    · refine wpIn_seq (wpIn_seq (wpIn_region (neq_ops (N := 26) (b := false) (by decide) hr rfl (.inl ⟨rfl, rfl⟩) fun m1 Pr1 a1 w1 hr1 => ?_)))
      have hv := (hr1.opSV (x := .tmp 18) (v := .val (.bool false)) rfl : Rep _ _ _).bool_inv
      refine wpIn_cond_false hv (wpIn_skip ?_)
      refine PSem.last follows (by kernel_rfl) ?_ wk w0 Pr0 m1 Pr1 a1 w1 hr1
      simp only [Tryd.f30, B8_size, B8_cut, B8_eq, B8_mk, B8_app, Int.toNat_natCast, go_sem]
      try rfl
    · have he : ∃ k : Int, (k = 1 ∨ k = 2) ∧ e = .ifv 87 .i64 k := by
        rcases hx with rfl | rfl
        · exact ⟨2, .inr rfl, rfl⟩
        · exact ⟨1, .inl rfl, rfl⟩
      obtain ⟨k, hk, rfl⟩ := he
      have k3 := k2 k hk
      refine wpIn_seq (wpIn_seq (wpIn_region (neq_ops (N := 26) (b := true) (by decide) hr rfl (.inr ⟨⟨_, _, _, rfl⟩, rfl⟩) fun m1 Pr1 a1 w1 hr1 => ?_)))
      have hv := (hr1.opSV (x := .tmp 18) (v := .val (.bool true)) rfl : Rep _ _ _).bool_inv
      refine wpIn_cond_true hv ?_
      refine wpIn_mono (PSem.last (Q := fun e s => e = .ret ∧ retQ E Tryd.f30.results.toList (.tuple [.int .u64 (v : Nat), .any]) .ret s) follows (by kernel_rfl) ?_ wk w0 Pr0 m1 Pr1 a1 w1 hr1) ?_
      · simp only [Tryd.f30, B8_size, B8_cut, B8_eq, B8_mk, B8_app, Int.toNat_natCast, go_sem]
        refine qcall_i (k3) ?_; simp only [Tryd.f30, B8_size, B8_cut, B8_eq, B8_mk, B8_app, Int.toNat_natCast, go_sem]
        try rfl
      · rintro e a' w' ⟨s', m', Pr', ⟨rfl, hq⟩, hr'⟩
        exact ⟨s', m', Pr', hq, hr'⟩
end Go.Proofs.YtmnojbkakgfinaaDoor
