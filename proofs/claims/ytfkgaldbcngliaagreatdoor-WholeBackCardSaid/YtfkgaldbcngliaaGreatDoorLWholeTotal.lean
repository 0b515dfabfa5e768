import Derived.Test.YtfkgaldbcngliaaGreatDoorN7
open Go PG Go.Proofs
set_option maxRecDepth 100000
set_option linter.unusedSimpArgs false
set_option linter.unusedVariables false
namespace Go.Proofs.YtfkgaldbcngliaaGreatDoor
attribute [local go_sem] Lay2 Lay3 Lay4 Lay5 Lay6 Lay7 Lay8 Lay9 Lay10 Lay11 Lay12 Lay13 Lay14 Lay15 Lay16 Lay17 Lay18 Lay19 Lay20 Lay21 Lay22 Lay26 Lay27 Lay28 Lay29 Lay31 Lay32 Lay33 Lay34 Lay35 Lay41 Lay42 Lay43 Lay47 Lay48 Lay60 Lay61 Lay62 Lay63 Lay64 Lay72 Lay73 Lay74 Lay83 Lay84 Lay86 Lay90 Lay91 Lay92 Lay93 Lay102 Lay103 Lay139 Lay143 Lay149 Lay158 Lay159 Lay160 Lay161 Lay162 Lay174 Lay175 Lay193 Lay207 Lay208 Lay209 Lay210 Lay228 Lay229 Lay237 Lay238 Lay265 Lay287 Lay295 Lay296 Lay297 Lay299 Lay301 Lay302 Lay303 Lay304 Lay305 Lay307 Lay308 Lay310 Lay311 Lay312 Lay315 Lay316 Lay317 qexec_seq qexec_skip qexec_exit qexec_ret qexec_block qexec_loop qexec_range qexec_cond qexec_region qexec_drawn qops_nil qops_none qops_some put_some put_none pblk_exit pblk_other newDsts_nil inlDsts_nil isInl sget_cons sget_nil qval_some qbool_some qgs_bool qgs_und qfree_some qgrd_true qgrd_false qif_true qif_false qval_ite qval_itn qand_true map_ite map_some' map_none' qdo_move qdo_assign qdo_binOp qdo_pick qdo_unOp qdo_convert qdo_extract qdo_makeInterface qdo_field qdo_fieldAddr qdo_alloc qdo_box qdo_build qdo_buildSlice qdo_load qdo_store qdo_nilCheck qdo_makeFunc qdo_makeSlice qdo_slice qdo_indexAddr qdo_call qcont_val qcont_new qcont_st qcont_app0 qcont_app qcont_inl qcont_call njSV_val njSV_nil njSV_row njSV_ptr njSV_sub binV_val binV_nil binV_nn binV_ptr bin_np bin_nnp nilCmp bin_add bin_sub bin_mul bin_quo bin_rem bin_and bin_or bin_xor bin_andNot bin_eql bin_neq bin_lss bin_leq bin_gtr bin_geq bin_shl bin_shr bin_seql bin_sneq bin_sadd bin_beql bin_aeql bin_aneq eqAnd_some eqCells_nil eqCells_cons fieldTypes isStruct eqCell bin_bneq un_not un_neg nj_ite Nat.beq stepA stepR isNew opSV constSV RV.sv allSome E_mu E_own qkeyIn_none qkeyIn_some qkeyAt_none qkeyAt_some Bool.or_false Bool.false_or Bool.or_true Bool.true_or cst setB res resSV pstart startL killL kill1 eraL frzL svPV rvPV rvInt rvSlice rvBytes frzOf close closeL pconv pbuiltin pmax2 partPV setCells fillPV zrow bound newSV PV.cells Bk.cells Bk.with SV.key pres presL_nil presL_tmp presL_cell presC2_some cellPV_ptr presC List.toList_toArray List.size_toArray List.getElem?_drop Nat.mul_one Int.toNat_natCast Nat.not_lt_zero Nat.lt_irrefl decide_true decide_false Nat.not_lt Option.some.injEq PV.lst.injEq PV.int.injEq PV.bool.injEq PV.tuple.injEq List.cons.injEq Option.map_some Option.map_none Option.bind_some Option.toList List.map_cons List.map_nil List.nil_append List.cons_append List.append_nil List.zip_cons_cons List.zip_nil_left List.zip_nil_right List.getElem?_cons_zero List.getElem?_cons_succ List.drop_zero List.drop_succ_cons List.take_succ_cons List.take_zero List.set_cons_zero List.set_cons_succ List.length_cons List.length_nil List.length_set List.replicate_one List.replicate_zero bne_self_eq_false beq_self_eq_true Nat.zero_add Nat.add_zero Nat.zero_mul Bool.false_eq_true Bool.true_eq_false Bool.not_true Bool.not_false and_true true_and false_and and_false or_false false_or or_true true_or not_true_eq_false not_false_eq_true ne_eq gt_iff_lt List.mem_cons List.not_mem_nil
attribute [local go_sem ↓] pseq_normal pseq_ret pseq_exit pblk_normal pblk_ret newDsts_cons inlDsts_cons gdst_zero gdst_succ retQ_normal retQ_ret qneed_nil qneed_cons retM_normal retM_ret endR_normal endR_ret endR_exit
attribute [local go_sem] Int.reduceToNat Int.reduceEq Int.reduceNe Int.reduceLT Int.reduceLE Int.reduceNeg Int.reduceAdd Nat.reduceEqDiff Nat.reduceAdd Nat.reduceSub Nat.reduceMul Nat.reduceLeDiff Nat.reduceLT
attribute [local go_sem ↓] reduceIte reduceCtorEq
open XX
def flOk (f : Nat) : Prop := f = 0 ∨ f = 1 ∨ f = 3 ∨ f = 5
theorem classS_fl (c : Int) (neg : Bool) (dir : Int) : flOk (classS c neg dir).2 := by
  unfold classS
  split
  · exact .inr (.inr (.inr rfl))
  split
  · exact .inr (.inr (.inl rfl))
  split
  · exact toS_flags _ _ _
  · exact toS_flags _ _ _
theorem roundS_fl {i : Iv} {neg : Bool} {dir : Int} {r : Nat × Nat} (h : roundS i neg dir = some r) : flOk r.2 := by
  unfold roundS at h
  split at h
  · cases h; exact toS_flags _ _ _
  · cases h
theorem looseS_fl {i : Iv} {neg : Bool} {dir : Int} {r : Nat × Nat} (h : looseS i neg dir = some r) : flOk r.2 := by
  unfold looseS at h
  split at h
  · cases h; exact toS_flags _ _ _
  · cases h
theorem tryS_fl (a : Ask) (sign : Int) (b : Nat) : flOk (tryS a sign b).1.1.2 := by
  unfold tryS
  split
  · exact classS_fl _ _ _
  split
  · split
    · rename_i r hr
      exact roundS_fl hr
    · exact .inl rfl
  · exact .inl rfl
theorem or1 {f : Nat} (h : flOk f) : flOk (f ||| 1) ∧ (f ||| 1) % 2 = 1 := by
  rcases h with rfl | rfl | rfl | rfl
  · exact ⟨.inr (.inl rfl), rfl⟩
  · exact ⟨.inr (.inl rfl), rfl⟩
  · exact ⟨.inr (.inr (.inl rfl)), rfl⟩
  · exact ⟨.inr (.inr (.inr rfl)), rfl⟩
theorem doS_facts (a : Ask) : flOk (doS a).2.1 ∧ ((doS a).2.2.1 = 0 ∨ (doS a).2.2.1 = 1 ∧ (doS a).2.1 % 2 = 1) ∧ (doS a).2.2.2 ≤ 9 := by
  have hr := run_facts a
  have hf : flOk (runS a).1.1.1.2 := (goS_inv (P := fun v => flOk v.1.2) (fun n => tryS_fl a (sgS a) n) (planS a.f a.t) ans0 0 0 (.inl rfl)).1
  unfold doS
  split
  · exact ⟨toS_flags _ _ _, .inl rfl, Nat.zero_le _⟩
  split
  · exact ⟨hf, .inl rfl, hr.1⟩
  split
  · rename_i r h
    have := or1 (looseS_fl h)
    exact ⟨this.1, .inr ⟨rfl, this.2⟩, hr.1⟩
  · exact ⟨.inr (.inl rfl), .inr ⟨rfl, rfl⟩, hr.1⟩
theorem ends_fl {x : Nat} {n : Int} : ∀ b f, endsS x n = some (b, f) → f < 32 := by
  intro b f
  unfold endsS
  repeat' split
  all_goals (intro h; first | (cases h; omega) | (cases h))
theorem opO_fl {k : Int} {x y : Nat} {n : Int} {r : Nat × Nat} (h : opO k x y n = some r) : r.2 < 32 := by
  obtain ⟨b, f⟩ := r
  show f < 32
  unfold opO at h
  split at h
  · unfold powS at h
    repeat' split at h
    all_goals first | (cases h; omega) | (cases h)
  split at h
  · unfold pownS at h
    repeat' split at h
    all_goals first | exact ends_fl b f h | (cases h; omega) | (cases h)
  split at h
  · unfold rootnS at h
    repeat' split at h
    all_goals first | exact ends_fl b f h | (cases h; omega) | (cases h)
  · unfold compS at h
    repeat' split at h
    all_goals first | (cases h; omega) | (cases h)
theorem and_u8 {f : Nat} (h : f < 32) : bits .and .u8 (f : Int) 1 = ((f % 2 : Nat) : Int) := by
  have key : ∀ g : Fin 32, bits .and .u8 ((g.val : Nat) : Int) 1 = ((g.val % 2 : Nat) : Int) := by decide +kernel
  exact key ⟨f, h⟩
set_option maxHeartbeats 4000000 in
theorem law_WholeTotal (pvs : List PV) (h : Fits [qOp, qInt, qInt, qInt] pvs) : PC E 7 pvs (.bool true) := by
  obtain ⟨_, _, _, _, rfl, ⟨k, x, y, n, rfl, hk, hx, hy, hn⟩, ⟨dir, rfl, hd⟩, ⟨f, rfl, hf⟩, ⟨t, rfl, ht⟩⟩ := fits4 h
  have k0 := l_alive
  have k1 := l_Far dir f t
  have k2 := l_How dir f t
  have k3 := l_Do24 hx hy hn.1 hn.2 k dir f t
  have k4 := l_Right24 dir f t
  by_cases c1 : farW t
  · rw [decide_eq_true c1] at k1
    simp only [opv, wayv, hvv] at k1 k2 k3 k4 ⊢
    refine PC.of_body follows Tryz.func7 (by decide +kernel) rfl (by kernel_rfl) (Nat.le_of_ble_eq_true rfl) (walk ?_)
    simp only [Tryz.f7, go_sem]
    refine qcall_i (k0) ?_; simp only [Tryz.f7, go_sem]
    refine qcall_i (k1) ?_; simp only [Tryz.f7, go_sem]
    try rfl
  rw [decide_eq_false c1] at k1
  unfold opPV at k3
  by_cases c2 : hOk dir f t
  case neg =>
    rw [if_neg c2] at k3
    rw [decide_eq_false c2] at k4
    simp only [opv, wayv, hvv, resC, Int.cast_ofNat_Int] at k1 k2 k3 k4 ⊢
    refine PC.of_body follows Tryz.func7 (by decide +kernel) rfl (by kernel_rfl) (Nat.le_of_ble_eq_true rfl) (walk ?_)
    simp only [Tryz.f7, go_sem]
    refine qcall_i (k0) ?_; simp only [Tryz.f7, go_sem]
    refine qcall_i (k1) ?_; simp only [Tryz.f7, go_sem]
    refine qcall_i (k2) ?_; simp only [Tryz.f7, go_sem]
    refine qcall_i (k3) ?_; simp only [Tryz.f7, go_sem]
    refine qcall_i (k4) ?_; simp only [Tryz.f7, go_sem]
    try rfl
  rw [if_pos c2] at k3
  rw [decide_eq_true c2] at k4
  have main : ∀ r : Nat × Nat × Nat × Nat, r.2.1 < 32 → (r.2.2.1 = 0 ∨ r.2.2.1 = 1 ∧ r.2.1 % 2 = 1) → r.2.2.2 ≤ 9 → PC E 31 [opv k x y n, hvv dir f t] (doPV r) → PC E 7 [opv k x y n, .int .i64 dir, .int .i64 f, .int .i64 t] (.bool true) := by
    rintro ⟨b, fl, st, tr⟩ h1 h2 h3 k5
    dsimp only at h1 h2 h3
    have ha := and_u8 h1
    simp only [opv, wayv, hvv, doPV] at k1 k2 k4 k5 ⊢
    refine PC.of_body follows Tryz.func7 (by decide +kernel) rfl (by kernel_rfl) (Nat.le_of_ble_eq_true rfl) (walk ?_)
    simp only [Tryz.f7, go_sem]
    refine qcall_i (k0) ?_; simp only [Tryz.f7, go_sem]
    refine qcall_i (k1) ?_; simp only [Tryz.f7, go_sem]
    refine qcall_i (k2) ?_; simp only [Tryz.f7, go_sem]
    refine qcall_i (k5) ?_; simp only [Tryz.f7, go_sem]
    refine qcall_i (k4) ?_; simp only [Tryz.f7, go_sem]
    refine qif_dt (by omega) ?_
    simp only [Tryz.f7, go_sem]
    refine qif_dt (by omega) ?_
    simp only [Tryz.f7, go_sem]
    refine qif_dt (by omega) ?_
    simp only [Tryz.f7, go_sem]
    rcases h2 with h2 | ⟨h2, h4⟩
    · refine qif_dt (by omega) ?_
      simp only [Tryz.f7, go_sem]
      try rfl
    · refine qif_df (by omega) ?_
      simp only [Tryz.f7, go_sem]
      refine qif_dt (by omega) ?_
      simp only [Tryz.f7, ha, go_sem]
      simp [h4]
  cases ho : opO k x y n with
  | some r =>
    rw [ho] at k3
    exact main (r.1, r.2, 0, 0) (opO_fl ho) (.inl rfl) (Nat.zero_le _) k3
  | none =>
    rw [ho] at k3
    obtain ⟨q1, q2, q3⟩ := doS_facts (opA k x y n dir f t)
    exact main _ (by rcases q1 with q | q | q | q <;> rw [q] <;> decide) q2 q3 k3
end Go.Proofs.YtfkgaldbcngliaaGreatDoor
