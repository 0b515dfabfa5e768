/- slices.IndexFunc and ContainsFunc over numbers, whatever the question is. -/
import Derived.Test.YtejmlngnpekagaaDoorG8
open Go PG Go.Proofs
set_option maxRecDepth 100000
set_option linter.unusedSimpArgs false
set_option linter.unusedVariables false
namespace Go.Proofs.YtejmlngnpekagaaDoor
attribute [local go_sem] Lay2 Lay3 Lay4 Lay5 Lay6 Lay7 Lay8 Lay9 Lay10 Lay11 Lay12 Lay13 Lay14 Lay15 Lay16 Lay17 Lay18 Lay19 Lay21 Lay22 Lay23 Lay24 Lay25 Lay30 Lay33 Lay36 Lay37 Lay46 Lay47 Lay48 Lay53 Lay54 Lay55 Lay59 Lay100 Lay101 Lay127 Lay146 Lay162 Lay168 Lay169 Lay173 Lay185 Lay186 Lay187 Lay188 Lay189 Lay191 Lay192 Lay194 Lay195 Lay196 Lay199 qexec_seq qexec_skip qexec_exit qexec_ret qexec_block qexec_loop qexec_range qexec_cond qexec_region qexec_drawn qops_nil qops_none qops_some put_some put_none pblk_exit pblk_other newDsts_nil inlDsts_nil isInl sget_cons sget_nil qval_some qbool_some qgs_bool qgs_und qfree_some qgrd_true qgrd_false qif_true qif_false qval_ite qval_itn qand_true map_ite map_some' map_none' qdo_move qdo_assign qdo_binOp qdo_pick qdo_unOp qdo_convert qdo_extract qdo_field qdo_fieldAddr qdo_alloc qdo_box qdo_build qdo_buildSlice qdo_load qdo_store qdo_nilCheck qdo_makeFunc qdo_makeSlice qdo_slice qdo_indexAddr qdo_call qcont_val qcont_new qcont_st qcont_app0 qcont_app qcont_inl qcont_call njSV_val njSV_nil njSV_row njSV_ptr njSV_sub binV_val binV_nil binV_nn binV_ptr bin_np bin_nnp nilCmp bin_add bin_sub bin_mul bin_quo bin_rem bin_and bin_or bin_xor bin_andNot bin_eql bin_neq bin_lss bin_leq bin_gtr bin_geq bin_shl bin_shr bin_seql bin_sneq bin_sadd bin_beql bin_aeql bin_aneq eqAnd_some eqCells_nil eqCells_cons fieldTypes isStruct eqCell bin_bneq un_not un_neg nj_ite Nat.beq stepA stepR isNew opSV constSV RV.sv allSome E_mu E_own qkeyIn_none qkeyIn_some qkeyAt_none qkeyAt_some Bool.or_false Bool.false_or Bool.or_true Bool.true_or cst setB res resSV pstart startL killL kill1 eraL frzL svPV rvPV rvInt rvSlice frzOf close closeL pconv pbuiltin pmax2 partPV setCells fillPV zrow bound newSV PV.cells Bk.cells Bk.with SV.key pres presL_nil presL_tmp presL_cell presC2_some cellPV_ptr presC List.toList_toArray List.size_toArray List.getElem?_drop Nat.mul_one Int.toNat_natCast Nat.not_lt_zero Nat.lt_irrefl decide_true decide_false Nat.not_lt Option.some.injEq PV.lst.injEq PV.int.injEq PV.bool.injEq PV.tuple.injEq List.cons.injEq Option.map_some Option.map_none Option.bind_some Option.toList List.map_cons List.map_nil List.nil_append List.cons_append List.append_nil List.zip_cons_cons List.zip_nil_left List.zip_nil_right List.getElem?_cons_zero List.getElem?_cons_succ List.drop_zero List.drop_succ_cons List.take_succ_cons List.take_zero List.set_cons_zero List.set_cons_succ List.length_cons List.length_nil List.length_set List.replicate_one List.replicate_zero bne_self_eq_false beq_self_eq_true Nat.zero_add Nat.add_zero Nat.zero_mul Bool.false_eq_true Bool.true_eq_false Bool.not_true Bool.not_false and_true true_and false_and and_false or_false false_or or_true true_or not_true_eq_false not_false_eq_true ne_eq gt_iff_lt List.mem_cons List.not_mem_nil
attribute [local go_sem ↓] pseq_normal pseq_ret pseq_exit pblk_normal pblk_ret newDsts_cons inlDsts_cons gdst_zero gdst_succ retQ_normal retQ_ret qneed_nil qneed_cons retM_normal retM_ret endR_normal endR_ret endR_exit
attribute [local go_sem] Int.reduceToNat Int.reduceEq Int.reduceNe Int.reduceLT Int.reduceLE Int.reduceNeg Int.reduceAdd Nat.reduceEqDiff Nat.reduceAdd Nat.reduceSub Nat.reduceMul Nat.reduceLeDiff Nat.reduceLT
attribute [local go_sem ↓] reduceIte reduceCtorEq

theorem g_Index {f : Nat} (hmu : E.mu f = false) {cs : List PV} {p : Nat → Bool} {l : List Nat} (hl : l.length ≤ 1000000) (hk : ∀ x ∈ l, PC E f (u x :: cs) (.bool (p x))) :
    PC E 135 [NL l, .clo f cs] (.int .i64 (match l.findIdx? p with | some i => (i : Int) | none => -1)) := by
  have hg : ∀ i, i < l.length → (U l)[i]? = some (.int .u64 (l.getD i 0 : Nat)) := fun i hi => U_getD hi
  have hk : ∀ i, i < l.length → PC E f (.int .u64 (l.getD i 0 : Nat) :: cs) (.bool (p (l.getD i 0))) := fun i hi =>
    hk _ (by rw [List.getD_eq_getElem?_getD, List.getElem?_eq_getElem hi]; exact List.getElem_mem _)
  have hs : ∀ i, i < l.length → p (l.getD i 0) = true → (∀ j, j < i → p (l.getD j 0) = false) → l.findIdx? p = some i := fun i hi h1 h2 => by
    rw [List.findIdx?_eq_some_iff_getElem]
    refine ⟨hi, ?_, fun j hj => ?_⟩
    · rw [List.getD_eq_getElem?_getD, List.getElem?_eq_getElem hi] at h1
      exact h1
    · have := h2 j hj
      rw [List.getD_eq_getElem?_getD, List.getElem?_eq_getElem (by omega)] at this
      rw [Option.getD_some] at this
      simpa using this
  have hn : (∀ j, j < l.length → p (l.getD j 0) = false) → l.findIdx? p = none := fun h => by
    rw [List.findIdx?_eq_none_iff]
    intro x hx
    obtain ⟨j, hj, rfl⟩ := List.getElem_of_mem hx
    have := h j hj
    rw [List.getD_eq_getElem?_getD, List.getElem?_eq_getElem hj] at this
    exact this
  rw [E_mu] at hmu
  generalize l.findIdx? p = R at *
  obtain ⟨X, hX⟩ : ∃ X : Nat → Nat, ∀ i, l.getD i 0 = X i := ⟨_, fun _ => rfl⟩
  simp only [hX] at hg hk hs hn
  simp only [NL]
  clear hX
  generalize U l = U1 at *
  generalize l.length = n at *
  refine PC.of_body follows Tryd.func135 (by decide +kernel) rfl (by kernel_rfl) (Nat.le_of_ble_eq_true rfl) (walk ?_)
  simp only [Tryd.f135, hmu, go_sem]
  refine PLoop.intro (fun i : Nat => ⟨[(0, .val (.lst n U1)), (1, .val (.clo f cs)), (7, .val (.int .i64 n)), (8, .val (.int .i64 i))], []⟩) (fun i => i ≤ n ∧ ∀ j, j < i → p (X j) = false) (fun i => n - i) 0 ⟨Nat.zero_le _, fun j hj => by omega⟩ ?_ fun i hi => walk ?_
  · simp [Wk, sget, killL, kill1, SV.key]
  obtain ⟨hi, hpi⟩ := hi
  have wi : IntKind.wrap .i64 ((i : Int) + 1) = ((i + 1 : Nat) : Int) := by rw [wrap64 (by omega) (by omega)]; omega
  simp only [Tryd.f135, go_sem]
  refine qif_d (fun h => ?_) (fun h => ?_)
  · have hin : i < n := by omega
    have x1 := hg i hin
    have k1 := hk i hin
    have h1 := hs i hin
    simp only [Tryd.f135, hmu, go_sem]
    refine qand_i (by first | omega | (simp [V_length, U_length, tab_length, maxLen]; done) | (simp [V_length, U_length, tab_length, maxLen]; omega) | (refine ⟨?_, ?_⟩ <;> first | omega | (simp [V_length, U_length, tab_length, maxLen]; done) | (simp [V_length, U_length, tab_length, maxLen]; omega))) ?_; simp only [Tryd.f135, hmu, go_sem]
    refine qval_i (congrArg (Option.map _) x1) ?_
    simp only [Tryd.f135, hmu, go_sem]
    refine qcall_i (k1) ?_; simp only [Tryd.f135, go_sem]
    refine qif_i (fun h => ?_) (fun h => ?_)
    · rw [h1 h hpi]
      simp only [Tryd.f135, go_sem]
      try rfl
    · simp only [Tryd.f135, wi, go_sem]
      refine ⟨i + 1, ⟨by omega, fun j hj => ?_⟩, by omega, ?_⟩
      · rcases Nat.lt_or_ge j i with hji | hji
        · exact hpi j hji
        · rw [show j = i by omega]; exact h
      · simp [Wk, sget, killL, kill1, SV.key]
  · have hin : i = n := by omega
    subst hin
    rw [hn hpi]
    simp only [Tryd.f135, go_sem]
    try rfl
theorem g_Contains {f : Nat} (hmu : E.mu f = false) {cs : List PV} {p : Nat → Bool} {l : List Nat} (hl : l.length ≤ 1000000) (hk : ∀ x ∈ l, PC E f (u x :: cs) (.bool (p x))) :
    PC E 97 [NL l, .clo f cs] (.bool (l.any p)) := by
  have k1 := g_Index hmu hl hk
  have hr : decide ((match l.findIdx? p with | some i => (i : Int) | none => -1) ≥ 0) = l.any p := by
    cases h : l.findIdx? p with
    | none =>
      rw [List.findIdx?_eq_none_iff] at h
      rw [List.any_eq_false.2 (fun x hx => by simpa using h x hx)]
      decide
    | some i =>
      obtain ⟨hi, h1, -⟩ := List.findIdx?_eq_some_iff_getElem.1 h
      rw [List.any_eq_true.2 ⟨l[i], List.getElem_mem _, h1⟩]
      exact decide_eq_true (Int.natCast_nonneg i)
  refine PC.of_body follows Tryd.func97 (by decide +kernel) rfl (by kernel_rfl) (Nat.le_of_ble_eq_true rfl) (walk ?_)
  generalize l.any p = A at *
  generalize (match l.findIdx? p with | some i => (i : Int) | none => -1) = R at *
  simp only [NL] at k1 ⊢
  simp only [Tryd.f97, go_sem]
  refine qcall_i (k1) ?_; simp only [Tryd.f97, hr, go_sem]
  try rfl
end Go.Proofs.YtejmlngnpekagaaDoor
