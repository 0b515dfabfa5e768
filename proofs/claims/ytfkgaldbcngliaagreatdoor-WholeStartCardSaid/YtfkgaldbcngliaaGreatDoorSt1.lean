import Derived.Test.YtfkgaldbcngliaaGreatDoorN7
import Derived.Test.YtfkgaldbcngliaaGreatDoorSn6
open Go PG Go.Proofs
set_option maxRecDepth 100000
set_option linter.unusedSimpArgs false
set_option linter.unusedVariables false
namespace Go.Proofs.YtfkgaldbcngliaaGreatDoor
attribute [local go_sem] Lay2 Lay3 Lay4 Lay5 Lay6 Lay7 Lay8 Lay9 Lay10 Lay11 Lay12 Lay13 Lay14 Lay15 Lay16 Lay17 Lay18 Lay19 Lay20 Lay21 Lay22 Lay26 Lay27 Lay28 Lay29 Lay31 Lay32 Lay33 Lay34 Lay35 Lay41 Lay42 Lay43 Lay47 Lay48 Lay60 Lay61 Lay62 Lay63 Lay64 Lay72 Lay73 Lay74 Lay83 Lay84 Lay86 Lay90 Lay91 Lay92 Lay93 Lay102 Lay103 Lay139 Lay143 Lay149 Lay158 Lay159 Lay160 Lay161 Lay162 Lay174 Lay175 Lay193 Lay207 Lay208 Lay209 Lay210 Lay228 Lay229 Lay237 Lay238 Lay265 Lay287 Lay295 Lay296 Lay297 Lay299 Lay301 Lay302 Lay303 Lay304 Lay305 Lay307 Lay308 Lay310 Lay311 Lay312 Lay315 Lay316 Lay317 qexec_seq qexec_skip qexec_exit qexec_ret qexec_block qexec_loop qexec_range qexec_cond qexec_region qexec_drawn qops_nil qops_none qops_some put_some put_none pblk_exit pblk_other newDsts_nil inlDsts_nil isInl sget_cons sget_nil qval_some qbool_some qgs_bool qgs_und qfree_some qgrd_true qgrd_false qif_true qif_false qval_ite qval_itn qand_true map_ite map_some' map_none' qdo_move qdo_assign qdo_binOp qdo_pick qdo_unOp qdo_convert qdo_extract qdo_makeInterface qdo_field qdo_fieldAddr qdo_alloc qdo_box qdo_build qdo_buildSlice qdo_load qdo_store qdo_nilCheck qdo_makeFunc qdo_makeSlice qdo_slice qdo_indexAddr qdo_call qcont_val qcont_new qcont_st qcont_app0 qcont_app qcont_inl qcont_call njSV_val njSV_nil njSV_row njSV_ptr njSV_sub binV_val binV_nil binV_nn binV_ptr bin_np bin_nnp nilCmp bin_add bin_sub bin_mul bin_quo bin_rem bin_and bin_or bin_xor bin_andNot bin_eql bin_neq bin_lss bin_leq bin_gtr bin_geq bin_shl bin_shr bin_seql bin_sneq bin_sadd bin_beql bin_aeql bin_aneq eqAnd_some eqCells_nil eqCells_cons fieldTypes isStruct eqCell bin_bneq un_not un_neg nj_ite Nat.beq stepA stepR isNew opSV constSV RV.sv allSome E_mu E_own qkeyIn_none qkeyIn_some qkeyAt_none qkeyAt_some Bool.or_false Bool.false_or Bool.or_true Bool.true_or cst setB res resSV pstart startL killL kill1 eraL frzL svPV rvPV rvInt rvSlice rvBytes frzOf close closeL pconv pbuiltin pmax2 partPV setCells fillPV zrow bound newSV PV.cells Bk.cells Bk.with SV.key pres presL_nil presL_tmp presL_cell presC2_some cellPV_ptr presC List.toList_toArray List.size_toArray List.getElem?_drop Nat.mul_one Int.toNat_natCast Nat.not_lt_zero Nat.lt_irrefl decide_true decide_false Nat.not_lt Option.some.injEq PV.lst.injEq PV.int.injEq PV.bool.injEq PV.tuple.injEq List.cons.injEq Option.map_some Option.map_none Option.bind_some Option.toList List.map_cons List.map_nil List.nil_append List.cons_append List.append_nil List.zip_cons_cons List.zip_nil_left List.zip_nil_right List.getElem?_cons_zero List.getElem?_cons_succ List.drop_zero List.drop_succ_cons List.take_succ_cons List.take_zero List.set_cons_zero List.set_cons_succ List.length_cons List.length_nil List.length_set List.replicate_one List.replicate_zero bne_self_eq_false beq_self_eq_true Nat.zero_add Nat.add_zero Nat.zero_mul Bool.false_eq_true Bool.true_eq_false Bool.not_true Bool.not_false and_true true_and false_and and_false or_false false_or or_true true_or not_true_eq_false not_false_eq_true ne_eq gt_iff_lt List.mem_cons List.not_mem_nil
attribute [local go_sem ↓] pseq_normal pseq_ret pseq_exit pblk_normal pblk_ret newDsts_cons inlDsts_cons gdst_zero gdst_succ retQ_normal retQ_ret qneed_nil qneed_cons retM_normal retM_ret endR_normal endR_ret endR_exit
attribute [local go_sem] Int.reduceToNat Int.reduceEq Int.reduceNe Int.reduceLT Int.reduceLE Int.reduceNeg Int.reduceAdd Nat.reduceEqDiff Nat.reduceAdd Nat.reduceSub Nat.reduceMul Nat.reduceLeDiff Nat.reduceLT
attribute [local go_sem ↓] reduceIte reduceCtorEq
open XX
def tFar (k dir f t : Int) : Prop := k < 0 ∨ 3 < k ∨ farW t ∨ ¬ hOk dir f t
instance (k dir f t : Int) : Decidable (tFar k dir f t) := inferInstanceAs (Decidable (_ ∨ _))
theorem t_far (k : Int) (x y : Nat) (n dir f t : Int) : PC E 28 [opv k x y n, wayv dir f t] (.bool (decide (tFar k dir f t))) := by
  have k1 := l_Far dir f t
  have k2 := l_Right24 dir f t
  by_cases c0 : k < 0
  · have h0 := decide_eq_true c0
    rw [decide_eq_true (show tFar k dir f t from .inl c0)]
    simp only [opv, wayv] at k1 k2 ⊢
    refine PC.of_body follows Tryz.func28 (by decide +kernel) rfl (by kernel_rfl) (Nat.le_of_ble_eq_true rfl) (walk ?_)
    simp only [Tryz.f28, h0, go_sem]
    try rfl
  have h0 := decide_eq_false c0
  by_cases c1 : 3 < k
  · have h1 := decide_eq_true c1
    rw [decide_eq_true (show tFar k dir f t from .inr (.inl c1))]
    simp only [opv, wayv] at k1 k2 ⊢
    refine PC.of_body follows Tryz.func28 (by decide +kernel) rfl (by kernel_rfl) (Nat.le_of_ble_eq_true rfl) (walk ?_)
    simp only [Tryz.f28, h0, h1, go_sem]
    try rfl
  have h1 := decide_eq_false c1
  by_cases c2 : farW t
  · rw [decide_eq_true (show tFar k dir f t from .inr (.inr (.inl c2)))]
    rw [decide_eq_true c2] at k1
    simp only [opv, wayv] at k1 k2 ⊢
    refine PC.of_body follows Tryz.func28 (by decide +kernel) rfl (by kernel_rfl) (Nat.le_of_ble_eq_true rfl) (walk ?_)
    simp only [Tryz.f28, h0, h1, go_sem]
    refine qcall_i (k1) ?_; simp only [Tryz.f28, go_sem]
    try rfl
  rw [decide_eq_false c2] at k1
  by_cases c3 : hOk dir f t
  · rw [decide_eq_false (show ¬ tFar k dir f t from fun h => by
      rcases h with h | h | h | h
      · exact c0 h
      · exact c1 h
      · exact c2 h
      · exact h c3)]
    rw [decide_eq_true c3] at k2
    simp only [opv, wayv] at k1 k2 ⊢
    refine PC.of_body follows Tryz.func28 (by decide +kernel) rfl (by kernel_rfl) (Nat.le_of_ble_eq_true rfl) (walk ?_)
    simp only [Tryz.f28, h0, h1, go_sem]
    refine qcall_i (k1) ?_; simp only [Tryz.f28, go_sem]
    refine qcall_i (k2) ?_; simp only [Tryz.f28, go_sem]
    try rfl
  · rw [decide_eq_true (show tFar k dir f t from .inr (.inr (.inr c3)))]
    rw [decide_eq_false c3] at k2
    simp only [opv, wayv] at k1 k2 ⊢
    refine PC.of_body follows Tryz.func28 (by decide +kernel) rfl (by kernel_rfl) (Nat.le_of_ble_eq_true rfl) (walk ?_)
    simp only [Tryz.f28, h0, h1, go_sem]
    refine qcall_i (k1) ?_; simp only [Tryz.f28, go_sem]
    refine qcall_i (k2) ?_; simp only [Tryz.f28, go_sem]
    try rfl
def opR (k : Int) (x y : Nat) (n dir f t : Int) : Nat × Nat × Nat :=
  match opO k x y n with
  | some r => (r.1, r.2, 0)
  | none => ((doS (opA k x y n dir f t)).1, (doS (opA k x y n dir f t)).2.1, (doS (opA k x y n dir f t)).2.2.1)
def rPV (r : Nat × Nat × Nat) : PV := .agg [.int .u64 (r.1 : Nat), .int .u8 (r.2.1 : Nat), .int .i64 (r.2.2 : Nat)]
theorem opPV_R {k : Int} {x y : Nat} {n dir f t : Int} (h : hOk dir f t) : ∃ tr, opPV (opO k x y n) dir f t (opA k x y n dir f t) = .tuple [rPV (opR k x y n dir f t), .int .i64 tr, .int .i64 0] := by
  unfold opPV opR
  rw [if_pos h]
  cases opO k x y n with
  | some r => exact ⟨_, rfl⟩
  | none => exact ⟨_, rfl⟩
theorem t_do {x y : Nat} (hx : x < W) (hy : y < W) {n : Int} (n1 : -9223372036854775808 ≤ n) (n2 : n < 9223372036854775808) (k : Int) {dir f t : Int} (h : hOk dir f t) : PC E 29 [opv k x y n, wayv dir f t] (rPV (opR k x y n dir f t)) := by
  have k1 := l_How dir f t
  have k2 := l_Do24 hx hy n1 n2 k dir f t
  obtain ⟨tr, e⟩ := opPV_R (k := k) (x := x) (y := y) (n := n) h
  rw [e] at k2
  generalize opR k x y n dir f t = R at *
  simp only [opv, wayv, hvv, rPV] at k1 k2 ⊢
  refine PC.of_body follows Tryz.func29 (by decide +kernel) rfl (by kernel_rfl) (Nat.le_of_ble_eq_true rfl) (walk ?_)
  simp only [Tryz.f29, go_sem]
  refine qcall_i (k1) ?_; simp only [Tryz.f29, go_sem]
  refine qcall_i (k2) ?_; simp only [Tryz.f29, go_sem]
  try rfl
theorem goS_last {A : Nat → (Nat × Nat) × Iv} {ok : Nat → Bool} : ∀ (l : List Nat) (v : (Nat × Nat) × Iv) (b t : Nat), (goS A ok l v b t).2 ≠ 0 → (goS A ok l v b t).1.1 = (match l.getLast? with | some n => A n | none => v)
  | [], v, b, t, h => rfl
  | n :: l, v, b, t, h => by
    unfold goS at h ⊢
    by_cases hk : ok n = true
    · rw [if_pos hk] at h; exact absurd rfl h
    · rw [if_neg hk] at h ⊢
      rw [goS_last l (A n) n (t + 1) h, List.getLast?_cons]
      cases l.getLast? <;> rfl
theorem planL_last : ∀ f n t, (planL f n t).getLast? = some t
  | 0, n, t => rfl
  | f + 1, n, t => by
    unfold planL
    split
    · rw [List.getLast?_cons, planL_last f (2 * n) t]; rfl
    · rfl
theorem run_last {a : Ask} (h : (runS a).2 ≠ 0) : (runS a).1.1 = (tryS a (sgS a) a.t.toNat).1 := by
  have := goS_last _ _ _ _ h
  unfold planS at this
  rw [planL_last] at this
  exact this
theorem run_found {a : Ask} (ha : AskOk a) (h : (runS a).2 = 0) : ∃ b, 32 ≤ b ∧ (tryS a (sgS a) b).2 = true ∧ (runS a).1.1 = (tryS a (sgS a) b).1 := by
  obtain ⟨n, h1, h2, h3⟩ := goS_found _ _ _ _ h
  exact ⟨n, (planS_range ha.plan h1).1, h2, h3⟩
theorem start_do {a : Ask} {f' : Int} (ha : AskOk a) (ha' : AskOk { a with f := f' }) :
    ((doS a).1 = (doS { a with f := f' }).1 ∧ (doS a).2.1 = (doS { a with f := f' }).2.1 ∧ (doS a).2.2.1 = (doS { a with f := f' }).2.2.1) ∨ (doS a).2.2.1 ≠ (doS { a with f := f' }).2.2.1 := by
  have ex : exactO { a with f := f' } = exactO a := rfl
  have et : ∀ s b, tryS { a with f := f' } s b = tryS a s b := fun _ _ => rfl
  have es : sgS { a with f := f' } = sgS a := rfl
  unfold doS
  rw [ex]
  cases hx : exactO a with
  | some d => exact .inl ⟨rfl, rfl, rfl⟩
  | none =>
    dsimp only
    by_cases h1 : (runS a).2 = 0
    · obtain ⟨b, b1, b2, b3⟩ := run_found ha h1
      rw [if_pos h1]
      by_cases h2 : (runS { a with f := f' }).2 = 0
      · obtain ⟨c, c1, c2, c3⟩ := run_found ha' h2
        rw [if_pos h2]
        rw [es, et] at c2 c3
        have := try_agree ha b1 c1 b2 c2
        rw [b3, c3]
        exact .inl ⟨congrArg (·.1) this, congrArg (·.2) this, rfl⟩
      · rw [if_neg h2]
        refine .inr ?_
        cases looseS (runS { a with f := f' }).1.1.2 a.neg a.dir <;> exact fun h : (0 : Nat) = 1 => absurd h (by decide)
    · rw [if_neg h1]
      by_cases h2 : (runS { a with f := f' }).2 = 0
      · rw [if_pos h2]
        refine .inr ?_
        cases looseS (runS a).1.1.2 a.neg a.dir <;> exact fun h : (1 : Nat) = 0 => absurd h (by decide)
      · rw [if_neg h2]
        have r1 := run_last h1
        have r2 := run_last h2
        rw [es, et] at r2
        have e : (runS { a with f := f' }).1.1 = (runS a).1.1 := by rw [r1, r2]
        rw [e]
        cases looseS (runS a).1.1.2 a.neg a.dir <;> exact .inl ⟨rfl, rfl, rfl⟩
theorem opA_f (k : Int) (x y : Nat) (n dir f t f' : Int) : opA k x y n dir f' t = { opA k x y n dir f t with f := f' } := by
  unfold opA
  split
  · rfl
  split
  · rfl
  split
  · rfl
  · rfl
theorem start_op {k : Int} {x y : Nat} (hx : x < W) (hy : y < W) {n : Int} (n1 : -9223372036854775808 ≤ n) (n2 : n < 9223372036854775808) {dir f t f' : Int} (h : hOk dir f t) (h' : hOk dir f' t) :
    opR k x y n dir f' t = opR k x y n dir f t ∨ (opR k x y n dir f' t).2.2 ≠ (opR k x y n dir f t).2.2 := by
  unfold opR
  cases ho : opO k x y n with
  | some r => exact .inl rfl
  | none =>
    have ha := opA_ok hx hy n1 n2 ho h
    have ha' := opA_ok hx hy n1 n2 ho h'
    rw [opA_f k x y n dir f t f'] at ha' ⊢
    rcases start_do ha ha' with ⟨e1, e2, e3⟩ | e
    · refine .inl ?_
      dsimp only
      rw [e1, e2, e3]
    · exact .inr (fun h => e h.symm)
end Go.Proofs.YtfkgaldbcngliaaGreatDoor
