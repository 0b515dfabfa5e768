import Derived.Test.YtfkgaldbcngliaaGreatDoorN2
open Go PG Go.Proofs
namespace Go.Proofs.YtfkgaldbcngliaaGreatDoor
attribute [local go_sem] Lay2 Lay3 Lay4 Lay5 Lay6 Lay7 Lay8 Lay9 Lay10 Lay11 Lay12 Lay13 Lay14 Lay15 Lay16 Lay17 Lay18 Lay19 Lay20 Lay21 Lay22 Lay26 Lay27 Lay28 Lay29 Lay31 Lay32 Lay33 Lay34 Lay35 Lay41 Lay42 Lay43 Lay47 Lay48 Lay60 Lay61 Lay62 Lay63 Lay64 Lay72 Lay73 Lay74 Lay83 Lay84 Lay86 Lay90 Lay91 Lay92 Lay93 Lay102 Lay103 Lay139 Lay143 Lay149 Lay158 Lay159 Lay160 Lay161 Lay162 Lay174 Lay175 Lay193 Lay207 Lay208 Lay209 Lay210 Lay228 Lay229 Lay237 Lay238 Lay265 Lay287 Lay295 Lay296 Lay297 Lay299 Lay301 Lay302 Lay303 Lay304 Lay305 Lay307 Lay308 Lay310 Lay311 Lay312 Lay315 Lay316 Lay317 qexec_seq qexec_skip qexec_exit qexec_ret qexec_block qexec_loop qexec_range qexec_cond qexec_region qexec_drawn qops_nil qops_none qops_some put_some put_none pblk_exit pblk_other newDsts_nil inlDsts_nil isInl sget_cons sget_nil qval_some qbool_some qgs_bool qgs_und qfree_some qgrd_true qgrd_false qif_true qif_false qval_ite qval_itn qand_true map_ite map_some' map_none' qdo_move qdo_assign qdo_binOp qdo_pick qdo_unOp qdo_convert qdo_extract qdo_makeInterface qdo_field qdo_fieldAddr qdo_alloc qdo_box qdo_build qdo_buildSlice qdo_load qdo_store qdo_nilCheck qdo_makeFunc qdo_makeSlice qdo_slice qdo_indexAddr qdo_call qcont_val qcont_new qcont_st qcont_app0 qcont_app qcont_inl qcont_call njSV_val njSV_nil njSV_row njSV_ptr njSV_sub binV_val binV_nil binV_nn binV_ptr bin_np bin_nnp nilCmp bin_add bin_sub bin_mul bin_quo bin_rem bin_and bin_or bin_xor bin_andNot bin_eql bin_neq bin_lss bin_leq bin_gtr bin_geq bin_shl bin_shr bin_seql bin_sneq bin_sadd bin_beql bin_aeql bin_aneq eqAnd_some eqCells_nil eqCells_cons fieldTypes isStruct eqCell bin_bneq un_not un_neg nj_ite Nat.beq stepA stepR isNew opSV constSV RV.sv allSome E_mu E_own qkeyIn_none qkeyIn_some qkeyAt_none qkeyAt_some Bool.or_false Bool.false_or Bool.or_true Bool.true_or cst setB res resSV pstart startL killL kill1 eraL frzL svPV rvPV rvInt rvSlice rvBytes frzOf close closeL pconv pbuiltin pmax2 partPV setCells fillPV zrow bound newSV PV.cells Bk.cells Bk.with SV.key pres presL_nil presL_tmp presL_cell presC2_some cellPV_ptr presC List.toList_toArray List.size_toArray List.getElem?_drop Nat.mul_one Int.toNat_natCast Nat.not_lt_zero Nat.lt_irrefl decide_true decide_false Nat.not_lt Option.some.injEq PV.lst.injEq PV.int.injEq PV.bool.injEq PV.tuple.injEq List.cons.injEq Option.map_some Option.map_none Option.bind_some Option.toList List.map_cons List.map_nil List.nil_append List.cons_append List.append_nil List.zip_cons_cons List.zip_nil_left List.zip_nil_right List.getElem?_cons_zero List.getElem?_cons_succ List.drop_zero List.drop_succ_cons List.take_succ_cons List.take_zero List.set_cons_zero List.set_cons_succ List.length_cons List.length_nil List.length_set List.replicate_one List.replicate_zero bne_self_eq_false beq_self_eq_true Nat.zero_add Nat.add_zero Nat.zero_mul Bool.false_eq_true Bool.true_eq_false Bool.not_true Bool.not_false and_true true_and false_and and_false or_false false_or or_true true_or not_true_eq_false not_false_eq_true ne_eq gt_iff_lt List.mem_cons List.not_mem_nil
attribute [local go_sem ↓] pseq_normal pseq_ret pseq_exit pblk_normal pblk_ret newDsts_cons inlDsts_cons gdst_zero gdst_succ retQ_normal retQ_ret qneed_nil qneed_cons retM_normal retM_ret endR_normal endR_ret endR_exit
attribute [local go_sem] Int.reduceToNat Int.reduceEq Int.reduceNe Int.reduceLT Int.reduceLE Int.reduceNeg Int.reduceAdd Nat.reduceEqDiff Nat.reduceAdd Nat.reduceSub Nat.reduceMul Nat.reduceLeDiff Nat.reduceLT
attribute [local go_sem ↓] reduceIte reduceCtorEq
section
open Go PG Go.Proofs
set_option maxRecDepth 100000
set_option linter.unusedSimpArgs false
set_option linter.unusedVariables false
open XX
def planL : Nat → Nat → Nat → List Nat
  | 0, _, t => [t]
  | f + 1, n, t => if n < t then n :: planL f (2 * n) t else [t]
def planOk (f t : Int) : Prop := 32 ≤ f ∧ f ≤ t ∧ 64 ≤ t ∧ t ≤ 8192
instance (f t : Int) : Decidable (planOk f t) := inferInstanceAs (Decidable (_ ∧ _))
def planS (f t : Int) : List Nat := planL 8 f.toNat t.toNat
def IL (l : List Nat) : List PV := l.map fun n : Nat => PV.int .i64 (n : Int)
theorem planL_len : ∀ f n t, (planL f n t).length ≤ f + 1
  | 0, n, t => Nat.le_refl _
  | f + 1, n, t => by
    unfold planL
    split
    · have := planL_len f (2 * n) t
      simp; omega
    · simp
theorem planL_range : ∀ f n t, 32 ≤ n → 32 ≤ t → ∀ x ∈ planL f n t, 32 ≤ x ∧ x ≤ t
  | 0, n, t, hn, ht, x, hx => by
    unfold planL at hx
    rw [List.mem_singleton] at hx; omega
  | f + 1, n, t, hn, ht, x, hx => by
    unfold planL at hx
    split at hx
    · rename_i h
      rcases List.mem_cons.1 hx with h1 | h1
      · omega
      · exact planL_range f (2 * n) t (by omega) ht x h1
    · rw [List.mem_singleton] at hx; omega
theorem planS_range {f t : Int} (h : planOk f t) {x : Nat} (hx : x ∈ planS f t) : 32 ≤ x ∧ (x : Int) ≤ t ∧ x ≤ 8192 := by
  obtain ⟨h1, h2, h3, h4⟩ := h
  have := planL_range 8 f.toNat t.toNat (by omega) (by omega) x hx
  omega
set_option maxHeartbeats 2000000 in
theorem c_Plan (f t : Int) : PC E 99 [.int .i64 f, .int .i64 t] (if planOk f t then .tuple [.lst (planS f t).length (IL (planS f t)), .int .i64 0] else .tuple [.lst 0 [], .int .i64 1]) := by
  obtain ⟨R, hR⟩ : ∃ R, R = (if planOk f t then PV.tuple [.lst (planS f t).length (IL (planS f t)), .int .i64 0] else .tuple [.lst 0 [], .int .i64 1]) := ⟨_, rfl⟩
  rw [← hR]
  refine PC.of_body follows Tryz.func99 (by decide +kernel) rfl (by kernel_rfl) (Nat.le_of_ble_eq_true rfl) (walk ?_)
  simp only [Tryz.f99, go_sem]
  by_cases c1 : f < 32
  · rw [if_neg (fun h => by have := h.1; omega)] at hR
    subst hR
    refine qif_dt c1 ?_
    simp only [Tryz.f99, go_sem]
    try rfl
  refine qif_df c1 ?_
  simp only [Tryz.f99, go_sem]
  by_cases c2 : f > t
  · rw [if_neg (fun h => by have := h.2.1; omega)] at hR
    subst hR
    refine qif_dt c2 ?_
    simp only [Tryz.f99, go_sem]
    try rfl
  refine qif_df c2 ?_
  simp only [Tryz.f99, go_sem]
  by_cases c3 : t < 64
  · rw [if_neg (fun h => by have := h.2.2.1; omega)] at hR
    subst hR
    refine qif_dt c3 ?_
    simp only [Tryz.f99, go_sem]
    try rfl
  refine qif_df c3 ?_
  simp only [Tryz.f99, go_sem]
  by_cases c4 : t > 8192
  · rw [if_neg (fun h => by have := h.2.2.2; omega)] at hR
    subst hR
    refine qif_dt c4 ?_
    simp only [Tryz.f99, go_sem]
    try rfl
  refine qif_df c4 ?_
  simp only [Tryz.f99, go_sem]
  rw [if_pos ⟨by omega, by omega, by omega, by omega⟩] at hR
  have eP : planS f t = planL 8 f.toNat t.toNat := rfl
  have hlen := planL_len 8 f.toNat t.toNat
  rw [← eP] at hlen
  obtain ⟨T, rfl⟩ : ∃ T : Nat, t = T := ⟨t.toNat, by omega⟩
  obtain ⟨F, rfl⟩ : ∃ F : Nat, f = F := ⟨f.toNat, by omega⟩
  rw [Int.toNat_natCast, Int.toNat_natCast] at eP
  generalize planS (F : Int) (T : Int) = P at *
  refine PLoop.nilrow 6 32 (by decide) 3 1 rfl ?_
  refine PLoop.intro (fun i : List Nat × Nat × Nat => ⟨[(1, .val (.int .i64 T)), (6, .row 32), (7, .val (.int .i64 i.2.1))], [(32, (.row 3 1 i.1.length (IL i.1), false))]⟩)
    (fun i => i.1 ++ planL i.2.2 i.2.1 T = P ∧ T ≤ i.2.1 * 2 ^ i.2.2 ∧ i.1.length + i.2.2 = 8 ∧ i.2.1 ≤ 16384) (fun i => i.2.2) ([], F, 8) ⟨eP.symm, by show T ≤ F * 256; omega, rfl, by dsimp only; omega⟩ ?_ fun i hi => walk ?_
  · simp [Wk, sget, killL, kill1, SV.key, IL]
  obtain ⟨l, n, fu⟩ := i
  dsimp only at hi ⊢
  obtain ⟨h1, h2, h3, h4⟩ := hi
  have wn : IntKind.wrap .i64 ((n : Int) * 2) = ((2 * n : Nat) : Int) := by rw [wrap64 (by omega) (by omega)]; omega
  have hmx : maxLen = 9223372036854775807 := rfl
  simp only [Tryz.f99, go_sem]
  refine qif_d (fun h => ?_) (fun h => ?_)
  · obtain ⟨g, rfl⟩ : ∃ g, fu = g + 1 := ⟨fu - 1, by
      rcases Nat.eq_zero_or_pos fu with h0 | h0
      · subst h0; omega
      · omega⟩
    unfold planL at h1
    rw [if_pos (by omega)] at h1
    simp only [Tryz.f99, List.range_zero, List.getD_cons_zero, List.getD_cons_succ, Nat.reduceMod, wn, go_sem]
    refine qand_i (by rw [hmx]; omega) ?_
    simp only [Tryz.f99, List.range_zero, List.getD_cons_zero, List.getD_cons_succ, Nat.reduceMod, wn, go_sem]
    have h5 : T ≤ 2 * n * 2 ^ g := by
      rw [Nat.pow_succ] at h2
      rw [Nat.mul_comm 2 n, Nat.mul_assoc, Nat.mul_comm 2]
      exact h2
    have h6 : l ++ [n] ++ planL g (2 * n) T = P := by rw [List.append_assoc]; exact h1
    refine ⟨(l ++ [n], 2 * n, g), ⟨h6, h5, by dsimp only; rw [List.length_append, List.length_singleton]; omega, by dsimp only; omega⟩, by dsimp only; omega, ?_⟩
    simp [Wk, sget, killL, kill1, SV.key, IL]
  · have e : planL fu n T = [T] := by
      cases fu with
      | zero => rfl
      | succ g => unfold planL; rw [if_neg (by omega)]
    rw [e] at h1
    simp only [Tryz.f99, List.range_zero, List.getD_cons_zero, List.getD_cons_succ, Nat.reduceMod, go_sem]
    refine qand_i (by rw [hmx]; omega) ?_
    simp only [Tryz.f99, List.range_zero, List.getD_cons_zero, List.getD_cons_succ, Nat.reduceMod, go_sem]
    subst h1
    subst hR
    simp [IL]
end
section
open Go PG Go.Proofs Go.RowKit
set_option maxRecDepth 100000
set_option linter.unusedSimpArgs false
set_option linter.unusedVariables false
open XX
def ansC (v : (Nat × Nat) × Iv) : List PV := [.int .u64 (v.1.1 : Nat), .int .u8 (v.1.2 : Nat), .int .i64 0, .bool v.2.lo.s, NN v.2.lo.m, .int .i64 v.2.lo.e, .bool v.2.hi.s, NN v.2.hi.m, .int .i64 v.2.hi.e]
def ans0 : (Nat × Nat) × Iv := ((0, 0), Iv.zero)
def goS (A : Nat → (Nat × Nat) × Iv) (ok : Nat → Bool) : List Nat → ((Nat × Nat) × Iv) → Nat → Nat → (((Nat × Nat) × Iv) × Nat × Nat) × Nat
  | [], v, b, t => ((v, b, t), 2)
  | n :: l, v, b, t => if ok n = true then ((A n, n, t + 1), 0) else goS A ok l (A n) n (t + 1)
def runC (r : (((Nat × Nat) × Iv) × Nat × Nat) × Nat) : List PV := ansC r.1.1 ++ [.int .i64 (r.1.2.1 : Nat), .int .i64 (r.1.2.2 : Nat), .int .i64 (r.2 : Nat)]
theorem func_nil {P : Program} (w : World) {t : TypeId} {d : TypeDesc} {ps rs : Array TypeId} (ht : P.underlying t = some d) (hd : ∃ a b c, d = .func a b c) {f : Fn} {xs ys : Array Value} (x y : Operand) :
    (do eqGuard .eql t x y (.func f xs ys) .nilFunc; binOp .eql t (.func f xs ys) .nilFunc : Sem Value).run P w = .ok (.bool false) w := by
  obtain ⟨a, b, c, rfl⟩ := hd
  have h : ∀ d : Nat, (Op.equalIn (d + 1) t (.func f xs ys) .nilFunc).run P w = .ok false w := fun d => by
    simp [Op.equalIn, run_underlying ht]
  simp only [binOp]
  simp [eqGuard, Op.equal, Op.maxDepth, h 9999]
theorem step_atV {ops : Array Oper} {i : Nat} {o : Oper} {s s' : PS} (ho : ops[i]? = some o) (hg : o.guard = none) (hs : StepP E o s s') : StepI E ops i s s' := ⟨o, ho, by rw [hg]; exact hs⟩
theorem nfq_ops {N : Nat} {wk : Gh} {w0 : Fm} {Pr0 : Nat → Nat → Prop} {m : Nat → Value} {Pr : Nat → Nat → Prop} {a : Act} {w : World} {Q : Exit → Act → World → Prop} {t0 t1 : TypeId} {p0 p1 : String} {f0 f1 : Array Edge} {τ : List (Nat × SV)} {σ : List (Nat × (Bk × Bool))} {f : FuncId} {cs : List PV} (hN : 26 ≤ N)
    (hr : Rel E N wk w0 Pr0 (ES.den ⟨τ, σ⟩) m Pr a w) (h2 : sget τ 2 = some (.val (.clo f cs)))
    (hQ : ∀ m' Pr' a' w', Rel E N wk w0 Pr0 (ES.den ⟨(14, .val (.bool false)) :: (13, .val (.clo f cs)) :: τ, σ⟩) m' Pr' a' w' → Q .normal a' w') :
    wpOpsIn (RF none) 0 E.P #[⟨some 13, .move (.tmp 2), t0, p0, f0, none⟩, ⟨some 14, .binOp .eql 215 (.tmp 13) (.const .nilFunc) 215, t1, p1, f1, none⟩] Q [0, 1] a w := by
  obtain ⟨o0, h0⟩ : ∃ o : Oper, o = ⟨some 13, .move (.tmp 2), t0, p0, f0, none⟩ := ⟨_, rfl⟩
  obtain ⟨o1, h1⟩ : ∃ o : Oper, o = ⟨some 14, .binOp .eql 215 (.tmp 13) (.const .nilFunc) 215, t1, p1, f1, none⟩ := ⟨_, rfl⟩
  rw [← h0, ← h1]
  have hds : dstsOk N #[o0, o1] = true := by
    subst h0 h1
    rw [dstsOk, ← Array.all_toList]
    simp only [List.all_cons, List.all_nil, Bool.and_true, Bool.and_eq_true, decide_eq_true_eq]
    exact ⟨(by omega : 13 < N), (by omega : 14 < N)⟩
  have nm : ∀ (i : Nat) (o : Oper) (s : PS), #[o0, o1][i]? = some o → isNew o.op = false → NMs #[o0, o1] [i] s := fun i o s ho hn j hj o' ho' hn' => by
    rw [List.mem_singleton] at hj
    subst hj
    rw [ho] at ho'
    cases ho'
    rw [hn] at hn'
    cases hn'
  rw [wpOpsIn_cons]
  refine stepI_sound (s' := ES.den ⟨(13, .val (.clo f cs)) :: τ, σ⟩) hds hr (nm 0 o0 _ rfl (by rw [h0]; rfl)) (step_atV (o := o0) rfl (by rw [h0]) ?_) fun m1 Pr1 a1 w1 hr1 => ?_
  · rw [h0]
    show StepP E ⟨some 13, .move (.tmp 2), t0, p0, f0, none⟩ _ _
    unfold StepP
    refine (if_pos (show isA (Op.move (Operand.tmp 2)) = true from rfl)).mpr ⟨.val (.clo f cs), ?_, rfl⟩
    show stepA E (Op.move (Operand.tmp 2)) (opSV E (sget τ)) = _
    simp only [stepA, opSV, h2]
  rw [wpOpsIn_cons]
  unfold wpOpIn
  have e1 : (#[o0, o1] : Array Oper)[1]? = some o1 := rfl
  rw [e1]
  simp only
  rw [if_pos (by rw [h1]; simp [Region.wanted]), h1]
  obtain ⟨xv, hxv, ex⟩ := hr1.tmp 13 (.val (.clo f cs)) rfl
  have ev : a1.eval (.tmp 13) = xv := by simp only [Act.eval, getD_of hxv]
  obtain ⟨d, hty, hd⟩ : ∃ d, Tryz.prog.underlying 215 = some d ∧ ∃ a b c, d = .func a b c := ⟨_, Tryz.underlying215, _, _, _, rfl⟩
  have hrun : (execOp a1.eval ⟨some 14, .binOp .eql 215 (.tmp 13) (.const .nilFunc) 215, t1, p1, f1, none⟩).run E.P w1 = .ok (.value (.bool false)) w1 := by
    simp only [execOp]
    rw [ev, show a1.eval (.const .nilFunc) = .nilFunc from rfl]
    have ex' : Rep _ (.clo f cs) xv := ex
    obtain ⟨xs, rfl, -⟩ := ex'.clo_inv
    rw [Sem.run_bind, show E.P = Tryz.prog from rfl, func_nil w1 (ps := #[]) (rs := #[]) hty hd]
    rfl
  refine wpIn_of_wp (fun c hc => by cases hc) (val_step hr1 (fun d hd => by cases hd; exact Nat.lt_of_lt_of_le (by decide) hN) hrun (v := .val (.bool false)) (Rep.bool false) fun m2 Pr2 a2 w2 hr2 => ?_)
  exact hQ m2 Pr2 a2 w2 hr2
theorem IL_get (P : List Nat) (i : Nat) (h : i < P.length) : (IL P)[i]? = some (.int .i64 ((P.getD i 0 : Nat) : Int)) := by
  unfold IL
  rw [List.getElem?_map, List.getD_eq_getElem?_getD, List.getElem?_eq_getElem h]
  rfl
set_option maxHeartbeats 4000000 in
theorem c_Go {f : Nat} (hmu : E.mu f = false) {cs : List PV} {A : Nat → (Nat × Nat) × Iv} {ok : Nat → Bool} {P : List Nat} (hl : P.length ≤ 1000) (hk : ∀ n ∈ P, PC E f (.int .i64 (n : Nat) :: cs) (.tuple [.agg (ansC (A n)), .bool (ok n)])) :
    PC E 154 [.lst P.length (IL P), .np, .clo f cs] (.tuple [.agg (runC (goS A ok P ans0 0 0)), .int .i64 0]) := by
  have hk' : ∀ i, i < P.length → PC E f (.int .i64 ((P.getD i 0 : Nat) : Int) :: cs) (.tuple [.agg (ansC (A (P.getD i 0))), .bool (ok (P.getD i 0))]) := fun i hi =>
    hk _ (by rw [List.getD_eq_getElem?_getD, List.getElem?_eq_getElem hi]; exact List.getElem_mem _)
  have hg := IL_get P
  have hdr : ∀ i, i < P.length → P.drop i = P.getD i 0 :: P.drop (i + 1) := fun i hi => by
    rw [List.getD_eq_getElem?_getD, List.getElem?_eq_getElem hi]
    exact List.drop_eq_getElem_cons hi
  have hd0 : P.drop P.length = [] := List.drop_length
  have hR0 : goS A ok (P.drop 0) ans0 0 0 = goS A ok P ans0 0 0 := by rw [List.drop_zero]
  rw [E_mu] at hmu
  generalize goS A ok P ans0 0 0 = R at *
  obtain ⟨X, hX⟩ : ∃ X : Nat → Nat, ∀ i, P.getD i 0 = X i := ⟨_, fun _ => rfl⟩
  simp only [hX] at hg hk' hdr
  clear hk hX
  generalize IL P = IP at *
  generalize hn : P.length = n at *
  refine PC.of_sem Tryz.func154 (by decide +kernel) rfl (Nat.le_of_ble_eq_true rfl) ?_
  refine PSem.cut follows (by kernel_rfl) 2 (fun _ : Unit => ⟨[(0, .val (.lst n IP)), (1, .val .np), (2, .val (.clo f cs)), (6, .ptr 6 0), (7, .val (.int .i64 0)), (8, .ptr 8 0)], [(6, (.box (ansC ans0 ++ [.int .i64 0, .int .i64 0, .int .i64 0]), false)), (8, (.box (ansC ans0 ++ [.int .i64 0, .int .i64 0, .int .i64 0]), false))]⟩) (fun _ => True) ?_ (fun _ _ => ?_)
  · simp only [Tryz.f154, hmu, qfirst_succ, qfirst_zero, after_succ, after_zero, go_sem]
    try refine ⟨(), ?_⟩
    simp [Wk, sget, killL, kill1, SV.key, ansC, ans0, Iv.zero, Dy.zero, NN0]
  · intro wk w0 Pr0 m Pr act w hr
    simp only [after_succ, after_zero]
    refine wpIn_seq (wpIn_seq (wpIn_region (nfq_ops (N := 49) (by decide) hr rfl fun m1 Pr1 a1 w1 hr1 => ?_)))
    have hv := (hr1.opSV (x := .tmp 14) (v := .val (.bool false)) rfl : Rep _ _ _).bool_inv
    refine wpIn_cond_false hv (wpIn_skip ?_)
    refine PSem.last follows (by kernel_rfl) ?_ wk w0 Pr0 m1 Pr1 a1 w1 hr1
    simp only [ansC, ans0, Iv.zero, Dy.zero, List.cons_append, List.nil_append]
    simp only [Tryz.f154, hmu, go_sem]
    refine PLoop.intro (fun i : Nat × ((Nat × Nat) × Iv) × Nat × Nat => ⟨[(1, .val .np), (2, .val (.clo f cs)), (6, .ptr 6 0), (8, .ptr 8 0), (17, .val (.lst n IP)), (18, .val (.int .i64 n)), (19, .val (.int .i64 i.1))],
      [(6, (.box (ansC ans0 ++ [.int .i64 0, .int .i64 0, .int .i64 0]), false)), (8, (.box (ansC i.2.1 ++ [.int .i64 (i.2.2.1 : Nat), .int .i64 (i.2.2.2 : Nat), .int .i64 2]), false))]⟩)
      (fun i => i.1 ≤ n ∧ goS A ok (P.drop i.1) i.2.1 i.2.2.1 i.2.2.2 = R ∧ i.2.2.2 = i.1) (fun i => n - i.1) (0, ans0, 0, 0) ⟨Nat.zero_le _, hR0, rfl⟩ ?_ fun i hi => walk ?_
    · simp [Wk, sget, killL, kill1, SV.key, ansC, ans0, Iv.zero, Dy.zero, NN0]
    obtain ⟨i, v, b, t⟩ := i
    dsimp only at hi ⊢
    obtain ⟨hi, hgo, rfl⟩ := hi
    have wi : IntKind.wrap .i64 ((t : Int) + 1) = ((t + 1 : Nat) : Int) := by rw [wrap64 (by omega) (by omega)]; omega
    simp only [ansC, ans0, Iv.zero, Dy.zero, List.cons_append, List.nil_append]
    simp only [Tryz.f154, go_sem]
    refine qif_d (fun h => ?_) (fun h => ?_)
    · have hin : t < n := by omega
      have x1 := hg t hin
      have k1 := hk' t hin
      rw [hdr t hin] at hgo
      unfold goS at hgo
      generalize X t = x at *
      cases hok : ok x with
      | true =>
        rw [hok, if_pos rfl] at hgo
        rw [hok] at k1
        subst hgo
        simp only [ansC] at k1
        simp only [Tryz.f154, hmu, go_sem]
        refine qand_i (by first | omega | (simp [V_length, U_length, tab_length, maxLen]; done) | (simp [V_length, U_length, tab_length, maxLen]; omega) | (refine ⟨?_, ?_⟩ <;> first | omega | (simp [V_length, U_length, tab_length, maxLen]; done) | (simp [V_length, U_length, tab_length, maxLen]; omega))) ?_; simp only [Tryz.f154, hmu, go_sem]
        refine qval_i (congrArg (Option.map _) x1) ?_
        simp only [Tryz.f154, hmu, nilCmp, go_sem]
        refine qcall_i (k1) ?_; simp only [Tryz.f154, hmu, wi, go_sem]
        simp [runC, ansC]
      | false =>
        rw [hok, if_neg Bool.false_ne_true] at hgo
        rw [hok] at k1
        simp only [ansC] at k1
        simp only [Tryz.f154, hmu, go_sem]
        refine qand_i (by first | omega | (simp [V_length, U_length, tab_length, maxLen]; done) | (simp [V_length, U_length, tab_length, maxLen]; omega) | (refine ⟨?_, ?_⟩ <;> first | omega | (simp [V_length, U_length, tab_length, maxLen]; done) | (simp [V_length, U_length, tab_length, maxLen]; omega))) ?_; simp only [Tryz.f154, hmu, go_sem]
        refine qval_i (congrArg (Option.map _) x1) ?_
        simp only [Tryz.f154, hmu, nilCmp, go_sem]
        refine qcall_i (k1) ?_; simp only [Tryz.f154, hmu, wi, go_sem]
        refine ⟨(t + 1, A x, x, t + 1), ⟨by omega, hgo, rfl⟩, by dsimp only; omega, ?_⟩
        simp [Wk, sget, killL, kill1, SV.key, ansC, ans0, Iv.zero, Dy.zero, NN0]
    · have hin : t = n := by omega
      subst hin
      rw [hd0] at hgo
      unfold goS at hgo
      subst hgo
      simp only [Tryz.f154, go_sem]
      simp [runC, ansC]
end
section
open Go PG Go.Proofs
set_option maxRecDepth 100000
set_option linter.unusedSimpArgs false
set_option linter.unusedVariables false
open XX
structure Ask where
  x : Dy
  y : Dy
  n : Nat
  neg : Bool
  dir : Int
  f : Int
  t : Int
def RA (p : PV) (a : Ask) : Prop := ∃ (s1 : Bool) (P1 : PV) (e1 : Int) (s2 : Bool) (P2 : PV) (e2 : Int),
  p = .agg [.bool s1, P1, .int .i64 e1, .bool s2, P2, .int .i64 e2, .int .u64 (a.n : Nat), .bool a.neg, .int .i64 a.dir, .int .i64 a.f, .int .i64 a.t] ∧ RD (DP s1 P1 e1) a.x ∧ RD (DP s2 P2 e2) a.y
structure AskOk (a : Ask) : Prop where
  x : LgOk a.x
  xl : -2200 ≤ a.x.top ∧ a.x.top ≤ 2200
  xb : bitLen a.x.m ≤ 2400
  y : a.y.ok
  y0 : a.y.m ≠ 0
  yb : bitLen a.y.m ≤ 64
  yt : -1100 ≤ a.y.top ∧ a.y.top ≤ 1100
  n1 : 1 ≤ a.n
  nW : a.n < W
  dir : 0 ≤ a.dir ∧ a.dir ≤ 3
  plan : planOk a.f a.t
theorem top_eq {d : Dy} (h : d.m ≠ 0) : d.top = bitLen d.m - 1 + d.e := by unfold Dy.top; rw [if_neg h]
theorem lim_top {K : Nat} {d : Dy} (ho : d.ok) (h0 : d.m ≠ 0) (he : -(K : Int) ≤ d.e) (ht : d.top < K) : Lim K d := by
  refine ⟨ho, .inr he, Nat.lt_of_lt_of_le (top_at h0 he).2 (Nat.pow_le_pow_right (by decide) (by omega))⟩
theorem AskOk.xLim {a : Ask} (h : AskOk a) : Lim 4700 a.x := by
  have h1 := h.xl
  have h2 := h.xb
  have h3 := bitLen_pos h.x.m0
  have h4 := top_eq h.x.m0
  exact lim_top h.x.ok h.x.m0 (by omega) (by omega)
theorem AskOk.yLim {a : Ask} (h : AskOk a) : Lim 1200 a.y := by
  have h1 := h.yt
  have h2 := h.yb
  have h3 := bitLen_pos h.y0
  have h4 := top_eq h.y0
  exact lim_top h.y h.y0 (by omega) (by omega)
theorem o_short {p : PV} {d : Dy} {K : Nat} (h : RD p d) (hl : Lim K d) (hK : K ≤ 200000) {b mt : Int} (hb : (bitLen d.m : Int) ≤ b) (ht : -mt ≤ d.top ∧ d.top ≤ mt) (hm : mt ≤ 1073741824) : PC E 212 [p, .int .i64 b, .int .i64 mt] (.bool true) := by
  have k1 := r_Bare h
  rw [okD_of (hl.fits (by omega))] at k1
  have hR : RD d.pv d := hl.RD (by omega)
  have k2 := r_Top hR
  have k3 := k_Bits (num_bits (x := d.m) (by have := hl.bits; omega))
  have wn : IntKind.wrap .i64 (0 - mt) = -mt := by rw [wrap64 (by omega) (by omega)]; omega
  generalize decide (d.m ≠ 0) = b0 at *
  generalize d.top = T at *
  obtain ⟨s, q, x, e, rfl, -⟩ := h
  simp only [DP, Dy.pv, NN, NL] at k1 k2 k3 ⊢
  refine PC.of_body follows Tryz.func212 (by decide +kernel) rfl (by kernel_rfl) (Nat.le_of_ble_eq_true rfl) (walk ?_)
  simp only [Tryz.f212, go_sem]
  refine qcall_i (k1) ?_; simp only [Tryz.f212, go_sem]
  refine qcall_i (k2) ?_; simp only [Tryz.f212, go_sem]
  refine qcall_i (k3) ?_; simp only [Tryz.f212, go_sem]
  refine qif_dt hb ?_
  simp only [Tryz.f212, wn, go_sem]
  refine qif_dt (by omega) ?_
  simp only [Tryz.f212, go_sem]
  simp; omega
theorem o_Right {p : PV} {a : Ask} (h : RA p a) (ha : AskOk a) : PC E 151 [p] (.bool true) := by
  obtain ⟨s1, P1, e1, s2, P2, e2, rfl, h1, h2⟩ := h
  have k1 := c_Plan a.f a.t
  rw [if_pos ha.plan] at k1
  have k2 := o_short h1 ha.xLim (by decide) (b := 4000) (mt := 1048576) (by have := ha.x.bits; omega) (by have := ha.x.top; omega) (by decide)
  have k3 := r_Sign h1
  rw [ha.x.sg] at k3
  have k4 := o_short h2 ha.yLim (by decide) (b := 64) (mt := 1100) (by have := ha.yb; omega) (by have := ha.yt; omega) (by decide)
  have hn := ha.n1
  have hd := ha.dir
  generalize (planS a.f a.t).length = L at *
  generalize IL (planS a.f a.t) = IP at *
  simp only [DP] at k1 k2 k3 k4
  refine PC.of_body follows Tryz.func151 (by decide +kernel) rfl (by kernel_rfl) (Nat.le_of_ble_eq_true rfl) (walk ?_)
  simp only [Tryz.f151, go_sem]
  refine qcall_i (k1) ?_; simp only [Tryz.f151, go_sem]
  refine qcall_i (k2) ?_; simp only [Tryz.f151, go_sem]
  refine qcall_i (k3) ?_; simp only [Tryz.f151, go_sem]
  refine qcall_i (k4) ?_; simp only [Tryz.f151, go_sem]
  refine qif_dt (by omega) ?_
  simp only [Tryz.f151, go_sem]
  refine qif_dt (by omega) ?_
  simp only [Tryz.f151, go_sem]
  simp; omega
def scS (y : Dy) (b : Nat) : Nat := min (b + 64 + (max (y.top + 1) 0).toNat) 8900
theorem o_scale {p : PV} {a : Ask} (h : RA p a) (ha : AskOk a) {b : Nat} (hb : b ≤ 8192) : PC E 234 [p, .int .i64 b] (.int .i64 (scS a.y b)) := by
  obtain ⟨s1, P1, e1, s2, P2, e2, rfl, h1, h2⟩ := h
  have k1 := r_Top h2
  rw [decide_eq_true ha.y0] at k1
  have ht := ha.yt
  have hR : ((scS a.y b : Nat) : Int) = min ((b : Int) + 64 + max (a.y.top + 1) 0) 8900 := by unfold scS; omega
  rw [hR]
  generalize a.y.top = T at *
  have w1 : IntKind.wrap .i64 ((b : Int) + 64) = (b : Int) + 64 := wrap64 (by omega) (by omega)
  have w2 : IntKind.wrap .i64 (T + 1) = T + 1 := wrap64 (by omega) (by omega)
  have w3 : IntKind.wrap .i64 ((b : Int) + 64 + max (T + 1) 0) = (b : Int) + 64 + max (T + 1) 0 := wrap64 (by omega) (by omega)
  simp only [DP] at k1
  refine PC.of_body follows Tryz.func234 (by decide +kernel) rfl (by kernel_rfl) (Nat.le_of_ble_eq_true rfl) (walk ?_)
  simp only [Tryz.f234, go_sem]
  refine qcall_i (k1) ?_; simp only [Tryz.f234, w1, w2, w3, go_sem]
  try rfl
def awayD (d : Dy) (dn : Bool) : Bool := d.s == dn
def divM (d : Dy) (s : Nat) (aw : Bool) : Nat := if 0 ≤ d.e + s then d.m * 2 ^ (d.e + s).toNat else d.m / 2 ^ (-d.e - s).toNat + (if d.m % 2 ^ (-d.e - s).toNat ≠ 0 ∧ aw = true then 1 else 0)
def divQ (d : Dy) (n s : Nat) (aw : Bool) : Nat := divM d s aw / n + (if divM d s aw % n ≠ 0 ∧ aw = true then 1 else 0)
def divD (d : Dy) (n s : Nat) (dn : Bool) : Dy := mkD d.s (divQ d n s (awayD d dn)) (-(s : Int))
theorem divM_bits {K : Nat} {d : Dy} (h : Lim K d) (hK : 1 ≤ K) (s : Nat) (aw : Bool) : bitLen (divM d s aw) ≤ 2 * K + s + 1 := by
  unfold divM
  split
  · rename_i hk
    by_cases hm : d.m = 0
    · rw [hm, Nat.zero_mul]; exact Nat.le_trans (show bitLen 0 ≤ 0 by decide) (Nat.zero_le _)
    have h1 := bitLen_shl_le d.m (d.e + s).toNat
    have h2 := h.top_lt hm
    have h3 := top_eq hm
    omega
  · refine Nat.le_trans (bitLen_mono (y := d.m / 2 ^ (-d.e - s).toNat + 1) (by split <;> omega)) ?_
    have := bitLen_add (x := d.m / 2 ^ (-d.e - s).toNat) (y := 1) (n := 2 * K + s) (Nat.le_trans (div_bits h.bits) (by omega)) (by rw [bit1]; omega)
    omega
theorem divQ_bits {K : Nat} {d : Dy} (h : Lim K d) (hK : 1 ≤ K) (n s : Nat) (aw : Bool) : bitLen (divQ d n s aw) ≤ 2 * K + s + 2 := by
  have h1 := divM_bits h hK s aw
  unfold divQ
  refine Nat.le_trans (bitLen_mono (y := divM d s aw / n + 1) (by split <;> omega)) ?_
  exact bitLen_add (Nat.le_trans (div_bits h1) (Nat.le_refl _)) (by rw [bit1]; omega)
theorem divD_lim {K : Nat} {d : Dy} (h : Lim K d) (hK : 1 ≤ K) (hK2 : K ≤ 100000) (n : Nat) {s : Nat} (hs : s ≤ 9000) (dn : Bool) : Lim (2 * K + 18002) (divD d n s dn) := by
  have h1 := divQ_bits h hK n s (awayD d dn)
  exact Lim.mono (Lim.mk (n := 2 * K + s + 2) (J := 9000) h1 (by omega) (by omega)) (by omega)
set_option maxHeartbeats 2000000 in
theorem o_divided {p : PV} {d : Dy} {K : Nat} (h : RD p d) (hl : Lim K d) (hK1 : 1 ≤ K) (hK : K ≤ 26000) {n : Nat} (hn : n < W) (h0 : n ≠ 0) {s : Nat} (hs : s ≤ 9000) {dir : Int} :
    PC E 236 [p, .int .u64 n, .int .i64 s, .int .i64 dir] (divD d n s (decide (dir = 3))).pv := by
  have k1 := r_Bare h
  rw [okD_of (hl.fits (by omega))] at k1
  have he := hl.e0
  have hbt := hl.bits
  have we : IntKind.wrap .i64 (d.e + (s : Int)) = d.e + s := wrap64 (by omega) (by omega)
  have wn : IntKind.wrap .i64 (0 - d.e) = -d.e := by rw [wrap64 (by omega) (by omega)]; omega
  have wm : IntKind.wrap .i64 (-d.e - (s : Int)) = -d.e - s := wrap64 (by omega) (by omega)
  have ws : IntKind.wrap .i64 (0 - (s : Int)) = -(s : Int) := by rw [wrap64 (by omega) (by omega)]; omega
  have hmb := divM_bits hl hK1 s (awayD d (decide (dir = 3)))
  have hqb := divQ_bits hl hK1 n s (awayD d (decide (dir = 3)))
  have hlim := divD_lim hl hK1 (by omega) n hs (decide (dir = 3))
  have kk1 := k_small (x := divM d s (awayD d (decide (dir = 3)))) (by omega) hn h0
  have k2 := u_one
  have kk2 := k_Add (num_bits (x := divM d s (awayD d (decide (dir = 3))) / n) (by have := div_bits (n := n) hmb; omega)) (num_bits (x := 1) (by decide))
  have kk3 := r_Make (num_bits (x := divQ d n s (awayD d (decide (dir = 3)))) (by omega)) (by omega) d.s (-(s : Int))
  have eM : mkD d.s (divQ d n s (awayD d (decide (dir = 3)))) (-(s : Int)) = divD d n s (decide (dir = 3)) := rfl
  rw [eM, okD_of (hlim.fits (by omega))] at kk3
  have eQ : divQ d n s (awayD d (decide (dir = 3))) = divM d s (awayD d (decide (dir = 3))) / n + (if divM d s (awayD d (decide (dir = 3))) % n ≠ 0 ∧ awayD d (decide (dir = 3)) = true then 1 else 0) := rfl
  generalize divD d n s (decide (dir = 3)) = OUT at *
  have haw2 : (d.s == decide (dir = 3)) = awayD d (decide (dir = 3)) := rfl
  generalize awayD d (decide (dir = 3)) = aw at *
  have eM2 : divM d s aw = if 0 ≤ d.e + s then d.m * 2 ^ (d.e + s).toNat else d.m / 2 ^ (-d.e - s).toNat + (if d.m % 2 ^ (-d.e - s).toNat ≠ 0 ∧ aw = true then 1 else 0) := rfl
  generalize divQ d n s aw = Q at *
  generalize divM d s aw = M at *
  obtain ⟨s0, q, x, e, rfl, -⟩ := h
  have hrest : aw = false ∨ M % n = 0 → Q = M / n := fun h => by
    rw [eQ]
    rcases h with h | h
    · rw [h, if_neg (fun h => Bool.false_ne_true h.2), Nat.add_zero]
    · rw [if_neg (fun h' => h'.1 h), Nat.add_zero]
  have hrest2 : aw = true → M % n ≠ 0 → Q = M / n + 1 := fun h h' => by rw [eQ, if_pos ⟨h', h⟩]
  by_cases hk : 0 ≤ d.e + s
  · rw [if_pos hk] at eM2
    have k3 : PC E 63 [NN d.m, .int .i64 (d.e + s)] (.tuple [NN M, .int .i64 0]) := by
      rw [eM2]
      by_cases hm0 : d.m = 0
      · refine PC.cast (k_Shl (num_bits (x := d.m) (by omega)) (d.e + s) (by omega)) ?_
        unfold shlV
        rw [if_neg (by omega), if_pos hm0, hm0, Nat.zero_mul]; rfl
      · have h2 := hl.top_lt hm0
        have h3 := top_eq hm0
        have := k_Shln (num_bits (x := d.m) (by omega)) (d.e + s).toNat (by omega)
        rwa [show (((d.e + s).toNat : Nat) : Int) = d.e + s by omega] at this
    by_cases hr : M % n = 0
    · rw [hrest (.inr hr)] at kk3
      rw [hr] at kk1
      simp only [DP, Dy.pv, u, NN, NL] at k1 k2 k3 kk1 kk2 kk3 ⊢
      refine PC.of_body follows Tryz.func236 (by decide +kernel) rfl (by kernel_rfl) (Nat.le_of_ble_eq_true rfl) (walk ?_)
      simp only [Tryz.f236, go_sem]
      refine qcall_i (k1) ?_; simp only [Tryz.f236, we, haw2, ws, go_sem]
      refine qif_dt hk ?_
      simp only [Tryz.f236, we, haw2, go_sem]
      refine qcall_i (k3) ?_; simp only [Tryz.f236, go_sem]
      refine qcall_i (kk1) ?_; simp only [Tryz.f236, go_sem]
      try (refine qif_df (by decide) ?_)
      try simp only [Tryz.f236, ws, go_sem]
      refine qcall_i (kk3) ?_; simp only [Tryz.f236, go_sem]
      try rfl
    · cases aw with
      | false =>
        rw [hrest (.inl rfl)] at kk3
        simp only [DP, Dy.pv, u, NN, NL] at k1 k2 k3 kk1 kk2 kk3 ⊢
        refine PC.of_body follows Tryz.func236 (by decide +kernel) rfl (by kernel_rfl) (Nat.le_of_ble_eq_true rfl) (walk ?_)
        simp only [Tryz.f236, go_sem]
        refine qcall_i (k1) ?_; simp only [Tryz.f236, we, haw2, ws, go_sem]
        refine qif_dt hk ?_
        simp only [Tryz.f236, we, haw2, go_sem]
        refine qcall_i (k3) ?_; simp only [Tryz.f236, go_sem]
        refine qcall_i (kk1) ?_; simp only [Tryz.f236, go_sem]
        refine qif_dt (by omega) ?_
        simp only [Tryz.f236, ws, go_sem]
        refine qcall_i (kk3) ?_; simp only [Tryz.f236, go_sem]
        try rfl
      | true =>
        rw [hrest2 rfl hr] at kk3
        simp only [DP, Dy.pv, u, NN, NL] at k1 k2 k3 kk1 kk2 kk3 ⊢
        refine PC.of_body follows Tryz.func236 (by decide +kernel) rfl (by kernel_rfl) (Nat.le_of_ble_eq_true rfl) (walk ?_)
        simp only [Tryz.f236, go_sem]
        refine qcall_i (k1) ?_; simp only [Tryz.f236, we, haw2, ws, go_sem]
        refine qif_dt hk ?_
        simp only [Tryz.f236, we, haw2, go_sem]
        refine qcall_i (k3) ?_; simp only [Tryz.f236, go_sem]
        refine qcall_i (kk1) ?_; simp only [Tryz.f236, go_sem]
        refine qif_dt (by omega) ?_
        simp only [Tryz.f236, ws, go_sem]
        refine qcall_i (k2) ?_; simp only [Tryz.f236, go_sem]
        refine qcall_i (kk2) ?_; simp only [Tryz.f236, ws, go_sem]
        refine qcall_i (kk3) ?_; simp only [Tryz.f236, go_sem]
        try rfl
  · rw [if_neg hk] at eM2
    have k3 := k_Shrn (num_bits (x := d.m) (by omega)) (-d.e - s).toNat
    rw [show (((-d.e - s).toNat : Nat) : Int) = -d.e - s by omega] at k3
    have bq := div_bits (n := 2 ^ (-d.e - s).toNat) hbt
    have k4 := k_Add (num_bits (x := d.m / 2 ^ (-d.e - s).toNat) (by omega)) (num_bits (x := 1) (by decide))
    generalize d.m / 2 ^ (-d.e - s).toNat = R at *
    generalize hrr : d.m % 2 ^ (-d.e - s).toNat = RR at *
    cases aw with
    | false =>
      rw [if_neg (fun h => Bool.false_ne_true h.2), Nat.add_zero] at eM2
      subst eM2
      rw [hrest (.inl rfl)] at kk3
      generalize decide (RR ≠ 0) = bb at *
      by_cases hr : M % n = 0
      · rw [hr] at kk1
        simp only [DP, Dy.pv, u, NN, NL] at k1 k2 k3 kk1 kk2 kk3 ⊢
        refine PC.of_body follows Tryz.func236 (by decide +kernel) rfl (by kernel_rfl) (Nat.le_of_ble_eq_true rfl) (walk ?_)
        simp only [Tryz.f236, go_sem]
        refine qcall_i (k1) ?_; simp only [Tryz.f236, we, haw2, ws, go_sem]
        refine qif_df hk ?_
        simp only [Tryz.f236, wn, wm, haw2, go_sem]
        refine qcall_i (k3) ?_; simp only [Tryz.f236, go_sem]
        cases bb
        · simp only [Tryz.f236, go_sem]
          refine qcall_i (kk1) ?_; simp only [Tryz.f236, go_sem]
          try (refine qif_df (by decide) ?_)
          try simp only [Tryz.f236, ws, go_sem]
          refine qcall_i (kk3) ?_; simp only [Tryz.f236, go_sem]
          try rfl
        · simp only [Tryz.f236, go_sem]
          refine qcall_i (kk1) ?_; simp only [Tryz.f236, go_sem]
          try (refine qif_df (by decide) ?_)
          try simp only [Tryz.f236, ws, go_sem]
          refine qcall_i (kk3) ?_; simp only [Tryz.f236, go_sem]
          try rfl
      · simp only [DP, Dy.pv, u, NN, NL] at k1 k2 k3 kk1 kk2 kk3 ⊢
        refine PC.of_body follows Tryz.func236 (by decide +kernel) rfl (by kernel_rfl) (Nat.le_of_ble_eq_true rfl) (walk ?_)
        simp only [Tryz.f236, go_sem]
        refine qcall_i (k1) ?_; simp only [Tryz.f236, we, haw2, ws, go_sem]
        refine qif_df hk ?_
        simp only [Tryz.f236, wn, wm, haw2, go_sem]
        refine qcall_i (k3) ?_; simp only [Tryz.f236, go_sem]
        cases bb
        · simp only [Tryz.f236, go_sem]
          refine qcall_i (kk1) ?_; simp only [Tryz.f236, go_sem]
          refine qif_dt (by omega) ?_
          simp only [Tryz.f236, ws, go_sem]
          refine qcall_i (kk3) ?_; simp only [Tryz.f236, go_sem]
          try rfl
        · simp only [Tryz.f236, go_sem]
          refine qcall_i (kk1) ?_; simp only [Tryz.f236, go_sem]
          refine qif_dt (by omega) ?_
          simp only [Tryz.f236, ws, go_sem]
          refine qcall_i (kk3) ?_; simp only [Tryz.f236, go_sem]
          try rfl
    | true =>
      by_cases hz : RR = 0
      · rw [if_neg (fun h => h.1 hz), Nat.add_zero] at eM2
        subst eM2
        rw [decide_eq_false (fun h => h hz)] at k3
        by_cases hr : M % n = 0
        · rw [hrest (.inr hr)] at kk3
          rw [hr] at kk1
          simp only [DP, Dy.pv, u, NN, NL] at k1 k2 k3 kk1 kk2 kk3 ⊢
          refine PC.of_body follows Tryz.func236 (by decide +kernel) rfl (by kernel_rfl) (Nat.le_of_ble_eq_true rfl) (walk ?_)
          simp only [Tryz.f236, go_sem]
          refine qcall_i (k1) ?_; simp only [Tryz.f236, we, haw2, ws, go_sem]
          refine qif_df hk ?_
          simp only [Tryz.f236, wn, wm, haw2, go_sem]
          refine qcall_i (k3) ?_; simp only [Tryz.f236, go_sem]
          refine qcall_i (kk1) ?_; simp only [Tryz.f236, go_sem]
          try (refine qif_df (by decide) ?_)
          try simp only [Tryz.f236, ws, go_sem]
          refine qcall_i (kk3) ?_; simp only [Tryz.f236, go_sem]
          try rfl
        · rw [hrest2 rfl hr] at kk3
          simp only [DP, Dy.pv, u, NN, NL] at k1 k2 k3 kk1 kk2 kk3 ⊢
          refine PC.of_body follows Tryz.func236 (by decide +kernel) rfl (by kernel_rfl) (Nat.le_of_ble_eq_true rfl) (walk ?_)
          simp only [Tryz.f236, go_sem]
          refine qcall_i (k1) ?_; simp only [Tryz.f236, we, haw2, ws, go_sem]
          refine qif_df hk ?_
          simp only [Tryz.f236, wn, wm, haw2, go_sem]
          refine qcall_i (k3) ?_; simp only [Tryz.f236, go_sem]
          refine qcall_i (kk1) ?_; simp only [Tryz.f236, go_sem]
          refine qif_dt (by omega) ?_
          simp only [Tryz.f236, ws, go_sem]
          refine qcall_i (k2) ?_; simp only [Tryz.f236, go_sem]
          refine qcall_i (kk2) ?_; simp only [Tryz.f236, ws, go_sem]
          refine qcall_i (kk3) ?_; simp only [Tryz.f236, go_sem]
          try rfl
      · rw [if_pos ⟨hz, rfl⟩] at eM2
        subst eM2
        rw [decide_eq_true hz] at k3
        by_cases hr : (R + 1) % n = 0
        · rw [hrest (.inr hr)] at kk3
          rw [hr] at kk1
          simp only [DP, Dy.pv, u, NN, NL] at k1 k2 k3 k4 kk1 kk2 kk3 ⊢
          refine PC.of_body follows Tryz.func236 (by decide +kernel) rfl (by kernel_rfl) (Nat.le_of_ble_eq_true rfl) (walk ?_)
          simp only [Tryz.f236, go_sem]
          refine qcall_i (k1) ?_; simp only [Tryz.f236, we, haw2, ws, go_sem]
          refine qif_df hk ?_
          simp only [Tryz.f236, wn, wm, haw2, go_sem]
          refine qcall_i (k3) ?_; simp only [Tryz.f236, go_sem]
          refine qcall_i (k2) ?_; simp only [Tryz.f236, go_sem]
          refine qcall_i (k4) ?_; simp only [Tryz.f236, go_sem]
          refine qcall_i (kk1) ?_; simp only [Tryz.f236, go_sem]
          try (refine qif_df (by decide) ?_)
          try simp only [Tryz.f236, ws, go_sem]
          refine qcall_i (kk3) ?_; simp only [Tryz.f236, go_sem]
          try rfl
        · rw [hrest2 rfl hr] at kk3
          simp only [DP, Dy.pv, u, NN, NL] at k1 k2 k3 k4 kk1 kk2 kk3 ⊢
          refine PC.of_body follows Tryz.func236 (by decide +kernel) rfl (by kernel_rfl) (Nat.le_of_ble_eq_true rfl) (walk ?_)
          simp only [Tryz.f236, go_sem]
          refine qcall_i (k1) ?_; simp only [Tryz.f236, we, haw2, ws, go_sem]
          refine qif_df hk ?_
          simp only [Tryz.f236, wn, wm, haw2, go_sem]
          refine qcall_i (k3) ?_; simp only [Tryz.f236, go_sem]
          refine qcall_i (k2) ?_; simp only [Tryz.f236, go_sem]
          refine qcall_i (k4) ?_; simp only [Tryz.f236, go_sem]
          refine qcall_i (kk1) ?_; simp only [Tryz.f236, go_sem]
          refine qif_dt (by omega) ?_
          simp only [Tryz.f236, ws, go_sem]
          refine qcall_i (k2) ?_; simp only [Tryz.f236, go_sem]
          refine qcall_i (kk2) ?_; simp only [Tryz.f236, ws, go_sem]
          refine qcall_i (kk3) ?_; simp only [Tryz.f236, go_sem]
          try rfl
end
section
open Go PG Go.Proofs
set_option maxRecDepth 100000
set_option linter.unusedSimpArgs false
set_option linter.unusedVariables false
open XX
theorem withinS_le (lo hi : Nat) (s : Int) (neg : Bool) : cmpD (withinS lo hi s neg).lo (withinS lo hi s neg).hi ≤ 0 := by
  unfold withinS
  split
  · rename_i h
    dsimp only
    rw [cmp_swap]; omega
  · rename_i h
    dsimp only
    omega
theorem addI_le {i k : Iv} {K : Nat} (h1 : i.lim K) (h2 : k.lim K) (hK : K ≤ 900000) (c1 : cmpD i.lo i.hi ≤ 0) (c2 : cmpD k.lo k.hi ≤ 0) : cmpD (addI i k).lo (addI i k).hi ≤ 0 := by
  have l3 := h1.add h2 (by omega)
  rw [cmp_val_le] at c1 c2 ⊢
  show (addS i.lo k.lo).val ≤ (addS i.hi k.hi).val
  rw [h1.1.val_add h2.1 (by omega), h1.2.val_add h2.2 (by omega)]
  grind
theorem logS_right {d : Dy} (hl : LgOk d) {s : Nat} (hs : s ≤ 9000) : (logS d s).right :=
  ((logS_lim hl hs).right (by decide)).2 (addI_le (logX_lim hl hs) (logY_lim hl hs) (by decide) (withinS_le _ _ _ _) (withinS_le _ _ _ _))
def zI (a : Ask) (b : Nat) : Iv := mulI (logS a.x (scS a.y b)) ⟨a.y, a.y⟩
def zS (a : Ask) (b : Nat) : Iv := if 1 < a.n then ⟨divD (zI a b).lo a.n (scS a.y b) true, divD (zI a b).hi a.n (scS a.y b) false⟩ else zI a b
theorem scS_range {y : Dy} {b : Nat} (hb : 32 ≤ b) : 96 ≤ scS y b ∧ scS y b ≤ 8900 := by unfold scS; omega
theorem zI_lim {a : Ask} (h : AskOk a) {b : Nat} (hb : 32 ≤ b) : (zI a b).lim 19251 := by
  have := scS_range (y := a.y) hb
  have h1 := (logS_lim h.x (s := scS a.y b) (by omega)).mul (k := ⟨a.y, a.y⟩) (J := 1200) ⟨h.yLim, h.yLim⟩
  exact h1.mono (by omega)
theorem zS_lim {a : Ask} (h : AskOk a) {b : Nat} (hb : 32 ≤ b) : (zS a b).lim 56504 := by
  have hz := zI_lim h hb
  have := scS_range (y := a.y) hb
  have h1 : Lim 19251 (zI a b).lo := hz.1
  have h2 : Lim 19251 (zI a b).hi := hz.2
  have a1 := divD_lim h1 (by decide) (by decide) a.n (s := scS a.y b) (by omega) true
  have a2 := divD_lim h2 (by decide) (by decide) a.n (s := scS a.y b) (by omega) false
  have b1 : Lim 56504 (divD (zI a b).lo a.n (scS a.y b) true) := a1
  have b2 : Lim 56504 (divD (zI a b).hi a.n (scS a.y b) false) := a2
  have b3 : Lim 56504 (zI a b).lo := h1.mono (by decide)
  have b4 : Lim 56504 (zI a b).hi := h2.mono (by decide)
  unfold zS
  generalize divD (zI a b).lo a.n (scS a.y b) true = D1 at *
  generalize divD (zI a b).hi a.n (scS a.y b) false = D2 at *
  generalize zI a b = Z at *
  by_cases hn : 1 < a.n
  · rw [if_pos hn]; exact ⟨b1, b2⟩
  · rw [if_neg hn]; exact ⟨b3, b4⟩
set_option maxHeartbeats 2000000 in
theorem o_Log {p : PV} {a : Ask} (h : RA p a) (ha : AskOk a) {b : Nat} (hb : 32 ≤ b) (hb2 : b ≤ 8192) : PC E 214 [p, .int .i64 b] (.tuple [(zS a b).pv, .int .i64 (scS a.y b : Nat), .int .i64 0]) := by
  have k1 := o_Right h ha
  have k2 := o_scale h ha hb2
  obtain ⟨s1, P1, e1, s2, P2, e2, rfl, h1, h2⟩ := h
  have hsc := scS_range (y := a.y) hb
  have k3 := g_Log h1 ha.x (s := scS a.y b) (by omega) (by omega)
  have lL := logS_lim ha.x (s := scS a.y b) (by omega)
  have k4 := q_Times (lL.RI (by decide)) h2 lL ha.yLim (by decide)
  unfold ivV at k4
  rw [if_pos (logS_right ha.x (by omega))] at k4
  have eZ : mulI (logS a.x (scS a.y b)) ⟨a.y, a.y⟩ = zI a b := rfl
  rw [eZ] at k4
  have lZ := zI_lim ha hb
  have hn0 := ha.n1
  have rZ := lZ.RI (by decide)
  have k5 := o_divided (lZ.1.RD (by decide)) lZ.1 (by decide) (by decide) ha.nW (by omega) (s := scS a.y b) (by omega) (dir := 3)
  have k6 := o_divided (lZ.2.RD (by decide)) lZ.2 (by decide) (by decide) ha.nW (by omega) (s := scS a.y b) (by omega) (dir := 2)
  rw [show decide ((3 : Int) = 3) = true from rfl] at k5
  rw [show decide ((2 : Int) = 3) = false from rfl] at k6
  unfold zS
  generalize logS a.x (scS a.y b) = L at *
  generalize divD (zI a b).lo a.n (scS a.y b) true = Q1 at *
  generalize divD (zI a b).hi a.n (scS a.y b) false = Q2 at *
  generalize zI a b = Z at *
  generalize scS a.y b = sc at *
  simp only [DP, Dy.pv, Iv.pv, NN, NL] at k1 k2 k3 k4 k5 k6 ⊢
  by_cases hn : 1 < a.n
  · rw [if_pos hn]
    refine PC.of_body follows Tryz.func214 (by decide +kernel) rfl (by kernel_rfl) (Nat.le_of_ble_eq_true rfl) (walk ?_)
    simp only [Tryz.f214, go_sem]
    refine qcall_i (k1) ?_; simp only [Tryz.f214, go_sem]
    refine qif_df (by omega) ?_
    simp only [Tryz.f214, go_sem]
    refine qif_df (by omega) ?_
    simp only [Tryz.f214, go_sem]
    refine qcall_i (k2) ?_; simp only [Tryz.f214, go_sem]
    refine qcall_i (k3) ?_; simp only [Tryz.f214, go_sem]
    refine qcall_i (k4) ?_; simp only [Tryz.f214, go_sem]
    refine qif_dt (by omega) ?_
    simp only [Tryz.f214, go_sem]
    refine qcall_i (k5) ?_; simp only [Tryz.f214, go_sem]
    refine qcall_i (k6) ?_; simp only [Tryz.f214, go_sem]
    try rfl
  · rw [if_neg hn]
    refine PC.of_body follows Tryz.func214 (by decide +kernel) rfl (by kernel_rfl) (Nat.le_of_ble_eq_true rfl) (walk ?_)
    simp only [Tryz.f214, go_sem]
    refine qcall_i (k1) ?_; simp only [Tryz.f214, go_sem]
    refine qif_df (by omega) ?_
    simp only [Tryz.f214, go_sem]
    refine qif_df (by omega) ?_
    simp only [Tryz.f214, go_sem]
    refine qcall_i (k2) ?_; simp only [Tryz.f214, go_sem]
    refine qcall_i (k3) ?_; simp only [Tryz.f214, go_sem]
    refine qcall_i (k4) ?_; simp only [Tryz.f214, go_sem]
    refine qif_df (by omega) ?_
    simp only [Tryz.f214, go_sem]
    try rfl
def sgS (a : Ask) : Int := a.y.sg * cmpD a.x (norm 1 0)
theorem sg_in (d : Dy) : -1 ≤ d.sg ∧ d.sg ≤ 1 := by unfold Dy.sg; split <;> (try split) <;> omega
theorem o_Sign {p : PV} {a : Ask} (h : RA p a) (ha : AskOk a) : PC E 153 [p] (.int .i64 (sgS a)) := by
  have k1 := o_Right h ha
  obtain ⟨s1, P1, e1, s2, P2, e2, rfl, h1, h2⟩ := h
  have k2 := r_Sign h2
  have k3 := c_dOf 1 (by decide) (by decide)
  have g3 : RD (norm 1 0).pv (norm 1 0) := (Lim.norm (K := 20) (z := 1) (by decide) (by decide)).RD (by decide)
  have k4 := r_Cmp h1 g3
  have hs := sg_in a.y
  have hc : -1 ≤ cmpD a.x (norm 1 0) ∧ cmpD a.x (norm 1 0) ≤ 1 := sgn_range _ _
  unfold sgS
  generalize cmpD a.x (norm 1 0) = c at *
  generalize a.y.sg = y at *
  generalize norm 1 0 = N at *
  have w : IntKind.wrap .i64 (y * c) = y * c := by
    have h1 : y = -1 ∨ y = 0 ∨ y = 1 := by omega
    have h2 : c = -1 ∨ c = 0 ∨ c = 1 := by omega
    rcases h1 with rfl | rfl | rfl <;> rcases h2 with rfl | rfl | rfl <;> decide
  simp only [DP, Dy.pv, NN, NL] at k1 k2 k3 k4
  refine PC.of_body follows Tryz.func153 (by decide +kernel) rfl (by kernel_rfl) (Nat.le_of_ble_eq_true rfl) (walk ?_)
  simp only [Tryz.f153, go_sem]
  refine qcall_i (k1) ?_; simp only [Tryz.f153, go_sem]
  refine qcall_i (k2) ?_; simp only [Tryz.f153, go_sem]
  refine qcall_i (k3) ?_; simp only [Tryz.f153, go_sem]
  refine qcall_i (k4) ?_; simp only [Tryz.f153, w, go_sem]
  try rfl
def tryS (a : Ask) (sign : Int) (b : Nat) : ((Nat × Nat) × Iv) × Bool :=
  if boundS (zS a b) sign ≠ 0 then ((classS (boundS (zS a b) sign) a.neg a.dir, Iv.zero), true)
  else if splitOk (zS a b) (scS a.y b) then
    match roundS (expI (zS a b) (scS a.y b)) a.neg a.dir with
    | some r => ((r, expI (zS a b) (scS a.y b)), true)
    | none => (((0, 0), expI (zS a b) (scS a.y b)), false)
  else (((0, 0), Iv.zero), false)
theorem boundS_range (z : Iv) (sign : Int) : 0 ≤ boundS z sign ∧ boundS z sign ≤ 4 := by
  unfold boundS
  repeat' split
  all_goals omega
set_option maxHeartbeats 2000000 in
theorem o_try {p : PV} {a : Ask} (h : RA p a) (ha : AskOk a) (sign : Int) {b : Nat} (hb : 32 ≤ b) (hb2 : b ≤ 8192) : PC E 156 [p, .int .i64 sign, .int .i64 b] (.tuple [.agg (ansC (tryS a sign b).1), .bool (tryS a sign b).2]) := by
  have k1 := o_Log h ha hb hb2
  have lz := zS_lim ha hb
  have hsc := scS_range (y := a.y) hb
  have k2 := b_Of (lz.RI (by decide)) lz (by decide) sign
  have hbr := boundS_range (zS a b) sign
  obtain ⟨s1, P1, e1, s2, P2, e2, rfl, h1, h2⟩ := h
  have hdir := ha.dir
  obtain ⟨R, hR⟩ : ∃ R, R = PV.tuple [.agg (ansC (tryS a sign b).1), .bool (tryS a sign b).2] := ⟨_, rfl⟩
  rw [← hR]
  unfold tryS at hR
  by_cases hc : boundS (zS a b) sign ≠ 0
  · rw [if_pos hc] at hR
    have k3 := b_Result (c := boundS (zS a b) sign) (by omega) a.neg hdir
    generalize classS (boundS (zS a b) sign) a.neg a.dir = C at *
    generalize boundS (zS a b) sign = B at *
    generalize zS a b = Z at *
    obtain ⟨c1, c2⟩ := C
    simp only [DP, Dy.pv, Iv.pv, NN, NL, bfoPV, u, ansC, Iv.zero, Dy.zero] at k1 k2 k3 hR
    refine PC.of_body follows Tryz.func156 (by decide +kernel) rfl (by kernel_rfl) (Nat.le_of_ble_eq_true rfl) (walk ?_)
    simp only [Tryz.f156, go_sem]
    refine qcall_i (k1) ?_; simp only [Tryz.f156, go_sem]
    refine qcall_i (k2) ?_; simp only [Tryz.f156, go_sem]
    refine qif_dt hc ?_
    simp only [Tryz.f156, go_sem]
    refine qcall_i (k3) ?_; simp only [Tryz.f156, go_sem]
    first | (rw [hR]; done) | (rw [hR]; rfl)
  rw [if_neg hc] at hR
  have k3 := x_Exp (lz.RI (by decide)) lz (by decide) (s := scS a.y b) (by omega) (by omega)
  by_cases ho : splitOk (zS a b) (scS a.y b)
  · rw [if_pos ho] at hR k3
    have lE := expI_lim (i := zS a b) (s := scS a.y b) (by omega) (by omega) ho
    have k4 := d_Round (lE.RI (by decide)) lE (by decide) a.neg hdir
    generalize roundS (expI (zS a b) (scS a.y b)) a.neg a.dir = O at *
    generalize expI (zS a b) (scS a.y b) = X at *
    generalize boundS (zS a b) sign = B at *
    generalize zS a b = Z at *
    cases O with
    | some r =>
      obtain ⟨r1, r2⟩ := r
      simp only [DP, Dy.pv, Iv.pv, NN, NL, bfoPV, u, ansC] at k1 k2 k3 k4 hR
      refine PC.of_body follows Tryz.func156 (by decide +kernel) rfl (by kernel_rfl) (Nat.le_of_ble_eq_true rfl) (walk ?_)
      simp only [Tryz.f156, go_sem]
      refine qcall_i (k1) ?_; simp only [Tryz.f156, go_sem]
      refine qcall_i (k2) ?_; simp only [Tryz.f156, go_sem]
      refine qif_df hc ?_
      simp only [Tryz.f156, go_sem]
      refine qcall_i (k3) ?_; simp only [Tryz.f156, go_sem]
      refine qcall_i (k4) ?_; simp only [Tryz.f156, go_sem]
      first | (rw [hR]; done) | (rw [hR]; rfl)
    | none =>
      simp only [DP, Dy.pv, Iv.pv, NN, NL, bfoPV, u, ansC] at k1 k2 k3 k4 hR
      refine PC.of_body follows Tryz.func156 (by decide +kernel) rfl (by kernel_rfl) (Nat.le_of_ble_eq_true rfl) (walk ?_)
      simp only [Tryz.f156, go_sem]
      refine qcall_i (k1) ?_; simp only [Tryz.f156, go_sem]
      refine qcall_i (k2) ?_; simp only [Tryz.f156, go_sem]
      refine qif_df hc ?_
      simp only [Tryz.f156, go_sem]
      refine qcall_i (k3) ?_; simp only [Tryz.f156, go_sem]
      refine qcall_i (k4) ?_; simp only [Tryz.f156, go_sem]
      first | (rw [hR]; done) | (rw [hR]; rfl)
  · rw [if_neg ho] at hR k3
    generalize boundS (zS a b) sign = B at *
    generalize zS a b = Z at *
    simp only [DP, Dy.pv, Iv.pv, NN, NL, u, ansC, Iv.zero, Dy.zero] at k1 k2 k3 hR
    refine PC.of_body follows Tryz.func156 (by decide +kernel) rfl (by kernel_rfl) (Nat.le_of_ble_eq_true rfl) (walk ?_)
    simp only [Tryz.f156, go_sem]
    refine qcall_i (k1) ?_; simp only [Tryz.f156, go_sem]
    refine qcall_i (k2) ?_; simp only [Tryz.f156, go_sem]
    refine qif_df hc ?_
    simp only [Tryz.f156, go_sem]
    refine qcall_i (k3) ?_; simp only [Tryz.f156, go_sem]
    first | (rw [hR]; done) | (rw [hR]; rfl)
end
end Go.Proofs.YtfkgaldbcngliaaGreatDoor
