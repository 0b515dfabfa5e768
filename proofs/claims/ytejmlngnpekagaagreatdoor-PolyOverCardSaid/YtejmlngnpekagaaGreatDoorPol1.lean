/- poly's functions: which lists are polynomials, Horner's steps, values, slopes, signs, places. -/
import Derived.Test.YtejmlngnpekagaaGreatDoorPp
import Derived.Test.YtejmlngnpekagaaGreatDoorIdx
import Derived.Test.YtejmlngnpekagaaGreatDoorTo3
import Derived.Test.YtejmlngnpekagaaGreatDoorUl1
open Go PG Go.Proofs
set_option maxRecDepth 100000
set_option linter.unusedSimpArgs false
set_option linter.unusedVariables false
namespace Go.Proofs.YtejmlngnpekagaaGreatDoor
attribute [local go_sem] Lay2 Lay3 Lay4 Lay5 Lay6 Lay7 Lay8 Lay9 Lay10 Lay11 Lay12 Lay13 Lay14 Lay15 Lay16 Lay17 Lay18 Lay19 Lay21 Lay22 Lay23 Lay25 Lay26 Lay27 Lay30 Lay31 Lay32 Lay33 Lay36 Lay37 Lay41 Lay42 Lay43 Lay47 Lay56 Lay57 Lay59 Lay60 Lay65 Lay66 Lay74 Lay75 Lay105 Lay114 Lay145 Lay146 Lay149 Lay150 Lay151 Lay173 Lay185 Lay189 Lay204 Lay205 Lay208 Lay214 Lay215 Lay216 Lay217 Lay218 Lay220 Lay221 Lay223 Lay224 Lay225 Lay228 qexec_seq qexec_skip qexec_exit qexec_ret qexec_block qexec_loop qexec_range qexec_cond qexec_region qexec_drawn qops_nil qops_none qops_some put_some put_none pblk_exit pblk_other newDsts_nil sget_cons sget_nil qval_some qbool_some qgs_bool qgs_und qfree_some qgrd_true qgrd_false qif_true qif_false qval_ite qval_itn qand_true map_ite map_some' map_none' qdo_move qdo_assign qdo_binOp qdo_pick qdo_unOp qdo_convert qdo_extract qdo_field qdo_fieldAddr qdo_alloc qdo_box qdo_build qdo_buildSlice qdo_load qdo_store qdo_nilCheck qdo_makeFunc qdo_makeSlice qdo_slice qdo_indexAddr qdo_call qcont_val qcont_new qcont_st qcont_app0 qcont_app qcont_inl qcont_call njSV_val njSV_nil njSV_row njSV_ptr njSV_sub binV_val binV_nil binV_nn binV_ptr bin_np bin_nnp nilCmp bin_add bin_sub bin_mul bin_quo bin_rem bin_and bin_or bin_xor bin_andNot bin_eql bin_neq bin_lss bin_leq bin_gtr bin_geq bin_shl bin_shr bin_seql bin_sneq bin_sadd bin_beql bin_aeql bin_aneq eqAnd_some eqCells_nil eqCells_cons fieldTypes isStruct eqCell bin_bneq un_not un_neg nj_ite Nat.beq stepA stepR isNew opSV constSV RV.sv allSome E_mu E_own qkeyIn_none qkeyIn_some qkeyAt_none qkeyAt_some Bool.or_false Bool.false_or Bool.or_true Bool.true_or cst setB res resSV pstart startL killL kill1 eraL frzL svPV rvPV rvInt rvSlice frzOf close closeL pconv pbuiltin pmax2 partPV setCells fillPV zrow bound newSV PV.cells Bk.cells Bk.with SV.key pres presL_nil presL_tmp presL_cell presC2_some cellPV_ptr presC List.toList_toArray List.size_toArray List.getElem?_drop Nat.mul_one Int.toNat_natCast Nat.not_lt_zero Nat.lt_irrefl decide_true decide_false Nat.not_lt Option.some.injEq PV.lst.injEq PV.int.injEq PV.bool.injEq PV.tuple.injEq List.cons.injEq Option.map_some Option.map_none Option.bind_some Option.toList List.map_cons List.map_nil List.nil_append List.cons_append List.append_nil List.zip_cons_cons List.zip_nil_left List.zip_nil_right List.getElem?_cons_zero List.getElem?_cons_succ List.drop_zero List.drop_succ_cons List.take_succ_cons List.take_zero List.set_cons_zero List.set_cons_succ List.length_cons List.length_nil List.length_set List.replicate_one List.replicate_zero bne_self_eq_false beq_self_eq_true Nat.zero_add Nat.add_zero Nat.zero_mul Bool.false_eq_true Bool.true_eq_false Bool.not_true Bool.not_false and_true true_and false_and and_false or_false false_or or_true true_or not_true_eq_false not_false_eq_true ne_eq gt_iff_lt List.mem_cons List.not_mem_nil
attribute [local go_sem ↓] pseq_normal pseq_ret pseq_exit pblk_normal pblk_ret newDsts_cons gdst_zero gdst_succ retQ_normal retQ_ret qneed_nil qneed_cons retM_normal retM_ret endR_normal endR_ret endR_exit

/-- A list that may be a polynomial. -/
def rightP (l : List Nat) : Prop := l.length ≤ 16 ∧ ∀ b ∈ l, fe b < 2047
instance (l : List Nat) : Decidable (rightP l) := inferInstanceAs (Decidable (_ ∧ _))
theorem p_right1 {x : Nat} (hx : x < W) : PC E 123 [u x] (.bool (decide (¬ fe x < 2047))) := by
  have k1 := c_Finite x hx
  simp only [u] at k1 ⊢
  rw [decide_not]
  generalize decide (fe x < 2047) = a at *
  refine PC.of_body follows Tryz.func123 (by decide +kernel) rfl (by kernel_rfl) (Nat.le_of_ble_eq_true rfl) (walk ?_)
  simp only [Tryz.f123, go_sem, Int.reduceToNat, Int.reduceEq, Int.reduceNe, Int.reduceLT, Int.reduceLE, Int.reduceNeg, Int.reduceAdd, ↓reduceIte, ↓reduceCtorEq, Nat.reduceEqDiff, Nat.reduceAdd, Nat.reduceSub, Nat.reduceMul, Nat.reduceLeDiff, Nat.reduceLT]
  refine qcall_i (k1) ?_; simp only [Tryz.f123, go_sem, Int.reduceToNat, Int.reduceEq, Int.reduceNe, Int.reduceLT, Int.reduceLE, Int.reduceNeg, Int.reduceAdd, ↓reduceIte, ↓reduceCtorEq, Nat.reduceEqDiff, Nat.reduceAdd, Nat.reduceSub, Nat.reduceMul, Nat.reduceLeDiff, Nat.reduceLT]
  try rfl
theorem p_right {l : List Nat} (ol : Ok W l) (hl : l.length ≤ 1000000) : PC E 62 [NL l] (.bool (decide (rightP l))) := by
  have k1 := g_Contains (f := 123) (by kernel_rfl) (cs := []) (p := fun x => decide (¬ fe x < 2047)) hl (fun x hx => p_right1 (ol x hx))
  have e : (l.any fun x => decide (¬ fe x < 2047)) = !decide (∀ b ∈ l, fe b < 2047) := by
    by_cases h : ∀ b ∈ l, fe b < 2047
    · rw [decide_eq_true h, List.any_eq_false.2 (fun x hx => by simpa using h x hx)]; rfl
    · rw [decide_eq_false h]
      have : ∃ b, b ∈ l ∧ ¬ fe b < 2047 := by
        refine Decidable.byContradiction fun h2 => h fun b hb => Decidable.byContradiction fun h3 => h2 ⟨b, hb, h3⟩
      obtain ⟨b, hb, h3⟩ := this
      rw [List.any_eq_true.2 ⟨b, hb, by simpa using h3⟩]; rfl
  rw [e] at k1
  have er : decide (rightP l) = (decide (l.length ≤ 16) && decide (∀ b ∈ l, fe b < 2047)) := by
    rw [Bool.eq_iff_iff, Bool.and_eq_true, decide_eq_true_iff, decide_eq_true_iff, decide_eq_true_iff]; exact Iff.rfl
  rw [er]
  generalize decide (∀ b ∈ l, fe b < 2047) = A at *
  simp only [NL] at k1 ⊢
  refine PC.of_body follows Tryz.func62 (by decide +kernel) rfl (by kernel_rfl) (Nat.le_of_ble_eq_true rfl) (walk ?_)
  by_cases h : l.length ≤ 16
  · have q : decide ((l.length : Int) ≤ 16) = true := decide_eq_true (by omega)
    rw [decide_eq_true h]
    simp only [Tryz.f62, q, go_sem, Int.reduceToNat, Int.reduceEq, Int.reduceNe, Int.reduceLT, Int.reduceLE, Int.reduceNeg, Int.reduceAdd, ↓reduceIte, ↓reduceCtorEq, Nat.reduceEqDiff, Nat.reduceAdd, Nat.reduceSub, Nat.reduceMul, Nat.reduceLeDiff, Nat.reduceLT]
    refine qcall_i (k1) ?_; simp only [Tryz.f62, q, go_sem, Int.reduceToNat, Int.reduceEq, Int.reduceNe, Int.reduceLT, Int.reduceLE, Int.reduceNeg, Int.reduceAdd, ↓reduceIte, ↓reduceCtorEq, Nat.reduceEqDiff, Nat.reduceAdd, Nat.reduceSub, Nat.reduceMul, Nat.reduceLeDiff, Nat.reduceLT]
    cases A <;> rfl
  · have q : decide ((l.length : Int) ≤ 16) = false := decide_eq_false (by omega)
    rw [decide_eq_false h]
    simp only [Tryz.f62, q, go_sem, Int.reduceToNat, Int.reduceEq, Int.reduceNe, Int.reduceLT, Int.reduceLE, Int.reduceNeg, Int.reduceAdd, ↓reduceIte, ↓reduceCtorEq, Nat.reduceEqDiff, Nat.reduceAdd, Nat.reduceSub, Nat.reduceMul, Nat.reduceLeDiff, Nat.reduceLT]
    try rfl

/-- Horner's steps over places of a list. -/
def hornL (l : List Nat) (v : Iv) (pre : List Nat) : Iv := pre.foldl (fun s i => addI (mulI s v) ⟨fd0 (l.getD i 0), fd0 (l.getD i 0)⟩) Iv.zero
theorem hornL_snoc (l : List Nat) (v : Iv) (pre : List Nat) (i : Nat) : hornL l v (pre ++ [i]) = addI (mulI (hornL l v pre) v) ⟨fd0 (l.getD i 0), fd0 (l.getD i 0)⟩ := by
  unfold hornL; rw [List.foldl_append]; rfl
theorem hornL_back (l : List Nat) (v : Iv) : ∀ k, k ≤ l.length → hornL l v ((back (n := l.length) k).map (·.1)) = hornS (l.drop (l.length - k)) v := by
  intro k
  induction k with
  | zero => intro _; rw [Nat.sub_zero, List.drop_length]; rfl
  | succ k ih =>
    intro hk
    have hi : l.length - (k + 1) < l.length := by omega
    rw [back_succ (show k < l.length by omega), List.map_append, List.map_cons, List.map_nil, hornL_snoc, ih (by omega), List.drop_eq_getElem_cons hi, hornS_cons, show l.length - (k + 1) + 1 = l.length - k by omega]
    have e : l.getD (l.length - 1 - k) 0 = l[l.length - (k + 1)] := by
      rw [List.getD_eq_getElem?_getD, show l.length - 1 - k = l.length - (k + 1) by omega, List.getElem?_eq_getElem hi, Option.getD_some]
    dsimp only
    rw [e]
theorem hornL_step {J : Nat} {v : Iv} (hl : v.lim J) (hr : v.right) (hJ : J ≤ 1300) {n : Nat} (hn : n < 16) {s : Iv} (h1 : s.lim (hB J n)) (h2 : s.right) (b : Nat) :
    (mulI s v).lim (hB J n + J) ∧ (mulI s v).right ∧ Iv.lim (hB J n + J) ⟨fd0 b, fd0 b⟩ ∧ (addI (mulI s v) ⟨fd0 b, fd0 b⟩).lim (hB J (n + 1)) ∧ (addI (mulI s v) ⟨fd0 b, fd0 b⟩).right := by
  have hb := hB_le hJ (show n ≤ 16 by omega)
  have hm := h1.mul hl
  have hc : Iv.lim (hB J n + J) ⟨fd0 b, fd0 b⟩ := by
    have := (fd0_lim b).mono (J := hB J n + J) (by unfold hB; omega)
    exact ⟨this, this⟩
  have hmr := mulI_right h1 hl (by omega)
  rw [hB_succ]
  exact ⟨hm, hmr, hc, hm.add hc (by omega), addI_right hm hc (by omega) hmr (pt0 b)⟩
theorem p_horner {l : List Nat} (ol : Ok W l) (hn : l.length ≤ 16) {p : PV} {v : Iv} {J : Nat} (hp : RI p v) (hl : v.lim J) (hr : v.right) (hJ : J ≤ 1300) : PC E 63 [NL l, p] (.tuple [(hornS l v).pv, .int .i64 0]) := by
  have hfin := hornL_back l v l.length (Nat.le_refl _)
  rw [Nat.sub_self, List.drop_zero] at hfin
  have hst : ∀ pre : List Nat, ((hornL l v pre).lim (hB J pre.length) ∧ (hornL l v pre).right) → pre.length < l.length → ∀ i, i < l.length →
      PC E 125 [(hornL l v pre).pv, p] (.tuple [(mulI (hornL l v pre) v).pv, .int .i64 0]) ∧ PC E 61 [.int .u64 (l.getD i 0 : Nat)] (.tuple [(fd0 (l.getD i 0)).pv, .bool (decide (fe (l.getD i 0) < 2047))]) ∧
      PC E 126 [(mulI (hornL l v pre) v).pv, Iv.pv ⟨fd0 (l.getD i 0), fd0 (l.getD i 0)⟩] (.tuple [(hornL l v (pre ++ [i])).pv, .int .i64 0]) ∧
      (hornL l v (pre ++ [i])).lim (hB J (pre ++ [i]).length) ∧ (hornL l v (pre ++ [i])).right := fun pre h0 hp' i hi => by
    obtain ⟨h1, h2⟩ := h0
    have hb := hB_le hJ (show pre.length ≤ 16 by omega)
    obtain ⟨g1, g2, g3, g4, g5⟩ := hornL_step hl hr hJ (show pre.length < 16 by omega) h1 h2 (l.getD i 0)
    have k1 := q_Mul (h1.RI (by omega)) hp h1 hl (by omega)
    have k2 := r_FDyad (b := l.getD i 0) (by rw [List.getD_eq_getElem?_getD, List.getElem?_eq_getElem hi]; exact ol _ (List.getElem_mem _))
    have k3 := q_Add (g1.RI (by omega)) (g3.RI (by omega)) g1 g3 (by omega)
    unfold ivV at k1 k3
    rw [if_pos ⟨h2, hr⟩] at k1
    rw [if_pos ⟨g2, pt0 _⟩, ← hornL_snoc] at k3
    rw [← hornL_snoc] at g4 g5
    rw [List.length_append]
    exact ⟨k1, k2, k3, g4, g5⟩
  have hat : ∀ d : Dy, PC E 64 [d.pv] (Iv.pv ⟨d, d⟩) := fun d => q_At
  have hg : ∀ i, i < l.length → (U l)[i]? = some (.int .u64 (l.getD i 0 : Nat)) := fun i hi => U_getD hi
  have hit := iter_back l (by omega)
  have h00 : (hornL l v []).lim (hB J 0) ∧ (hornL l v []).right := ⟨⟨Lim.zero _, Lim.zero _⟩, pt_right Dy.zero_fits⟩
  have hz : hornL l v [] = Iv.zero := rfl
  obtain ⟨s1, P1, e1, s2, P2, e2, rfl, -, -⟩ := hp
  rw [← hfin]
  clear hfin hl hr hJ ol
  generalize hornL l v = H at *
  simp only [Iv.pv, Dy.pv, DP] at hst hat
  refine PC.of_body follows Tryz.func63 (by decide +kernel) rfl (by kernel_rfl) (Nat.le_of_ble_eq_true rfl) (walk ?_)
  simp only [NL]
  simp only [Tryz.f63, go_sem, Int.reduceToNat, Int.reduceEq, Int.reduceNe, Int.reduceLT, Int.reduceLE, Int.reduceNeg, Int.reduceAdd, ↓reduceIte, ↓reduceCtorEq, Nat.reduceEqDiff, Nat.reduceAdd, Nat.reduceSub, Nat.reduceMul, Nat.reduceLeDiff, Nat.reduceLT]
  refine qcall_i (c_Backward _ _) ?_
  simp only [Tryz.f63, go_sem, Int.reduceToNat, Int.reduceEq, Int.reduceNe, Int.reduceLT, Int.reduceLE, Int.reduceNeg, Int.reduceAdd, ↓reduceIte, ↓reduceCtorEq, Nat.reduceEqDiff, Nat.reduceAdd, Nat.reduceSub, Nat.reduceMul, Nat.reduceLeDiff, Nat.reduceLT]
  let St : List Nat → List (Nat × (Bk × Bool)) := fun pre => [(3, (.box [.bool s1, P1, .int .i64 e1, .bool s2, P2, .int .i64 e2], false)), (4, (.box [.bool false, .lst 0 [], .int .i64 0, .bool false, .lst 0 [], .int .i64 0], false)), (5, (.box [.int .i64 0], false)),
    (6, (.box [.bool (H pre).lo.s, NN (H pre).lo.m, .int .i64 (H pre).lo.e, .bool (H pre).hi.s, NN (H pre).hi.m, .int .i64 (H pre).hi.e], false))]
  refine PRange.intro hit rfl (by decide) (by decide) (by decide) (by decide) (.inr rfl) (by omega) St (fun pre => (H pre).lim (hB J pre.length) ∧ (H pre).right) (fun _ _ _ => False) h00 ?_ (fun pre i hJ hp hi => walk ?_) (fun hJ => ?_) (fun k e σx hk hq => hq.elim)
  · have z1 : (H []).lo.s = false := by rw [hz]; rfl
    have z2 : NN (H []).lo.m = .lst 0 [] := by rw [hz]; rfl
    have z3 : (H []).lo.e = 0 := by rw [hz]; rfl
    have z4 : (H []).hi.s = false := by rw [hz]; rfl
    have z5 : NN (H []).hi.m = .lst 0 [] := by rw [hz]; rfl
    have z6 : (H []).hi.e = 0 := by rw [hz]; rfl
    simp [St, sget, z1, z2, z3, z4, z5, z6]
  · obtain ⟨k1, k2, k3, g1, g2⟩ := hst pre hJ hp i hi
    have k4 := hat (fd0 (l.getD i 0))
    simp only [St, shiftT, shiftSV, shiftB]
    clear hst hat hg hit hJ h00 hz
    generalize hHs : H (pre ++ [i]) = Hs at *
    generalize H pre = Hp at *
    generalize fd0 (l.getD i 0) = c at *
    generalize mulI Hp v = M at *
    generalize decide (fe (l.getD i 0) < 2047) = fin at *
    generalize l.getD i 0 = x at *
    simp only [Tryz.f63, u, go_sem, Int.reduceToNat, Int.reduceEq, Int.reduceNe, Int.reduceLT, Int.reduceLE, Int.reduceNeg, Int.reduceAdd, ↓reduceIte, ↓reduceCtorEq, Nat.reduceEqDiff, Nat.reduceAdd, Nat.reduceSub, Nat.reduceMul, Nat.reduceLeDiff, Nat.reduceLT]
    refine qcall_i (k1) ?_; simp only [Tryz.f63, u, go_sem, Int.reduceToNat, Int.reduceEq, Int.reduceNe, Int.reduceLT, Int.reduceLE, Int.reduceNeg, Int.reduceAdd, ↓reduceIte, ↓reduceCtorEq, Nat.reduceEqDiff, Nat.reduceAdd, Nat.reduceSub, Nat.reduceMul, Nat.reduceLeDiff, Nat.reduceLT]
    refine qcall_i (k2) ?_; simp only [Tryz.f63, u, go_sem, Int.reduceToNat, Int.reduceEq, Int.reduceNe, Int.reduceLT, Int.reduceLE, Int.reduceNeg, Int.reduceAdd, ↓reduceIte, ↓reduceCtorEq, Nat.reduceEqDiff, Nat.reduceAdd, Nat.reduceSub, Nat.reduceMul, Nat.reduceLeDiff, Nat.reduceLT]
    refine qcall_i (k4) ?_; simp only [Tryz.f63, u, go_sem, Int.reduceToNat, Int.reduceEq, Int.reduceNe, Int.reduceLT, Int.reduceLE, Int.reduceNeg, Int.reduceAdd, ↓reduceIte, ↓reduceCtorEq, Nat.reduceEqDiff, Nat.reduceAdd, Nat.reduceSub, Nat.reduceMul, Nat.reduceLeDiff, Nat.reduceLT]
    refine qcall_i (k3) ?_; simp only [Tryz.f63, u, go_sem, Int.reduceToNat, Int.reduceEq, Int.reduceNe, Int.reduceLT, Int.reduceLE, Int.reduceNeg, Int.reduceAdd, ↓reduceIte, ↓reduceCtorEq, Nat.reduceEqDiff, Nat.reduceAdd, Nat.reduceSub, Nat.reduceMul, Nat.reduceLeDiff, Nat.reduceLT]
    refine ⟨⟨by rw [hHs]; exact g1, by rw [hHs]; exact g2⟩, ?_⟩
    simp [St, sget, hHs]
  · simp only [St]
    simp only [Tryz.f63, go_sem, Int.reduceToNat, Int.reduceEq, Int.reduceNe, Int.reduceLT, Int.reduceLE, Int.reduceNeg, Int.reduceAdd, ↓reduceIte, ↓reduceCtorEq, Nat.reduceEqDiff, Nat.reduceAdd, Nat.reduceSub, Nat.reduceMul, Nat.reduceLeDiff, Nat.reduceLT]
    try rfl
/-- A value, with an error's number. -/
def exPol (l : List Nat) (x : Nat) : PV := if fe x < 2047 ∧ rightP l then .tuple [(hornS l ⟨fd x, fd x⟩).lo.pv, .int .i64 0] else .tuple [Dy.zero.pv, .int .i64 1]
theorem p_Exact {l : List Nat} (ol : Ok W l) (hl : l.length ≤ 1000000) {x : Nat} (hx : x < W) : PC E 11 [NL l, u x] (exPol l x) := by
  have k1 := r_FDyad hx
  have k2 := p_right ol hl
  have hat : ∀ d : Dy, PC E 64 [d.pv] (Iv.pv ⟨d, d⟩) := fun d => q_At
  unfold exPol
  by_cases h1 : fe x < 2047
  case neg =>
    rw [if_neg h1, decide_eq_false h1] at k1
    rw [if_neg (fun h => h1 h.1)]
    simp only [u, NL, Dy.pv, DP] at k1 k2 ⊢
    refine PC.of_body follows Tryz.func11 (by decide +kernel) rfl (by kernel_rfl) (Nat.le_of_ble_eq_true rfl) (walk ?_)
    simp only [Tryz.f11, go_sem, Int.reduceToNat, Int.reduceEq, Int.reduceNe, Int.reduceLT, Int.reduceLE, Int.reduceNeg, Int.reduceAdd, ↓reduceIte, ↓reduceCtorEq, Nat.reduceEqDiff, Nat.reduceAdd, Nat.reduceSub, Nat.reduceMul, Nat.reduceLeDiff, Nat.reduceLT]
    refine qcall_i (k1) ?_; simp only [Tryz.f11, go_sem, Int.reduceToNat, Int.reduceEq, Int.reduceNe, Int.reduceLT, Int.reduceLE, Int.reduceNeg, Int.reduceAdd, ↓reduceIte, ↓reduceCtorEq, Nat.reduceEqDiff, Nat.reduceAdd, Nat.reduceSub, Nat.reduceMul, Nat.reduceLeDiff, Nat.reduceLT]
    try rfl
  rw [if_pos h1, decide_eq_true h1] at k1
  by_cases h2 : rightP l
  case neg =>
    rw [decide_eq_false h2] at k2
    rw [if_neg (fun h => h2 h.2)]
    simp only [u, NL, Dy.pv, DP] at k1 k2 ⊢
    refine PC.of_body follows Tryz.func11 (by decide +kernel) rfl (by kernel_rfl) (Nat.le_of_ble_eq_true rfl) (walk ?_)
    simp only [Tryz.f11, go_sem, Int.reduceToNat, Int.reduceEq, Int.reduceNe, Int.reduceLT, Int.reduceLE, Int.reduceNeg, Int.reduceAdd, ↓reduceIte, ↓reduceCtorEq, Nat.reduceEqDiff, Nat.reduceAdd, Nat.reduceSub, Nat.reduceMul, Nat.reduceLeDiff, Nat.reduceLT]
    refine qcall_i (k1) ?_; simp only [Tryz.f11, go_sem, Int.reduceToNat, Int.reduceEq, Int.reduceNe, Int.reduceLT, Int.reduceLE, Int.reduceNeg, Int.reduceAdd, ↓reduceIte, ↓reduceCtorEq, Nat.reduceEqDiff, Nat.reduceAdd, Nat.reduceSub, Nat.reduceMul, Nat.reduceLeDiff, Nat.reduceLT]
    refine qcall_i (k2) ?_; simp only [Tryz.f11, go_sem, Int.reduceToNat, Int.reduceEq, Int.reduceNe, Int.reduceLT, Int.reduceLE, Int.reduceNeg, Int.reduceAdd, ↓reduceIte, ↓reduceCtorEq, Nat.reduceEqDiff, Nat.reduceAdd, Nat.reduceSub, Nat.reduceMul, Nat.reduceLeDiff, Nat.reduceLT]
    try rfl
  rw [decide_eq_true h2] at k2
  rw [if_pos ⟨h1, h2⟩]
  have k3 := hat (fd x)
  have hlim : Iv.lim 1153 ⟨fd x, fd x⟩ := ⟨fd_lim x, fd_lim x⟩
  have k4 := p_horner ol h2.1 (hlim.RI (by decide)) hlim (pt_right ((fd_lim x).fits (by decide))) (by decide)
  generalize hornS l ⟨fd x, fd x⟩ = H at *
  simp only [u, NL, Dy.pv, Iv.pv, DP] at k1 k2 k3 k4 ⊢
  generalize fd x = d at *
  refine PC.of_body follows Tryz.func11 (by decide +kernel) rfl (by kernel_rfl) (Nat.le_of_ble_eq_true rfl) (walk ?_)
  simp only [Tryz.f11, go_sem, Int.reduceToNat, Int.reduceEq, Int.reduceNe, Int.reduceLT, Int.reduceLE, Int.reduceNeg, Int.reduceAdd, ↓reduceIte, ↓reduceCtorEq, Nat.reduceEqDiff, Nat.reduceAdd, Nat.reduceSub, Nat.reduceMul, Nat.reduceLeDiff, Nat.reduceLT]
  refine qcall_i (k1) ?_; simp only [Tryz.f11, go_sem, Int.reduceToNat, Int.reduceEq, Int.reduceNe, Int.reduceLT, Int.reduceLE, Int.reduceNeg, Int.reduceAdd, ↓reduceIte, ↓reduceCtorEq, Nat.reduceEqDiff, Nat.reduceAdd, Nat.reduceSub, Nat.reduceMul, Nat.reduceLeDiff, Nat.reduceLT]
  refine qcall_i (k2) ?_; simp only [Tryz.f11, go_sem, Int.reduceToNat, Int.reduceEq, Int.reduceNe, Int.reduceLT, Int.reduceLE, Int.reduceNeg, Int.reduceAdd, ↓reduceIte, ↓reduceCtorEq, Nat.reduceEqDiff, Nat.reduceAdd, Nat.reduceSub, Nat.reduceMul, Nat.reduceLeDiff, Nat.reduceLT]
  refine qcall_i (k3) ?_; simp only [Tryz.f11, go_sem, Int.reduceToNat, Int.reduceEq, Int.reduceNe, Int.reduceLT, Int.reduceLE, Int.reduceNeg, Int.reduceAdd, ↓reduceIte, ↓reduceCtorEq, Nat.reduceEqDiff, Nat.reduceAdd, Nat.reduceSub, Nat.reduceMul, Nat.reduceLeDiff, Nat.reduceLT]
  refine qcall_i (k4) ?_; simp only [Tryz.f11, go_sem, Int.reduceToNat, Int.reduceEq, Int.reduceNe, Int.reduceLT, Int.reduceLE, Int.reduceNeg, Int.reduceAdd, ↓reduceIte, ↓reduceCtorEq, Nat.reduceEqDiff, Nat.reduceAdd, Nat.reduceSub, Nat.reduceMul, Nat.reduceLeDiff, Nat.reduceLT]
  try rfl
end Go.Proofs.YtejmlngnpekagaaGreatDoor
