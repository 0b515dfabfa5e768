/- Totals: order plays no part; what no total answers. -/
import Derived.Test.YtfogjddcagckaaaDoorTot6
open Go PG Go.Proofs
set_option maxRecDepth 100000
set_option linter.unusedSimpArgs false
set_option linter.unusedVariables false
namespace Go.Proofs.YtfogjddcagckaaaDoor
attribute [local go_sem] Lay2 Lay3 Lay4 Lay5 Lay6 Lay7 Lay8 Lay9 Lay10 Lay11 Lay12 Lay13 Lay14 Lay15 Lay16 Lay17 Lay18 Lay19 Lay21 Lay22 Lay23 Lay24 Lay27 Lay28 Lay29 Lay35 Lay36 Lay38 Lay39 Lay40 Lay42 Lay43 Lay45 Lay46 Lay67 Lay81 Lay82 Lay83 Lay84 Lay85 Lay86 Lay87 Lay90 Lay93 Lay94 Lay105 Lay116 Lay132 Lay138 Lay145 Lay162 Lay163 Lay201 qexec_seq qexec_skip qexec_exit qexec_ret qexec_block qexec_loop qexec_range qexec_cond qexec_region qexec_drawn qops_nil qops_none qops_some put_some put_none pblk_exit pblk_other newDsts_nil sget_cons sget_nil qval_some qbool_some qgs_bool qgs_und qfree_some qgrd_true qgrd_false qif_true qif_false qval_ite qval_itn qand_true map_ite map_some' map_none' qdo_move qdo_assign qdo_binOp qdo_pick qdo_unOp qdo_convert qdo_extract qdo_field qdo_fieldAddr qdo_alloc qdo_box qdo_build qdo_buildSlice qdo_load qdo_store qdo_nilCheck qdo_makeFunc qdo_makeSlice qdo_slice qdo_indexAddr qdo_call qcont_val qcont_new qcont_st qcont_app0 qcont_app qcont_inl qcont_call njSV_val njSV_nil njSV_row njSV_ptr njSV_sub binV_val binV_nil binV_nn binV_ptr bin_np bin_nnp nilCmp bin_add bin_sub bin_mul bin_quo bin_rem bin_and bin_or bin_xor bin_andNot bin_eql bin_neq bin_lss bin_leq bin_gtr bin_geq bin_shl bin_shr bin_seql bin_sneq bin_sadd bin_beql bin_aeql bin_aneq eqAnd_some eqCells_nil eqCells_cons fieldTypes isStruct eqCell bin_bneq un_not un_neg nj_ite Nat.beq stepA stepR isNew opSV constSV RV.sv allSome E_mu E_own qkeyIn_none qkeyIn_some qkeyAt_none qkeyAt_some Bool.or_false Bool.false_or Bool.or_true Bool.true_or cst setB res resSV pstart startL killL kill1 eraL frzL svPV rvPV rvInt rvSlice frzOf close closeL pconv pbuiltin pmax2 partPV setCells fillPV zrow bound newSV PV.cells Bk.cells Bk.with SV.key pres presL_nil presL_tmp presL_cell presC2_some cellPV_ptr presC List.toList_toArray List.size_toArray List.getElem?_drop Nat.mul_one Int.toNat_natCast Nat.not_lt_zero Nat.lt_irrefl decide_true decide_false Nat.not_lt Option.some.injEq PV.lst.injEq PV.int.injEq PV.bool.injEq PV.tuple.injEq List.cons.injEq Option.map_some Option.map_none Option.bind_some Option.toList List.map_cons List.map_nil List.nil_append List.cons_append List.append_nil List.zip_cons_cons List.zip_nil_left List.zip_nil_right List.getElem?_cons_zero List.getElem?_cons_succ List.drop_zero List.drop_succ_cons List.take_succ_cons List.take_zero List.set_cons_zero List.set_cons_succ List.length_cons List.length_nil List.length_set List.replicate_one List.replicate_zero bne_self_eq_false beq_self_eq_true Nat.zero_add Nat.add_zero Nat.zero_mul Bool.false_eq_true Bool.true_eq_false Bool.not_true Bool.not_false and_true true_and false_and and_false or_false false_or or_true true_or not_true_eq_false not_false_eq_true ne_eq gt_iff_lt List.mem_cons List.not_mem_nil
attribute [local go_sem ↓] pseq_normal pseq_ret pseq_exit pblk_normal pblk_ret newDsts_cons gdst_zero gdst_succ retQ_normal retQ_ret qneed_nil qneed_cons retM_normal retM_ret endR_normal endR_ret endR_exit

theorem addS_assoc {a b c : Dy} {K : Nat} (La : Lim K a) (Lb : Lim K b) (Lc : Lim K c) (hK : K ≤ 900000) : addS (addS a b) c = addS a (addS b c) := by
  have fa := La.fits (by omega)
  have fb := Lb.fits (by omega)
  have fc := Lc.fits (by omega)
  have fab := (La.add Lb (by omega)).fits (by omega)
  have fbc := (Lb.add Lc (by omega)).fits (by omega)
  have gab := addS_ge La.ok Lb.ok fa fb La.ge Lb.ge
  have gbc := addS_ge Lb.ok Lc.ok fb fc Lb.ge Lc.ge
  refine eq_of_at (k := -(K : Int)) (addS_ok _ _) (addS_ok _ _) (addS_ge (addS_ok _ _) Lc.ok fab fc gab Lc.ge) (addS_ge La.ok (addS_ok _ _) fa fbc La.ge gbc) ?_
  rw [addS_at (addS_ok _ _) Lc.ok fab fc gab Lc.ge, addS_at La.ok (addS_ok _ _) fa fbc La.ge gbc, addS_at La.ok Lb.ok fa fb La.ge Lb.ge, addS_at Lb.ok Lc.ok fb fc Lb.ge Lc.ge]
  omega
theorem joinT_comm (t o : Tt) : joinT t o = joinT o t := by
  unfold joinT
  rw [Nat.add_comm, addS_comm, Bool.or_comm t.wrong, Bool.or_comm t.nan, Bool.or_comm t.up, Bool.or_comm t.down, Bool.or_comm t.minus, Bool.or_comm t.plus, Bool.or_comm t.other]
theorem joinT_assoc {t o p : Tt} (ht : t.ok) (ho : o.ok) (hp : p.ok) : joinT (joinT t o) p = joinT t (joinT o p) := by
  unfold joinT
  dsimp only
  rw [Nat.add_assoc, addS_assoc ht.lim ho.lim hp.lim (by rw [K0_eq]; decide), Bool.or_assoc, Bool.or_assoc, Bool.or_assoc, Bool.or_assoc, Bool.or_assoc, Bool.or_assoc, Bool.or_assoc]
theorem mulT_join {t : Tt} (ht : t.ok) (x y : Nat) : mulT t x y = joinT t (mulT .zero x y) := by
  have hz : addS t.sum .zero = t.sum := addS_zr ht.2.1 (ht.lim.fits (by rw [K0_eq]; decide)) Dy.zero_fits rfl
  have hd : addS .zero (mulS (fd0 x) (fd0 y)) = mulS (fd0 x) (fd0 y) := addS_zl (prod_limK x y).ok Dy.zero_fits ((prod_limK x y).fits (by rw [K0_eq]; decide)) rfl
  unfold mulT
  generalize kindT (kind x) (kind y) = k at *
  generalize mulS (fd0 x) (fd0 y) = d at *
  generalize (fs x != fs y) = neg at *
  obtain ⟨n, s, b1, b2, b3, b4, b5, b6, b7⟩ := t
  dsimp only at hz
  unfold Tt.take
  by_cases k5 : k = 5
  · rw [if_pos k5, if_pos k5]; simp [joinT, Tt.zero, hz]
  rw [if_neg k5, if_neg k5]
  by_cases k4 : k = 4
  · rw [if_pos k4, if_pos k4]; simp [joinT, Tt.zero, hz]
  rw [if_neg k4, if_neg k4]
  by_cases k3 : k = 3 ∧ neg = true
  · rw [if_pos k3, if_pos k3]; simp [joinT, Tt.zero, hz]
  rw [if_neg k3, if_neg k3]
  by_cases k3' : k = 3
  · rw [if_pos k3', if_pos k3']; simp [joinT, Tt.zero, hz]
  rw [if_neg k3', if_neg k3']
  by_cases k0 : k = 0 ∧ neg = true
  · rw [if_pos k0, if_pos k0]; simp [joinT, Tt.zero, hz]
  rw [if_neg k0, if_neg k0]
  by_cases k0' : k = 0
  · rw [if_pos k0', if_pos k0']; simp [joinT, Tt.zero, hz]
  rw [if_neg k0', if_neg k0']
  simp [joinT, Tt.zero, hd]
theorem dotT_ok {l : List (Nat × Nat)} (h : l.length ≤ 65536) : (dotT l).ok ∧ (dotT l).n = l.length := by
  have := dotT_take h l.length (Nat.le_refl _)
  rwa [List.take_length] at this
theorem dotT_append (l : List (Nat × Nat)) : ∀ (r : List (Nat × Nat)), l.length + r.length ≤ 65536 → dotT (l ++ r) = joinT (dotT l) (dotT r) := by
  suffices h : ∀ (n : Nat) (r : List (Nat × Nat)), r.length = n → l.length + r.length ≤ 65536 → dotT (l ++ r) = joinT (dotT l) (dotT r) from fun r hr => h _ r rfl hr
  intro n
  induction n with
  | zero =>
    intro r h0 hr
    have e : r = [] := List.length_eq_zero_iff.1 h0
    subst e
    obtain ⟨h1, h2⟩ := dotT_ok (l := l) (by omega)
    rw [List.append_nil, show dotT [] = .zero from rfl]
    have hz : addS (dotT l).sum .zero = (dotT l).sum := addS_zr h1.2.1 (h1.lim.fits (by rw [K0_eq]; decide)) Dy.zero_fits rfl
    generalize dotT l = t at *
    obtain ⟨n, s, b1, b2, b3, b4, b5, b6, b7⟩ := t
    dsimp only at hz
    simp [joinT, Tt.zero, hz]
  | succ n ih =>
    intro r h0 hr
    have hne : r ≠ [] := fun e => by rw [e] at h0; cases h0
    have e : r = r.dropLast ++ [r.getLast hne] := (List.dropLast_concat_getLast hne).symm
    have hl : r.dropLast.length = n := by rw [List.length_dropLast]; omega
    generalize r.getLast hne = p at e
    generalize r.dropLast = q at e hl
    subst e
    have hq : l.length + q.length ≤ 65535 := by simp at hr; omega
    obtain ⟨h1, -⟩ := dotT_ok (l := l) (by omega)
    obtain ⟨h2, h3⟩ := dotT_ok (l := q) (by omega)
    obtain ⟨h4, h5⟩ := dotT_ok (l := l ++ q) (by simp; omega)
    have h6 : (mulT .zero p.1 p.2).ok := mulT_ok Tt.zero_ok (by decide) _ _
    rw [← List.append_assoc, dotT_snoc, dotT_snoc, mulT_join h4, mulT_join h2, ih q hl (by omega), joinT_assoc h1 h2 h6]

theorem T_AddNil (x : Nat) : PCM E 66 [.val .np, .val (.int .u64 x)] [] (.val (.int .i64 3)) [] := by
  refine PCM.of_body follows Tryd.func66 (by decide +kernel) rfl (by kernel_rfl) (Nat.le_of_ble_eq_true rfl) (Nat.le_refl _) (by simp) (fun k h => by cases h) (fun h => by cases h) (walk ?_)
  simp only [mstart, startS, blkL, shiftSV]
  simp only [Tryd.f66, go_sem, Int.reduceToNat, Int.reduceEq, Int.reduceNe, Int.reduceLT, Int.reduceLE, Int.reduceNeg, Int.reduceAdd, ↓reduceIte, ↓reduceCtorEq, Nat.reduceEqDiff, Nat.reduceAdd, Nat.reduceSub, Nat.reduceMul, Nat.reduceLeDiff, Nat.reduceLT]
  exact fin0 (by decide) rfl
theorem T_TimesNil (x y : Nat) : PCM E 62 [.val .np, .val (.int .u64 x), .val (.int .u64 y)] [] (.val (.int .i64 3)) [] := by
  refine PCM.of_body follows Tryd.func62 (by decide +kernel) rfl (by kernel_rfl) (Nat.le_of_ble_eq_true rfl) (Nat.le_refl _) (by simp) (fun k h => by cases h) (fun h => by cases h) (walk ?_)
  simp only [mstart, startS, blkL, shiftSV]
  simp only [Tryd.f62, go_sem, Int.reduceToNat, Int.reduceEq, Int.reduceNe, Int.reduceLT, Int.reduceLE, Int.reduceNeg, Int.reduceAdd, ↓reduceIte, ↓reduceCtorEq, Nat.reduceEqDiff, Nat.reduceAdd, Nat.reduceSub, Nat.reduceMul, Nat.reduceLeDiff, Nat.reduceLT]
  exact fin0 (by decide) rfl
theorem T_WorthNil (dir : Int) : PCM E 65 [.val .np, .val (.int .i64 dir)] [] (.val (resPV2 (0, 0) 3)) [] := by
  refine PCM.of_body follows Tryd.func65 (by decide +kernel) rfl (by kernel_rfl) (Nat.le_of_ble_eq_true rfl) (Nat.le_refl _) (by simp) (fun k h => by cases h) (fun h => by cases h) (walk ?_)
  simp only [mstart, startS, blkL, shiftSV]
  simp only [Tryd.f65, go_sem, Int.reduceToNat, Int.reduceEq, Int.reduceNe, Int.reduceLT, Int.reduceLE, Int.reduceNeg, Int.reduceAdd, ↓reduceIte, ↓reduceCtorEq, Nat.reduceEqDiff, Nat.reduceAdd, Nat.reduceSub, Nat.reduceMul, Nat.reduceLeDiff, Nat.reduceLT]
  exact fin0 (by decide) rfl
theorem T_LenNil : PCM E 64 [.val .np] [] (.val (.int .i64 0)) [] := by
  refine PCM.of_body follows Tryd.func64 (by decide +kernel) rfl (by kernel_rfl) (Nat.le_of_ble_eq_true rfl) (Nat.le_refl _) (by simp) (fun k h => by cases h) (fun h => by cases h) (walk ?_)
  simp only [mstart, startS, blkL, shiftSV]
  simp only [Tryd.f64, go_sem, Int.reduceToNat, Int.reduceEq, Int.reduceNe, Int.reduceLT, Int.reduceLE, Int.reduceNeg, Int.reduceAdd, ↓reduceIte, ↓reduceCtorEq, Nat.reduceEqDiff, Nat.reduceAdd, Nat.reduceSub, Nat.reduceMul, Nat.reduceLeDiff, Nat.reduceLT]
  exact fin0 (by decide) rfl
theorem T_JoinNil1 (o : Tt) : PCM E 63 [.val .np, .ptr 0 0] [o.bk] (.val (.int .i64 3)) [o.bk] := by
  refine PCM.of_body follows Tryd.func63 (by decide +kernel) rfl (by kernel_rfl) (Nat.le_of_ble_eq_true rfl) (Nat.le_refl _) (by simp) (fun k h => by cases h) (fun h => by cases h) (walk ?_)
  simp only [mstart, startS, blkL, shiftSV, Tt.bk]
  simp only [Tryd.f63, go_sem, Int.reduceToNat, Int.reduceEq, Int.reduceNe, Int.reduceLT, Int.reduceLE, Int.reduceNeg, Int.reduceAdd, ↓reduceIte, ↓reduceCtorEq, Nat.reduceEqDiff, Nat.reduceAdd, Nat.reduceSub, Nat.reduceMul, Nat.reduceLeDiff, Nat.reduceLT]
  exact fin1 (by decide) rfl rfl
theorem T_JoinNil2 (t : Tt) : PCM E 63 [.ptr 0 0, .val .np] [t.bk] (.val (.int .i64 3)) [t.bk] := by
  refine PCM.of_body follows Tryd.func63 (by decide +kernel) rfl (by kernel_rfl) (Nat.le_of_ble_eq_true rfl) (Nat.le_refl _) (by simp) (fun k h => by cases h) (fun h => by cases h) (walk ?_)
  simp only [mstart, startS, blkL, shiftSV, Tt.bk]
  simp only [Tryd.f63, nilCmp, go_sem, Int.reduceToNat, Int.reduceEq, Int.reduceNe, Int.reduceLT, Int.reduceLE, Int.reduceNeg, Int.reduceAdd, ↓reduceIte, ↓reduceCtorEq, Nat.reduceEqDiff, Nat.reduceAdd, Nat.reduceSub, Nat.reduceMul, Nat.reduceLeDiff, Nat.reduceLT]
  exact fin1 (by decide) rfl rfl

/-- A law's pairs. -/
def flatP (ls : List (Nat × Nat)) : List PV := ls.flatMap fun p => [.int .u64 p.1, .int .u64 p.2]
def PLs (ls : List (Nat × Nat)) : PV := .lst ls.length (flatP ls)
def qPairs (p : PV) : Prop := ∃ ls : List (Nat × Nat), p = PLs ls ∧ ∀ q ∈ ls, q.1 < W ∧ q.2 < W
theorem flatP_get {ls : List (Nat × Nat)} : ∀ {i : Nat} (h : i < ls.length), (flatP ls)[i * 2]? = some (.int .u64 (ls[i].1 : Nat)) ∧ (flatP ls)[i * 2 + 1]? = some (.int .u64 (ls[i].2 : Nat)) := by
  induction ls with
  | nil => intro i h; cases h
  | cons p ls ih =>
    intro i h
    cases i with
    | zero => exact ⟨rfl, rfl⟩
    | succ i =>
      have := ih (i := i) (by simpa using h)
      have e : flatP (p :: ls) = [.int .u64 p.1, .int .u64 p.2] ++ flatP ls := by simp [flatP]
      rw [e, show (i + 1) * 2 = i * 2 + 2 by omega, show i * 2 + 2 + 1 = (i * 2 + 1) + 2 by omega]
      exact this
end Go.Proofs.YtfogjddcagckaaaDoor
