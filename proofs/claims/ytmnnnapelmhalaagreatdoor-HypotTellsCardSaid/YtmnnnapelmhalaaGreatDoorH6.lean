/- Several parts in one text. -/
import Derived.Test.YtmnnnapelmhalaaGreatDoorH5
import Derived.Test.YtmnnnapelmhalaaGreatDoorG7
import Derived.Test.YtmnnnapelmhalaaGreatDoorI3
import Derived.Test.YtmnnnapelmhalaaGreatDoorL28
import Derived.Test.YtmnnnapelmhalaaGreatDoorI5
import Derived.Test.YtmnnnapelmhalaaGreatDoorH4
open Go PG Go.Proofs
namespace Go.Proofs.YtmnnnapelmhalaaGreatDoor
attribute [local go_sem] Lay2 Lay3 Lay4 Lay5 Lay6 Lay7 Lay8 Lay9 Lay10 Lay11 Lay12 Lay13 Lay14 Lay15 Lay16 Lay17 Lay18 Lay19 Lay21 Lay22 Lay24 Lay25 Lay26 Lay27 Lay28 Lay29 Lay32 Lay34 Lay35 Lay42 Lay43 Lay53 Lay54 Lay55 Lay59 Lay60 Lay61 Lay78 Lay90 Lay95 Lay96 Lay102 Lay114 Lay115 Lay133 Lay160 Lay164 Lay165 Lay166 Lay167 Lay168 Lay170 Lay171 Lay173 Lay174 Lay175 Lay178 qexec_seq qexec_skip qexec_exit qexec_ret qexec_block qexec_loop qexec_range qexec_cond qexec_region qexec_drawn qops_nil qops_none qops_some put_some put_none pblk_exit pblk_other newDsts_nil inlDsts_nil isInl sget_cons sget_nil qval_some qbool_some qgs_bool qgs_und qfree_some qgrd_true qgrd_false qif_true qif_false qval_ite qval_itn qand_true map_ite map_some' map_none' qdo_move qdo_assign qdo_binOp qdo_pick qdo_unOp qdo_convert qdo_extract qdo_field qdo_fieldAddr qdo_alloc qdo_box qdo_build qdo_buildSlice qdo_load qdo_store qdo_nilCheck qdo_makeFunc qdo_makeSlice qdo_slice qdo_indexAddr qdo_call qcont_val qcont_new qcont_st qcont_app0 qcont_app qcont_inl qcont_call njSV_val njSV_nil njSV_row njSV_ptr njSV_sub binV_val binV_nil binV_nn binV_ptr bin_np bin_nnp nilCmp bin_add bin_sub bin_mul bin_quo bin_rem bin_and bin_or bin_xor bin_andNot bin_eql bin_neq bin_lss bin_leq bin_gtr bin_geq bin_shl bin_shr bin_seql bin_sneq bin_sadd bin_beql bin_aeql bin_aneq eqAnd_some eqCells_nil eqCells_cons fieldTypes isStruct eqCell bin_bneq un_not un_neg nj_ite Nat.beq stepA stepR isNew opSV constSV RV.sv allSome E_mu E_own qkeyIn_none qkeyIn_some qkeyAt_none qkeyAt_some Bool.or_false Bool.false_or Bool.or_true Bool.true_or cst setB res resSV pstart startL killL kill1 eraL frzL svPV rvPV rvInt rvSlice frzOf close closeL pconv pbuiltin pmax2 partPV setCells fillPV zrow bound newSV PV.cells Bk.cells Bk.with SV.key pres presL_nil presL_tmp presL_cell presC2_some cellPV_ptr presC List.toList_toArray List.size_toArray List.getElem?_drop Nat.mul_one Int.toNat_natCast Nat.not_lt_zero Nat.lt_irrefl decide_true decide_false Nat.not_lt Option.some.injEq PV.lst.injEq PV.int.injEq PV.bool.injEq PV.tuple.injEq List.cons.injEq Option.map_some Option.map_none Option.bind_some Option.toList List.map_cons List.map_nil List.nil_append List.cons_append List.append_nil List.zip_cons_cons List.zip_nil_left List.zip_nil_right List.getElem?_cons_zero List.getElem?_cons_succ List.drop_zero List.drop_succ_cons List.take_succ_cons List.take_zero List.set_cons_zero List.set_cons_succ List.length_cons List.length_nil List.length_set List.replicate_one List.replicate_zero bne_self_eq_false beq_self_eq_true Nat.zero_add Nat.add_zero Nat.zero_mul Bool.false_eq_true Bool.true_eq_false Bool.not_true Bool.not_false and_true true_and false_and and_false or_false false_or or_true true_or not_true_eq_false not_false_eq_true ne_eq gt_iff_lt List.mem_cons List.not_mem_nil
attribute [local go_sem ↓] pseq_normal pseq_ret pseq_exit pblk_normal pblk_ret newDsts_cons inlDsts_cons gdst_zero gdst_succ retQ_normal retQ_ret qneed_nil qneed_cons retM_normal retM_ret endR_normal endR_ret endR_exit
attribute [local go_sem] Int.reduceToNat Int.reduceEq Int.reduceNe Int.reduceLT Int.reduceLE Int.reduceNeg Int.reduceAdd Nat.reduceEqDiff Nat.reduceAdd Nat.reduceSub Nat.reduceMul Nat.reduceLeDiff Nat.reduceLT
attribute [local go_sem ↓] reduceIte reduceCtorEq
/- Totals: products of all; the laws' example. -/
section
open Go PG Go.Proofs
set_option maxRecDepth 100000
set_option linter.unusedSimpArgs false
set_option linter.unusedVariables false

theorem c_SumN {l : List Nat} {dir : Int} (hd : ¬ (0 ≤ dir ∧ dir ≤ 3)) : PC E 19 [NL l, .int .i64 dir] (resPV2 (0, 0) 1) := by
  have k0 := T_WorthN (t := .zero) hd
  have kn := T_New
  obtain ⟨B, hB⟩ : ∃ B, B = Tt.zero.bk := ⟨_, rfl⟩
  rw [← hB] at k0 kn
  refine PC.of_body follows Tryz.func19 (by decide +kernel) rfl (by kernel_rfl) (Nat.le_of_ble_eq_true rfl) (walk ?_)
  unfold resPV2 at k0 ⊢
  simp only [NL]
  simp only [Tryz.f19, go_sem]
  refine qinl_i [] kn rfl (by decide) rfl (fun i b k hb => by simp at hb) (by intro d h; simp) (by intro h; cases h) ?_
  simp only [Tryz.f19, ren, eraO, eraL, List.getD_cons_zero, List.filter_cons, List.filter_nil, go_sem]
  refine qinl_i [12] (k0) rfl (by decide) rfl (one_blk rfl) (by intro d h; first | (cases h; decide) | cases h) (by intro h; first | rfl | cases h) ?_; simp only [Tryz.f19, ren, eraO, eraL, List.getD_cons_zero, List.getD_cons_succ, List.filter_cons, List.filter_nil, go_sem]
  try rfl
end

/- Totals: order plays no part; what no total answers. -/
section
open Go PG Go.Proofs
set_option maxRecDepth 100000
set_option linter.unusedSimpArgs false
set_option linter.unusedVariables false

theorem addS_assoc {a b c : Dy} {K : Nat} (La : Lim K a) (Lb : Lim K b) (Lc : Lim K c) (hK : K ≤ 900000) : addS (addS a b) c = addS a (addS b c) := by
  have fa := La.fits (by omega)
  have fb := Lb.fits (by omega)
  have fc := Lc.fits (by omega)
  have fab := (La.add Lb (by omega)).fits (by omega)
  have fbc := (Lb.add Lc (by omega)).fits (by omega)
  have gab := addS_ge La.ok Lb.ok fa fb La.ge Lb.ge
  have gbc := addS_ge Lb.ok Lc.ok fb fc Lb.ge Lc.ge
  refine eq_of_at (k := -(K : Int)) (addS_ok _ _) (addS_ok _ _) (addS_ge (addS_ok _ _) Lc.ok fab fc gab Lc.ge) (addS_ge La.ok (addS_ok _ _) fa fbc La.ge gbc) ?_
  rw [addS_at (addS_ok _ _) Lc.ok fab fc gab Lc.ge, addS_at La.ok (addS_ok _ _) fa fbc La.ge gbc, addS_at La.ok Lb.ok fa fb La.ge Lb.ge, addS_at Lb.ok Lc.ok fb fc Lb.ge Lc.ge]
  omega
theorem joinT_comm (t o : Tt) : joinT t o = joinT o t := by
  unfold joinT
  rw [Nat.add_comm, addS_comm, Bool.or_comm t.wrong, Bool.or_comm t.nan, Bool.or_comm t.up, Bool.or_comm t.down, Bool.or_comm t.minus, Bool.or_comm t.plus, Bool.or_comm t.other]
theorem joinT_assoc {t o p : Tt} (ht : t.ok) (ho : o.ok) (hp : p.ok) : joinT (joinT t o) p = joinT t (joinT o p) := by
  unfold joinT
  dsimp only
  rw [Nat.add_assoc, addS_assoc ht.lim ho.lim hp.lim (by rw [K0_eq]; decide), Bool.or_assoc, Bool.or_assoc, Bool.or_assoc, Bool.or_assoc, Bool.or_assoc, Bool.or_assoc, Bool.or_assoc]
theorem mulT_join {t : Tt} (ht : t.ok) (x y : Nat) : mulT t x y = joinT t (mulT .zero x y) := by
  have hz : addS t.sum .zero = t.sum := addS_zr ht.2.1 (ht.lim.fits (by rw [K0_eq]; decide)) Dy.zero_fits rfl
  have hd : addS .zero (mulS (fd0 x) (fd0 y)) = mulS (fd0 x) (fd0 y) := addS_zl (prod_limK x y).ok Dy.zero_fits ((prod_limK x y).fits (by rw [K0_eq]; decide)) rfl
  unfold mulT
  generalize kindT (kind x) (kind y) = k at *
  generalize mulS (fd0 x) (fd0 y) = d at *
  generalize (fs x != fs y) = neg at *
  obtain ⟨n, s, b1, b2, b3, b4, b5, b6, b7⟩ := t
  dsimp only at hz
  unfold Tt.take
  by_cases k5 : k = 5
  · rw [if_pos k5, if_pos k5]; simp [joinT, Tt.zero, hz]
  rw [if_neg k5, if_neg k5]
  by_cases k4 : k = 4
  · rw [if_pos k4, if_pos k4]; simp [joinT, Tt.zero, hz]
  rw [if_neg k4, if_neg k4]
  by_cases k3 : k = 3 ∧ neg = true
  · rw [if_pos k3, if_pos k3]; simp [joinT, Tt.zero, hz]
  rw [if_neg k3, if_neg k3]
  by_cases k3' : k = 3
  · rw [if_pos k3', if_pos k3']; simp [joinT, Tt.zero, hz]
  rw [if_neg k3', if_neg k3']
  by_cases k0 : k = 0 ∧ neg = true
  · rw [if_pos k0, if_pos k0]; simp [joinT, Tt.zero, hz]
  rw [if_neg k0, if_neg k0]
  by_cases k0' : k = 0
  · rw [if_pos k0', if_pos k0']; simp [joinT, Tt.zero, hz]
  rw [if_neg k0', if_neg k0']
  simp [joinT, Tt.zero, hd]
theorem dotT_ok {l : List (Nat × Nat)} (h : l.length ≤ 65536) : (dotT l).ok ∧ (dotT l).n = l.length := by
  have := dotT_take h l.length (Nat.le_refl _)
  rwa [List.take_length] at this
theorem dotT_append (l : List (Nat × Nat)) : ∀ (r : List (Nat × Nat)), l.length + r.length ≤ 65536 → dotT (l ++ r) = joinT (dotT l) (dotT r) := by
  suffices h : ∀ (n : Nat) (r : List (Nat × Nat)), r.length = n → l.length + r.length ≤ 65536 → dotT (l ++ r) = joinT (dotT l) (dotT r) from fun r hr => h _ r rfl hr
  intro n
  induction n with
  | zero =>
    intro r h0 hr
    have e : r = [] := List.length_eq_zero_iff.1 h0
    subst e
    obtain ⟨h1, h2⟩ := dotT_ok (l := l) (by omega)
    rw [List.append_nil, show dotT [] = .zero from rfl]
    have hz : addS (dotT l).sum .zero = (dotT l).sum := addS_zr h1.2.1 (h1.lim.fits (by rw [K0_eq]; decide)) Dy.zero_fits rfl
    generalize dotT l = t at *
    obtain ⟨n, s, b1, b2, b3, b4, b5, b6, b7⟩ := t
    dsimp only at hz
    simp [joinT, Tt.zero, hz]
  | succ n ih =>
    intro r h0 hr
    have hne : r ≠ [] := fun e => by rw [e] at h0; cases h0
    have e : r = r.dropLast ++ [r.getLast hne] := (List.dropLast_concat_getLast hne).symm
    have hl : r.dropLast.length = n := by rw [List.length_dropLast]; omega
    generalize r.getLast hne = p at e
    generalize r.dropLast = q at e hl
    subst e
    have hq : l.length + q.length ≤ 65535 := by simp at hr; omega
    obtain ⟨h1, -⟩ := dotT_ok (l := l) (by omega)
    obtain ⟨h2, h3⟩ := dotT_ok (l := q) (by omega)
    obtain ⟨h4, h5⟩ := dotT_ok (l := l ++ q) (by simp; omega)
    have h6 : (mulT .zero p.1 p.2).ok := mulT_ok Tt.zero_ok (by decide) _ _
    rw [← List.append_assoc, dotT_snoc, dotT_snoc, mulT_join h4, mulT_join h2, ih q hl (by omega), joinT_assoc h1 h2 h6]

theorem T_AddNil (x : Nat) : PCM E 49 [.val .np, .val (.int .u64 x)] [] (.val (.int .i64 3)) [] := by
  refine PCM.of_body follows Tryz.func49 (by decide +kernel) rfl (by kernel_rfl) (Nat.le_of_ble_eq_true rfl) (Nat.le_refl _) (by simp) (fun k h => by cases h) (fun h => by cases h) (walk ?_)
  simp only [mstart, startS, blkL, shiftSV]
  simp only [Tryz.f49, go_sem]
  exact fin0 (by decide) rfl
theorem T_WorthNil (dir : Int) : PCM E 48 [.val .np, .val (.int .i64 dir)] [] (.val (resPV2 (0, 0) 3)) [] := by
  refine PCM.of_body follows Tryz.func48 (by decide +kernel) rfl (by kernel_rfl) (Nat.le_of_ble_eq_true rfl) (Nat.le_refl _) (by simp) (fun k h => by cases h) (fun h => by cases h) (walk ?_)
  simp only [mstart, startS, blkL, shiftSV]
  simp only [Tryz.f48, go_sem]
  exact fin0 (by decide) rfl
/-- A law's pairs. -/
def flatP (ls : List (Nat × Nat)) : List PV := ls.flatMap fun p => [.int .u64 p.1, .int .u64 p.2]
def PLs (ls : List (Nat × Nat)) : PV := .lst ls.length (flatP ls)
def qPairs (p : PV) : Prop := ∃ ls : List (Nat × Nat), p = PLs ls ∧ ∀ q ∈ ls, q.1 < W ∧ q.2 < W
theorem flatP_get {ls : List (Nat × Nat)} : ∀ {i : Nat} (h : i < ls.length), (flatP ls)[i * 2]? = some (.int .u64 (ls[i].1 : Nat)) ∧ (flatP ls)[i * 2 + 1]? = some (.int .u64 (ls[i].2 : Nat)) := by
  induction ls with
  | nil => intro i h; cases h
  | cons p ls ih =>
    intro i h
    cases i with
    | zero => exact ⟨rfl, rfl⟩
    | succ i =>
      have := ih (i := i) (by simpa using h)
      have e : flatP (p :: ls) = [.int .u64 p.1, .int .u64 p.2] ++ flatP ls := by simp [flatP]
      rw [e, show (i + 1) * 2 = i * 2 + 2 by omega, show i * 2 + 2 + 1 = (i * 2 + 1) + 2 by omega]
      exact this
end

/- Totals: a turned list of pairs; one more pair. -/
section
open Go PG Go.Proofs
set_option maxRecDepth 100000
set_option linter.unusedSimpArgs false
set_option linter.unusedVariables false

/-- The list turned by m. -/
def turnL (l : List (Nat × Nat)) (m : Nat) : List (Nat × Nat) := l.drop m ++ l.take m
theorem turnL_len (l : List (Nat × Nat)) {m : Nat} (hm : m ≤ l.length) : (turnL l m).length = l.length := by
  unfold turnL; rw [List.length_append, List.length_drop, List.length_take]; omega
theorem turnL_get {l : List (Nat × Nat)} {b i : Nat} (hi : i < l.length) (hj : (i + b) % l.length < l.length) :
    (turnL l (b % l.length))[i]? = some l[(i + b) % l.length] := by
  have hm : b % l.length < l.length := Nat.mod_lt _ (by omega)
  unfold turnL
  rw [← List.getElem?_eq_getElem hj]
  by_cases h : i < l.length - b % l.length
  · rw [List.getElem?_append_left (by rw [List.length_drop]; exact h), List.getElem?_drop]
    congr 1
    rw [Nat.add_mod, Nat.mod_eq_of_lt hi, Nat.mod_eq_of_lt (a := i + b % l.length) (by omega)]
    omega
  · rw [List.getElem?_append_right (by rw [List.length_drop]; omega), List.length_drop, List.getElem?_take_of_lt (by omega)]
    congr 1
    rw [Nat.add_mod, Nat.mod_eq_of_lt hi, Nat.mod_eq_sub_mod (a := i + b % l.length) (by omega), Nat.mod_eq_of_lt (a := i + b % l.length - l.length) (by omega)]
    omega
theorem turnL_mem {l : List (Nat × Nat)} {m : Nat} {q : Nat × Nat} (h : q ∈ turnL l m) : q ∈ l := by
  unfold turnL at h
  rcases List.mem_append.1 h with h | h
  · exact List.mem_of_mem_drop h
  · exact List.mem_of_mem_take h
theorem dotT_turn {l : List (Nat × Nat)} (hl : l.length ≤ 65536) (m : Nat) : dotT (turnL l m) = dotT l := by
  have h : (l.drop m).length + (l.take m).length = l.length := by rw [List.length_drop, List.length_take]; omega
  rw [turnL, dotT_append _ _ (by omega), joinT_comm, ← dotT_append _ _ (by omega), List.take_append_drop]
theorem dotT_parts {l : List (Nat × Nat)} (hl : l.length ≤ 65536) (m : Nat) : joinT (dotT (l.drop m)) (dotT (l.take m)) = dotT l := by
  have h : (l.drop m).length + (l.take m).length = l.length := by rw [List.length_drop, List.length_take]; omega
  rw [joinT_comm, ← dotT_append _ _ (by omega), List.take_append_drop]

theorem fields2p {P : Program} {w : World} {l : List Field} {a b : TypeId} {n : Nat} {A B : List PV → Prop} (h : l.map (fun f => (f.type, f.offset)) = [(a, 0), (b, n)])
    (ca : P.cellsOf a = n) (ra : Rd P w a A) (rb : Rd P w b B) : FieldsRd P w 0 l [A, B] := by
  rcases l with _ | ⟨f, _ | ⟨g, _ | ⟨k, l⟩⟩⟩
  · cases h
  · simp at h
  · simp only [List.map_cons, List.map_nil, List.cons.injEq, Prod.mk.injEq, and_true] at h
    obtain ⟨⟨h1, h2⟩, h3, h4⟩ := h
    exact ⟨h2, h1 ▸ ra, by rw [h1, ca, Nat.zero_add]; exact h4, h3 ▸ rb, trivial⟩
  · simp at h
theorem pairs_of {Q : List PV → Prop} (hQ : ∀ l, Q l → ∃ n, l = [.int .u64 n] ∧ IntKind.u64.min ≤ n ∧ n ≤ IntKind.u64.max) : ∀ (els : List (List PV)), (∀ x ∈ els, Parts [Q, Q] x ∧ x.length = 2) →
    ∃ ls : List (Nat × Nat), els.flatten = flatP ls ∧ ls.length = els.length ∧ ∀ q ∈ ls, q.1 < W ∧ q.2 < W
  | [], _ => ⟨[], rfl, rfl, fun q h => by cases h⟩
  | x :: els, h => by
    obtain ⟨ls, h1, h2, h3⟩ := pairs_of hQ els fun y hy => h y (List.mem_cons_of_mem _ hy)
    obtain ⟨⟨a, r, rfl, ha, b, r2, rfl, hb, rfl⟩, -⟩ := h x List.mem_cons_self
    obtain ⟨n, rfl, n1, n2⟩ := hQ _ ha
    obtain ⟨m, rfl, m1, m2⟩ := hQ _ hb
    have e1 : IntKind.u64.min = 0 := by decide
    have e2 : IntKind.u64.max = 18446744073709551615 := by decide
    have eW : W = 18446744073709551616 := by decide
    rw [e1] at n1 m1
    rw [e2] at n2 m2
    refine ⟨(n.toNat, m.toNat) :: ls, ?_, by simp [h2], ?_⟩
    · have f1 : ((n.toNat : Nat) : Int) = n := Int.toNat_of_nonneg n1
      have f2 : ((m.toNat : Nat) : Int) = m := Int.toNat_of_nonneg m1
      show [.int .u64 n] ++ ([.int .u64 m] ++ []) ++ els.flatten = [PV.int .u64 (n.toNat : Nat), PV.int .u64 (m.toNat : Nat)] ++ flatP ls
      rw [h1, f1, f2]
      rfl
    · intro q hq
      rcases List.mem_cons.1 hq with rfl | hq
      · rw [eW]
        dsimp only
        omega
      · exact h3 q hq
theorem a_pairs {t d e : TypeId} (w : World) (ht : E.P.underlying t = some (.slice d)) (hd : E.P.underlying d = some (.struct (E.P.fieldsOf d))) (hdf : (E.P.fieldsOf d).toList.map (fun f => (f.type, f.offset)) = [(e, 0), (e, 1)])
    (hdw : widths E.P 0 (E.P.fieldsOf d).toList = E.P.cellsOf d) (cd : E.P.cellsOf d = 2) (ce : E.P.cellsOf e = 1) (te : E.P.underlying e = some (.int .u64)) : ArgRd E.P w t qPairs :=
  arg_imp (ArgRd.slice ht cd (Rd.struct (w := w) hd (fields2p hdf ce (Rd.int te) (Rd.int te)) hdw)) fun p ⟨els, h, h1⟩ => by
    obtain ⟨ls, l1, l2, l3⟩ := pairs_of (fun l h => h) els h1
    exact ⟨ls, by rw [h, PLs, l1, l2], l3⟩
end

/- The document's sums of products. -/
section
open Go PG Go.Proofs
set_option maxRecDepth 100000
set_option linter.unusedSimpArgs false
set_option linter.unusedVariables false

theorem kind_le5 (b : Nat) : kind b ≤ 5 := by unfold kind; (repeat' split) <;> omega
def ansP28 (r : Nat × Nat) : PV := .agg [.int .u64 (r.1 : Int), .int .i64 (r.2 : Int)]
theorem fdN (x : Nat) (h : kind x ≠ 5) (h4 : kind x ≠ 4) (h3 : kind x ≠ 3) : fd0 x = fd x := by
  unfold fd0
  refine if_pos ?_
  unfold kind at h h4 h3
  refine Decidable.byContradiction fun hn => ?_
  have := fe_lt x
  repeat' split at h
  all_goals simp_all
theorem mulT5 {t : Tt} {x y : Nat} (h : kind x = 5 ∨ kind y = 5 ∨ (kind x = 3 ∧ kind y = 0) ∨ (kind x = 0 ∧ kind y = 3)) : mulT t x y = { t with n := t.n + 1, wrong := true, other := true } := by
  have h1 := kind_le5 x
  have h2 := kind_le5 y
  have e : kindT (kind x) (kind y) = 5 := by unfold kindT; (repeat' split) <;> omega
  unfold mulT Tt.take
  rw [e]
  rfl
theorem mulT4 {t : Tt} {x y : Nat} (h : ¬ (kind x = 5 ∨ kind y = 5 ∨ (kind x = 3 ∧ kind y = 0) ∨ (kind x = 0 ∧ kind y = 3))) (g : kind x = 4 ∨ kind y = 4) : mulT t x y = { t with n := t.n + 1, nan := true, other := true } := by
  have h1 := kind_le5 x
  have h2 := kind_le5 y
  have e : kindT (kind x) (kind y) = 4 := by unfold kindT; (repeat' split) <;> omega
  unfold mulT Tt.take
  rw [e]
  rfl
theorem mulT3 {t : Tt} {x y : Nat} (h : ¬ (kind x = 5 ∨ kind y = 5 ∨ (kind x = 3 ∧ kind y = 0) ∨ (kind x = 0 ∧ kind y = 3))) (h4 : ¬ (kind x = 4 ∨ kind y = 4)) (g : kind x = 3 ∨ kind y = 3) :
    mulT t x y = { t with n := t.n + 1, up := t.up || !(fs x != fs y), down := t.down || (fs x != fs y), other := true } := by
  have h1 := kind_le5 x
  have h2 := kind_le5 y
  have e : kindT (kind x) (kind y) = 3 := by unfold kindT; (repeat' split) <;> omega
  unfold mulT Tt.take
  rw [e]
  cases (fs x != fs y) <;> simp
theorem mulT0 {t : Tt} {x y : Nat} (h : ¬ (kind x = 5 ∨ kind y = 5 ∨ (kind x = 3 ∧ kind y = 0) ∨ (kind x = 0 ∧ kind y = 3))) (h4 : ¬ (kind x = 4 ∨ kind y = 4)) (h3 : ¬ (kind x = 3 ∨ kind y = 3)) (g : kind x = 0 ∨ kind y = 0) :
    mulT t x y = { t with n := t.n + 1, minus := t.minus || (fs x != fs y), plus := t.plus || !(fs x != fs y) } := by
  have h1 := kind_le5 x
  have h2 := kind_le5 y
  have e : kindT (kind x) (kind y) = 0 := by unfold kindT; (repeat' split) <;> omega
  unfold mulT Tt.take
  rw [e]
  cases (fs x != fs y) <;> simp
theorem mulT1 {t : Tt} {x y : Nat} (h : ¬ (kind x = 5 ∨ kind y = 5 ∨ (kind x = 3 ∧ kind y = 0) ∨ (kind x = 0 ∧ kind y = 3))) (h4 : ¬ (kind x = 4 ∨ kind y = 4)) (h3 : ¬ (kind x = 3 ∨ kind y = 3)) (h0 : ¬ (kind x = 0 ∨ kind y = 0)) :
    mulT t x y = { t with n := t.n + 1, sum := addS t.sum (mulS (fd x) (fd y)), other := true } := by
  have h1 := kind_le5 x
  have h2 := kind_le5 y
  have e : kindT (kind x) (kind y) ≠ 5 ∧ kindT (kind x) (kind y) ≠ 4 ∧ kindT (kind x) (kind y) ≠ 3 ∧ kindT (kind x) (kind y) ≠ 0 := by unfold kindT; (repeat' split) <;> omega
  unfold mulT Tt.take
  rw [if_neg e.1, if_neg e.2.1, if_neg (fun h => e.2.2.1 h.1), if_neg e.2.2.1, if_neg (fun h => e.2.2.2 h.1), if_neg e.2.2.2, fdN x (by omega) (by omega) (by omega), fdN y (by omega) (by omega) (by omega)]
end

/- The document's sums of products: planimeterref29.Worth. -/
section
open Go PG Go.Proofs
set_option maxRecDepth 100000
set_option linter.unusedSimpArgs false
set_option linter.unusedVariables false

theorem LimN.zero (K : Nat) : LimN K .zero := ⟨.inl rfl, by rw [at_zero (d := .zero) rfl]; exact Nat.two_pow_pos _, by show -(K : Int) ≤ 0; omega, by show (0 : Int) ≤ (K : Int); omega⟩
set_option maxHeartbeats 4000000 in
theorem c_29Worth {ls : List (Nat × Nat)} (hlen : ls.length ≤ 60) (hb : ∀ q ∈ ls, q.1 < W ∧ q.2 < W) {dir : Int} (hd : 0 ≤ dir ∧ dir ≤ 3) : PC E 29 [PLs ls, .int .i64 dir] (ansP28 (worthS (dotT ls) dir)) := by
  obtain ⟨X, Y, hXY⟩ : ∃ X Y : Nat → Nat, ∀ i, i < ls.length → ls[i]? = some (X i, Y i) :=
    ⟨fun i => (ls.getD i (0, 0)).1, fun i => (ls.getD i (0, 0)).2, fun i hi => by simp [List.getD_eq_getElem?_getD, hi]⟩
  have hg : ∀ i, i < ls.length → (flatP ls)[i * 2]? = some (.int .u64 (X i : Nat)) ∧ (flatP ls)[i * 2 + 1]? = some (.int .u64 (Y i : Nat)) := fun i hi => by
    have h1 := hXY i hi
    rw [List.getElem?_eq_getElem hi, Option.some.injEq] at h1
    have := flatP_get hi
    rwa [h1] at this
  have hbb : ∀ i, i < ls.length → X i < W ∧ Y i < W := fun i hi => by
    have h1 := hXY i hi
    have := hb _ (List.mem_of_getElem? h1)
    exact this
  obtain ⟨T, hT⟩ : ∃ T : Nat → Tt, ∀ i, dotT (ls.take i) = T i := ⟨_, fun _ => rfl⟩
  have hst : ∀ i, i < ls.length → T (i + 1) = mulT (T i) (X i) (Y i) := fun i hi => by
    have h1 := hXY i hi
    obtain ⟨hi', e⟩ := List.getElem?_eq_some_iff.1 h1
    rw [← hT, ← hT, List.take_succ_eq_append_getElem hi, dotT_snoc, e]
  have hTn : dotT ls = T ls.length := by rw [← hT, List.take_length]
  have hT0 : T 0 = .zero := (hT 0).symm
  rw [hTn]
  clear hTn hT hXY hb
  simp only [PLs]
  generalize flatP ls = U1 at *
  generalize ls.length = n at *
  obtain ⟨R, hR⟩ : ∃ R, R = worthS (T n) dir := ⟨_, rfl⟩
  rw [← hR]
  unfold ansP28
  refine PC.of_body follows Tryz.func29 (by decide +kernel) rfl (by kernel_rfl) (Nat.le_of_ble_eq_true rfl) (walk ?_)
  simp only [Tryz.f29, go_sem]
  refine PLoop.intro (fun p : Nat × Dy => ⟨[(0, .val (.lst n U1)), (1, .val (.int .i64 dir)), (4, .ptr 4 0), (5, .ptr 5 0), (6, .val (.bool (T p.1).wrong)), (7, .val (.bool (T p.1).nan)), (8, .val (.bool (T p.1).up)), (9, .val (.bool (T p.1).down)), (10, .val (.bool (T p.1).minus)), (11, .val (.bool (T p.1).plus)), (12, .val (.bool (T p.1).other)), (13, .val (.int .i64 p.1))],
    [(4, (.box [.int .u64 0, .int .i64 0], false)), (5, (.box [.bool p.2.s, .lst (dg B p.2.m).length (V (dg B p.2.m)), .int .i64 p.2.e], false))]⟩) (fun p => p.1 ≤ n ∧ LimN (K0 + p.1) p.2 ∧ p.2.bare = (T p.1).sum) (fun p => n - p.1) (0, .zero) ?_ ?_ fun p hp => walk ?_
  · refine ⟨Nat.zero_le _, ?_, ?_⟩
    · exact LimN.zero (K0 + 0)
    · show Dy.zero.bare = (T 0).sum
      rw [hT0]
      rfl
  · have hz : dg B Dy.zero.m = [] := rfl
    simp [Wk, sget, killL, kill1, SV.key, hT0, Tt.zero, hz]
    try simp [Dy.zero, V]
  obtain ⟨i, S⟩ := p
  obtain ⟨hi, hS, hSb⟩ := hp
  dsimp only at hi hS hSb ⊢
  have wi : IntKind.wrap .i64 ((i : Int) + 1) = ((i + 1 : Nat) : Int) := by rw [wrap64 (by omega) (by omega)]; omega
  simp only [Tryz.f29, go_sem]
  refine qif_d (fun h => ?_) (fun h => ?_)
  · have hin : i < n := by omega
    obtain ⟨hx, hy⟩ := hbb i hin
    obtain ⟨x1, x2⟩ := hg i hin
    have e := hst i hin
    have k1 := c_rKind _ hx
    have k2 := c_rKind _ hy
    have k3 := c_Worth _ hx
    have k4 := c_Worth _ hy
    have q1 := (fd_lim (X i)).N
    have q2 := (fd_lim (Y i)).N
    have k5 := l_28Mul q1 q2 (by decide)
    have q3 := (q1.mul q2)
    have m5 := @mulT5 (T i) (X i) (Y i)
    have m4 := @mulT4 (T i) (X i) (Y i)
    have m3 := @mulT3 (T i) (X i) (Y i)
    have m0 := @mulT0 (T i) (X i) (Y i)
    have m1 := @mulT1 (T i) (X i) (Y i)
    rw [← e] at m5 m4 m3 m0 m1
    have f1 : ∀ z : Nat, fs z = decide ((z : Int) ≥ 9223372036854775808) := fun z => by unfold fs; exact decide_eq_decide.2 (by omega)
    rw [f1, f1] at m3 m0
    have k6 := l_Add hS (q3.mono (J := K0 + i) (by rw [K0_eq]; omega)) (by rw [K0_eq]; omega)
    have q4 := hS.add (q3.mono (J := K0 + i) (by rw [K0_eq]; omega))
    have q5 := addD_bare hS (q3.mono (J := K0 + i) (by rw [K0_eq]; omega)) (by rw [K0_eq]; omega)
    have hmb : (mulS (fd (X i)) (fd (Y i))).bare = mulS (fd (X i)) (fd (Y i)) := ((fd_lim (X i)).mul (fd_lim (Y i))).bare (by decide)
    rw [hSb, hmb] at q5
    clear e
    generalize addD S (mulS (fd (X i)) (fd (Y i))) = S2 at *
    generalize mulS (fd (X i)) (fd (Y i)) = M at *
    generalize fd (X i) = fX at *
    generalize fd (Y i) = fY at *
    generalize kind (X i) = a at *
    generalize kind (Y i) = b at *
    simp only [u, Dy.nv, DP, VN, VL] at k1 k2 k3 k4 k5 k6
    generalize h2 : T (i + 1) = t2 at *
    generalize h1 : T i = t at *
    obtain ⟨tn, ts, wrong, nan, up, down, minus, plus, other⟩ := t
    dsimp only at m5 m4 m3 m0 m1 hSb q5 ⊢
    generalize X i = x at *
    generalize Y i = y at *
    clear hR hst hg hbb hT0 hx hy q1 q2 q3
    simp only [Tryz.f29, go_sem]
    refine qand_i (by first | omega | (simp [V_length, U_length, tab_length, maxLen]; done) | (simp [V_length, U_length, tab_length, maxLen]; omega) | (refine ⟨?_, ?_⟩ <;> first | omega | (simp [V_length, U_length, tab_length, maxLen]; done) | (simp [V_length, U_length, tab_length, maxLen]; omega))) ?_; simp only [Tryz.f29, go_sem]
    refine qval_i (congrArg (Option.map _) x1) ?_
    simp only [Tryz.f29, go_sem]
    refine qcall_i (k1) ?_; simp only [Tryz.f29, go_sem]
    refine qand_i (by first | omega | (simp [V_length, U_length, tab_length, maxLen]; done) | (simp [V_length, U_length, tab_length, maxLen]; omega) | (refine ⟨?_, ?_⟩ <;> first | omega | (simp [V_length, U_length, tab_length, maxLen]; done) | (simp [V_length, U_length, tab_length, maxLen]; omega))) ?_; simp only [Tryz.f29, go_sem]
    refine qval_i (congrArg (Option.map _) x2) ?_
    simp only [Tryz.f29, go_sem]
    refine qcall_i (k2) ?_; simp only [Tryz.f29, go_sem]
    refine qand_i (by first | omega | (simp [V_length, U_length, tab_length, maxLen]; done) | (simp [V_length, U_length, tab_length, maxLen]; omega) | (refine ⟨?_, ?_⟩ <;> first | omega | (simp [V_length, U_length, tab_length, maxLen]; done) | (simp [V_length, U_length, tab_length, maxLen]; omega))) ?_; simp only [Tryz.f29, go_sem]
    refine qval_i (congrArg (Option.map _) x1) ?_
    simp only [Tryz.f29, go_sem]
    refine qand_i (by first | omega | (simp [V_length, U_length, tab_length, maxLen]; done) | (simp [V_length, U_length, tab_length, maxLen]; omega) | (refine ⟨?_, ?_⟩ <;> first | omega | (simp [V_length, U_length, tab_length, maxLen]; done) | (simp [V_length, U_length, tab_length, maxLen]; omega))) ?_; simp only [Tryz.f29, go_sem]
    refine qval_i (congrArg (Option.map _) x2) ?_
    simp only [Tryz.f29, go_sem]
    generalize (decide ((x : Int) ≥ 9223372036854775808) != decide ((y : Int) ≥ 9223372036854775808)) = neg at *
    repeat' ((with_reducible refine qif_d (fun h => ?_) (fun h => ?_)) <;> (first | (exfalso; omega) | simp only [Tryz.f29, wi, go_sem]))
    all_goals first
      | (have e := m5 (by omega); clear m5 m4 m3 m0 m1; refine ⟨(i + 1, S), ⟨by dsimp only; omega, hS.mono (by omega), by dsimp only; rw [h2, e]; exact hSb⟩, by dsimp only; omega, ?_⟩; simp [Wk, sget, killL, kill1, SV.key, h2, e])
      | (have e := m4 (by omega) (by omega); clear m5 m4 m3 m0 m1; refine ⟨(i + 1, S), ⟨by dsimp only; omega, hS.mono (by omega), by dsimp only; rw [h2, e]; exact hSb⟩, by dsimp only; omega, ?_⟩; simp [Wk, sget, killL, kill1, SV.key, h2, e])
      | (have e := m3 (by omega) (by omega) (by omega); clear m5 m4 m3 m0 m1; cases up <;> cases down <;> simp only [Tryz.f29, wi, go_sem] <;> (refine ⟨(i + 1, S), ⟨by dsimp only; omega, hS.mono (by omega), by dsimp only; rw [h2, e]; exact hSb⟩, by dsimp only; omega, ?_⟩; simp [Wk, sget, killL, kill1, SV.key, h2, e]))
      | (have e := m0 (by omega) (by omega) (by omega) (by omega); clear m5 m4 m3 m0 m1; cases minus <;> cases plus <;> simp only [Tryz.f29, wi, go_sem] <;> (refine ⟨(i + 1, S), ⟨by dsimp only; omega, hS.mono (by omega), by dsimp only; rw [h2, e]; exact hSb⟩, by dsimp only; omega, ?_⟩; simp [Wk, sget, killL, kill1, SV.key, h2, e]))
      | skip
    all_goals
      have e := m1 (by omega) (by omega) (by omega) (by omega)
      clear m5 m4 m3 m0 m1
      refine qand_i (by omega) ?_
      simp only [Tryz.f29, go_sem]
      refine qval_i (congrArg (Option.map _) x1) ?_
      simp only [Tryz.f29, go_sem]
      refine qcall_i (k3) ?_; simp only [Tryz.f29, go_sem]
      refine qand_i (by first | omega | (simp [V_length, U_length, tab_length, maxLen]; done) | (simp [V_length, U_length, tab_length, maxLen]; omega) | (refine ⟨?_, ?_⟩ <;> first | omega | (simp [V_length, U_length, tab_length, maxLen]; done) | (simp [V_length, U_length, tab_length, maxLen]; omega))) ?_; simp only [Tryz.f29, go_sem]
      refine qval_i (congrArg (Option.map _) x2) ?_
      simp only [Tryz.f29, go_sem]
      refine qcall_i (k4) ?_; simp only [Tryz.f29, go_sem]
      refine qcall_i (k5) ?_; simp only [Tryz.f29, go_sem]
      refine qcall_i (k6) ?_; simp only [Tryz.f29, wi, go_sem]
      refine ⟨(i + 1, S2), ⟨by dsimp only; omega, q4, by dsimp only; rw [h2, e]; exact q5⟩, by dsimp only; omega, ?_⟩
      simp [Wk, sget, killL, kill1, SV.key, h2, e]
  · have hin : i = n := by omega
    subst hin
    have q0 := toS_bare hS (by rw [K0_eq]; omega) false dir
    have qm := bare_m0 hS (by rw [K0_eq]; omega)
    rw [hSb] at q0 qm
    have k2 := c_7ToN (d := S) (by have := hS.bits; rw [K0_eq] at this; omega) (by have := hS.2.2; rw [K0_eq] at this; omega) false hd.1 hd.2
    rw [← q0] at k2
    have hdl : ((dg B S.m).length : Int) > 0 ↔ (T i).sum.m ≠ 0 := by
      rw [ne_eq, qm, ← dgB_len0]
      omega
    clear hst hg hbb hT0 q0 hS hSb
    clear qm
    unfold worthS at hR
    generalize T i = t at *
    obtain ⟨tn, ts, wrong, nan, up, down, minus, plus, other⟩ := t
    simp only [u, Dy.nv, DP, VN, VL] at k2
    dsimp only at hR hdl k2 ⊢
    generalize toS ts false dir = To at *
    simp only [Tryz.f29, go_sem]
    repeat' first
      | ((with_reducible refine qif_i (fun h => ?_) (fun h => ?_)) <;> (try subst h) <;> simp only [Tryz.f29, go_sem])
      | ((with_reducible refine qcall_i k2 ?_); simp only [Tryz.f29, go_sem])
    all_goals
      clear k2
      try simp only [decide_eq_true_eq, decide_eq_false_iff_not, hdl, ne_eq, Decidable.not_not, Bool.not_eq_true', Bool.not_eq_false'] at *
      try simp [*] at hR
      subst hR
      first
        | rfl
        | (simp_all; done)
        | trace_state
end

/- The document's mean. -/
section
open Go PG Go.Proofs
set_option maxRecDepth 100000
set_option linter.unusedSimpArgs false
set_option linter.unusedVariables false

theorem s_eq_of_val {a b : Dy} (h : a.val = b.val) (ha : a.m ≠ 0) (hb : b.m ≠ 0) : a.s = b.s := by
  have h1 := (sg_val (d := a)).2.1
  have h2 := (sg_val (d := b)).2.1
  rw [h] at h1
  have h3 : a.sg < 0 ↔ b.sg < 0 := h1.trans h2.symm
  unfold Dy.sg at h3
  rw [if_neg ha, if_neg hb] at h3
  cases h4 : a.s <;> cases h5 : b.s <;> simp [h4, h5] at h3 ⊢
theorem LimN.abs {K : Nat} {d : Dy} (h : LimN K d) : LimN (3 * K) d.abs := LimN.mk (n := 2 * K) (J := K) (d := d.abs) h.bits ⟨h.2.2.1, h.2.2.2⟩ (by omega)
theorem c_28QuotientV {K : Nat} {a a' b b' : Dy} (la : LimN K a') (lb : LimN K b') (hK : K ≤ 30000) (va : a'.val = a.val) (vb : b'.val = b.val) (ha : a.m ≠ 0) (hb : b.m ≠ 0) (ba : bitLen a.m ≤ 4400) (bb : bitLen b.m ≤ 4400) (ea : -20000 ≤ a.e ∧ a.e ≤ 20000) (eb : -20000 ≤ b.e ∧ b.e ≤ 20000) {dir : Int} (hd : 0 ≤ dir ∧ dir ≤ 3) :
    PC E 30 [a'.nv, b'.nv, .int .i64 dir] (ansB (toS (partD a b) (partR a b) dir)) := by
  have ha' : a'.m ≠ 0 := fun h => ha (val_eq_zero.1 (by rw [← va]; exact val_eq_zero.2 h))
  have hb' : b'.m ≠ 0 := fun h => hb (val_eq_zero.1 (by rw [← vb]; exact val_eq_zero.2 h))
  obtain ⟨h1, h2⟩ := partD_m0 ha hb
  have ht : tcOk (fun n => cmpD (mulS n b'.abs) a'.abs) (partD a b) (partR a b) := fun n hn => by
    have := tc_quo ha hb ba bb ea eb n hn
    dsimp only at this ⊢
    rw [cmp_val_lt, cmp_val_gt, val_mul, val_abs, val_abs] at this ⊢
    rw [va, vb]
    exact this
  have kb := c_28By h1 (tc := fun n => cmpD (mulS n b'.abs) a'.abs) (fun n hn => c_TCmpQ la.abs lb.abs hn (by omega) (by omega)) ht hd
  rw [h2, ← s_eq_of_val va ha' ha, ← s_eq_of_val vb hb' hb] at kb
  have kt := @c_28test false false false
  unfold ansB at kb ⊢
  generalize toS (partD a b) (partR a b) dir = T at *
  simp only [Dy.abs, Dy.nv, DP, VN, VL] at kb ⊢
  refine PC.of_body follows Tryz.func30 (by decide +kernel) rfl (by kernel_rfl) (Nat.le_of_ble_eq_true rfl) (walk ?_)
  simp only [Tryz.f30, go_sem]
  refine qcall_i (kt) ?_; simp only [Tryz.f30, go_sem]
  refine qcall_i (kb) ?_; simp only [Tryz.f30, go_sem]
  try rfl
/-- The document's sum of what are numbers. -/
def sumM (l : List Nat) : Dy := l.foldl (fun acc x => if 2 < kind x then acc else addD acc (fd x)) .zero
theorem sumM_snoc (l : List Nat) (x : Nat) : sumM (l ++ [x]) = if 2 < kind x then sumM l else addD (sumM l) (fd x) := by unfold sumM; rw [List.foldl_append]; rfl
theorem sumM_lim (l : List Nat) (hl : l.length ≤ 1000) : LimN (1153 + l.length) (sumM l) := by
  revert hl
  refine sumQ_ind (P := fun l => l.length ≤ 1000 → LimN (1153 + l.length) (sumM l)) (fun _ => ((Lim.zero 1153).N).mono (by omega)) (fun l x ih hl => ?_) l
  rw [List.length_append, List.length_singleton] at hl
  rw [sumM_snoc, List.length_append, List.length_singleton]
  split
  · exact (ih (by omega)).mono (by omega)
  · exact (ih (by omega)).add ((fd_lim x).N.mono (by omega))
theorem sumM_val (l : List Nat) (hl : l.length ≤ 1000) : (sumM l).val = (sumF l).val := by
  revert hl
  refine sumQ_ind (P := fun l => l.length ≤ 1000 → (sumM l).val = (sumF l).val) (fun _ => rfl) (fun l x ih hl => ?_) l
  rw [List.length_append, List.length_singleton] at hl
  have h1 := (sumF_lim l (by omega)).mono (J := 3000) (by omega)
  have h2 := (fd0_lim x).mono (J := 3000) (by omega)
  rw [sumM_snoc, sumF_snoc, h1.val_add h2 (by decide), ← ih (by omega)]
  split
  · rename_i hk
    rw [val_zero (d := fd0 x) ((fd0_m x).2 (.inr hk)), Rat.add_zero]
  · rename_i hk
    rw [val_addD, fd0_fn (by omega)]
theorem addT_one2 (t : Tt) (x : Nat) : mulT t x 4607182418800017408 = addT t x := by
  have k1 : kind 4607182418800017408 = 2 := by decide
  have k2 : fs 4607182418800017408 = false := by decide
  have k3 : fd0 4607182418800017408 = ⟨false, 1, 0⟩ := by decide +kernel
  have k4 : mulS (fd0 x) ⟨false, 1, 0⟩ = fd0 x := by
    have ho := (fd0_lim x).ok
    generalize fd0 x = d at *
    rcases ho with rfl | ho
    · decide
    · obtain ⟨s, m, e⟩ := d
      unfold mulS
      rw [if_neg (by dsimp only at ho ⊢; omega)]
      simp
  have k5 := kind_le x
  unfold addT mulT
  rw [k1, k2, k3, k4, Bool.bne_false]
  generalize fd0 x = d
  generalize fs x = s
  generalize kind x = k at *
  obtain rfl | rfl | rfl | rfl | rfl | rfl : k = 0 ∨ k = 1 ∨ k = 2 ∨ k = 3 ∨ k = 4 ∨ k = 5 := by omega
  all_goals rfl
def pairsL (l : List Nat) : List (Nat × Nat) := l.map fun x => (x, 4607182418800017408)
theorem dotT_pairs (l : List Nat) : dotT (pairsL l) = sumT l := by
  refine sumQ_ind (P := fun l => dotT (pairsL l) = sumT l) rfl (fun l x ih => ?_) l
  unfold pairsL at ih ⊢
  rw [List.map_append, List.map_singleton, dotT_snoc, sumT_snoc, ih]
  exact addT_one2 _ _
end
end Go.Proofs.YtmnnnapelmhalaaGreatDoor
