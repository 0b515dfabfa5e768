/- Totals: what total's methods do to what they are handed. -/
import Derived.Test.YtfogjddcagckaaaDoorUl2
import Derived.Test.YtfogjddcagckaaaDoorTo3
open Go PG Go.Proofs
set_option maxRecDepth 100000
set_option linter.unusedSimpArgs false
set_option linter.unusedVariables false
namespace Go.Proofs.YtfogjddcagckaaaDoor
attribute [local go_sem] Lay2 Lay3 Lay4 Lay5 Lay6 Lay7 Lay8 Lay9 Lay10 Lay11 Lay12 Lay13 Lay14 Lay15 Lay16 Lay17 Lay18 Lay19 Lay21 Lay22 Lay23 Lay24 Lay27 Lay28 Lay29 Lay35 Lay36 Lay38 Lay39 Lay40 Lay42 Lay43 Lay45 Lay46 Lay67 Lay81 Lay82 Lay83 Lay84 Lay85 Lay86 Lay87 Lay90 Lay93 Lay94 Lay105 Lay116 Lay132 Lay138 Lay145 Lay162 Lay163 Lay201 qexec_seq qexec_skip qexec_exit qexec_ret qexec_block qexec_loop qexec_range qexec_cond qexec_region qexec_drawn qops_nil qops_none qops_some put_some put_none pblk_exit pblk_other newDsts_nil sget_cons sget_nil qval_some qbool_some qgs_bool qgs_und qfree_some qgrd_true qgrd_false qif_true qif_false qval_ite qval_itn qand_true map_ite map_some' map_none' qdo_move qdo_assign qdo_binOp qdo_pick qdo_unOp qdo_convert qdo_extract qdo_field qdo_fieldAddr qdo_alloc qdo_box qdo_build qdo_buildSlice qdo_load qdo_store qdo_nilCheck qdo_makeFunc qdo_makeSlice qdo_slice qdo_indexAddr qdo_call qcont_val qcont_new qcont_st qcont_app0 qcont_app qcont_inl qcont_call njSV_val njSV_nil njSV_row njSV_ptr njSV_sub binV_val binV_nil binV_nn binV_ptr bin_np bin_nnp nilCmp bin_add bin_sub bin_mul bin_quo bin_rem bin_and bin_or bin_xor bin_andNot bin_eql bin_neq bin_lss bin_leq bin_gtr bin_geq bin_shl bin_shr bin_seql bin_sneq bin_sadd bin_beql bin_aeql bin_aneq eqAnd_some eqCells_nil eqCells_cons fieldTypes isStruct eqCell bin_bneq un_not un_neg nj_ite Nat.beq stepA stepR isNew opSV constSV RV.sv allSome E_mu E_own qkeyIn_none qkeyIn_some qkeyAt_none qkeyAt_some Bool.or_false Bool.false_or Bool.or_true Bool.true_or cst setB res resSV pstart startL killL kill1 eraL frzL svPV rvPV rvInt rvSlice frzOf close closeL pconv pbuiltin pmax2 partPV setCells fillPV zrow bound newSV PV.cells Bk.cells Bk.with SV.key pres presL_nil presL_tmp presL_cell presC2_some cellPV_ptr presC List.toList_toArray List.size_toArray List.getElem?_drop Nat.mul_one Int.toNat_natCast Nat.not_lt_zero Nat.lt_irrefl decide_true decide_false Nat.not_lt Option.some.injEq PV.lst.injEq PV.int.injEq PV.bool.injEq PV.tuple.injEq List.cons.injEq Option.map_some Option.map_none Option.bind_some Option.toList List.map_cons List.map_nil List.nil_append List.cons_append List.append_nil List.zip_cons_cons List.zip_nil_left List.zip_nil_right List.getElem?_cons_zero List.getElem?_cons_succ List.drop_zero List.drop_succ_cons List.take_succ_cons List.take_zero List.set_cons_zero List.set_cons_succ List.length_cons List.length_nil List.length_set List.replicate_one List.replicate_zero bne_self_eq_false beq_self_eq_true Nat.zero_add Nat.add_zero Nat.zero_mul Bool.false_eq_true Bool.true_eq_false Bool.not_true Bool.not_false and_true true_and false_and and_false or_false false_or or_true true_or not_true_eq_false not_false_eq_true ne_eq gt_iff_lt List.mem_cons List.not_mem_nil
attribute [local go_sem ↓] pseq_normal pseq_ret pseq_exit pblk_normal pblk_ret newDsts_cons gdst_zero gdst_succ retQ_normal retQ_ret qneed_nil qneed_cons retM_normal retM_ret endR_normal endR_ret endR_exit

theorem one_blk {σ : List (Nat × (Bk × Bool))} {k : Nat} {b : Bk} (h : sget σ k = some (b, false)) : ∀ (i : Nat) (bb : Bk) (k' : Nat), [b][i]? = some bb → [k][i]? = some k' → sget σ k' = some (bb, false)
  | 0, bb, k', hb, hk => by
    simp only [List.getElem?_cons_zero, Option.some.injEq] at hb hk
    subst hb hk
    exact h
  | i + 1, bb, k', hb, hk => by simp at hb
theorem two_blk {σ : List (Nat × (Bk × Bool))} {k j : Nat} {b c : Bk} (h : sget σ k = some (b, false) ∧ sget σ j = some (c, false)) : ∀ (i : Nat) (bb : Bk) (k' : Nat), [b, c][i]? = some bb → [k, j][i]? = some k' → sget σ k' = some (bb, false)
  | 0, bb, k', hb, hk => by
    simp only [List.getElem?_cons_zero, Option.some.injEq] at hb hk
    subst hb hk
    exact h.1
  | 1, bb, k', hb, hk => by
    simp only [List.getElem?_cons_succ, List.getElem?_cons_zero, Option.some.injEq] at hb hk
    subst hb hk
    exact h.2
  | i + 2, bb, k', hb, hk => by simp at hb
theorem fin1 {E : PE} {N : Nat} {rs : List ResultVar} {b : Bk} {s : ES} {pv : PV} (h0 : 0 < N) (hσ : sget s.σ N = some (b, false)) (hp : presF E s rs = some (pv, [])) : finM E N 1 rs (.val pv) [b] s :=
  finM_val h0 (fun i bb hb => by
    match i, hb with
    | 0, hb => simp only [List.getElem?_cons_zero, Option.some.injEq] at hb; subst hb; exact hσ
    | i + 1, hb => simp at hb) rfl hp (fun _ _ h => by cases h)
theorem fin2 {E : PE} {N : Nat} {rs : List ResultVar} {b c : Bk} {s : ES} {pv : PV} (h0 : 0 < N) (h1 : sget s.σ N = some (b, false)) (h2 : sget s.σ (N + 1) = some (c, false)) (hp : presF E s rs = some (pv, [])) : finM E N 2 rs (.val pv) [b, c] s :=
  finM_val h0 (fun i bb hb => by
    match i, hb with
    | 0, hb => simp only [List.getElem?_cons_zero, Option.some.injEq] at hb; subst hb; exact h1
    | 1, hb => simp only [List.getElem?_cons_succ, List.getElem?_cons_zero, Option.some.injEq] at hb; subst hb; exact h2
    | i + 2, hb => simp at hb) rfl hp (fun _ _ h => by cases h)
theorem fin0 {E : PE} {N : Nat} {rs : List ResultVar} {s : ES} {pv : PV} (h0 : 0 < N) (hp : presF E s rs = some (pv, [])) : finM E N 0 rs (.val pv) [] s :=
  finM_val h0 (fun i bb hb => by simp at hb) rfl hp (fun _ _ h => by cases h)

/-- What a total holds. -/
structure Tt where
  n : Nat
  sum : Dy
  wrong : Bool
  nan : Bool
  up : Bool
  down : Bool
  minus : Bool
  plus : Bool
  other : Bool
def Tt.bk (t : Tt) : Bk := .box [.int .i64 t.n, .bool t.sum.s, NN t.sum.m, .int .i64 t.sum.e, .bool t.wrong, .bool t.nan, .bool t.up, .bool t.down, .bool t.minus, .bool t.plus, .bool t.other]
def Tt.zero : Tt := ⟨0, .zero, false, false, false, false, false, false, false⟩
/-- The bound of a product of two numbers. -/
def K0 : Nat := 2306
theorem K0_eq : K0 = 2306 := rfl
theorem sum_lim {d : Dy} {K n : Nat} (ho : d.ok) (hg : d.ge (-(K : Int))) (hn : n ≤ 65536) (hl : (d.at (-(K : Int))).natAbs ≤ n * 2 ^ (2 * K)) : Lim (K + 20) d := by
  refine ⟨ho, hg.mono (by omega), ?_⟩
  rw [at_shift' (d := d) (k := -((K + 20 : Nat) : Int)) (k' := -(K : Int)) (by omega) hg, Int.natAbs_mul, Int.natAbs_natCast, show (-(K : Int) - -((K + 20 : Nat) : Int)).toNat = 20 by omega, show 2 * (K + 20) = 2 * K + 40 by omega, Nat.pow_add 2 (2 * K) 40]
  have hP := Nat.two_pow_pos (2 * K)
  have h1 : n * 2 ^ (2 * K) ≤ 65536 * 2 ^ (2 * K) := Nat.mul_le_mul_right _ hn
  generalize 2 ^ (2 * K) = P at *
  generalize (d.at (-(K : Int))).natAbs = x at *
  show x * 1048576 < P * 1099511627776
  omega
/-- Its sum is one of so many products of numbers. -/
def Tt.ok (t : Tt) : Prop := t.n ≤ 65536 ∧ t.sum.ok ∧ t.sum.ge (-(K0 : Int)) ∧ (t.sum.at (-(K0 : Int))).natAbs ≤ t.n * 2 ^ (2 * K0)
theorem Tt.ok.lim {t : Tt} (h : t.ok) : Lim (K0 + 20) t.sum := sum_lim h.2.1 h.2.2.1 h.1 h.2.2.2
theorem Tt.zero_ok : Tt.zero.ok := ⟨by decide, Dy.zero_ok, Dy.zero_ge _, by rw [show Tt.zero.sum = Dy.zero from rfl, at_zero (d := .zero) rfl]; exact Nat.zero_le _⟩
theorem Tt.ok.rd {t : Tt} (h : t.ok) : RD t.sum.pv t.sum := h.lim.RD (by rw [K0_eq]; decide)
/-- A number or a product is taken. -/
def Tt.take (t : Tt) (kind : Nat) (neg : Bool) (d : Dy) : Tt :=
  if kind = 5 then { t with n := t.n + 1, wrong := true, other := true }
  else if kind = 4 then { t with n := t.n + 1, nan := true, other := true }
  else if kind = 3 ∧ neg = true then { t with n := t.n + 1, down := true, other := true }
  else if kind = 3 then { t with n := t.n + 1, up := true, other := true }
  else if kind = 0 ∧ neg = true then { t with n := t.n + 1, minus := true }
  else if kind = 0 then { t with n := t.n + 1, plus := true }
  else { t with n := t.n + 1, sum := addS t.sum d, other := true }
theorem take_n (t : Tt) (kind : Nat) (neg : Bool) (d : Dy) : (t.take kind neg d).n = t.n + 1 := by
  unfold Tt.take
  repeat' split
  all_goals rfl
theorem sum_add {a b : Dy} {K n m : Nat} (oa : a.ok) (ob : b.ok) (ga : a.ge (-(K : Int))) (gb : b.ge (-(K : Int))) (fa : a.fits) (fb : b.fits) (ha : (a.at (-(K : Int))).natAbs ≤ n * 2 ^ (2 * K)) (hb : (b.at (-(K : Int))).natAbs ≤ m * 2 ^ (2 * K)) :
    (addS a b).ok ∧ (addS a b).ge (-(K : Int)) ∧ ((addS a b).at (-(K : Int))).natAbs ≤ (n + m) * 2 ^ (2 * K) := by
  refine ⟨addS_ok _ _, addS_ge oa ob fa fb ga gb, ?_⟩
  rw [addS_at oa ob fa fb ga gb, Nat.add_mul]
  omega
theorem take_ok {t : Tt} (h : t.ok) (hn : t.n < 65536) (kind : Nat) (neg : Bool) {d : Dy} (hd : kind ≠ 5 → kind ≠ 4 → kind ≠ 3 → kind ≠ 0 → Lim K0 d) : (t.take kind neg d).ok := by
  have h0 : t.n * 2 ^ (2 * K0) ≤ (t.n + 1) * 2 ^ (2 * K0) := Nat.mul_le_mul_right _ (Nat.le_succ _)
  have same : t.n + 1 ≤ 65536 ∧ t.sum.ok ∧ t.sum.ge (-(K0 : Int)) ∧ (t.sum.at (-(K0 : Int))).natAbs ≤ (t.n + 1) * 2 ^ (2 * K0) := ⟨by omega, h.2.1, h.2.2.1, Nat.le_trans h.2.2.2 h0⟩
  unfold Tt.take
  by_cases k5 : kind = 5
  · rw [if_pos k5]; exact same
  rw [if_neg k5]
  by_cases k4 : kind = 4
  · rw [if_pos k4]; exact same
  rw [if_neg k4]
  by_cases k3 : kind = 3
  · by_cases hn : neg = true
    · rw [if_pos ⟨k3, hn⟩]; exact same
    · rw [if_neg (fun h => hn h.2), if_pos k3]; exact same
  rw [if_neg (fun h => k3 h.1), if_neg k3]
  by_cases k0 : kind = 0
  · by_cases hn : neg = true
    · rw [if_pos ⟨k0, hn⟩]; exact same
    · rw [if_neg (fun h => hn h.2), if_pos k0]; exact same
  rw [if_neg (fun h => k0 h.1), if_neg k0]
  have hd := hd k5 k4 k3 k0
  have := sum_add (m := 1) h.2.1 hd.ok h.2.2.1 hd.ge (h.lim.fits (by rw [K0_eq]; decide)) (hd.fits (by rw [K0_eq]; decide)) h.2.2.2 (by rw [Nat.one_mul]; exact Nat.le_of_lt hd.lt)
  exact ⟨by show t.n + 1 ≤ 65536; omega, this⟩

theorem T_New : PCM E 61 [] [] (.ptr 0 0) [Tt.zero.bk] := by
  refine PCM.of_body follows Tryd.func61 (by decide +kernel) rfl (by kernel_rfl) (Nat.le_of_ble_eq_true rfl) (by simp) (by simp) (fun k h => by cases h; exact ⟨rfl, rfl⟩) (fun h => by cases h) (walk ?_)
  simp only [mstart, startS, blkL, shiftSV]
  simp only [Tryd.f61, go_sem, Int.reduceToNat, Int.reduceEq, Int.reduceNe, Int.reduceLT, Int.reduceLE, Int.reduceNeg, Int.reduceAdd, ↓reduceIte, ↓reduceCtorEq, Nat.reduceEqDiff, Nat.reduceAdd, Nat.reduceSub, Nat.reduceMul, Nat.reduceLeDiff, Nat.reduceLT]
  refine ⟨2, by decide, fun i b hb => ?_, .inr ⟨0, rfl, rfl, .inl ⟨0, rfl, rfl⟩⟩⟩
  match i, hb with
  | 0, hb =>
    simp only [List.getElem?_cons_zero, Option.some.injEq] at hb
    subst hb
    rfl
  | i + 1, hb => simp at hb
theorem T_full (t : Tt) (z : Int) (hz : 0 ≤ z ∧ z ≤ 65536) : PCM E 120 [.ptr 0 0, .val (.int .i64 z)] [t.bk] (.val (.bool (decide ((t.n : Int) > 65536 - z)))) [t.bk] := by
  refine PCM.of_body follows Tryd.func120 (by decide +kernel) rfl (by kernel_rfl) (Nat.le_of_ble_eq_true rfl) (Nat.le_refl _) (by simp) (fun k h => by cases h) (fun h => by cases h) (walk ?_)
  simp only [mstart, startS, blkL, shiftSV, Tt.bk]
  have w1 : IntKind.wrap .i64 (65536 - z) = 65536 - z := wrap64 (by omega) (by omega)
  simp only [Tryd.f120, w1, go_sem, Int.reduceToNat, Int.reduceEq, Int.reduceNe, Int.reduceLT, Int.reduceLE, Int.reduceNeg, Int.reduceAdd, ↓reduceIte, ↓reduceCtorEq, Nat.reduceEqDiff, Nat.reduceAdd, Nat.reduceSub, Nat.reduceMul, Nat.reduceLeDiff, Nat.reduceLT]
  exact fin1 (by decide) rfl rfl
theorem T_Len (t : Tt) : PCM E 64 [.ptr 0 0] [t.bk] (.val (.int .i64 t.n)) [t.bk] := by
  refine PCM.of_body follows Tryd.func64 (by decide +kernel) rfl (by kernel_rfl) (Nat.le_of_ble_eq_true rfl) (Nat.le_refl _) (by simp) (fun k h => by cases h) (fun h => by cases h) (walk ?_)
  simp only [mstart, startS, blkL, shiftSV, Tt.bk]
  simp only [Tryd.f64, nilCmp, go_sem, Int.reduceToNat, Int.reduceEq, Int.reduceNe, Int.reduceLT, Int.reduceLE, Int.reduceNeg, Int.reduceAdd, ↓reduceIte, ↓reduceCtorEq, Nat.reduceEqDiff, Nat.reduceAdd, Nat.reduceSub, Nat.reduceMul, Nat.reduceLeDiff, Nat.reduceLT]
  exact fin1 (by decide) rfl rfl
end Go.Proofs.YtfogjddcagckaaaDoor
