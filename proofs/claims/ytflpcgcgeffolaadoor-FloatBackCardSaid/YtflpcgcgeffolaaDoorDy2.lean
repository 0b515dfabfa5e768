/- Whatever reads as a dyad: what dyad's functions hand back (Bare, Top, Sign, Of, size, Cmp, Minus, Add, Scale). -/
import Derived.Test.YtflpcgcgeffolaaDoorBl
open Go PG Go.Proofs
set_option maxRecDepth 100000
set_option linter.unusedSimpArgs false
set_option linter.unusedVariables false
namespace Go.Proofs.YtflpcgcgeffolaaDoor
attribute [local go_sem] Lay2 Lay3 Lay4 Lay5 Lay6 Lay7 Lay8 Lay9 Lay10 Lay11 Lay12 Lay13 Lay14 Lay21 Lay22 Lay24 Lay25 Lay26 Lay27 Lay36 Lay37 Lay38 Lay39 Lay40 Lay41 Lay43 Lay46 Lay47 Lay66 Lay103 Lay105 Lay159 Lay164 Lay165 Lay166 Lay168 Lay169 Lay172 Lay173 qexec_seq qexec_skip qexec_exit qexec_ret qexec_block qexec_loop qexec_range qexec_cond qexec_region qops_nil qops_none qops_some put_some put_none pblk_exit pblk_other newDsts_nil sget_cons qval_some qbool_some qgs_bool qgs_und qfree_some qgrd_true qgrd_false qif_true qif_false qval_ite qval_itn qand_true map_ite map_some' map_none' qdo_move qdo_assign qdo_binOp qdo_pick qdo_unOp qdo_convert qdo_extract qdo_field qdo_fieldAddr qdo_alloc qdo_box qdo_build qdo_buildSlice qdo_load qdo_store qdo_nilCheck qdo_makeFunc qdo_makeSlice qdo_slice qdo_indexAddr qdo_call qcont_val qcont_new qcont_st qcont_app0 qcont_app qcont_inl qcont_call njSV_val njSV_nil njSV_row njSV_ptr njSV_sub binV_val binV_nil binV_nn nilCmp bin_add bin_sub bin_mul bin_quo bin_rem bin_and bin_or bin_xor bin_andNot bin_eql bin_neq bin_lss bin_leq bin_gtr bin_geq bin_shl bin_shr bin_seql bin_sneq bin_sadd bin_beql bin_aeql bin_aneq eqAnd_some eqCells_nil eqCells_cons fieldTypes isStruct eqCell bin_bneq un_not un_neg nj_ite Nat.beq stepA stepR isNew opSV constSV RV.sv allSome E_mu Bool.or_false Bool.false_or Bool.or_true Bool.true_or cst setB res resSV pstart startL killL kill1 eraL frzL svPV rvPV rvInt rvSlice frzOf close closeL pconv pbuiltin pmax2 partPV setCells fillPV zrow bound newSV PV.cells Bk.cells Bk.with SV.key pres presL_nil presL_tmp presL_cell presC2_some cellPV_ptr presC List.toList_toArray List.size_toArray List.getElem?_drop Nat.mul_one Int.toNat_natCast Nat.not_lt_zero Nat.lt_irrefl decide_true decide_false Nat.not_lt Option.some.injEq PV.lst.injEq PV.int.injEq PV.bool.injEq PV.tuple.injEq List.cons.injEq Option.map_some Option.map_none Option.bind_some Option.toList List.map_cons List.map_nil List.nil_append List.cons_append List.append_nil List.zip_cons_cons List.zip_nil_left List.zip_nil_right List.getElem?_cons_zero List.getElem?_cons_succ List.drop_zero List.drop_succ_cons List.take_succ_cons List.take_zero List.set_cons_zero List.set_cons_succ List.length_cons List.length_nil List.length_set List.replicate_one List.replicate_zero bne_self_eq_false beq_self_eq_true Nat.zero_add Nat.add_zero Nat.zero_mul Bool.false_eq_true Bool.true_eq_false Bool.not_true Bool.not_false and_true true_and false_and and_false or_false false_or or_true true_or not_true_eq_false not_false_eq_true ne_eq gt_iff_lt List.mem_cons List.not_mem_nil
attribute [local go_sem ↓] pseq_normal pseq_ret pseq_exit pblk_normal pblk_ret newDsts_cons gdst_zero gdst_succ retQ_normal retQ_ret retM_normal retM_ret endR_normal endR_ret endR_exit

/-- It reads as the dyad d, bare or not. -/
def RD (p : PV) (d : Dy) : Prop := ∃ (s : Bool) (q : PV) (x : Nat) (e : Int), p = DP s q e ∧ Num q x ∧ bitLen x ≤ 1000000 ∧ d = mkD s x e
theorem RD.ok {p : PV} {d : Dy} (h : RD p d) : d.ok := by
  obtain ⟨s, q, x, e, _, _, _, rfl⟩ := h; exact mkD_ok _ _ _
theorem RD.bits {p : PV} {d : Dy} (h : RD p d) : bitLen d.m ≤ 1000000 := by
  obtain ⟨s, q, x, e, _, _, hb, rfl⟩ := h; exact Nat.le_trans (mkD_bits _ _ _) hb
theorem RD.range {p : PV} {d : Dy} (h : RD p d) : -2147483648 ≤ d.e ∧ d.e ≤ 2148483648 := by
  obtain ⟨s, q, x, e, _, _, hb, rfl⟩ := h; exact mkD_range _ _ _ hb
theorem mkD_m0 {s : Bool} {x : Nat} {e : Int} : (mkD s x e).m = 0 ↔ x = 0 := by
  constructor
  · intro h
    refine Decidable.byContradiction fun hx => ?_
    rw [mkD, if_neg hx] at h
    obtain ⟨m, hm⟩ := tz_spec hx
    have : x / 2 ^ tz x = 2 * m + 1 := Nat.div_eq_of_eq_mul_right (Nat.two_pow_pos _) hm
    have h' : x / 2 ^ tz x = 0 := h
    omega
  · intro h; subst h; rfl
theorem ok_self {d : Dy} (h : d.ok) (h1 : -2147483648 ≤ d.e) (h2 : d.e ≤ 2147483648) : mkD d.s d.m d.e = d := by
  rcases h with h | h
  · rw [h]; rfl
  · exact mkD_self h h1 h2
theorem RD.of {d : Dy} (h : d.ok) (hb : bitLen d.m ≤ 1000000) (h1 : -2147483648 ≤ d.e) (h2 : d.e ≤ 2147483648) : RD d.pv d :=
  ⟨d.s, NN d.m, d.m, d.e, rfl, num_bits hb, hb, (ok_self h h1 h2).symm⟩
theorem RD.fit {d : Dy} (h : d.ok) (hb : bitLen d.m ≤ 1000000) (hf : d.fits) : RD d.pv d := RD.of h hb (fits_r hf).1 (fits_r hf).2
theorem RD.arg {s : Bool} {l : List Nat} {e : Int} (ol : Ok W l) (hl : l.length ≤ 1000) : RD (DP s (NL l) e) (mkD s (vl l) e) :=
  ⟨s, NL l, vl l, e, rfl, num_NL ol (by omega), by have := bits_of_vl ol; omega, rfl⟩
theorem RD.zero : RD Dy.zero.pv .zero := RD.of Dy.zero_ok (by decide) (by decide) (by decide)
/-- A bare dyad with one limb. -/
theorem RD.one {s : Bool} {x : Nat} {e : Int} (hx : x < W) : RD (DP s (.lst 1 [.int .u64 (x : Int)]) e) (mkD s x e) :=
  ⟨s, _, x, e, rfl, num_one hx, Nat.le_trans ((bitLen_le _ 64).2 hx) (by decide), rfl⟩
theorem mkD_odd {s : Bool} {x : Nat} {e : Int} (h : x % 2 = 1) (h1 : -2147483648 ≤ e) (h2 : e ≤ 2147483648) : mkD s x e = ⟨s, x, e⟩ := mkD_self (d := ⟨s, x, e⟩) h h1 h2

theorem r_bare {p : PV} {d : Dy} (h : RD p d) : PC E 104 [p] d.pv := by
  obtain ⟨s, q, x, e, rfl, hq, hb, rfl⟩ := h; exact c_bare hq hb s e
def okD (d : Dy) : PV := if d.fits then .tuple [d.pv, .int .i64 0] else .tuple [Dy.zero.pv, .int .i64 2]
theorem okD_ex (d : Dy) : ∃ (s : Bool) (n : Nat) (cs : List PV) (e c : Int), okD d = .tuple [.agg [.bool s, .lst n cs, .int .i64 e], .int .i64 c] := by
  unfold okD; split <;> exact ⟨_, _, _, _, _, rfl⟩
theorem r_Bare {p : PV} {d : Dy} (h : RD p d) : PC E 91 [p] (okD d) := by
  obtain ⟨s, q, x, e, rfl, hq, hb, rfl⟩ := h; exact c_DBare hq hb s e
theorem r_Top {p : PV} {d : Dy} (h : RD p d) : PC E 85 [p] (.tuple [.int .i64 d.top, .bool (decide (d.m ≠ 0))]) := by
  obtain ⟨s, q, x, e, rfl, hq, hb, rfl⟩ := h
  have h := c_Top hq hb s e
  rwa [show decide (x ≠ 0) = decide ((mkD s x e).m ≠ 0) from decide_eq_decide.2 (by rw [ne_eq, ne_eq, mkD_m0])] at h
theorem mkD_s {s : Bool} {x : Nat} {e : Int} (h : x ≠ 0) : (mkD s x e).s = s := by rw [mkD, if_neg h]
theorem r_Sign {p : PV} {d : Dy} (h : RD p d) : PC E 59 [p] (.int .i64 d.sg) := by
  obtain ⟨s, q, x, e, rfl, hq, hb, rfl⟩ := h
  refine PC.cast (c_Sign hq s e) ?_
  unfold Dy.sg
  by_cases hx : x = 0
  · rw [if_pos hx, if_pos (mkD_m0.2 hx)]
  · rw [if_neg hx, if_neg (fun h => hx (mkD_m0.1 h)), mkD_s hx]
theorem r_5Of {p : PV} {d : Dy} (h : RD p d) : PC E 23 [p] d.nv := by
  obtain ⟨s, q, x, e, rfl, hq, hb, rfl⟩ := h; exact c_5Of hq hb s e
theorem r_Exact {p : PV} {d : Dy} (h : RD p d) : PC E 29 [p] (exPV (if d.fits then exactS d else none)) := by
  obtain ⟨s, q, x, e, rfl, hq, hb, rfl⟩ := h; exact c_Exact hq hb s e
theorem r_Make {q : PV} {x : Nat} (hq : Num q x) (hb : bitLen x ≤ 1000000) (s : Bool) (e : Int) : PC E 87 [.bool s, q, .int .i64 e] (okD (mkD s x e)) := c_Make hq hb s e
theorem r_5To {d : Dy} (h : d.ok) (hb : bitLen d.m ≤ 1000000) (h1 : -2147483648 ≤ d.e) (h2 : d.e ≤ 2147483648) : PC E 63 [d.nv] (okD d) := by
  have h3 := c_5To d.s d.m d.e hb
  rwa [ok_self h h1 h2] at h3

theorem tab_zeros (x w p : Nat) (hp : p < 64) : ∀ j, j ≤ w → tab W (x * 2 ^ (64 * w + p)) j = List.replicate j 0
  | 0, _ => rfl
  | j + 1, h => by
    rw [tab_succ, tab_zeros x w p hp j (by omega), ← shl_digit x w p j hp, lb_neg _ _ (by omega), lb_neg _ _ (by omega), Nat.zero_mul, Nat.zero_mod, Nat.zero_div, Nat.or_self, List.replicate_succ']

theorem k_widened (x : Nat) (hb : bitLen x ≤ 1000000) (n : Int) (hn : n ≤ 1000000) (hn' : -9223372036854775808 ≤ n) : ∃ q, Num q (x * 2 ^ n.toNat) ∧ PC E 100 [NN x, .int .i64 n] q := by
  by_cases h0 : n ≤ 0
  · refine ⟨NN x, ?_, ?_⟩
    · rw [show n.toNat = 0 by omega, Nat.pow_zero, Nat.mul_one]; exact num_bits hb
    · refine PC.of_body follows Tryd.func100 (by decide +kernel) rfl (by kernel_rfl) (Nat.le_of_ble_eq_true rfl) (walk ?_)
      simp only [NN, NL]
      simp only [Tryd.f100, go_sem, Int.reduceToNat, Int.reduceEq, Int.reduceNe, Int.reduceLT, Int.reduceLE, Int.reduceNeg, Int.reduceAdd, ↓reduceIte, ↓reduceCtorEq, Nat.reduceEqDiff, Nat.reduceAdd, Nat.reduceSub, Nat.reduceMul, Nat.reduceLeDiff, Nat.reduceLT]
      refine qif_dt (by omega) ?_
      simp only [Tryd.f100, go_sem, Int.reduceToNat, Int.reduceEq, Int.reduceNe, Int.reduceLT, Int.reduceLE, Int.reduceNeg, Int.reduceAdd, ↓reduceIte, ↓reduceCtorEq, Nat.reduceEqDiff, Nat.reduceAdd, Nat.reduceSub, Nat.reduceMul, Nat.reduceLeDiff, Nat.reduceLT]
      rfl
  · obtain ⟨k, rfl⟩ : ∃ k : Nat, n = k := ⟨n.toNat, by omega⟩
    rw [Int.toNat_natCast]
    have hL := w_of_bits (x := x) (n := 15625) (by omega)
    have hlx := (dg_length_le W2 _ x).1 (Nat.le_refl _)
    have od := ok_dg W2 x
    have hv := dv_dg W2 x
    have e1 : IntKind.wrap .i64 ((k : Int).tdiv 64) = ((k / 64 : Nat) : Int) := by
      rw [Int.tdiv_eq_ediv_of_nonneg (by omega), wrap64 (by omega) (by omega)]; omega
    have e2 : (k : Int).tmod 64 = ((k % 64 : Nat) : Int) := by
      rw [Int.tmod_eq_emod_of_nonneg (by omega)]; omega
    have hkk : k = 64 * (k / 64) + k % 64 := by omega
    have hp : k % 64 < 64 := by omega
    have hw : k / 64 ≤ 15625 := by omega
    generalize k / 64 = w at *
    generalize k % 64 = p at *
    have hx : ∀ i, i < (dg W x).length → (U (dg W x))[i]? = some (u (x / W ^ i % W)) := fun i hi => by
      rw [U_get, ← dv_dg W2 x, ← dv_get W0 _ (ok_dg W2 x) i, dv_dg W2, List.getD_eq_getElem?_getD, List.getElem?_eq_getElem hi]; rfl
    generalize hLL : (dg W x).length = L at *
    have hy : x * 2 ^ k < W ^ (w + L + 1) := by
      have h2 : x * 2 ^ k < W ^ L * 2 ^ k := Nat.mul_lt_mul_of_pos_right hlx (Nat.two_pow_pos k)
      refine Nat.lt_of_lt_of_le h2 ?_
      rw [W_pow, W_pow, ← Nat.pow_add]
      exact Nat.pow_le_pow_right (by decide) (by omega)
    have hdig : ∀ i : Nat, (lb x i * 2 ^ p % W) ||| lb x ((i : Int) - 1) / 2 ^ (64 - p) = x * 2 ^ k / W ^ (w + i) % W := fun i => by
      have := shl_digit x w p (w + i) hp
      rw [show ((w + i : Nat) : Int) - w = (i : Int) by omega, ← hkk] at this
      exact this
    have hz := tab_zeros x w p hp w (Nat.le_refl _)
    rw [← hkk] at hz
    have hend : lb x L = 0 := by
      rw [lb_nat, Nat.div_eq_of_lt hlx, Nat.zero_mod]
    refine ⟨NL (tab W (x * 2 ^ k) (w + L + 1)), ⟨_, rfl, ok_tab W0 _ _, (dv_tab _ _).trans (Nat.mod_eq_of_lt hy), by rw [tab_length]; omega⟩, ?_⟩
    refine PC.of_body follows Tryd.func100 (by decide +kernel) rfl (by kernel_rfl) (Nat.le_of_ble_eq_true rfl) (walk ?_)
    simp only [NN, NL, hLL, tab_length]
    simp only [Tryd.f100, e1, e2, go_sem, Int.reduceToNat, Int.reduceEq, Int.reduceNe, Int.reduceLT, Int.reduceLE, Int.reduceNeg, Int.reduceAdd, ↓reduceIte, ↓reduceCtorEq, Nat.reduceEqDiff, Nat.reduceAdd, Nat.reduceSub, Nat.reduceMul, Nat.reduceLeDiff, Nat.reduceLT]
    refine qif_df h0 ?_
    simp only [Tryd.f100, e1, e2, go_sem, Int.reduceToNat, Int.reduceEq, Int.reduceNe, Int.reduceLT, Int.reduceLE, Int.reduceNeg, Int.reduceAdd, ↓reduceIte, ↓reduceCtorEq, Nat.reduceEqDiff, Nat.reduceAdd, Nat.reduceSub, Nat.reduceMul, Nat.reduceLeDiff, Nat.reduceLT]
    refine qand_i (by omega) ?_
    simp only [Tryd.f100, e1, e2, go_sem, Int.reduceToNat, Int.reduceEq, Int.reduceNe, Int.reduceLT, Int.reduceLE, Int.reduceNeg, Int.reduceAdd, ↓reduceIte, ↓reduceCtorEq, Nat.reduceEqDiff, Nat.reduceAdd, Nat.reduceSub, Nat.reduceMul, Nat.reduceLeDiff, Nat.reduceLT]
    let kk : Nat → Nat := fun i => match i with | 0 => 15 | _ + 1 => 31
    refine PLoop.intro (fun i : Nat => ⟨[(5, .row (kk i)), (6, .val (.int .i64 p)), (7, .val (u (lb x ((i : Int) - 1) / 2 ^ (64 - p)))), (18, .val (.lst L (U (dg W x)))), (19, .val (.int .i64 L)), (20, .val (.int .i64 i))],
      [(kk i, (.row 22 1 (w + i) (U (tab W (x * 2 ^ k) (w + i))), false))]⟩) (fun i => i ≤ L) (fun i => L - i) 0 (by omega) ?_ fun i hi => walk ?_
    · rw [Nat.add_zero, hz, lb_neg _ _ (by omega), Nat.zero_div]
      simp [Wk, sget, kk, u, U_replicate]
    have hwi : IntKind.wrap .i64 ((i : Int) + 1) = ((i + 1 : Nat) : Int) := by rw [wrap64 (by omega) (by omega)]; omega
    have f3 : IntKind.wrap .i64 (64 - (p : Int)) = ((64 - p : Nat) : Int) := by rw [wrap64 (by omega) (by omega)]; omega
    have hc : lb x ((i : Int) - 1) / 2 ^ (64 - p) < W := Nat.lt_of_le_of_lt (Nat.div_le_self _ _) (lb_lt _ _)
    have hd := hdig i
    have hl : x / W ^ i % W = lb x i := (lb_nat x i).symm
    have hll : lb x i < W := lb_lt _ _
    have hc' : lb x (((i + 1 : Nat) : Int) - 1) / 2 ^ (64 - p) = lb x i / 2 ^ (64 - p) := by rw [show ((i + 1 : Nat) : Int) - 1 = (i : Int) by omega]
    have hxi := hx i
    rw [hl] at hxi
    generalize lb x ((i : Int) - 1) / 2 ^ (64 - p) = c at *
    have f5 := b_shl (lb x i) p
    have f6 := b_shr hll (64 - p)
    have f7 := b_or (a := lb x i * 2 ^ p % W) (b := c) (Nat.mod_lt _ W0) hc
    rw [hd] at f7
    obtain ⟨g, hg⟩ : ∃ g : Nat → Nat, ∀ j, g j = x * 2 ^ k / W ^ j % W := ⟨_, fun _ => rfl⟩
    rw [← hg] at f7
    have hlast : i = L → c = g (w + L) := fun h => by
      subst h
      rw [hg, ← hd, hend, Nat.zero_mul, Nat.zero_mod, Nat.zero_or]
    generalize hll2 : lb x i = z at *
    have hrow : ∀ j, U (tab W (x * 2 ^ k) j) ++ [PV.int .u64 (g j : Int)] = U (tab W (x * 2 ^ k) (j + 1)) := fun j => by
      rw [tab_succ, ← U_append, hg]; rfl
    obtain ⟨j, hj⟩ : ∃ j, j = i + 1 := ⟨_, rfl⟩
    rcases i with _ | i
    all_goals
      simp only [kk]
      simp only [Tryd.f100, u, go_sem, Int.reduceToNat, Int.reduceEq, Int.reduceNe, Int.reduceLT, Int.reduceLE, Int.reduceNeg, Int.reduceAdd, ↓reduceIte, ↓reduceCtorEq, Nat.reduceEqDiff, Nat.reduceAdd, Nat.reduceSub, Nat.reduceMul, Nat.reduceLeDiff, Nat.reduceLT]
      refine qif_d (fun h => ?_) (fun h => ?_)
      · simp only [Tryd.f100, go_sem, Int.reduceToNat, Int.reduceEq, Int.reduceNe, Int.reduceLT, Int.reduceLE, Int.reduceNeg, Int.reduceAdd, ↓reduceIte, ↓reduceCtorEq, Nat.reduceEqDiff, Nat.reduceAdd, Nat.reduceSub, Nat.reduceMul, Nat.reduceLeDiff, Nat.reduceLT]
        refine qand_i (by omega) ?_
        simp only [Tryd.f100, go_sem, Int.reduceToNat, Int.reduceEq, Int.reduceNe, Int.reduceLT, Int.reduceLE, Int.reduceNeg, Int.reduceAdd, ↓reduceIte, ↓reduceCtorEq, Nat.reduceEqDiff, Nat.reduceAdd, Nat.reduceSub, Nat.reduceMul, Nat.reduceLeDiff, Nat.reduceLT]
        refine qval_i (congrArg (Option.map _) (hxi (by omega))) ?_
        simp only [Tryd.f100, u, f3, f5, f6, f7, go_sem, Int.reduceToNat, Int.reduceEq, Int.reduceNe, Int.reduceLT, Int.reduceLE, Int.reduceNeg, Int.reduceAdd, ↓reduceIte, ↓reduceCtorEq, Nat.reduceEqDiff, Nat.reduceAdd, Nat.reduceSub, Nat.reduceMul, Nat.reduceLeDiff, Nat.reduceLT]
        refine qand_i (by first | omega | (simp [V_length, U_length, tab_length, maxLen]; done) | (simp [V_length, U_length, tab_length, maxLen]; omega) | (refine ⟨?_, ?_⟩ <;> first | omega | (simp [V_length, U_length, tab_length, maxLen]; done) | (simp [V_length, U_length, tab_length, maxLen]; omega))) ?_; simp only [Tryd.f100, u, f3, f5, f6, f7, go_sem, Int.reduceToNat, Int.reduceEq, Int.reduceNe, Int.reduceLT, Int.reduceLE, Int.reduceNeg, Int.reduceAdd, ↓reduceIte, ↓reduceCtorEq, Nat.reduceEqDiff, Nat.reduceAdd, Nat.reduceSub, Nat.reduceMul, Nat.reduceLeDiff, Nat.reduceLT]
        refine qand_i (by first | omega | (simp [V_length, U_length, tab_length, maxLen]; done) | (simp [V_length, U_length, tab_length, maxLen]; omega) | (refine ⟨?_, ?_⟩ <;> first | omega | (simp [V_length, U_length, tab_length, maxLen]; done) | (simp [V_length, U_length, tab_length, maxLen]; omega))) ?_; simp only [Tryd.f100, u, f3, f5, f6, f7, go_sem, Int.reduceToNat, Int.reduceEq, Int.reduceNe, Int.reduceLT, Int.reduceLE, Int.reduceNeg, Int.reduceAdd, ↓reduceIte, ↓reduceCtorEq, Nat.reduceEqDiff, Nat.reduceAdd, Nat.reduceSub, Nat.reduceMul, Nat.reduceLeDiff, Nat.reduceLT]
        refine qand_i (by first | omega | (simp [V_length, U_length, tab_length, maxLen]; done) | (simp [V_length, U_length, tab_length, maxLen]; omega) | (refine ⟨?_, ?_⟩ <;> first | omega | (simp [V_length, U_length, tab_length, maxLen]; done) | (simp [V_length, U_length, tab_length, maxLen]; omega))) ?_; simp only [Tryd.f100, u, f3, f5, f6, f7, hwi, go_sem, Int.reduceToNat, Int.reduceEq, Int.reduceNe, Int.reduceLT, Int.reduceLE, Int.reduceNeg, Int.reduceAdd, ↓reduceIte, ↓reduceCtorEq, Nat.reduceEqDiff, Nat.reduceAdd, Nat.reduceSub, Nat.reduceMul, Nat.reduceLeDiff, Nat.reduceLT]
        refine ⟨j, by omega, by omega, ?_⟩
        subst hj
        rw [hc']
        simp [Wk, sget, kk, u, hrow, Nat.add_assoc]
      · simp only [Tryd.f100, go_sem, Int.reduceToNat, Int.reduceEq, Int.reduceNe, Int.reduceLT, Int.reduceLE, Int.reduceNeg, Int.reduceAdd, ↓reduceIte, ↓reduceCtorEq, Nat.reduceEqDiff, Nat.reduceAdd, Nat.reduceSub, Nat.reduceMul, Nat.reduceLeDiff, Nat.reduceLT]
        have e := hlast (by omega)
        refine qand_i (by first | omega | (simp [V_length, U_length, tab_length, maxLen]; done) | (simp [V_length, U_length, tab_length, maxLen]; omega) | (refine ⟨?_, ?_⟩ <;> first | omega | (simp [V_length, U_length, tab_length, maxLen]; done) | (simp [V_length, U_length, tab_length, maxLen]; omega))) ?_; simp only [Tryd.f100, go_sem, Int.reduceToNat, Int.reduceEq, Int.reduceNe, Int.reduceLT, Int.reduceLE, Int.reduceNeg, Int.reduceAdd, ↓reduceIte, ↓reduceCtorEq, Nat.reduceEqDiff, Nat.reduceAdd, Nat.reduceSub, Nat.reduceMul, Nat.reduceLeDiff, Nat.reduceLT]
        have e3 : L = j - 1 := by omega
        have e4 : NL (tab W (x * 2 ^ k) (w + L + 1)) = .lst (w + L + 1) (U (tab W (x * 2 ^ k) (w + L)) ++ [PV.int .u64 (g (w + L) : Int)]) := by
          rw [hrow, NL, tab_length]
        rw [e4, e, e3, hj]
        rfl

theorem r_Minus {p : PV} {d : Dy} (h : RD p d) : ∃ r, RD r d.neg ∧ (d.fits → r = d.neg.pv) ∧ PC E 44 [p] r := by
  have hok := h.ok
  have hbits := h.bits
  have hrange := h.range
  have k1 := r_bare h
  by_cases h0 : d.m = 0
  · refine ⟨Dy.zero.pv, ?_, ?_, ?_⟩
    · unfold Dy.neg; rw [if_pos h0]; exact RD.zero
    · intro _; unfold Dy.neg; rw [if_pos h0]
    · obtain ⟨s, q, x, e, rfl, hq, hb, hd⟩ := h
      refine PC.of_body follows Tryd.func44 (by decide +kernel) rfl (by kernel_rfl) (Nat.le_of_ble_eq_true rfl) (walk ?_)
      simp only [Dy.pv, DP, NN, NL] at k1 ⊢
      simp only [Tryd.f44, go_sem, Int.reduceToNat, Int.reduceEq, Int.reduceNe, Int.reduceLT, Int.reduceLE, Int.reduceNeg, Int.reduceAdd, ↓reduceIte, ↓reduceCtorEq, Nat.reduceEqDiff, Nat.reduceAdd, Nat.reduceSub, Nat.reduceMul, Nat.reduceLeDiff, Nat.reduceLT]
      refine qcall_i (k1) ?_; simp only [Tryd.f44, go_sem, Int.reduceToNat, Int.reduceEq, Int.reduceNe, Int.reduceLT, Int.reduceLE, Int.reduceNeg, Int.reduceAdd, ↓reduceIte, ↓reduceCtorEq, Nat.reduceEqDiff, Nat.reduceAdd, Nat.reduceSub, Nat.reduceMul, Nat.reduceLeDiff, Nat.reduceLT]
      refine qif_dt (by rw [h0]; rfl) ?_
      simp only [Tryd.f44, go_sem, Int.reduceToNat, Int.reduceEq, Int.reduceNe, Int.reduceLT, Int.reduceLE, Int.reduceNeg, Int.reduceAdd, ↓reduceIte, ↓reduceCtorEq, Nat.reduceEqDiff, Nat.reduceAdd, Nat.reduceSub, Nat.reduceMul, Nat.reduceLeDiff, Nat.reduceLT]
      rfl
  · have k2 : PC E 91 [DP (!d.s) (NN d.m) d.e] (if d.fits then .tuple [d.neg.pv, .int .i64 0] else .tuple [Dy.zero.pv, .int .i64 2]) := by
      have := c_DBare (num_bits (x := d.m) hbits) hbits (!d.s) d.e
      have ht : tz d.m = 0 := tz_of (m := d.m / 2) (by have := hok.odd h0; rw [Nat.pow_zero, Nat.one_mul]; omega)
      have hm : mkD (!d.s) d.m d.e = ⟨!d.s, d.m, cut d.e⟩ := by unfold mkD; rw [if_neg h0, ht]; simp
      rw [hm] at this
      have hc : cut d.e = d.e ∨ (2147483648 < d.e ∧ cut d.e = 2147483648) := by unfold cut; rw [if_neg (by omega)]; split <;> omega
      have hfi : Dy.fits ⟨!d.s, d.m, cut d.e⟩ ↔ d.fits := by
        unfold Dy.fits
        dsimp only
        omega
      by_cases hf : d.fits
      · rw [if_pos (hfi.2 hf)] at this
        rw [if_pos hf]
        have h3 := this
        have := hf.2
        have e1 : cut d.e = d.e := by omega
        unfold Dy.neg
        rw [if_neg h0]
        rwa [e1] at h3
      · rw [if_neg (fun h => hf (hfi.1 h))] at this
        rw [if_neg hf]
        exact this
    obtain ⟨s, q, x, e, rfl, hq, hb, hd⟩ := h
    have hx : x ≠ 0 := fun hx => h0 (by rw [hd, hx]; rfl)
    have hneg : d.neg = mkD (!s) x e := by
      unfold Dy.neg
      rw [if_neg h0, hd]
      unfold mkD
      rw [if_neg hx, if_neg hx]
    by_cases hf : d.fits
    · refine ⟨d.neg.pv, ?_, fun _ => rfl, ?_⟩
      · exact RD.fit (neg_ok hok) (by rw [neg_m]; exact hbits) (neg_fits hf)
      · refine PC.of_body follows Tryd.func44 (by decide +kernel) rfl (by kernel_rfl) (Nat.le_of_ble_eq_true rfl) (walk ?_)
        rw [if_pos hf] at k2
        have e9 : d.neg.pv = DP (!d.s) (NN d.m) d.e := by unfold Dy.neg; rw [if_neg h0]; rfl
        rw [e9] at k2 ⊢
        simp only [Dy.pv, DP, NN, NL] at k1 k2 ⊢
        simp only [Tryd.f44, go_sem, Int.reduceToNat, Int.reduceEq, Int.reduceNe, Int.reduceLT, Int.reduceLE, Int.reduceNeg, Int.reduceAdd, ↓reduceIte, ↓reduceCtorEq, Nat.reduceEqDiff, Nat.reduceAdd, Nat.reduceSub, Nat.reduceMul, Nat.reduceLeDiff, Nat.reduceLT]
        refine qcall_i (k1) ?_; simp only [Tryd.f44, go_sem, Int.reduceToNat, Int.reduceEq, Int.reduceNe, Int.reduceLT, Int.reduceLE, Int.reduceNeg, Int.reduceAdd, ↓reduceIte, ↓reduceCtorEq, Nat.reduceEqDiff, Nat.reduceAdd, Nat.reduceSub, Nat.reduceMul, Nat.reduceLeDiff, Nat.reduceLT]
        refine qif_df (fun h => h0 (dg_nil (by omega))) ?_
        simp only [Tryd.f44, go_sem, Int.reduceToNat, Int.reduceEq, Int.reduceNe, Int.reduceLT, Int.reduceLE, Int.reduceNeg, Int.reduceAdd, ↓reduceIte, ↓reduceCtorEq, Nat.reduceEqDiff, Nat.reduceAdd, Nat.reduceSub, Nat.reduceMul, Nat.reduceLeDiff, Nat.reduceLT]
        refine qcall_i (k2) ?_; simp only [Tryd.f44, go_sem, Int.reduceToNat, Int.reduceEq, Int.reduceNe, Int.reduceLT, Int.reduceLE, Int.reduceNeg, Int.reduceAdd, ↓reduceIte, ↓reduceCtorEq, Nat.reduceEqDiff, Nat.reduceAdd, Nat.reduceSub, Nat.reduceMul, Nat.reduceLeDiff, Nat.reduceLT]
        rfl
    · refine ⟨DP (!s) (NN x) e, ?_, fun h => absurd h hf, ?_⟩
      · exact ⟨!s, NN x, x, e, rfl, num_bits hb, hb, hneg⟩
      · refine PC.of_body follows Tryd.func44 (by decide +kernel) rfl (by kernel_rfl) (Nat.le_of_ble_eq_true rfl) (walk ?_)
        rw [if_neg hf] at k2
        have k3 := k_Bare hq
        simp only [Dy.zero, Dy.pv, DP, NN, NL] at k1 k2 k3 ⊢
        simp only [Tryd.f44, go_sem, Int.reduceToNat, Int.reduceEq, Int.reduceNe, Int.reduceLT, Int.reduceLE, Int.reduceNeg, Int.reduceAdd, ↓reduceIte, ↓reduceCtorEq, Nat.reduceEqDiff, Nat.reduceAdd, Nat.reduceSub, Nat.reduceMul, Nat.reduceLeDiff, Nat.reduceLT]
        refine qcall_i (k1) ?_; simp only [Tryd.f44, go_sem, Int.reduceToNat, Int.reduceEq, Int.reduceNe, Int.reduceLT, Int.reduceLE, Int.reduceNeg, Int.reduceAdd, ↓reduceIte, ↓reduceCtorEq, Nat.reduceEqDiff, Nat.reduceAdd, Nat.reduceSub, Nat.reduceMul, Nat.reduceLeDiff, Nat.reduceLT]
        refine qif_df (fun h => h0 (dg_nil (by omega))) ?_
        simp only [Tryd.f44, go_sem, Int.reduceToNat, Int.reduceEq, Int.reduceNe, Int.reduceLT, Int.reduceLE, Int.reduceNeg, Int.reduceAdd, ↓reduceIte, ↓reduceCtorEq, Nat.reduceEqDiff, Nat.reduceAdd, Nat.reduceSub, Nat.reduceMul, Nat.reduceLeDiff, Nat.reduceLT]
        refine qcall_i (k2) ?_; simp only [Tryd.f44, go_sem, Int.reduceToNat, Int.reduceEq, Int.reduceNe, Int.reduceLT, Int.reduceLE, Int.reduceNeg, Int.reduceAdd, ↓reduceIte, ↓reduceCtorEq, Nat.reduceEqDiff, Nat.reduceAdd, Nat.reduceSub, Nat.reduceMul, Nat.reduceLeDiff, Nat.reduceLT]
        refine qcall_i (k3) ?_; simp only [Tryd.f44, go_sem, Int.reduceToNat, Int.reduceEq, Int.reduceNe, Int.reduceLT, Int.reduceLE, Int.reduceNeg, Int.reduceAdd, ↓reduceIte, ↓reduceCtorEq, Nat.reduceEqDiff, Nat.reduceAdd, Nat.reduceSub, Nat.reduceMul, Nat.reduceLeDiff, Nat.reduceLT]
        rfl

theorem natAbs_at' (d : Dy) (k : Int) : (d.at k).natAbs = d.m * 2 ^ (d.e - k).toNat := by
  unfold Dy.at
  cases d.s <;> simp only [Bool.false_eq_true, if_false, if_true] <;> omega
theorem cmp_abs {a b : Dy} (h : a.sg = b.sg) (h0 : a.m ≠ 0) (h1 : b.m ≠ 0) : cmpD a b = a.sg * cmpD a.abs b.abs := by
  have ga : a.ge (min a.e b.e) := .inr (by omega)
  have gb : b.ge (min a.e b.e) := .inr (by omega)
  rw [cmp_at ga gb, cmp_at (abs_ge ga) (abs_ge gb), abs_at, abs_at]
  have sa := at_sg a (min a.e b.e)
  have sb := at_sg b (min a.e b.e)
  generalize a.at (min a.e b.e) = x at *
  generalize b.at (min a.e b.e) = y at *
  rw [← h] at sb
  unfold sgn
  rcases sg_range a with h2 | h2 | h2 <;> rw [h2] at sa sb ⊢ <;> (repeat' split) <;> omega
theorem top_of {d : Dy} (h : d.m ≠ 0) : d.top = bitLen d.m - 1 + d.e := if_neg h
theorem r_size {p q : PV} {a b : Dy} (ha : RD p a) (hb : RD q b) (za : a.m ≠ 0) (zb : b.m ≠ 0) : PC E 95 [p, q] (.int .i64 (cmpD a.abs b.abs)) := by
  have k1 := r_bare ha
  have k2 := r_bare hb
  have ba := ha.bits
  have bb := hb.bits
  have ra := ha.range
  have rb := hb.range
  have pa := bitLen_pos za
  have pb := bitLen_pos zb
  have ta := top_of za
  have tb := top_of zb
  have k3 := k_Bits (num_bits ba)
  have k4 := k_Bits (num_bits bb)
  have w1 : IntKind.wrap .i64 ((bitLen a.m : Int) + a.e) = bitLen a.m + a.e := wrap64 (by omega) (by omega)
  have w2 : IntKind.wrap .i64 ((bitLen b.m : Int) + b.e) = bitLen b.m + b.e := wrap64 (by omega) (by omega)
  have w3 : IntKind.wrap .i64 ((bitLen a.m : Int) - bitLen b.m) = (bitLen a.m : Int) - bitLen b.m := wrap64 (by omega) (by omega)
  have w4 : IntKind.wrap .i64 (0 - ((bitLen a.m : Int) - bitLen b.m)) = (bitLen b.m : Int) - bitLen a.m := by rw [wrap64 (by omega) (by omega)]; omega
  obtain ⟨q1, n1, k5⟩ := k_widened a.m ba ((bitLen b.m : Int) - bitLen a.m) (by omega) (by omega)
  obtain ⟨q2, n2, k6⟩ := k_widened b.m bb ((bitLen a.m : Int) - bitLen b.m) (by omega) (by omega)
  have k7 := k_Cmp n1 n2
  obtain ⟨s1, P, x1, e1, rfl, -⟩ := ha
  obtain ⟨s2, Q, x2, e2, rfl, -⟩ := hb
  refine PC.of_body follows Tryd.func95 (by decide +kernel) rfl (by kernel_rfl) (Nat.le_of_ble_eq_true rfl) (walk ?_)
  simp only [Dy.pv, DP, NN, NL] at k1 k2 k3 k4 k5 k6 ⊢
  simp only [Tryd.f95, go_sem, Int.reduceToNat, Int.reduceEq, Int.reduceNe, Int.reduceLT, Int.reduceLE, Int.reduceNeg, Int.reduceAdd, ↓reduceIte, ↓reduceCtorEq, Nat.reduceEqDiff, Nat.reduceAdd, Nat.reduceSub, Nat.reduceMul, Nat.reduceLeDiff, Nat.reduceLT]
  refine qcall_i (k1) ?_; simp only [Tryd.f95, go_sem, Int.reduceToNat, Int.reduceEq, Int.reduceNe, Int.reduceLT, Int.reduceLE, Int.reduceNeg, Int.reduceAdd, ↓reduceIte, ↓reduceCtorEq, Nat.reduceEqDiff, Nat.reduceAdd, Nat.reduceSub, Nat.reduceMul, Nat.reduceLeDiff, Nat.reduceLT]
  refine qcall_i (k2) ?_; simp only [Tryd.f95, go_sem, Int.reduceToNat, Int.reduceEq, Int.reduceNe, Int.reduceLT, Int.reduceLE, Int.reduceNeg, Int.reduceAdd, ↓reduceIte, ↓reduceCtorEq, Nat.reduceEqDiff, Nat.reduceAdd, Nat.reduceSub, Nat.reduceMul, Nat.reduceLeDiff, Nat.reduceLT]
  refine qcall_i (k3) ?_; simp only [Tryd.f95, w1, go_sem, Int.reduceToNat, Int.reduceEq, Int.reduceNe, Int.reduceLT, Int.reduceLE, Int.reduceNeg, Int.reduceAdd, ↓reduceIte, ↓reduceCtorEq, Nat.reduceEqDiff, Nat.reduceAdd, Nat.reduceSub, Nat.reduceMul, Nat.reduceLeDiff, Nat.reduceLT]
  refine qcall_i (k4) ?_; simp only [Tryd.f95, w1, w2, go_sem, Int.reduceToNat, Int.reduceEq, Int.reduceNe, Int.reduceLT, Int.reduceLE, Int.reduceNeg, Int.reduceAdd, ↓reduceIte, ↓reduceCtorEq, Nat.reduceEqDiff, Nat.reduceAdd, Nat.reduceSub, Nat.reduceMul, Nat.reduceLeDiff, Nat.reduceLT]
  refine qif_d (fun h => ?_) (fun h => ?_)
  · simp only [Tryd.f95, go_sem, Int.reduceToNat, Int.reduceEq, Int.reduceNe, Int.reduceLT, Int.reduceLE, Int.reduceNeg, Int.reduceAdd, ↓reduceIte, ↓reduceCtorEq, Nat.reduceEqDiff, Nat.reduceAdd, Nat.reduceSub, Nat.reduceMul, Nat.reduceLeDiff, Nat.reduceLT]
    refine qcall_i (c_Compare_int _ _) ?_
    simp only [Tryd.f95, go_sem, Int.reduceToNat, Int.reduceEq, Int.reduceNe, Int.reduceLT, Int.reduceLE, Int.reduceNeg, Int.reduceAdd, ↓reduceIte, ↓reduceCtorEq, Nat.reduceEqDiff, Nat.reduceAdd, Nat.reduceSub, Nat.reduceMul, Nat.reduceLeDiff, Nat.reduceLT]
    rw [cmpD_top (a := a.abs) (b := b.abs) za zb rfl (by rw [abs_top, abs_top]; omega), abs_top, abs_top]
    unfold sgn
    show (if _ then _ else _) = if (decide (a.top < b.top) != false) = true then (-1 : Int) else 1
    by_cases hlt : a.top < b.top
    · rw [decide_eq_true hlt, if_pos (by omega)]; rfl
    · rw [decide_eq_false hlt, if_neg (by omega), if_pos (by omega)]; rfl
  · simp only [Tryd.f95, go_sem, Int.reduceToNat, Int.reduceEq, Int.reduceNe, Int.reduceLT, Int.reduceLE, Int.reduceNeg, Int.reduceAdd, ↓reduceIte, ↓reduceCtorEq, Nat.reduceEqDiff, Nat.reduceAdd, Nat.reduceSub, Nat.reduceMul, Nat.reduceLeDiff, Nat.reduceLT]
    refine qcall_i (k3) ?_; simp only [Tryd.f95, w3, go_sem, Int.reduceToNat, Int.reduceEq, Int.reduceNe, Int.reduceLT, Int.reduceLE, Int.reduceNeg, Int.reduceAdd, ↓reduceIte, ↓reduceCtorEq, Nat.reduceEqDiff, Nat.reduceAdd, Nat.reduceSub, Nat.reduceMul, Nat.reduceLeDiff, Nat.reduceLT]
    refine qcall_i (k4) ?_; simp only [Tryd.f95, w3, w4, go_sem, Int.reduceToNat, Int.reduceEq, Int.reduceNe, Int.reduceLT, Int.reduceLE, Int.reduceNeg, Int.reduceAdd, ↓reduceIte, ↓reduceCtorEq, Nat.reduceEqDiff, Nat.reduceAdd, Nat.reduceSub, Nat.reduceMul, Nat.reduceLeDiff, Nat.reduceLT]
    refine qcall_i (k5) ?_; simp only [Tryd.f95, w3, w4, go_sem, Int.reduceToNat, Int.reduceEq, Int.reduceNe, Int.reduceLT, Int.reduceLE, Int.reduceNeg, Int.reduceAdd, ↓reduceIte, ↓reduceCtorEq, Nat.reduceEqDiff, Nat.reduceAdd, Nat.reduceSub, Nat.reduceMul, Nat.reduceLeDiff, Nat.reduceLT]
    refine qcall_i (k6) ?_; simp only [Tryd.f95, go_sem, Int.reduceToNat, Int.reduceEq, Int.reduceNe, Int.reduceLT, Int.reduceLE, Int.reduceNeg, Int.reduceAdd, ↓reduceIte, ↓reduceCtorEq, Nat.reduceEqDiff, Nat.reduceAdd, Nat.reduceSub, Nat.reduceMul, Nat.reduceLeDiff, Nat.reduceLT]
    refine qcall_i (k7) ?_; simp only [Tryd.f95, go_sem, Int.reduceToNat, Int.reduceEq, Int.reduceNe, Int.reduceLT, Int.reduceLE, Int.reduceNeg, Int.reduceAdd, ↓reduceIte, ↓reduceCtorEq, Nat.reduceEqDiff, Nat.reduceAdd, Nat.reduceSub, Nat.reduceMul, Nat.reduceLeDiff, Nat.reduceLT]
    rw [cmp_at (a := a.abs) (b := b.abs) (k := min a.e b.e) (abs_le (by omega)) (abs_le (by omega)), abs_at, abs_at, natAbs_at', natAbs_at']
    rw [show (a.e - min a.e b.e).toNat = ((bitLen b.m : Int) - bitLen a.m).toNat by omega, show (b.e - min a.e b.e).toNat = ((bitLen a.m : Int) - bitLen b.m).toNat by omega]
theorem r_Cmp {p q : PV} {a b : Dy} (ha : RD p a) (hb : RD q b) : PC E 31 [p, q] (.int .i64 (cmpD a b)) := by
  have k1 := r_Sign ha
  have k2 := r_Sign hb
  have k3 := fun za zb => r_size ha hb za zb
  have ra := sg_range a
  have rb := sg_range b
  obtain ⟨s1, P, x1, e1, rfl, -⟩ := ha
  obtain ⟨s2, Q, x2, e2, rfl, -⟩ := hb
  refine PC.of_body follows Tryd.func31 (by decide +kernel) rfl (by kernel_rfl) (Nat.le_of_ble_eq_true rfl) (walk ?_)
  simp only [DP] at k1 k2 k3 ⊢
  simp only [Tryd.f31, go_sem, Int.reduceToNat, Int.reduceEq, Int.reduceNe, Int.reduceLT, Int.reduceLE, Int.reduceNeg, Int.reduceAdd, ↓reduceIte, ↓reduceCtorEq, Nat.reduceEqDiff, Nat.reduceAdd, Nat.reduceSub, Nat.reduceMul, Nat.reduceLeDiff, Nat.reduceLT]
  refine qcall_i (k1) ?_; simp only [Tryd.f31, go_sem, Int.reduceToNat, Int.reduceEq, Int.reduceNe, Int.reduceLT, Int.reduceLE, Int.reduceNeg, Int.reduceAdd, ↓reduceIte, ↓reduceCtorEq, Nat.reduceEqDiff, Nat.reduceAdd, Nat.reduceSub, Nat.reduceMul, Nat.reduceLeDiff, Nat.reduceLT]
  refine qcall_i (k2) ?_; simp only [Tryd.f31, go_sem, Int.reduceToNat, Int.reduceEq, Int.reduceNe, Int.reduceLT, Int.reduceLE, Int.reduceNeg, Int.reduceAdd, ↓reduceIte, ↓reduceCtorEq, Nat.reduceEqDiff, Nat.reduceAdd, Nat.reduceSub, Nat.reduceMul, Nat.reduceLeDiff, Nat.reduceLT]
  by_cases hs : a.sg ≠ b.sg ∨ a.sg = 0
  · rw [cmpD_sg hs]
    have k4 := c_Compare_int a.sg b.sg
    by_cases h3 : a.sg = b.sg
    · refine qif_df (fun h => h h3) ?_
      simp only [Tryd.f31, go_sem, Int.reduceToNat, Int.reduceEq, Int.reduceNe, Int.reduceLT, Int.reduceLE, Int.reduceNeg, Int.reduceAdd, ↓reduceIte, ↓reduceCtorEq, Nat.reduceEqDiff, Nat.reduceAdd, Nat.reduceSub, Nat.reduceMul, Nat.reduceLeDiff, Nat.reduceLT]
      refine qif_dt (by omega) ?_
      simp only [Tryd.f31, go_sem, Int.reduceToNat, Int.reduceEq, Int.reduceNe, Int.reduceLT, Int.reduceLE, Int.reduceNeg, Int.reduceAdd, ↓reduceIte, ↓reduceCtorEq, Nat.reduceEqDiff, Nat.reduceAdd, Nat.reduceSub, Nat.reduceMul, Nat.reduceLeDiff, Nat.reduceLT]
      refine qcall_i (k4) ?_; simp only [Tryd.f31, go_sem, Int.reduceToNat, Int.reduceEq, Int.reduceNe, Int.reduceLT, Int.reduceLE, Int.reduceNeg, Int.reduceAdd, ↓reduceIte, ↓reduceCtorEq, Nat.reduceEqDiff, Nat.reduceAdd, Nat.reduceSub, Nat.reduceMul, Nat.reduceLeDiff, Nat.reduceLT]
    · refine qif_dt h3 ?_
      simp only [Tryd.f31, go_sem, Int.reduceToNat, Int.reduceEq, Int.reduceNe, Int.reduceLT, Int.reduceLE, Int.reduceNeg, Int.reduceAdd, ↓reduceIte, ↓reduceCtorEq, Nat.reduceEqDiff, Nat.reduceAdd, Nat.reduceSub, Nat.reduceMul, Nat.reduceLeDiff, Nat.reduceLT]
      refine qcall_i (k4) ?_; simp only [Tryd.f31, go_sem, Int.reduceToNat, Int.reduceEq, Int.reduceNe, Int.reduceLT, Int.reduceLE, Int.reduceNeg, Int.reduceAdd, ↓reduceIte, ↓reduceCtorEq, Nat.reduceEqDiff, Nat.reduceAdd, Nat.reduceSub, Nat.reduceMul, Nat.reduceLeDiff, Nat.reduceLT]
  · have za : a.m ≠ 0 := fun h => hs (.inr (by unfold Dy.sg; rw [if_pos h]))
    have zb : b.m ≠ 0 := fun h => hs (by
      have : b.sg = 0 := by unfold Dy.sg; rw [if_pos h]
      omega)
    refine qif_df (by omega) ?_
    simp only [Tryd.f31, go_sem, Int.reduceToNat, Int.reduceEq, Int.reduceNe, Int.reduceLT, Int.reduceLE, Int.reduceNeg, Int.reduceAdd, ↓reduceIte, ↓reduceCtorEq, Nat.reduceEqDiff, Nat.reduceAdd, Nat.reduceSub, Nat.reduceMul, Nat.reduceLeDiff, Nat.reduceLT]
    refine qif_df (by omega) ?_
    simp only [Tryd.f31, go_sem, Int.reduceToNat, Int.reduceEq, Int.reduceNe, Int.reduceLT, Int.reduceLE, Int.reduceNeg, Int.reduceAdd, ↓reduceIte, ↓reduceCtorEq, Nat.reduceEqDiff, Nat.reduceAdd, Nat.reduceSub, Nat.reduceMul, Nat.reduceLeDiff, Nat.reduceLT]
    refine qcall_i (k3 za zb) ?_; simp only [Tryd.f31, go_sem, Int.reduceToNat, Int.reduceEq, Int.reduceNe, Int.reduceLT, Int.reduceLE, Int.reduceNeg, Int.reduceAdd, ↓reduceIte, ↓reduceCtorEq, Nat.reduceEqDiff, Nat.reduceAdd, Nat.reduceSub, Nat.reduceMul, Nat.reduceLeDiff, Nat.reduceLT]
    have hc := cmp_range a.abs b.abs
    rw [cmp_abs (by omega) za zb]
    rcases sg_range a with h | h | h <;> rw [h] <;> exact wrap64 (by omega) (by omega)

/-- May they be added? -/
def addE (a b : Dy) : Prop := a.fits ∧ b.fits ∧ (a.m ≠ 0 → b.m ≠ 0 → max a.top b.top - min a.e b.e ≤ 65535) ∧ (addS a b).fits
instance (a b : Dy) : Decidable (addE a b) := inferInstanceAs (Decidable (_ ∧ _))
def addV (a b : Dy) : PV := if addE a b then .tuple [(addS a b).pv, .int .i64 0] else .tuple [Dy.zero.pv, .int .i64 2]
/-- The sum, as the program makes it. -/
theorem add_same {a b : Dy} (h : a.s = b.s) : mkD a.s (a.m * 2 ^ (a.e - min a.e b.e).toNat + b.m * 2 ^ (b.e - min a.e b.e).toNat) (min a.e b.e) = addS a b := by
  unfold addS norm Dy.at
  rw [← h]
  generalize a.m * 2 ^ (a.e - min a.e b.e).toNat = x
  generalize b.m * 2 ^ (b.e - min a.e b.e).toNat = y
  cases a.s
  · simp only [Bool.false_eq_true, if_false, Int.one_mul]
    rw [decide_eq_false (by omega), show ((x : Int) + (y : Int)).natAbs = x + y by omega]
  · simp only [if_true]
    by_cases h0 : x + y = 0
    · rw [h0, show (-1 * (x : Int) + -1 * (y : Int)) = 0 by omega]; rfl
    · rw [decide_eq_true (show -1 * (x : Int) + -1 * (y : Int) < 0 by omega), show (-1 * (x : Int) + -1 * (y : Int)).natAbs = x + y by omega]
theorem add_diff {a b : Dy} (h : a.s ≠ b.s) (hle : b.m * 2 ^ (b.e - min a.e b.e).toNat ≤ a.m * 2 ^ (a.e - min a.e b.e).toNat) :
    mkD a.s (a.m * 2 ^ (a.e - min a.e b.e).toNat - b.m * 2 ^ (b.e - min a.e b.e).toNat) (min a.e b.e) = addS a b := by
  unfold addS norm Dy.at
  generalize a.m * 2 ^ (a.e - min a.e b.e).toNat = x at *
  generalize b.m * 2 ^ (b.e - min a.e b.e).toNat = y at *
  generalize min a.e b.e = k
  revert h
  cases a.s <;> cases b.s <;> intro h <;> simp only [Bool.false_eq_true, if_false, if_true, Int.one_mul, ne_eq, not_true_eq_false] at h ⊢
  · rw [decide_eq_false (by omega), show ((x : Int) + -1 * (y : Int)).natAbs = x - y by omega]
  · by_cases h0 : x = y
    · rw [h0, Nat.sub_self, show -1 * (y : Int) + (y : Int) = 0 by omega]; rfl
    · rw [decide_eq_true (by omega), show (-1 * (x : Int) + (y : Int)).natAbs = x - y by omega]
theorem r_Add {p q : PV} {a b : Dy} (ha : RD p a) (hb : RD q b) : PC E 43 [p, q] (addV a b) := by
  have k1 := r_Bare ha
  have k2 := r_Bare hb
  have oa := ha.ok
  have ob := hb.ok
  have ba := ha.bits
  have bb := hb.bits
  obtain ⟨s1, P, x1, e1, rfl, -⟩ := ha
  obtain ⟨s2, Q, x2, e2, rfl, -⟩ := hb
  refine PC.of_body follows Tryd.func43 (by decide +kernel) rfl (by kernel_rfl) (Nat.le_of_ble_eq_true rfl) (walk ?_)
  unfold okD at k1 k2
  by_cases fa : a.fits
  case neg =>
    rw [if_neg fa] at k1
    unfold addV
    rw [if_neg (fun h => fa h.1)]
    simp only [Dy.pv, Dy.zero, DP, NN, NL] at k1 ⊢
    simp only [Tryd.f43, go_sem, Int.reduceToNat, Int.reduceEq, Int.reduceNe, Int.reduceLT, Int.reduceLE, Int.reduceNeg, Int.reduceAdd, ↓reduceIte, ↓reduceCtorEq, Nat.reduceEqDiff, Nat.reduceAdd, Nat.reduceSub, Nat.reduceMul, Nat.reduceLeDiff, Nat.reduceLT]
    refine qcall_i (k1) ?_; simp only [Tryd.f43, go_sem, Int.reduceToNat, Int.reduceEq, Int.reduceNe, Int.reduceLT, Int.reduceLE, Int.reduceNeg, Int.reduceAdd, ↓reduceIte, ↓reduceCtorEq, Nat.reduceEqDiff, Nat.reduceAdd, Nat.reduceSub, Nat.reduceMul, Nat.reduceLeDiff, Nat.reduceLT]
    rfl
  rw [if_pos fa] at k1
  by_cases fb : b.fits
  case neg =>
    rw [if_neg fb] at k2
    unfold addV
    rw [if_neg (fun h => fb h.2.1)]
    simp only [Dy.pv, Dy.zero, DP, NN, NL] at k1 k2 ⊢
    simp only [Tryd.f43, go_sem, Int.reduceToNat, Int.reduceEq, Int.reduceNe, Int.reduceLT, Int.reduceLE, Int.reduceNeg, Int.reduceAdd, ↓reduceIte, ↓reduceCtorEq, Nat.reduceEqDiff, Nat.reduceAdd, Nat.reduceSub, Nat.reduceMul, Nat.reduceLeDiff, Nat.reduceLT]
    refine qcall_i (k1) ?_; simp only [Tryd.f43, go_sem, Int.reduceToNat, Int.reduceEq, Int.reduceNe, Int.reduceLT, Int.reduceLE, Int.reduceNeg, Int.reduceAdd, ↓reduceIte, ↓reduceCtorEq, Nat.reduceEqDiff, Nat.reduceAdd, Nat.reduceSub, Nat.reduceMul, Nat.reduceLeDiff, Nat.reduceLT]
    refine qcall_i (k2) ?_; simp only [Tryd.f43, go_sem, Int.reduceToNat, Int.reduceEq, Int.reduceNe, Int.reduceLT, Int.reduceLE, Int.reduceNeg, Int.reduceAdd, ↓reduceIte, ↓reduceCtorEq, Nat.reduceEqDiff, Nat.reduceAdd, Nat.reduceSub, Nat.reduceMul, Nat.reduceLeDiff, Nat.reduceLT]
    rfl
  rw [if_pos fb] at k2
  have k3 := r_Top (RD.fit oa ba fa)
  have k4 := r_Top (RD.fit ob bb fb)
  by_cases za : a.m = 0
  · have e : addV a b = .tuple [b.pv, .int .i64 0] := by
      unfold addV
      rw [if_pos ⟨fa, fb, fun h => absurd za h, by rw [addS_zl ob fa fb za]; exact fb⟩, addS_zl ob fa fb za]
    rw [e]
    simp only [Dy.pv, Dy.zero, DP, NN, NL] at k1 k2 ⊢
    simp only [Tryd.f43, go_sem, Int.reduceToNat, Int.reduceEq, Int.reduceNe, Int.reduceLT, Int.reduceLE, Int.reduceNeg, Int.reduceAdd, ↓reduceIte, ↓reduceCtorEq, Nat.reduceEqDiff, Nat.reduceAdd, Nat.reduceSub, Nat.reduceMul, Nat.reduceLeDiff, Nat.reduceLT]
    refine qcall_i (k1) ?_; simp only [Tryd.f43, go_sem, Int.reduceToNat, Int.reduceEq, Int.reduceNe, Int.reduceLT, Int.reduceLE, Int.reduceNeg, Int.reduceAdd, ↓reduceIte, ↓reduceCtorEq, Nat.reduceEqDiff, Nat.reduceAdd, Nat.reduceSub, Nat.reduceMul, Nat.reduceLeDiff, Nat.reduceLT]
    refine qcall_i (k2) ?_; simp only [Tryd.f43, go_sem, Int.reduceToNat, Int.reduceEq, Int.reduceNe, Int.reduceLT, Int.reduceLE, Int.reduceNeg, Int.reduceAdd, ↓reduceIte, ↓reduceCtorEq, Nat.reduceEqDiff, Nat.reduceAdd, Nat.reduceSub, Nat.reduceMul, Nat.reduceLeDiff, Nat.reduceLT]
    refine qif_dt (by rw [za]; rfl) ?_
    simp only [Tryd.f43, go_sem, Int.reduceToNat, Int.reduceEq, Int.reduceNe, Int.reduceLT, Int.reduceLE, Int.reduceNeg, Int.reduceAdd, ↓reduceIte, ↓reduceCtorEq, Nat.reduceEqDiff, Nat.reduceAdd, Nat.reduceSub, Nat.reduceMul, Nat.reduceLeDiff, Nat.reduceLT]
    rfl
  by_cases zb : b.m = 0
  · have e : addV a b = .tuple [a.pv, .int .i64 0] := by
      unfold addV
      rw [if_pos ⟨fa, fb, fun _ h => absurd zb h, by rw [addS_zr oa fa fb zb]; exact fa⟩, addS_zr oa fa fb zb]
    rw [e]
    simp only [Dy.pv, Dy.zero, DP, NN, NL] at k1 k2 ⊢
    simp only [Tryd.f43, go_sem, Int.reduceToNat, Int.reduceEq, Int.reduceNe, Int.reduceLT, Int.reduceLE, Int.reduceNeg, Int.reduceAdd, ↓reduceIte, ↓reduceCtorEq, Nat.reduceEqDiff, Nat.reduceAdd, Nat.reduceSub, Nat.reduceMul, Nat.reduceLeDiff, Nat.reduceLT]
    refine qcall_i (k1) ?_; simp only [Tryd.f43, go_sem, Int.reduceToNat, Int.reduceEq, Int.reduceNe, Int.reduceLT, Int.reduceLE, Int.reduceNeg, Int.reduceAdd, ↓reduceIte, ↓reduceCtorEq, Nat.reduceEqDiff, Nat.reduceAdd, Nat.reduceSub, Nat.reduceMul, Nat.reduceLeDiff, Nat.reduceLT]
    refine qcall_i (k2) ?_; simp only [Tryd.f43, go_sem, Int.reduceToNat, Int.reduceEq, Int.reduceNe, Int.reduceLT, Int.reduceLE, Int.reduceNeg, Int.reduceAdd, ↓reduceIte, ↓reduceCtorEq, Nat.reduceEqDiff, Nat.reduceAdd, Nat.reduceSub, Nat.reduceMul, Nat.reduceLeDiff, Nat.reduceLT]
    refine qif_df (fun h => za (dg_nil (by omega))) ?_
    simp only [Tryd.f43, go_sem, Int.reduceToNat, Int.reduceEq, Int.reduceNe, Int.reduceLT, Int.reduceLE, Int.reduceNeg, Int.reduceAdd, ↓reduceIte, ↓reduceCtorEq, Nat.reduceEqDiff, Nat.reduceAdd, Nat.reduceSub, Nat.reduceMul, Nat.reduceLeDiff, Nat.reduceLT]
    refine qif_dt (by rw [zb]; rfl) ?_
    simp only [Tryd.f43, go_sem, Int.reduceToNat, Int.reduceEq, Int.reduceNe, Int.reduceLT, Int.reduceLE, Int.reduceNeg, Int.reduceAdd, ↓reduceIte, ↓reduceCtorEq, Nat.reduceEqDiff, Nat.reduceAdd, Nat.reduceSub, Nat.reduceMul, Nat.reduceLeDiff, Nat.reduceLT]
    rfl
  have fa1 := fa.1
  have fa2 := fa.2
  have fb1 := fb.1
  have fb2 := fb.2
  have ta := top_of za
  have tb := top_of zb
  have pa := bitLen_pos za
  have pb := bitLen_pos zb
  have w1 : IntKind.wrap .i64 (max a.top b.top - min a.e b.e) = max a.top b.top - min a.e b.e := wrap64 (by omega) (by omega)
  have w2 : IntKind.wrap .i64 (a.e - min a.e b.e) = a.e - min a.e b.e := wrap64 (by omega) (by omega)
  have w3 : IntKind.wrap .i64 (b.e - min a.e b.e) = b.e - min a.e b.e := wrap64 (by omega) (by omega)
  simp only [Dy.pv, Dy.zero, DP, NN, NL] at k1 k2 k3 k4 ⊢
  simp only [Tryd.f43, go_sem, Int.reduceToNat, Int.reduceEq, Int.reduceNe, Int.reduceLT, Int.reduceLE, Int.reduceNeg, Int.reduceAdd, ↓reduceIte, ↓reduceCtorEq, Nat.reduceEqDiff, Nat.reduceAdd, Nat.reduceSub, Nat.reduceMul, Nat.reduceLeDiff, Nat.reduceLT]
  refine qcall_i (k1) ?_; simp only [Tryd.f43, go_sem, Int.reduceToNat, Int.reduceEq, Int.reduceNe, Int.reduceLT, Int.reduceLE, Int.reduceNeg, Int.reduceAdd, ↓reduceIte, ↓reduceCtorEq, Nat.reduceEqDiff, Nat.reduceAdd, Nat.reduceSub, Nat.reduceMul, Nat.reduceLeDiff, Nat.reduceLT]
  refine qcall_i (k2) ?_; simp only [Tryd.f43, go_sem, Int.reduceToNat, Int.reduceEq, Int.reduceNe, Int.reduceLT, Int.reduceLE, Int.reduceNeg, Int.reduceAdd, ↓reduceIte, ↓reduceCtorEq, Nat.reduceEqDiff, Nat.reduceAdd, Nat.reduceSub, Nat.reduceMul, Nat.reduceLeDiff, Nat.reduceLT]
  refine qif_df (fun h => za (dg_nil (by omega))) ?_
  simp only [Tryd.f43, go_sem, Int.reduceToNat, Int.reduceEq, Int.reduceNe, Int.reduceLT, Int.reduceLE, Int.reduceNeg, Int.reduceAdd, ↓reduceIte, ↓reduceCtorEq, Nat.reduceEqDiff, Nat.reduceAdd, Nat.reduceSub, Nat.reduceMul, Nat.reduceLeDiff, Nat.reduceLT]
  refine qif_df (fun h => zb (dg_nil (by omega))) ?_
  simp only [Tryd.f43, go_sem, Int.reduceToNat, Int.reduceEq, Int.reduceNe, Int.reduceLT, Int.reduceLE, Int.reduceNeg, Int.reduceAdd, ↓reduceIte, ↓reduceCtorEq, Nat.reduceEqDiff, Nat.reduceAdd, Nat.reduceSub, Nat.reduceMul, Nat.reduceLeDiff, Nat.reduceLT]
  refine qcall_i (k3) ?_; simp only [Tryd.f43, go_sem, Int.reduceToNat, Int.reduceEq, Int.reduceNe, Int.reduceLT, Int.reduceLE, Int.reduceNeg, Int.reduceAdd, ↓reduceIte, ↓reduceCtorEq, Nat.reduceEqDiff, Nat.reduceAdd, Nat.reduceSub, Nat.reduceMul, Nat.reduceLeDiff, Nat.reduceLT]
  refine qcall_i (k4) ?_; simp only [Tryd.f43, w1, go_sem, Int.reduceToNat, Int.reduceEq, Int.reduceNe, Int.reduceLT, Int.reduceLE, Int.reduceNeg, Int.reduceAdd, ↓reduceIte, ↓reduceCtorEq, Nat.reduceEqDiff, Nat.reduceAdd, Nat.reduceSub, Nat.reduceMul, Nat.reduceLeDiff, Nat.reduceLT]
  refine qif_d (fun h => ?_) (fun h => ?_)
  · simp only [Tryd.f43, go_sem, Int.reduceToNat, Int.reduceEq, Int.reduceNe, Int.reduceLT, Int.reduceLE, Int.reduceNeg, Int.reduceAdd, ↓reduceIte, ↓reduceCtorEq, Nat.reduceEqDiff, Nat.reduceAdd, Nat.reduceSub, Nat.reduceMul, Nat.reduceLeDiff, Nat.reduceLT]
    unfold addV
    rw [if_neg (fun hh => by have := hh.2.2.1 za zb; omega)]
    rfl
  have s1' := bitLen_shl_le a.m (a.e - min a.e b.e).toNat
  have s2' := bitLen_shl_le b.m (b.e - min a.e b.e).toNat
  obtain ⟨q1, n1, k5⟩ := k_widened a.m ba (a.e - min a.e b.e) (by omega) (by omega)
  obtain ⟨q2, n2, k6⟩ := k_widened b.m bb (b.e - min a.e b.e) (by omega) (by omega)
  have hfin : addV a b = okD (addS a b) := by
    unfold addV okD
    by_cases hf : (addS a b).fits
    · rw [if_pos hf, if_pos ⟨fa, fb, fun _ _ => by omega, hf⟩]
    · rw [if_neg hf, if_neg (fun h => hf h.2.2.2)]
  rw [hfin]
  have es := add_same (a := a) (b := b)
  have ed := add_diff (a := a) (b := b)
  have ed' := add_diff (a := b) (b := a)
  rw [show min b.e a.e = min a.e b.e by omega, addS_comm b a] at ed'
  generalize addS a b = s at *
  obtain ⟨S1, S2, S3, S4, S5, hS⟩ := okD_ex s
  generalize a.m * 2 ^ (a.e - min a.e b.e).toNat = x at *
  generalize b.m * 2 ^ (b.e - min a.e b.e).toNat = y at *
  have k7 := k_Add n1 n2
  have k8 := k_Cmp n1 n2
  simp only [NN, NL] at k5 k6 k7
  simp only [Tryd.f43, w2, go_sem, Int.reduceToNat, Int.reduceEq, Int.reduceNe, Int.reduceLT, Int.reduceLE, Int.reduceNeg, Int.reduceAdd, ↓reduceIte, ↓reduceCtorEq, Nat.reduceEqDiff, Nat.reduceAdd, Nat.reduceSub, Nat.reduceMul, Nat.reduceLeDiff, Nat.reduceLT]
  refine qcall_i (k5) ?_; simp only [Tryd.f43, w3, go_sem, Int.reduceToNat, Int.reduceEq, Int.reduceNe, Int.reduceLT, Int.reduceLE, Int.reduceNeg, Int.reduceAdd, ↓reduceIte, ↓reduceCtorEq, Nat.reduceEqDiff, Nat.reduceAdd, Nat.reduceSub, Nat.reduceMul, Nat.reduceLeDiff, Nat.reduceLT]
  refine qcall_i (k6) ?_; simp only [Tryd.f43, go_sem, Int.reduceToNat, Int.reduceEq, Int.reduceNe, Int.reduceLT, Int.reduceLE, Int.reduceNeg, Int.reduceAdd, ↓reduceIte, ↓reduceCtorEq, Nat.reduceEqDiff, Nat.reduceAdd, Nat.reduceSub, Nat.reduceMul, Nat.reduceLeDiff, Nat.reduceLT]
  have bx : bitLen x ≤ 65536 := by omega
  have by' : bitLen y ≤ 65536 := by omega
  have bxy := bitLen_add bx by'
  by_cases hs : a.s = b.s
  · have h6 : (a.s == b.s) = true := by rw [hs]; exact beq_self_eq_true _
    have k9 := r_Make (num_bits (x := x + y) (by omega)) (by omega) a.s (min a.e b.e)
    rw [es hs, hS] at k9
    rw [hS]
    simp only [Tryd.f43, h6, go_sem, Int.reduceToNat, Int.reduceEq, Int.reduceNe, Int.reduceLT, Int.reduceLE, Int.reduceNeg, Int.reduceAdd, ↓reduceIte, ↓reduceCtorEq, Nat.reduceEqDiff, Nat.reduceAdd, Nat.reduceSub, Nat.reduceMul, Nat.reduceLeDiff, Nat.reduceLT]
    refine qcall_i (k7) ?_; simp only [Tryd.f43, go_sem, Int.reduceToNat, Int.reduceEq, Int.reduceNe, Int.reduceLT, Int.reduceLE, Int.reduceNeg, Int.reduceAdd, ↓reduceIte, ↓reduceCtorEq, Nat.reduceEqDiff, Nat.reduceAdd, Nat.reduceSub, Nat.reduceMul, Nat.reduceLeDiff, Nat.reduceLT]
    refine qcall_i (k9) ?_; simp only [Tryd.f43, go_sem, Int.reduceToNat, Int.reduceEq, Int.reduceNe, Int.reduceLT, Int.reduceLE, Int.reduceNeg, Int.reduceAdd, ↓reduceIte, ↓reduceCtorEq, Nat.reduceEqDiff, Nat.reduceAdd, Nat.reduceSub, Nat.reduceMul, Nat.reduceLeDiff, Nat.reduceLT]
  · have h6 : (a.s == b.s) = false := by simpa using hs
    simp only [Tryd.f43, h6, go_sem, Int.reduceToNat, Int.reduceEq, Int.reduceNe, Int.reduceLT, Int.reduceLE, Int.reduceNeg, Int.reduceAdd, ↓reduceIte, ↓reduceCtorEq, Nat.reduceEqDiff, Nat.reduceAdd, Nat.reduceSub, Nat.reduceMul, Nat.reduceLeDiff, Nat.reduceLT]
    refine qcall_i (k8) ?_; simp only [Tryd.f43, go_sem, Int.reduceToNat, Int.reduceEq, Int.reduceNe, Int.reduceLT, Int.reduceLE, Int.reduceNeg, Int.reduceAdd, ↓reduceIte, ↓reduceCtorEq, Nat.reduceEqDiff, Nat.reduceAdd, Nat.reduceSub, Nat.reduceMul, Nat.reduceLeDiff, Nat.reduceLT]
    by_cases hxy : y ≤ x
    · have k10 := k_Sub n1 n2 hxy
      have b1 := bitLen_mono (Nat.sub_le x y)
      have k9 := r_Make (num_bits (x := x - y) (by omega)) (by omega) a.s (min a.e b.e)
      rw [ed hs hxy, hS] at k9
      rw [hS]
      simp only [NN, NL] at k9 k10
      refine qif_df (by have := sgn_neg x y; omega) ?_
      simp only [Tryd.f43, go_sem, Int.reduceToNat, Int.reduceEq, Int.reduceNe, Int.reduceLT, Int.reduceLE, Int.reduceNeg, Int.reduceAdd, ↓reduceIte, ↓reduceCtorEq, Nat.reduceEqDiff, Nat.reduceAdd, Nat.reduceSub, Nat.reduceMul, Nat.reduceLeDiff, Nat.reduceLT]
      refine qcall_i (k10) ?_; simp only [Tryd.f43, go_sem, Int.reduceToNat, Int.reduceEq, Int.reduceNe, Int.reduceLT, Int.reduceLE, Int.reduceNeg, Int.reduceAdd, ↓reduceIte, ↓reduceCtorEq, Nat.reduceEqDiff, Nat.reduceAdd, Nat.reduceSub, Nat.reduceMul, Nat.reduceLeDiff, Nat.reduceLT]
      refine qcall_i (k9) ?_; simp only [Tryd.f43, go_sem, Int.reduceToNat, Int.reduceEq, Int.reduceNe, Int.reduceLT, Int.reduceLE, Int.reduceNeg, Int.reduceAdd, ↓reduceIte, ↓reduceCtorEq, Nat.reduceEqDiff, Nat.reduceAdd, Nat.reduceSub, Nat.reduceMul, Nat.reduceLeDiff, Nat.reduceLT]
    · have k10 := k_Sub n2 n1 (by omega)
      have b1 := bitLen_mono (Nat.sub_le y x)
      have k9 := r_Make (num_bits (x := y - x) (by omega)) (by omega) b.s (min a.e b.e)
      rw [ed' (fun h => hs h.symm) (by omega), hS] at k9
      rw [hS]
      simp only [NN, NL] at k9 k10
      refine qif_dt (by have := (sgn_neg x y).2 (by omega); omega) ?_
      simp only [Tryd.f43, go_sem, Int.reduceToNat, Int.reduceEq, Int.reduceNe, Int.reduceLT, Int.reduceLE, Int.reduceNeg, Int.reduceAdd, ↓reduceIte, ↓reduceCtorEq, Nat.reduceEqDiff, Nat.reduceAdd, Nat.reduceSub, Nat.reduceMul, Nat.reduceLeDiff, Nat.reduceLT]
      refine qcall_i (k10) ?_; simp only [Tryd.f43, go_sem, Int.reduceToNat, Int.reduceEq, Int.reduceNe, Int.reduceLT, Int.reduceLE, Int.reduceNeg, Int.reduceAdd, ↓reduceIte, ↓reduceCtorEq, Nat.reduceEqDiff, Nat.reduceAdd, Nat.reduceSub, Nat.reduceMul, Nat.reduceLeDiff, Nat.reduceLT]
      refine qcall_i (k9) ?_; simp only [Tryd.f43, go_sem, Int.reduceToNat, Int.reduceEq, Int.reduceNe, Int.reduceLT, Int.reduceLE, Int.reduceNeg, Int.reduceAdd, ↓reduceIte, ↓reduceCtorEq, Nat.reduceEqDiff, Nat.reduceAdd, Nat.reduceSub, Nat.reduceMul, Nat.reduceLeDiff, Nat.reduceLT]

/-- Times a power of two, as the program does it. -/
def scaleV (d : Dy) (n : Int) : PV := if d.fits then okD (d.sc (min (max n (-4294967296)) 4294967296)) else .tuple [Dy.zero.pv, .int .i64 2]
theorem r_Scale {p : PV} {d : Dy} (h : RD p d) (n : Int) : PC E 110 [p, .int .i64 n] (scaleV d n) := by
  have k1 := r_Bare h
  have hok := h.ok
  have hbits := h.bits
  obtain ⟨s, q, x, e, rfl, hq, hb, hd⟩ := h
  refine PC.of_body follows Tryd.func110 (by decide +kernel) rfl (by kernel_rfl) (Nat.le_of_ble_eq_true rfl) (walk ?_)
  unfold okD at k1
  unfold scaleV
  by_cases hf : d.fits
  · rw [if_pos hf] at k1 ⊢
    by_cases h0 : d.m = 0
    · have e1 : d.sc (min (max n (-4294967296)) 4294967296) = .zero := if_pos h0
      rw [e1]
      rw [hok.z h0] at k1
      simp only [Dy.pv, Dy.zero, DP, NN, NL] at k1 ⊢
      simp only [Tryd.f110, go_sem, Int.reduceToNat, Int.reduceEq, Int.reduceNe, Int.reduceLT, Int.reduceLE, Int.reduceNeg, Int.reduceAdd, ↓reduceIte, ↓reduceCtorEq, Nat.reduceEqDiff, Nat.reduceAdd, Nat.reduceSub, Nat.reduceMul, Nat.reduceLeDiff, Nat.reduceLT]
      refine qcall_i (k1) ?_; simp only [Tryd.f110, go_sem, Int.reduceToNat, Int.reduceEq, Int.reduceNe, Int.reduceLT, Int.reduceLE, Int.reduceNeg, Int.reduceAdd, ↓reduceIte, ↓reduceCtorEq, Nat.reduceEqDiff, Nat.reduceAdd, Nat.reduceSub, Nat.reduceMul, Nat.reduceLeDiff, Nat.reduceLT]
      refine qif_dt (by decide) ?_
      simp only [Tryd.f110, go_sem, Int.reduceToNat, Int.reduceEq, Int.reduceNe, Int.reduceLT, Int.reduceLE, Int.reduceNeg, Int.reduceAdd, ↓reduceIte, ↓reduceCtorEq, Nat.reduceEqDiff, Nat.reduceAdd, Nat.reduceSub, Nat.reduceMul, Nat.reduceLeDiff, Nat.reduceLT]
      rfl
    · have f1 := hf.1
      have f2 := hf.2
      have w1 : IntKind.wrap .i64 (d.e + min (max n (-4294967296)) 4294967296) = d.e + min (max n (-4294967296)) 4294967296 := wrap64 (by omega) (by omega)
      have k2 := r_Make (num_bits hbits) hbits d.s (d.e + min (max n (-4294967296)) 4294967296)
      have e2 : okD (mkD d.s d.m (d.e + min (max n (-4294967296)) 4294967296)) = okD (d.sc (min (max n (-4294967296)) 4294967296)) := by
        have ht : tz d.m = 0 := tz_of (m := d.m / 2) (by have := hok.odd h0; rw [Nat.pow_zero, Nat.one_mul]; omega)
        unfold mkD Dy.sc
        rw [if_neg h0, if_neg h0, ht, Nat.pow_zero, Nat.div_one]
        generalize d.e + min (max n (-4294967296)) 4294967296 = t
        rw [show cut t + ((0 : Nat) : Int) = cut t by omega]
        unfold okD
        by_cases hc : -2147483648 ≤ t ∧ t ≤ 2147483648
        · rw [cut_id hc.1 hc.2]
        · have h1 : ¬ Dy.fits ⟨d.s, d.m, t⟩ := fun hh => by have := hh.1; have := hh.2; dsimp only at *; omega
          have h2 : ¬ Dy.fits ⟨d.s, d.m, cut t⟩ := fun hh => by
            have := hh.1; have := hh.2; dsimp only at *
            unfold cut at *
            split at this <;> (try split at this) <;> omega
          rw [if_neg h1, if_neg h2]
      rw [e2] at k2
      generalize hT : min (max n (-4294967296)) 4294967296 = T at *
      obtain ⟨S1, S2, S3, S4, S5, hS⟩ := okD_ex (d.sc T)
      rw [hS] at k2 ⊢
      simp only [Dy.pv, Dy.zero, DP, NN, NL] at k1 k2 ⊢
      simp only [Tryd.f110, go_sem, Int.reduceToNat, Int.reduceEq, Int.reduceNe, Int.reduceLT, Int.reduceLE, Int.reduceNeg, Int.reduceAdd, ↓reduceIte, ↓reduceCtorEq, Nat.reduceEqDiff, Nat.reduceAdd, Nat.reduceSub, Nat.reduceMul, Nat.reduceLeDiff, Nat.reduceLT]
      refine qcall_i (k1) ?_; simp only [Tryd.f110, go_sem, Int.reduceToNat, Int.reduceEq, Int.reduceNe, Int.reduceLT, Int.reduceLE, Int.reduceNeg, Int.reduceAdd, ↓reduceIte, ↓reduceCtorEq, Nat.reduceEqDiff, Nat.reduceAdd, Nat.reduceSub, Nat.reduceMul, Nat.reduceLeDiff, Nat.reduceLT]
      refine qif_df (fun h => h0 (dg_nil (by omega))) ?_
      simp only [Tryd.f110, hT, w1, go_sem, Int.reduceToNat, Int.reduceEq, Int.reduceNe, Int.reduceLT, Int.reduceLE, Int.reduceNeg, Int.reduceAdd, ↓reduceIte, ↓reduceCtorEq, Nat.reduceEqDiff, Nat.reduceAdd, Nat.reduceSub, Nat.reduceMul, Nat.reduceLeDiff, Nat.reduceLT]
      refine qcall_i (k2) ?_; simp only [Tryd.f110, go_sem, Int.reduceToNat, Int.reduceEq, Int.reduceNe, Int.reduceLT, Int.reduceLE, Int.reduceNeg, Int.reduceAdd, ↓reduceIte, ↓reduceCtorEq, Nat.reduceEqDiff, Nat.reduceAdd, Nat.reduceSub, Nat.reduceMul, Nat.reduceLeDiff, Nat.reduceLT]
  · rw [if_neg hf] at k1 ⊢
    simp only [Dy.pv, Dy.zero, DP, NN, NL] at k1 ⊢
    simp only [Tryd.f110, go_sem, Int.reduceToNat, Int.reduceEq, Int.reduceNe, Int.reduceLT, Int.reduceLE, Int.reduceNeg, Int.reduceAdd, ↓reduceIte, ↓reduceCtorEq, Nat.reduceEqDiff, Nat.reduceAdd, Nat.reduceSub, Nat.reduceMul, Nat.reduceLeDiff, Nat.reduceLT]
    refine qcall_i (k1) ?_; simp only [Tryd.f110, go_sem, Int.reduceToNat, Int.reduceEq, Int.reduceNe, Int.reduceLT, Int.reduceLE, Int.reduceNeg, Int.reduceAdd, ↓reduceIte, ↓reduceCtorEq, Nat.reduceEqDiff, Nat.reduceAdd, Nat.reduceSub, Nat.reduceMul, Nat.reduceLeDiff, Nat.reduceLT]
    rfl
end Go.Proofs.YtflpcgcgeffolaaDoor
