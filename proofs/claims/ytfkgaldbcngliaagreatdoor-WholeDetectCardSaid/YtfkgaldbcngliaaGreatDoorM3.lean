/- Several parts in one text. -/
import Derived.Test.YtfkgaldbcngliaaGreatDoorM2
import Derived.Test.YtfkgaldbcngliaaGreatDoorM1
open Go PG Go.Proofs
set_option linter.unusedSimpArgs false
set_option linter.unusedVariables false
set_option maxRecDepth 100000
namespace Go.Proofs.YtfkgaldbcngliaaGreatDoor
attribute [local go_sem] Lay2 Lay3 Lay4 Lay5 Lay6 Lay7 Lay8 Lay9 Lay10 Lay11 Lay12 Lay13 Lay14 Lay15 Lay16 Lay17 Lay18 Lay19 Lay20 Lay21 Lay22 Lay26 Lay27 Lay28 Lay29 Lay31 Lay32 Lay33 Lay34 Lay35 Lay41 Lay42 Lay43 Lay47 Lay48 Lay60 Lay61 Lay62 Lay63 Lay64 Lay72 Lay73 Lay74 Lay83 Lay84 Lay86 Lay90 Lay91 Lay92 Lay93 Lay102 Lay103 Lay139 Lay143 Lay149 Lay158 Lay159 Lay160 Lay161 Lay162 Lay174 Lay175 Lay193 Lay207 Lay208 Lay209 Lay210 Lay228 Lay229 Lay237 Lay238 Lay265 Lay287 Lay295 Lay296 Lay297 Lay299 Lay301 Lay302 Lay303 Lay304 Lay305 Lay307 Lay308 Lay310 Lay311 Lay312 Lay315 Lay316 Lay317 qexec_seq qexec_skip qexec_exit qexec_ret qexec_block qexec_loop qexec_range qexec_cond qexec_region qexec_drawn qops_nil qops_none qops_some put_some put_none pblk_exit pblk_other newDsts_nil inlDsts_nil isInl sget_cons sget_nil qval_some qbool_some qgs_bool qgs_und qfree_some qgrd_true qgrd_false qif_true qif_false qval_ite qval_itn qand_true map_ite map_some' map_none' qdo_move qdo_assign qdo_binOp qdo_pick qdo_unOp qdo_convert qdo_extract qdo_makeInterface qdo_field qdo_fieldAddr qdo_alloc qdo_box qdo_build qdo_buildSlice qdo_load qdo_store qdo_nilCheck qdo_makeFunc qdo_makeSlice qdo_slice qdo_indexAddr qdo_call qcont_val qcont_new qcont_st qcont_app0 qcont_app qcont_inl qcont_call njSV_val njSV_nil njSV_row njSV_ptr njSV_sub binV_val binV_nil binV_nn binV_ptr bin_np bin_nnp nilCmp bin_add bin_sub bin_mul bin_quo bin_rem bin_and bin_or bin_xor bin_andNot bin_eql bin_neq bin_lss bin_leq bin_gtr bin_geq bin_shl bin_shr bin_seql bin_sneq bin_sadd bin_beql bin_aeql bin_aneq eqAnd_some eqCells_nil eqCells_cons fieldTypes isStruct eqCell bin_bneq un_not un_neg nj_ite Nat.beq stepA stepR isNew opSV constSV RV.sv allSome E_mu E_own qkeyIn_none qkeyIn_some qkeyAt_none qkeyAt_some Bool.or_false Bool.false_or Bool.or_true Bool.true_or cst setB res resSV pstart startL killL kill1 eraL frzL svPV rvPV rvInt rvSlice rvBytes frzOf close closeL pconv pbuiltin pmax2 partPV setCells fillPV zrow bound newSV PV.cells Bk.cells Bk.with SV.key pres presL_nil presL_tmp presL_cell presC2_some cellPV_ptr presC List.toList_toArray List.size_toArray List.getElem?_drop Nat.mul_one Int.toNat_natCast Nat.not_lt_zero Nat.lt_irrefl decide_true decide_false Nat.not_lt Option.some.injEq PV.lst.injEq PV.int.injEq PV.bool.injEq PV.tuple.injEq List.cons.injEq Option.map_some Option.map_none Option.bind_some Option.toList List.map_cons List.map_nil List.nil_append List.cons_append List.append_nil List.zip_cons_cons List.zip_nil_left List.zip_nil_right List.getElem?_cons_zero List.getElem?_cons_succ List.drop_zero List.drop_succ_cons List.take_succ_cons List.take_zero List.set_cons_zero List.set_cons_succ List.length_cons List.length_nil List.length_set List.replicate_one List.replicate_zero bne_self_eq_false beq_self_eq_true Nat.zero_add Nat.add_zero Nat.zero_mul Bool.false_eq_true Bool.true_eq_false Bool.not_true Bool.not_false and_true true_and false_and and_false or_false false_or or_true true_or not_true_eq_false not_false_eq_true ne_eq gt_iff_lt List.mem_cons List.not_mem_nil
attribute [local go_sem ↓] pseq_normal pseq_ret pseq_exit pblk_normal pblk_ret newDsts_cons inlDsts_cons gdst_zero gdst_succ retQ_normal retQ_ret qneed_nil qneed_cons retM_normal retM_ret endR_normal endR_ret endR_exit
attribute [local go_sem] Int.reduceToNat Int.reduceEq Int.reduceNe Int.reduceLT Int.reduceLE Int.reduceNeg Int.reduceAdd Nat.reduceEqDiff Nat.reduceAdd Nat.reduceSub Nat.reduceMul Nat.reduceLeDiff Nat.reduceLT
attribute [local go_sem ↓] reduceIte reduceCtorEq
section
section
open Go PG Go.Proofs
def RI (p : PV) (i : Iv) : Prop := ∃ (s1 : Bool) (P1 : PV) (e1 : Int) (s2 : Bool) (P2 : PV) (e2 : Int), p = .agg [.bool s1, P1, .int .i64 e1, .bool s2, P2, .int .i64 e2] ∧ RD (DP s1 P1 e1) i.lo ∧ RD (DP s2 P2 e2) i.hi
def Iv.pv (i : Iv) : PV := .agg [.bool i.lo.s, NN i.lo.m, .int .i64 i.lo.e, .bool i.hi.s, NN i.hi.m, .int .i64 i.hi.e]
def Iv.zero : Iv := ⟨.zero, .zero⟩
theorem RI.of {i : Iv} (h1 : RD i.lo.pv i.lo) (h2 : RD i.hi.pv i.hi) : RI i.pv i := ⟨_, _, _, _, _, _, rfl, h1, h2⟩
theorem RI.okI {p : PV} {i : Iv} (h : RI p i) : i.okI := by obtain ⟨_, _, _, _, _, _, _, h1, h2⟩ := h; exact ⟨h1.ok, h2.ok⟩
def Iv.lim (K : Nat) (i : Iv) : Prop := Lim K i.lo ∧ Lim K i.hi
theorem Iv.lim.RI {K : Nat} {i : Iv} (h : i.lim K) (hK : K ≤ 500000) : RI i.pv i := RI.of (h.1.RD hK) (h.2.RD hK)
theorem Iv.lim.mono {K J : Nat} {i : Iv} (h : i.lim K) (hK : K ≤ J) : i.lim J := ⟨h.1.mono hK, h.2.mono hK⟩
theorem Iv.lim.mul {K J : Nat} {i k : Iv} (h1 : i.lim K) (h2 : k.lim J) : (mulI i k).lim (K + J) :=
  mulI_P (P := Lim (K + J)) (h1.1.mul h2.1) (h1.1.mul h2.2) (h1.2.mul h2.1) (h1.2.mul h2.2)
theorem Iv.lim.add {K : Nat} {i k : Iv} (h1 : i.lim K) (h2 : k.lim K) (hK : K ≤ 1000000) : (addI i k).lim (K + 1) := ⟨h1.1.add h2.1 hK, h1.2.add h2.2 hK⟩
theorem Iv.lim.ge {K : Nat} {i : Iv} (h : i.lim K) : i.ge (-(K : Int)) := ⟨h.1.ge, h.2.ge⟩
theorem Iv.lim.okI {K : Nat} {i : Iv} (h : i.lim K) : i.okI := ⟨h.1.ok, h.2.ok⟩
theorem Iv.lim.right {K : Nat} {i : Iv} (h : i.lim K) (hK : K ≤ 1000000) : i.right ↔ cmpD i.lo i.hi ≤ 0 := ⟨fun h => h.2.2, fun hc => ⟨h.1.fits hK, h.2.fits hK, hc⟩⟩
theorem q_can {p : PV} {d : Dy} (h : RD p d) : PC E 160 [p] (.bool (decide d.fits)) := by
  have k1 := r_Bare h
  obtain ⟨s, P, x, e, rfl, -⟩ := h
  refine PC.of_body follows Tryz.func160 (by decide +kernel) rfl (by kernel_rfl) (Nat.le_of_ble_eq_true rfl) (walk ?_)
  unfold okD at k1
  by_cases hf : d.fits
  · rw [if_pos hf] at k1
    rw [decide_eq_true hf]
    simp only [Dy.pv, DP, NN, NL] at k1 ⊢
    simp only [Tryz.f160, go_sem]
    refine qcall_i (k1) ?_; simp only [Tryz.f160, go_sem]
  · rw [if_neg hf] at k1
    rw [decide_eq_false hf]
    simp only [Dy.pv, Dy.zero, DP, NN, NL] at k1 ⊢
    simp only [Tryz.f160, go_sem]
    refine qcall_i (k1) ?_; simp only [Tryz.f160, go_sem]
theorem q_Right {p : PV} {i : Iv} (h : RI p i) : PC E 100 [p] (.bool (decide i.right)) := by
  obtain ⟨s1, P1, e1, s2, P2, e2, rfl, h1, h2⟩ := h
  have k1 := q_can h1
  have k2 := q_can h2
  have k3 := r_Cmp h1 h2
  refine PC.of_body follows Tryz.func100 (by decide +kernel) rfl (by kernel_rfl) (Nat.le_of_ble_eq_true rfl) (walk ?_)
  simp only [DP] at k1 k2 k3
  by_cases f1 : i.lo.fits
  case neg =>
    rw [decide_eq_false f1] at k1
    rw [decide_eq_false (fun h => f1 h.1)]
    simp only [Tryz.f100, go_sem]
    refine qcall_i (k1) ?_; simp only [Tryz.f100, go_sem]
  by_cases f2 : i.hi.fits
  case neg =>
    rw [decide_eq_true f1] at k1
    rw [decide_eq_false f2] at k2
    rw [decide_eq_false (fun h => f2 h.2.1)]
    simp only [Tryz.f100, go_sem]
    refine qcall_i (k1) ?_; simp only [Tryz.f100, go_sem]
    refine qcall_i (k2) ?_; simp only [Tryz.f100, go_sem]
  rw [decide_eq_true f1] at k1
  rw [decide_eq_true f2] at k2
  have e : decide i.right = decide (cmpD i.lo i.hi ≤ 0) := decide_eq_decide.2 ⟨fun h => h.2.2, fun h => ⟨f1, f2, h⟩⟩
  rw [e]
  simp only [Tryz.f100, go_sem]
  refine qcall_i (k1) ?_; simp only [Tryz.f100, go_sem]
  refine qcall_i (k2) ?_; simp only [Tryz.f100, go_sem]
  refine qcall_i (k3) ?_; simp only [Tryz.f100, go_sem]
theorem q_At {s : Bool} {P : PV} {e : Int} : PC E 248 [.agg [.bool s, P, .int .i64 e]] (.agg [.bool s, P, .int .i64 e, .bool s, P, .int .i64 e]) := by
  refine PC.of_body follows Tryz.func248 (by decide +kernel) rfl (by kernel_rfl) (Nat.le_of_ble_eq_true rfl) (walk ?_)
  simp only [Tryz.f248, go_sem]
def ivV (c : Prop) [Decidable c] (i : Iv) : PV := if c then .tuple [i.pv, .int .i64 0] else .tuple [Iv.zero.pv, .int .i64 1]
def pre4 (f : Dy → Dy → Dy) (p q r s : Dy) : Nat → Dy
  | 0 => p
  | 1 => p
  | 2 => f p q
  | 3 => f (f p q) r
  | _ => f (f (f p q) r) s
def cl4 (p q r s : Dy) : PV := .lst 4 [.bool p.s, NN p.m, .int .i64 p.e, .bool q.s, NN q.m, .int .i64 q.e, .bool r.s, NN r.m, .int .i64 r.e, .bool s.s, NN s.m, .int .i64 s.e]
theorem q_MinFunc {p q r s : Dy} (hp : RD p.pv p) (hq : RD q.pv q) (hr : RD r.pv r) (hs : RD s.pv s) : PC E 250 [cl4 p q r s, .clo 101 []] (min4 p q r s).pv := by
  refine PC.of_body follows Tryz.func250 (by decide +kernel) rfl (by kernel_rfl) (Nat.le_of_ble_eq_true rfl) (walk ?_)
  have h2 : RD (minD p q).pv (minD p q) := minD_P (P := fun d => RD d.pv d) hp hq
  have h3 : RD (minD (minD p q) r).pv (minD (minD p q) r) := minD_P (P := fun d => RD d.pv d) h2 hr
  have k1 := r_Cmp hq hp
  have k2 := r_Cmp hr h2
  have k3 := r_Cmp hs h3
  have d1 : minD p q = if cmpD q p < 0 then q else p := rfl
  have d2 : minD (minD p q) r = if cmpD r (minD p q) < 0 then r else (minD p q) := rfl
  have d3 : minD (minD (minD p q) r) s = if cmpD s (minD (minD p q) r) < 0 then s else (minD (minD p q) r) := rfl
  have v1 : IntKind.wrap .i64 2 = 2 := by decide
  have v2 : IntKind.wrap .i64 3 = 3 := by decide
  have v3 : IntKind.wrap .i64 4 = 4 := by decide
  unfold cl4 min4
  simp only [Dy.pv, DP] at k1 k2 k3 ⊢
  simp only [Tryz.f250, Int.cast_ofNat_Int, go_sem]
  refine PLoop.intro (fun i : Nat => ⟨[(0, .val (.lst 4 [.bool p.s, NN p.m, .int .i64 p.e, .bool q.s, NN q.m, .int .i64 q.e, .bool r.s, NN r.m, .int .i64 r.e, .bool s.s, NN s.m, .int .i64 s.e])), (1, .val (.clo 101 [])), (4, .ptr 4 0), (5, .ptr 5 0), (6, .val (.int .i64 i))],
    [(4, (.box [.bool false, .lst 0 [], .int .i64 0], false)), (5, (.box [.bool (pre4 minD p q r s i).s, NN (pre4 minD p q r s i).m, .int .i64 (pre4 minD p q r s i).e], false))]⟩) (fun i => 1 ≤ i ∧ i ≤ 4) (fun i => 4 - i) 1 (by decide) ?_ fun i hi => walk ?_
  · simp [Wk, sget, killL, kill1, SV.key, pre4]
  obtain ⟨hi1, hi2⟩ := hi
  rcases i with _ | _ | _ | _ | _ | i
  · omega
  · simp only [pre4]
    simp only [Tryz.f250, Int.cast_ofNat_Int, v1, v2, v3, go_sem]
    refine qcall_i (k1) ?_; simp only [Tryz.f250, Int.cast_ofNat_Int, v1, v2, v3, go_sem]
    refine qif_d (fun h => ?_) (fun h => ?_)
    · simp only [Tryz.f250, Int.cast_ofNat_Int, v1, v2, v3, go_sem]
      refine ⟨2, by omega, by omega, ?_⟩
      simp only [pre4]
      rw [d1, if_pos h]
      simp [Wk, sget, killL, kill1, SV.key, setCells]
    · simp only [Tryz.f250, Int.cast_ofNat_Int, v1, v2, v3, go_sem]
      refine ⟨2, by omega, by omega, ?_⟩
      simp only [pre4]
      rw [d1, if_neg h]
      simp [Wk, sget, killL, kill1, SV.key]
  · simp only [pre4]
    simp only [Tryz.f250, Int.cast_ofNat_Int, v1, v2, v3, go_sem]
    refine qcall_i (k2) ?_; simp only [Tryz.f250, Int.cast_ofNat_Int, v1, v2, v3, go_sem]
    refine qif_d (fun h => ?_) (fun h => ?_)
    · simp only [Tryz.f250, Int.cast_ofNat_Int, v1, v2, v3, go_sem]
      refine ⟨3, by omega, by omega, ?_⟩
      simp only [pre4]
      rw [d2, if_pos h]
      simp [Wk, sget, killL, kill1, SV.key, setCells]
    · simp only [Tryz.f250, Int.cast_ofNat_Int, v1, v2, v3, go_sem]
      refine ⟨3, by omega, by omega, ?_⟩
      simp only [pre4]
      rw [d2, if_neg h]
      simp [Wk, sget, killL, kill1, SV.key]
  · simp only [pre4]
    simp only [Tryz.f250, Int.cast_ofNat_Int, v1, v2, v3, go_sem]
    refine qcall_i (k3) ?_; simp only [Tryz.f250, Int.cast_ofNat_Int, v1, v2, v3, go_sem]
    refine qif_d (fun h => ?_) (fun h => ?_)
    · simp only [Tryz.f250, Int.cast_ofNat_Int, v1, v2, v3, go_sem]
      refine ⟨4, by omega, by omega, ?_⟩
      simp only [pre4]
      rw [d3, if_pos h]
      simp [Wk, sget, killL, kill1, SV.key, setCells]
    · simp only [Tryz.f250, Int.cast_ofNat_Int, v1, v2, v3, go_sem]
      refine ⟨4, by omega, by omega, ?_⟩
      simp only [pre4]
      rw [d3, if_neg h]
      simp [Wk, sget, killL, kill1, SV.key]
  · simp only [pre4]
    simp only [Tryz.f250, Int.cast_ofNat_Int, go_sem]
    try rfl
  · omega
theorem q_MaxFunc {p q r s : Dy} (hp : RD p.pv p) (hq : RD q.pv q) (hr : RD r.pv r) (hs : RD s.pv s) : PC E 251 [cl4 p q r s, .clo 101 []] (max4 p q r s).pv := by
  refine PC.of_body follows Tryz.func251 (by decide +kernel) rfl (by kernel_rfl) (Nat.le_of_ble_eq_true rfl) (walk ?_)
  have h2 : RD (maxD p q).pv (maxD p q) := maxD_P (P := fun d => RD d.pv d) hp hq
  have h3 : RD (maxD (maxD p q) r).pv (maxD (maxD p q) r) := maxD_P (P := fun d => RD d.pv d) h2 hr
  have k1 := r_Cmp hq hp
  have k2 := r_Cmp hr h2
  have k3 := r_Cmp hs h3
  have d1 : maxD p q = if 0 < cmpD q p then q else p := rfl
  have d2 : maxD (maxD p q) r = if 0 < cmpD r (maxD p q) then r else (maxD p q) := rfl
  have d3 : maxD (maxD (maxD p q) r) s = if 0 < cmpD s (maxD (maxD p q) r) then s else (maxD (maxD p q) r) := rfl
  have v1 : IntKind.wrap .i64 2 = 2 := by decide
  have v2 : IntKind.wrap .i64 3 = 3 := by decide
  have v3 : IntKind.wrap .i64 4 = 4 := by decide
  unfold cl4 max4
  simp only [Dy.pv, DP] at k1 k2 k3 ⊢
  simp only [Tryz.f251, Int.cast_ofNat_Int, go_sem]
  refine PLoop.intro (fun i : Nat => ⟨[(0, .val (.lst 4 [.bool p.s, NN p.m, .int .i64 p.e, .bool q.s, NN q.m, .int .i64 q.e, .bool r.s, NN r.m, .int .i64 r.e, .bool s.s, NN s.m, .int .i64 s.e])), (1, .val (.clo 101 [])), (4, .ptr 4 0), (5, .ptr 5 0), (6, .val (.int .i64 i))],
    [(4, (.box [.bool false, .lst 0 [], .int .i64 0], false)), (5, (.box [.bool (pre4 maxD p q r s i).s, NN (pre4 maxD p q r s i).m, .int .i64 (pre4 maxD p q r s i).e], false))]⟩) (fun i => 1 ≤ i ∧ i ≤ 4) (fun i => 4 - i) 1 (by decide) ?_ fun i hi => walk ?_
  · simp [Wk, sget, killL, kill1, SV.key, pre4]
  obtain ⟨hi1, hi2⟩ := hi
  rcases i with _ | _ | _ | _ | _ | i
  · omega
  · simp only [pre4]
    simp only [Tryz.f251, Int.cast_ofNat_Int, v1, v2, v3, go_sem]
    refine qcall_i (k1) ?_; simp only [Tryz.f251, Int.cast_ofNat_Int, v1, v2, v3, go_sem]
    refine qif_d (fun h => ?_) (fun h => ?_)
    · simp only [Tryz.f251, Int.cast_ofNat_Int, v1, v2, v3, go_sem]
      refine ⟨2, by omega, by omega, ?_⟩
      simp only [pre4]
      rw [d1, if_pos h]
      simp [Wk, sget, killL, kill1, SV.key, setCells]
    · simp only [Tryz.f251, Int.cast_ofNat_Int, v1, v2, v3, go_sem]
      refine ⟨2, by omega, by omega, ?_⟩
      simp only [pre4]
      rw [d1, if_neg h]
      simp [Wk, sget, killL, kill1, SV.key]
  · simp only [pre4]
    simp only [Tryz.f251, Int.cast_ofNat_Int, v1, v2, v3, go_sem]
    refine qcall_i (k2) ?_; simp only [Tryz.f251, Int.cast_ofNat_Int, v1, v2, v3, go_sem]
    refine qif_d (fun h => ?_) (fun h => ?_)
    · simp only [Tryz.f251, Int.cast_ofNat_Int, v1, v2, v3, go_sem]
      refine ⟨3, by omega, by omega, ?_⟩
      simp only [pre4]
      rw [d2, if_pos h]
      simp [Wk, sget, killL, kill1, SV.key, setCells]
    · simp only [Tryz.f251, Int.cast_ofNat_Int, v1, v2, v3, go_sem]
      refine ⟨3, by omega, by omega, ?_⟩
      simp only [pre4]
      rw [d2, if_neg h]
      simp [Wk, sget, killL, kill1, SV.key]
  · simp only [pre4]
    simp only [Tryz.f251, Int.cast_ofNat_Int, v1, v2, v3, go_sem]
    refine qcall_i (k3) ?_; simp only [Tryz.f251, Int.cast_ofNat_Int, v1, v2, v3, go_sem]
    refine qif_d (fun h => ?_) (fun h => ?_)
    · simp only [Tryz.f251, Int.cast_ofNat_Int, v1, v2, v3, go_sem]
      refine ⟨4, by omega, by omega, ?_⟩
      simp only [pre4]
      rw [d3, if_pos h]
      simp [Wk, sget, killL, kill1, SV.key, setCells]
    · simp only [Tryz.f251, Int.cast_ofNat_Int, v1, v2, v3, go_sem]
      refine ⟨4, by omega, by omega, ?_⟩
      simp only [pre4]
      rw [d3, if_neg h]
      simp [Wk, sget, killL, kill1, SV.key]
  · simp only [pre4]
    simp only [Tryz.f251, Int.cast_ofNat_Int, go_sem]
    try rfl
  · omega
theorem q_Mul {p q : PV} {i k : Iv} {K J : Nat} (h : RI p i) (hk : RI q k) (hl : i.lim K) (hl' : k.lim J) (hK : K + J ≤ 32767) : PC E 247 [p, q] (ivV (i.right ∧ k.right) (mulI i k)) := by
  have k1 := q_Right h
  have k2 := q_Right hk
  obtain ⟨s1, P1, e1, s2, P2, e2, rfl, h1, h2⟩ := h
  obtain ⟨t1, Q1, g1, t2, Q2, g2, rfl, h3, h4⟩ := hk
  refine PC.of_body follows Tryz.func247 (by decide +kernel) rfl (by kernel_rfl) (Nat.le_of_ble_eq_true rfl) (walk ?_)
  unfold ivV
  by_cases f1 : i.right
  case neg =>
    rw [decide_eq_false f1] at k1
    rw [if_neg (fun h => f1 h.1)]
    simp only [Tryz.f247, go_sem]
    refine qcall_i (k1) ?_; simp only [Tryz.f247, go_sem]
    try rfl
  rw [decide_eq_true f1] at k1
  by_cases f2 : k.right
  case neg =>
    rw [decide_eq_false f2] at k2
    rw [if_neg (fun h => f2 h.2)]
    simp only [Tryz.f247, go_sem]
    refine qcall_i (k1) ?_; simp only [Tryz.f247, go_sem]
    refine qcall_i (k2) ?_; simp only [Tryz.f247, go_sem]
    try rfl
  rw [decide_eq_true f2] at k2
  rw [if_pos ⟨f1, f2⟩]
  have k3 := r_Mul h1 h3
  have k4 := r_Mul h1 h4
  have k5 := r_Mul h2 h3
  have k6 := r_Mul h2 h4
  rw [mulV_lim hl.1 hl'.1 hK] at k3
  rw [mulV_lim hl.1 hl'.2 hK] at k4
  rw [mulV_lim hl.2 hl'.1 hK] at k5
  rw [mulV_lim hl.2 hl'.2 hK] at k6
  have L3 := (hl.1.mul hl'.1).RD (by omega)
  have L4 := (hl.1.mul hl'.2).RD (by omega)
  have L5 := (hl.2.mul hl'.1).RD (by omega)
  have L6 := (hl.2.mul hl'.2).RD (by omega)
  have k7 := q_MinFunc L3 L4 L5 L6
  have k8 := q_MaxFunc L3 L4 L5 L6
  unfold mulI
  generalize mulS i.lo k.lo = m1 at *
  generalize mulS i.lo k.hi = m2 at *
  generalize mulS i.hi k.lo = m3 at *
  generalize mulS i.hi k.hi = m4 at *
  generalize min4 m1 m2 m3 m4 = mn at *
  generalize max4 m1 m2 m3 m4 = mx at *
  have v1 : IntKind.wrap .i64 1 = 1 := by decide
  have v2 : IntKind.wrap .i64 2 = 2 := by decide
  unfold cl4 at k7 k8
  simp only [Dy.pv, DP] at k3 k4 k5 k6 k7 k8
  simp only [Tryz.f247, go_sem]
  refine qcall_i (k1) ?_; simp only [Tryz.f247, go_sem]
  refine qcall_i (k2) ?_; simp only [Tryz.f247, List.range_zero, List.getD_cons_zero, List.getD_cons_succ, Nat.reduceMod, Int.cast_ofNat_Int, go_sem]
  refine qloop_u 3 ?_
  simp only [Tryz.f247, qunr_succ, Int.cast_ofNat_Int, List.range_zero, List.getD_cons_zero, List.getD_cons_succ, Nat.reduceMod, List.filter_cons, List.filter_nil, v1, v2, go_sem]
  refine qloop_u 3 ?_
  simp only [Tryz.f247, qunr_succ, Int.cast_ofNat_Int, List.range_zero, List.getD_cons_zero, List.getD_cons_succ, Nat.reduceMod, List.filter_cons, List.filter_nil, v1, v2, go_sem]
  refine qcall_i (k3) ?_; simp only [Tryz.f247, qunr_succ, Int.cast_ofNat_Int, List.range_zero, List.getD_cons_zero, List.getD_cons_succ, Nat.reduceMod, List.filter_cons, List.filter_nil, v1, v2, go_sem]
  refine qand_i (by simp [maxLen]) ?_
  simp only [Tryz.f247, qunr_succ, Int.cast_ofNat_Int, List.range_zero, List.getD_cons_zero, List.getD_cons_succ, Nat.reduceMod, List.filter_cons, List.filter_nil, v1, v2, go_sem]
  refine qcall_i (k4) ?_; simp only [Tryz.f247, qunr_succ, Int.cast_ofNat_Int, List.range_zero, List.getD_cons_zero, List.getD_cons_succ, Nat.reduceMod, List.filter_cons, List.filter_nil, v1, v2, go_sem]
  refine qand_i (by simp [maxLen]) ?_
  simp only [Tryz.f247, qunr_succ, Int.cast_ofNat_Int, List.range_zero, List.getD_cons_zero, List.getD_cons_succ, Nat.reduceMod, List.filter_cons, List.filter_nil, v1, v2, go_sem]
  refine qloop_u 3 ?_
  simp only [Tryz.f247, qunr_succ, Int.cast_ofNat_Int, List.range_zero, List.getD_cons_zero, List.getD_cons_succ, Nat.reduceMod, List.filter_cons, List.filter_nil, v1, v2, go_sem]
  refine qcall_i (k5) ?_; simp only [Tryz.f247, qunr_succ, Int.cast_ofNat_Int, List.range_zero, List.getD_cons_zero, List.getD_cons_succ, Nat.reduceMod, List.filter_cons, List.filter_nil, v1, v2, go_sem]
  refine qand_i (by simp [maxLen]) ?_
  simp only [Tryz.f247, qunr_succ, Int.cast_ofNat_Int, List.range_zero, List.getD_cons_zero, List.getD_cons_succ, Nat.reduceMod, List.filter_cons, List.filter_nil, v1, v2, go_sem]
  refine qcall_i (k6) ?_; simp only [Tryz.f247, qunr_succ, Int.cast_ofNat_Int, List.range_zero, List.getD_cons_zero, List.getD_cons_succ, Nat.reduceMod, List.filter_cons, List.filter_nil, v1, v2, go_sem]
  refine qand_i (by simp [maxLen]) ?_
  simp only [Tryz.f247, qunr_succ, Int.cast_ofNat_Int, List.range_zero, List.getD_cons_zero, List.getD_cons_succ, Nat.reduceMod, List.filter_cons, List.filter_nil, v1, v2, go_sem]
  refine qcall_i (k7) ?_; simp only [Tryz.f247, go_sem]
  refine qcall_i (k8) ?_; simp only [Tryz.f247, go_sem]
  try rfl
theorem q_Times {p q : PV} {i : Iv} {d : Dy} {K J : Nat} (h : RI p i) (hd : RD q d) (hl : i.lim K) (hl' : Lim J d) (hK : K + J ≤ 32767) : PC E 235 [p, q] (ivV i.right (mulI i ⟨d, d⟩)) := by
  have hd' := hd
  have h' := h
  obtain ⟨s1, P1, e1, s2, P2, e2, rfl, h1, h2⟩ := h'
  obtain ⟨s, P, x, e, rfl, -⟩ := hd'
  have hk : RI (.agg [.bool s, P, .int .i64 e, .bool s, P, .int .i64 e]) ⟨d, d⟩ := ⟨s, P, e, s, P, e, rfl, hd, hd⟩
  have k1 := q_At (s := s) (P := P) (e := e)
  have k2 := q_Mul h hk hl ⟨hl', hl'⟩ hK
  have hr : Iv.right ⟨d, d⟩ := ⟨hl'.fits (by omega), hl'.fits (by omega), by rw [cmp_self]; decide⟩
  refine PC.of_body follows Tryz.func235 (by decide +kernel) rfl (by kernel_rfl) (Nat.le_of_ble_eq_true rfl) (walk ?_)
  unfold ivV at k2 ⊢
  simp only [DP] at k1 k2 ⊢
  by_cases f : i.right
  · rw [if_pos ⟨f, hr⟩] at k2
    rw [if_pos f]
    simp only [Iv.pv] at k2
    simp only [Tryz.f235, go_sem]
    refine qcall_i (k1) ?_; simp only [Tryz.f235, go_sem]
    refine qcall_i (k2) ?_; simp only [Tryz.f235, go_sem]
    try rfl
  · rw [if_neg (fun h => f h.1)] at k2
    rw [if_neg f]
    simp only [Iv.pv] at k2
    simp only [Tryz.f235, go_sem]
    refine qcall_i (k1) ?_; simp only [Tryz.f235, go_sem]
    refine qcall_i (k2) ?_; simp only [Tryz.f235, go_sem]
    try rfl
end
section
open Go PG Go.Proofs
open XX
theorem cD_bits {a n b : Nat} (hn : 0 < n) (h : bitLen a ≤ b) : bitLen (cD a n) ≤ b + 1 := by
  rw [bitLen_le] at *
  have h1 := Nat.div_le_self a n
  rw [Nat.pow_succ]
  have h2 := Nat.two_pow_pos b
  unfold cD
  generalize a / n = q at *
  split <;> omega
theorem div_bits {a n b : Nat} (h : bitLen a ≤ b) : bitLen (a / n) ≤ b := Nat.le_trans (bitLen_mono (Nat.div_le_self a n)) h
theorem NN0 : NN 0 = .lst 0 [] := rfl
theorem k_mul {p q : PV} {x y : Nat} (h : Num p x) (h' : Num q y) (hb : bitLen x + bitLen y ≤ 65536) : PC E 176 [p, q] (.tuple [NN (x * y), .int .i64 0]) := by
  have h1 := k_prodMul h h' (by omega) (by omega)
  unfold pmV at h1
  by_cases h0 : x = 0 ∨ y = 0
  · rw [if_pos h0] at h1
    rw [show x * y = 0 by rcases h0 with h | h <;> rw [h] <;> simp, NN0]
    exact h1
  · rwa [if_neg h0, if_pos hb] at h1
theorem k_small {x n : Nat} (hb : bitLen x ≤ 900000) (hn : n < W) (h0 : n ≠ 0) : PC E 222 [NN x, u n] (.tuple [NN (x / n), u (x % n), .int .i64 0]) := by
  have h := d_Small (l := dg W x) (ok_dg W2 x) (by have := w_of_bits (x := x) (n := 15625) (by omega); omega) hn h0
  rwa [show vl (dg W x) = x from dv_dg W2 x] at h
theorem u_one : PC E 180 [.int .u64 1] (NN 1) := c_Of 1 (by decide)
theorem u_three : PC E 180 [.int .u64 3] (NN 3) := c_Of 3 (by decide)
theorem s_upShift {x : Nat} (hb : bitLen x ≤ 900000) (s : Nat) : PC E 226 [NN x, .int .i64 s] (NN (cD x (2 ^ s))) := by
  have k1 := k_Shrn (num_bits (x := x) (by omega)) s
  have k3 := k_Add (num_bits (x := x / 2 ^ s) (by have := div_bits (n := 2 ^ s) hb; omega)) (num_bits (x := 1) (by decide))
  have k2 := u_one
  unfold cD
  by_cases h : x % 2 ^ s = 0
  · rw [if_pos h, Nat.add_zero]
    rw [decide_eq_false (fun h' => h' h)] at k1
    simp only [NN, NL] at *
    refine PC.of_body follows Tryz.func226 (by decide +kernel) rfl (by kernel_rfl) (Nat.le_of_ble_eq_true rfl) (walk ?_)
    simp only [Tryz.f226, go_sem]
    refine qcall_i (k1) ?_; simp only [Tryz.f226, go_sem]
    try rfl
  · rw [if_neg h]
    rw [decide_eq_true h] at k1
    simp only [NN, NL] at *
    refine PC.of_body follows Tryz.func226 (by decide +kernel) rfl (by kernel_rfl) (Nat.le_of_ble_eq_true rfl) (walk ?_)
    simp only [Tryz.f226, go_sem]
    refine qcall_i (k1) ?_; simp only [Tryz.f226, go_sem]
    refine qcall_i (k2) ?_; simp only [Tryz.f226, go_sem]
    refine qcall_i (k3) ?_; simp only [Tryz.f226, go_sem]
    try rfl
def pnv (p : PN) : PV := .agg [NN p.lo, NN p.hi]
def PLe (p : PN) (n : Nat) : Prop := bitLen p.lo ≤ n ∧ bitLen p.hi ≤ n
theorem s_scale (s : Int) : PC E 182 [.int .i64 s] (.bool (decide (8 ≤ s) && decide (s ≤ 9000))) := by
  refine PC.of_body follows Tryz.func182 (by decide +kernel) rfl (by kernel_rfl) (Nat.le_of_ble_eq_true rfl) (walk ?_)
  simp only [Tryz.f182, go_sem]
  refine qif_d (fun h => ?_) (fun h => ?_)
  · rw [decide_eq_true (show 8 ≤ s from h)]
    simp only [Tryz.f182, go_sem]
    try rfl
  · rw [decide_eq_false (show ¬ 8 ≤ s from h)]
    simp only [Tryz.f182, go_sem]
    try rfl
theorem p_times {p q : PN} {n : Nat} (hp : PLe p n) (hq : PLe q n) (hn : n ≤ 30000) (s : Nat) : PC E 183 [pnv p, pnv q, .int .i64 s] (pnv (p.times q s)) := by
  have b1 := bitLen_mul_le p.lo q.lo
  have b2 := bitLen_mul_le p.hi q.hi
  obtain ⟨h1, h2⟩ := hp
  obtain ⟨h3, h4⟩ := hq
  have k1 := k_mul (num_bits (x := p.lo) (by omega)) (num_bits (x := q.lo) (by omega)) (by omega)
  have k2 := k_mul (num_bits (x := p.hi) (by omega)) (num_bits (x := q.hi) (by omega)) (by omega)
  have k3 := k_Shrn (num_bits (x := p.lo * q.lo) (by omega)) s
  have k4 := s_upShift (x := p.hi * q.hi) (by omega) s
  unfold pnv PN.times
  dsimp only
  simp only [NN, NL] at *
  refine PC.of_body follows Tryz.func183 (by decide +kernel) rfl (by kernel_rfl) (Nat.le_of_ble_eq_true rfl) (walk ?_)
  simp only [Tryz.f183, go_sem]
  refine qcall_i (k1) ?_; simp only [Tryz.f183, go_sem]
  refine qcall_i (k2) ?_; simp only [Tryz.f183, go_sem]
  refine qcall_i (k3) ?_; simp only [Tryz.f183, go_sem]
  refine qcall_i (k4) ?_; simp only [Tryz.f183, go_sem]
  try rfl
theorem p_by {p : PN} {b n : Nat} (hp : PLe p b) (hb : b ≤ 100000) (hn : n < W) (h0 : n ≠ 0) : PC E 184 [pnv p, .int .u64 n] (pnv (p.part n)) := by
  obtain ⟨h1, h2⟩ := hp
  have k1 := k_small (x := p.lo) (by omega) hn h0
  have k2 := k_small (x := p.hi) (by omega) hn h0
  have k3 := u_one
  have k4 := k_Add (num_bits (x := p.hi / n) (by have := div_bits (n := n) h2; omega)) (num_bits (x := 1) (by decide))
  simp only [u] at k1 k2
  unfold pnv PN.part cD
  dsimp only
  generalize p.lo % n = r1 at *
  by_cases h : p.hi % n = 0
  · rw [if_pos h, Nat.add_zero]
    rw [h] at k2
    simp only [NN, NL] at *
    refine PC.of_body follows Tryz.func184 (by decide +kernel) rfl (by kernel_rfl) (Nat.le_of_ble_eq_true rfl) (walk ?_)
    simp only [Tryz.f184, go_sem]
    refine qcall_i (k1) ?_; simp only [Tryz.f184, go_sem]
    refine qcall_i (k2) ?_; simp only [Tryz.f184, go_sem]
    refine qif_df (by decide) ?_
    simp only [Tryz.f184, go_sem]
    try rfl
  · rw [if_neg h]
    have hr : ((p.hi % n : Nat) : Int) > 0 := by omega
    simp only [NN, NL] at *
    refine PC.of_body follows Tryz.func184 (by decide +kernel) rfl (by kernel_rfl) (Nat.le_of_ble_eq_true rfl) (walk ?_)
    simp only [Tryz.f184, go_sem]
    refine qcall_i (k1) ?_; simp only [Tryz.f184, go_sem]
    refine qcall_i (k2) ?_; simp only [Tryz.f184, go_sem]
    refine qif_dt hr ?_
    simp only [Tryz.f184, go_sem]
    refine qcall_i (k3) ?_; simp only [Tryz.f184, go_sem]
    refine qcall_i (k4) ?_; simp only [Tryz.f184, go_sem]
    try rfl
theorem p_plus {p q : PN} {n : Nat} (hp : PLe p n) (hq : PLe q n) (hn : n ≤ 100000) : PC E 185 [pnv p, pnv q] (pnv (p.plus q)) := by
  obtain ⟨h1, h2⟩ := hp
  obtain ⟨h3, h4⟩ := hq
  have k1 := k_Add (num_bits (x := p.lo) (by omega)) (num_bits (x := q.lo) (by omega))
  have k2 := k_Add (num_bits (x := p.hi) (by omega)) (num_bits (x := q.hi) (by omega))
  unfold pnv PN.plus
  dsimp only
  simp only [NN, NL] at *
  refine PC.of_body follows Tryz.func185 (by decide +kernel) rfl (by kernel_rfl) (Nat.le_of_ble_eq_true rfl) (walk ?_)
  simp only [Tryz.f185, go_sem]
  refine qcall_i (k1) ?_; simp only [Tryz.f185, go_sem]
  refine qcall_i (k2) ?_; simp only [Tryz.f185, go_sem]
  try rfl
theorem p_rest {p q : PN} {n : Nat} (hp : PLe p n) (hq : PLe q n) (hn : n ≤ 100000) : PC E 186 [pnv p, pnv q] (pnv (p.rest q)) := by
  obtain ⟨h1, h2⟩ := hp
  obtain ⟨h3, h4⟩ := hq
  have k1 := k_Add (num_bits (x := q.hi) (by omega)) (num_bits (x := q.hi) (by omega))
  have k2 := k_Add (num_bits (x := p.hi) (by omega)) (num_bits (x := q.hi + q.hi) (by have := bitLen_add h4 h4; omega))
  unfold pnv PN.rest
  dsimp only
  simp only [NN, NL] at *
  refine PC.of_body follows Tryz.func186 (by decide +kernel) rfl (by kernel_rfl) (Nat.le_of_ble_eq_true rfl) (walk ?_)
  simp only [Tryz.f186, go_sem]
  refine qcall_i (k1) ?_; simp only [Tryz.f186, go_sem]
  refine qcall_i (k2) ?_; simp only [Tryz.f186, go_sem]
  try rfl
theorem NN_len {x : Nat} : ∃ l cs, NN x = .lst l cs ∧ (l = 0 ↔ x = 0) := ⟨_, _, rfl, fun h => dg_nil h, fun h => by rw [h]; rfl⟩
theorem s_fraction {x y : Nat} (hx : bitLen x ≤ 5000) (hy : bitLen y ≤ 5000) (h0 : y ≠ 0) {s : Nat} (hs : s ≤ 9000) : PC E 190 [NN x, NN y, .int .i64 s] (pnv (fracS x y s)) := by
  have hb := bitLen_shl_le x s
  have k1 := k_Shln (num_bits (x := x) (by omega)) s (by omega)
  have k2 := k_Div (num_bits (x := x * 2 ^ s) (by omega)) (num_bits (x := y) (by omega)) (by omega) (by omega) h0
  have hd := div_bits (n := y) (Nat.le_refl (bitLen (x * 2 ^ s)))
  have k3 := u_one
  have k4 := k_Add (num_bits (x := x * 2 ^ s / y) (by omega)) (num_bits (x := 1) (by decide))
  unfold pnv fracS cD
  dsimp only
  obtain ⟨l, cs, e, hl⟩ := NN_len (x := x * 2 ^ s % y)
  rw [e] at k2
  by_cases h : x * 2 ^ s % y = 0
  · rw [if_pos h, Nat.add_zero]
    have hl0 := hl.2 h
    subst hl0
    simp only [NN, NL] at *
    refine PC.of_body follows Tryz.func190 (by decide +kernel) rfl (by kernel_rfl) (Nat.le_of_ble_eq_true rfl) (walk ?_)
    simp only [Tryz.f190, go_sem]
    refine qcall_i (k1) ?_; simp only [Tryz.f190, go_sem]
    refine qcall_i (k2) ?_; simp only [Tryz.f190, go_sem]
    refine qif_df (by decide) ?_
    simp only [Tryz.f190, go_sem]
    try rfl
  · rw [if_neg h]
    have hl0 : (l : Int) > 0 := by have : l ≠ 0 := fun h' => h (hl.1 h'); omega
    simp only [NN, NL] at *
    refine PC.of_body follows Tryz.func190 (by decide +kernel) rfl (by kernel_rfl) (Nat.le_of_ble_eq_true rfl) (walk ?_)
    simp only [Tryz.f190, go_sem]
    refine qcall_i (k1) ?_; simp only [Tryz.f190, go_sem]
    refine qcall_i (k2) ?_; simp only [Tryz.f190, go_sem]
    refine qif_dt hl0 ?_
    simp only [Tryz.f190, go_sem]
    refine qcall_i (k3) ?_; simp only [Tryz.f190, go_sem]
    refine qcall_i (k4) ?_; simp only [Tryz.f190, go_sem]
    try rfl
end
section
open Go PG Go.Proofs
open XX
theorem cD_pos {a n : Nat} (hn : 1 ≤ n) : cD a n ≤ a := cD_le hn (Nat.le_mul_of_pos_right a hn)
structure AtJ (s : Nat) (sq : PN) (R : PN × PN) (f : Nat) (sum term : PN) (n : Nat) : Prop where
  res : atLoop s sq f sum term n = R
  lo : term.lo ≤ 2 ^ s
  hi : term.hi ≤ 2 ^ s
  z : term.lo < 2 ^ f
  slo : sum.lo ≤ n * 2 ^ s
  shi : sum.hi ≤ n * 2 ^ s
  c : n + 2 * f = 2 * (s + 2) + 1
  odd : 1 ≤ n
structure SqJ (s : Nat) (sq : PN) : Prop where
  lo : 2 * sq.lo ≤ 2 ^ s
  hi : sq.hi ≤ 2 ^ s
theorem mul_div_le {a b S : Nat} (h : a ≤ S) (hb : 2 * b ≤ S) (hS : 0 < S) : a * b / S ≤ a / 2 := by
  rw [Nat.le_div_iff_mul_le (by decide)]
  have h1 : a * b / S * S ≤ a * b := Nat.div_mul_le_self _ _
  refine Nat.le_of_mul_le_mul_right (c := S) ?_ hS
  have h2 : a * b * 2 ≤ a * S := by rw [Nat.mul_assoc, Nat.mul_comm b 2]; exact Nat.mul_le_mul_left a hb
  have : a * b / S * 2 * S = a * b / S * S * 2 := by rw [Nat.mul_assoc, Nat.mul_assoc, Nat.mul_comm 2 S]
  omega
theorem cD_mul_le {a b S : Nat} (h : a ≤ S) (hb : b ≤ S) (hS : 0 < S) : cD (a * b) S ≤ S := cD_le hS (Nat.mul_le_mul h hb)
theorem AtJ.step {s : Nat} {sq : PN} {R : PN × PN} {f : Nat} {sum term : PN} {n : Nat} (h : AtJ s sq R f sum term n) (hq : SqJ s sq) (h0 : term.lo ≠ 0) :
    ∃ g, f = g + 1 ∧ AtJ s sq R g (sum.plus (term.part n)) (term.times sq s) (n + 2) := by
  have hS := Nat.two_pow_pos s
  cases f with
  | zero => have := h.z; omega
  | succ g =>
    refine ⟨g, rfl, ?_⟩
    have hr := h.res
    unfold atLoop at hr
    rw [if_neg h0] at hr
    have h1 := mul_div_le h.lo hq.lo hS
    have h2 := Nat.div_le_self term.lo n
    have h3 := cD_pos (a := term.hi) h.odd
    have h4 := h.lo
    have h5 := h.hi
    have h6 := h.slo
    have h7 := h.shi
    have e : (n + 2) * 2 ^ s = n * 2 ^ s + 2 * 2 ^ s := Nat.add_mul _ _ _
    exact ⟨hr, Nat.le_trans h1 (by omega), cD_mul_le h.hi hq.hi hS, by
      show term.lo * sq.lo / 2 ^ s < _
      have := h.z
      rw [Nat.pow_succ] at this
      omega, by
      show sum.lo + term.lo / n ≤ _
      rw [e]; omega, by
      show sum.hi + cD term.hi n ≤ _
      rw [e]; omega, by have := h.c; omega, by omega⟩
theorem bits_two {a s : Nat} (h : a ≤ 2 ^ s) : bitLen a ≤ s + 1 := by
  rw [bitLen_le, Nat.pow_succ]
  have := Nat.two_pow_pos s
  omega
theorem bits_mul {a n s : Nat} (h : a ≤ n * 2 ^ s) (hn : n ≤ 20000) : bitLen a ≤ s + 15 := by
  rw [bitLen_le, Nat.pow_add]
  have h1 := Nat.two_pow_pos s
  have h2 : n * 2 ^ s < 2 ^ 15 * 2 ^ s := Nat.mul_lt_mul_of_pos_right (Nat.lt_of_le_of_lt hn (by decide)) h1
  rw [Nat.mul_comm (2 ^ s)]
  omega
theorem AtJ.bits {s : Nat} {sq : PN} {R : PN × PN} {f : Nat} {sum term : PN} {n : Nat} (h : AtJ s sq R f sum term n) (hs : s ≤ 9000) : PLe term 9100 ∧ PLe sum 9100 ∧ n ≤ 18005 := by
  have h1 := bits_two h.lo
  have h2 := bits_two h.hi
  have hc := h.c
  have h3 := bits_mul h.slo (by omega)
  have h4 := bits_mul h.shi (by omega)
  exact ⟨⟨by omega, by omega⟩, ⟨by omega, by omega⟩, by omega⟩
theorem SqJ.bits {s : Nat} {sq : PN} (h : SqJ s sq) (hs : s ≤ 9000) : PLe sq 9100 := by
  have h1 := bits_two (a := sq.lo) (s := s) (by have := h.lo; omega)
  have h2 := bits_two h.hi
  exact ⟨by omega, by omega⟩
theorem at_start {num den s : Nat} (hd : 0 < den) (h3 : 3 * num ≤ den) : SqJ s ((fracS num den s).times (fracS num den s) s) ∧ AtJ s ((fracS num den s).times (fracS num den s) s) (atR num den s) (s + 2) ⟨0, 0⟩ (fracS num den s) 1 := by
  have hS := Nat.two_pow_pos s
  have hlo : 3 * (fracS num den s).lo ≤ 2 ^ s := by
    show 3 * (num * 2 ^ s / den) ≤ 2 ^ s
    have h1 : num * 2 ^ s / den * den ≤ num * 2 ^ s := Nat.div_mul_le_self _ _
    refine Nat.le_of_mul_le_mul_right (c := den) ?_ hd
    have h2 : 3 * num * 2 ^ s ≤ den * 2 ^ s := Nat.mul_le_mul_right _ h3
    rw [Nat.mul_assoc] at h2
    rw [Nat.mul_assoc, Nat.mul_comm (2 ^ s) den]
    omega
  have hhi : (fracS num den s).hi ≤ 2 ^ s := cD_le hd (by
    rw [Nat.mul_comm]
    exact Nat.mul_le_mul_left _ (by omega))
  unfold atR
  generalize fracS num den s = t at *
  have hq : 2 * (t.times t s).lo ≤ 2 ^ s := by
    show 2 * (t.lo * t.lo / 2 ^ s) ≤ 2 ^ s
    have := mul_div_le (a := t.lo) (b := t.lo) (S := 2 ^ s) (by omega) (by omega) hS
    omega
  refine ⟨⟨hq, cD_mul_le hhi hhi hS⟩, ?_⟩
  exact ⟨rfl, by omega, hhi, by rw [Nat.pow_add]; omega, by show 0 ≤ _; omega, by show 0 ≤ _; omega, by omega, by omega⟩
set_option maxHeartbeats 4000000 in
theorem s_Atanh {num den : Nat} (hn : bitLen num ≤ 4096) (hdb : bitLen den ≤ 4096) (hd : 0 < den) (h3 : 3 * num ≤ den) {s : Nat} (h8 : 8 ≤ s) (hs : s ≤ 9000) :
    PC E 114 [NN num, NN den, .int .i64 s] (.tuple [NN (atanhS num den s).lo, NN (atanhS num den s).hi, .int .i64 0]) := by
  have b3 : bitLen 3 = 2 := by decide
  have k1 := u_three
  have k2 := k_mul (num_bits (x := num) (by omega)) (num_bits (x := 3) (by decide)) (by rw [b3]; omega)
  have k3 := s_scale s
  rw [decide_eq_true (show (8 : Int) ≤ s by omega), decide_eq_true (show (s : Int) ≤ 9000 by omega), Bool.and_true] at k3
  have k4 := k_Bits (num_bits (x := num) (by omega))
  have k5 := k_Bits (num_bits (x := den) (by omega))
  have k6 := k_Cmp (num_bits (x := num * 3) (by have := bitLen_mul_le num 3; omega)) (num_bits (x := den) (by omega))
  have kT : PC E 189 [NN num, .int .u64 3] (.tuple [NN (num * 3), .int .i64 0]) := by
    simp only [NN, NL] at k1 k2 ⊢
    refine PC.of_body follows Tryz.func189 (by decide +kernel) rfl (by kernel_rfl) (Nat.le_of_ble_eq_true rfl) (walk ?_)
    simp only [Tryz.f189, go_sem]
    refine qcall_i (k1) ?_; simp only [Tryz.f189, go_sem]
    refine qcall_i (k2) ?_; simp only [Tryz.f189, go_sem]
    try rfl
  have hsg : ¬ sgn ((num * 3 : Nat) : Int) (den : Int) > 0 := by
    have := sgn_le ((num * 3 : Nat) : Int) (den : Int)
    omega
  have hden0 : ¬ (bitLen den : Int) = 0 := by
    have := bitLen_pos (x := den) (by omega)
    omega
  have k7 := s_fraction (x := num) (y := den) (by omega) (by omega) (by omega) hs
  obtain ⟨hq, hJ⟩ := at_start (s := s) hd h3
  unfold atanhS
  by_cases hz : num = 0
  · rw [if_pos hz]
    have hb0 : bitLen num = 0 := by rw [hz]; rfl
    show PC E _ _ (.tuple [.lst 0 [], .lst 0 [], .int .i64 0])
    simp only [NN, NL] at k4 k5 k6 kT ⊢
    refine PC.of_body follows Tryz.func114 (by decide +kernel) rfl (by kernel_rfl) (Nat.le_of_ble_eq_true rfl) (walk ?_)
    simp only [Tryz.f114, go_sem]
    refine qcall_i (kT) ?_; simp only [Tryz.f114, go_sem]
    refine qcall_i (k3) ?_; simp only [Tryz.f114, go_sem]
    refine qcall_i (k4) ?_; simp only [Tryz.f114, go_sem]
    refine qif_df (by omega) ?_
    simp only [Tryz.f114, go_sem]
    refine qcall_i (k5) ?_; simp only [Tryz.f114, go_sem]
    refine qif_df (by omega) ?_
    simp only [Tryz.f114, go_sem]
    refine qcall_i (k5) ?_; simp only [Tryz.f114, go_sem]
    refine qif_df hden0 ?_
    simp only [Tryz.f114, go_sem]
    refine qcall_i (k6) ?_; simp only [Tryz.f114, go_sem]
    refine qif_df hsg ?_
    simp only [Tryz.f114, go_sem]
    refine qcall_i (k4) ?_; simp only [Tryz.f114, go_sem]
    refine qif_dt (by omega) ?_
    simp only [Tryz.f114, go_sem]
    try rfl
  rw [if_neg hz]
  have hnb : ¬ (bitLen num : Int) = 0 := by
    have := bitLen_pos (x := num) hz
    omega
  have hb1 := hJ.bits hs
  have k8 := p_times hb1.1 hb1.1 (by omega) s
  have hqb := hq.bits hs
  generalize fracS num den s = t at *
  generalize t.times t s = sq at *
  generalize atR num den s = R at *
  have kl : ∀ (f : Nat) (sum term : PN) (n : Nat), AtJ s sq R f sum term n →
      PC E 61 [NN term.lo] (.int .i64 (bitLen term.lo)) ∧ PC E 184 [pnv term, .int .u64 n] (pnv (term.part n)) ∧ PC E 185 [pnv sum, pnv (term.part n)] (pnv (sum.plus (term.part n))) ∧
      PC E 183 [pnv term, pnv sq, .int .i64 s] (pnv (term.times sq s)) ∧ PC E 186 [pnv sum, pnv term] (pnv (sum.rest term)) := fun f sum term n hj => by
    obtain ⟨b1, b2, b3⟩ := hj.bits hs
    refine ⟨k_Bits (num_bits (by have := b1.1; omega)), p_by b1 (by omega) (Nat.lt_of_le_of_lt b3 (by decide)) (by have := hj.odd; omega), ?_, p_times b1 hqb (by omega) s, p_rest b2 b1 (by omega)⟩
    have hp : PLe (term.part n) 9101 := ⟨Nat.le_trans (div_bits b1.1) (by omega), cD_bits (by have := hj.odd; omega) b1.2⟩
    exact p_plus ⟨Nat.le_trans b2.1 (by omega), Nat.le_trans b2.2 (by omega)⟩ hp (by omega)
  simp only [pnv, NN, NL] at k4 k5 k6 k7 k8 kT kl ⊢
  refine PC.of_body follows Tryz.func114 (by decide +kernel) rfl (by kernel_rfl) (Nat.le_of_ble_eq_true rfl) (walk ?_)
  simp only [Tryz.f114, go_sem]
  refine qcall_i (kT) ?_; simp only [Tryz.f114, go_sem]
  refine qcall_i (k3) ?_; simp only [Tryz.f114, go_sem]
  refine qcall_i (k4) ?_; simp only [Tryz.f114, go_sem]
  refine qif_df (by omega) ?_
  simp only [Tryz.f114, go_sem]
  refine qcall_i (k5) ?_; simp only [Tryz.f114, go_sem]
  refine qif_df (by omega) ?_
  simp only [Tryz.f114, go_sem]
  refine qcall_i (k5) ?_; simp only [Tryz.f114, go_sem]
  refine qif_df hden0 ?_
  simp only [Tryz.f114, go_sem]
  refine qcall_i (k6) ?_; simp only [Tryz.f114, go_sem]
  refine qif_df hsg ?_
  simp only [Tryz.f114, go_sem]
  refine qcall_i (k4) ?_; simp only [Tryz.f114, go_sem]
  refine qif_df hnb ?_
  simp only [Tryz.f114, go_sem]
  refine qcall_i (k7) ?_; simp only [Tryz.f114, go_sem]
  refine qcall_i (k8) ?_; simp only [Tryz.f114, go_sem]
  clear k1 k2 k3 k4 k5 k6 k7 k8 kT
  refine PLoop.intro (fun i : Nat × PN × PN × Nat => ⟨[(2, .val (.int .i64 s)), (11, .ptr 11 0), (12, .ptr 12 0), (13, .ptr 13 0), (14, .val (.int .u64 i.2.2.2))],
    [(11, (.box [.lst (dg W i.2.2.1.lo).length (U (dg W i.2.2.1.lo)), .lst (dg W i.2.2.1.hi).length (U (dg W i.2.2.1.hi))], false)), (12, (.box [.lst (dg W sq.lo).length (U (dg W sq.lo)), .lst (dg W sq.hi).length (U (dg W sq.hi))], false)),
     (13, (.box [.lst (dg W i.2.1.lo).length (U (dg W i.2.1.lo)), .lst (dg W i.2.1.hi).length (U (dg W i.2.1.hi))], false))]⟩)
    (fun i => AtJ s sq R i.1 i.2.1 i.2.2.1 i.2.2.2) (fun i => i.1) (s + 2, ⟨0, 0⟩, t, 1) hJ ?_ fun i hi => walk ?_
  · simp [Wk, sget, killL, kill1, SV.key]
    try exact ⟨rfl, rfl⟩
  obtain ⟨f, sum, term, n⟩ := i
  dsimp only at hi
  have hstep := hi.step hq
  obtain ⟨l1, l2, l3, l4, l5⟩ := kl f sum term n hi
  obtain ⟨-, -, hn2⟩ := hi.bits hs
  have hres := hi.res
  clear kl
  have wn : IntKind.wrap .u64 ((n : Int) + 2) = ((n + 2 : Nat) : Int) := wrap_nat64 (a := n + 2) (Nat.lt_of_le_of_lt (show n + 2 ≤ 18007 by omega) (by decide))
  simp only [Tryz.f114, go_sem]
  refine qcall_i (l1) ?_; simp only [Tryz.f114, go_sem]
  by_cases h0 : term.lo = 0
  · have hb0 : bitLen term.lo = 0 := by rw [h0]; rfl
    have hR : R = (sum, term) := by
      rw [← hres]
      cases f with
      | zero => rfl
      | succ f => unfold atLoop; rw [if_pos h0]
    refine qif_df (by omega) ?_
    simp only [Tryz.f114, go_sem]
    refine qcall_i (l5) ?_; simp only [Tryz.f114, go_sem]
    subst hR
    exact ⟨⟨rfl, rfl⟩, rfl, rfl⟩
  · refine qif_dt (by have := bitLen_pos (x := term.lo) h0; omega) ?_
    simp only [Tryz.f114, go_sem]
    refine qcall_i (l2) ?_; simp only [Tryz.f114, go_sem]
    refine qcall_i (l3) ?_; simp only [Tryz.f114, go_sem]
    refine qcall_i (l4) ?_; simp only [Tryz.f114, wn, go_sem]
    obtain ⟨g, rfl, hj⟩ := hstep h0
    refine ⟨(g, sum.plus (term.part n), term.times sq s, n + 2), hj, Nat.lt_succ_self g, ?_⟩
    simp [Wk, sget, killL, kill1, SV.key]
end
section
open Go PG Go.Proofs
open XX
theorem atR_J {num den s : Nat} (hd : 0 < den) (h3 : 3 * num ≤ den) : ∃ f n, n ≤ 2 * (s + 2) + 1 ∧ (atR num den s).1.lo ≤ n * 2 ^ s ∧ (atR num den s).1.hi ≤ n * 2 ^ s ∧ (atR num den s).2.hi ≤ 2 ^ s ∧ f = n := by
  obtain ⟨hq, hJ⟩ := at_start (s := s) hd h3
  obtain ⟨sq, hsq⟩ : ∃ sq, sq = (fracS num den s).times (fracS num den s) s := ⟨_, rfl⟩
  rw [← hsq] at hq hJ
  have main : ∀ (f : Nat) (sum term : PN) (n : Nat), AtJ s sq (atR num den s) f sum term n → ∃ n, n ≤ 2 * (s + 2) + 1 ∧ (atR num den s).1.lo ≤ n * 2 ^ s ∧ (atR num den s).1.hi ≤ n * 2 ^ s ∧ (atR num den s).2.hi ≤ 2 ^ s := by
    intro f
    induction f with
    | zero =>
      intro sum term n h
      have e : atR num den s = (sum, term) := h.res.symm
      rw [e]
      exact ⟨n, by have := h.c; omega, h.slo, h.shi, h.hi⟩
    | succ f ih =>
      intro sum term n h
      by_cases h0 : term.lo = 0
      · have e : atR num den s = (sum, term) := by
          rw [← h.res]; unfold atLoop; rw [if_pos h0]
        rw [e]
        exact ⟨n, by have := h.c; omega, h.slo, h.shi, h.hi⟩
      · obtain ⟨g, hg, hj⟩ := h.step hq h0
        obtain rfl : g = f := by omega
        exact ih _ _ _ hj
  obtain ⟨n, h⟩ := main _ _ _ _ hJ
  exact ⟨n, n, h.1, h.2.1, h.2.2.1, h.2.2.2, rfl⟩
theorem atanhS_bits {num den s : Nat} (hd : 0 < den) (h3 : 3 * num ≤ den) (hs : s ≤ 9000) : PLe (atanhS num den s) (s + 16) := by
  unfold atanhS
  by_cases h0 : num = 0
  · rw [if_pos h0]
    exact ⟨Nat.le_trans (show bitLen 0 ≤ 0 by decide) (Nat.zero_le _), Nat.le_trans (show bitLen 0 ≤ 0 by decide) (Nat.zero_le _)⟩
  rw [if_neg h0]
  obtain ⟨f, n, h1, h2, h4, h5, -⟩ := atR_J (s := s) hd h3
  refine ⟨Nat.le_trans (bits_mul h2 (by omega)) (by omega), ?_⟩
  have e : (n + 2) * 2 ^ s = n * 2 ^ s + 2 * 2 ^ s := Nat.add_mul _ _ _
  exact Nat.le_trans (bits_mul (s := s) (n := n + 2) (by show (atR num den s).1.hi + ((atR num den s).2.hi + (atR num den s).2.hi) ≤ _; omega) (by omega)) (by omega)
theorem ln2S_bits {s : Nat} (hs : s ≤ 9000) : PLe (ln2S s) (s + 17) := by
  obtain ⟨h1, h2⟩ := atanhS_bits (num := 1) (den := 3) (s := s) (by decide) (by decide) hs
  exact ⟨bitLen_add h1 h1, bitLen_add h2 h2⟩
theorem s_Ln2 {s : Nat} (h8 : 8 ≤ s) (hs : s ≤ 9000) : PC E 116 [.int .i64 s] (.tuple [NN (ln2S s).lo, NN (ln2S s).hi, .int .i64 0]) := by
  have k1 := u_one
  have k2 := u_three
  have k3 := s_Atanh (num := 1) (den := 3) (by decide) (by decide) (by decide) (by decide) h8 hs
  obtain ⟨h1, h2⟩ := atanhS_bits (num := 1) (den := 3) (s := s) (by decide) (by decide) hs
  have k4 := k_Add (num_bits (x := (atanhS 1 3 s).lo) (by omega)) (num_bits (x := (atanhS 1 3 s).lo) (by omega))
  have k5 := k_Add (num_bits (x := (atanhS 1 3 s).hi) (by omega)) (num_bits (x := (atanhS 1 3 s).hi) (by omega))
  show PC E _ _ (.tuple [NN ((atanhS 1 3 s).lo + (atanhS 1 3 s).lo), NN ((atanhS 1 3 s).hi + (atanhS 1 3 s).hi), .int .i64 0])
  generalize (atanhS 1 3 s).lo = L at *
  generalize (atanhS 1 3 s).hi = H at *
  simp only [NN, NL] at k1 k2 k3 k4 k5 ⊢
  refine PC.of_body follows Tryz.func116 (by decide +kernel) rfl (by kernel_rfl) (Nat.le_of_ble_eq_true rfl) (walk ?_)
  simp only [Tryz.f116, go_sem]
  refine qcall_i (k1) ?_; simp only [Tryz.f116, go_sem]
  refine qcall_i (k2) ?_; simp only [Tryz.f116, go_sem]
  refine qcall_i (k3) ?_; simp only [Tryz.f116, go_sem]
  refine qcall_i (k4) ?_; simp only [Tryz.f116, go_sem]
  refine qcall_i (k5) ?_; simp only [Tryz.f116, go_sem]
  try rfl
structure ExJ (s : Nat) (x : PN) (R : PN × PN) (f : Nat) (sum term : PN) (n : Nat) : Prop where
  res : exLoop s x f sum term n = R
  lo : term.lo ≤ 2 ^ s
  hi : term.hi ≤ 2 ^ s
  slo : sum.lo ≤ n * 2 ^ s
  shi : sum.hi ≤ n * 2 ^ s
  c : n + f = s + 3
  one : 1 ≤ n
  z : n = 1 ∨ (2 ≤ n ∧ 2 ≤ term.hi ∧ term.hi ≤ 2 ^ (f - 1))
theorem ExJ.start {a b s : Nat} : ExJ s ⟨a, b⟩ (exR a b s) (s + 2) ⟨2 ^ s, 2 ^ s⟩ ⟨2 ^ s, 2 ^ s⟩ 1 :=
  ⟨rfl, Nat.le_refl _, Nat.le_refl _, by show 2 ^ s ≤ _; omega, by show 2 ^ s ≤ _; omega, by omega, Nat.le_refl _, .inl rfl⟩
theorem cD_half {a n k : Nat} (hn : 2 ≤ n) (h : a ≤ 2 ^ (k + 1)) : cD a n ≤ 2 ^ k := cD_le (by omega) (by
  rw [Nat.pow_succ] at h
  exact Nat.le_trans h (Nat.mul_le_mul_left _ hn))
theorem ExJ.fuel {s : Nat} {x : PN} {R : PN × PN} {f : Nat} {sum term : PN} {n : Nat} (h : ExJ s x R f sum term n) : ∃ g, f = g + 1 := by
  refine ⟨f - 1, ?_⟩
  rcases h.z with h1 | ⟨-, h1, h2⟩
  · have := h.c; omega
  · rcases Nat.eq_zero_or_pos f with h3 | h3
    · rw [h3] at h2
      have : term.hi ≤ 1 := h2
      omega
    · omega
theorem ExJ.next {s : Nat} {x : PN} {R : PN × PN} {g : Nat} {sum term : PN} {n : Nat} (h : ExJ s x R (g + 1) sum term n) (hx : x.lo ≤ 2 ^ s ∧ x.hi ≤ 2 ^ s) :
    ((term.times x s).part n).lo ≤ 2 ^ s ∧ ((term.times x s).part n).hi ≤ 2 ^ s ∧ (sum.plus ((term.times x s).part n)).lo ≤ (n + 1) * 2 ^ s ∧ (sum.plus ((term.times x s).part n)).hi ≤ (n + 1) * 2 ^ s ∧ (term.times x s).lo ≤ 2 ^ s ∧ (term.times x s).hi ≤ 2 ^ s := by
  have hS := Nat.two_pow_pos s
  have h1 : (term.times x s).lo ≤ 2 ^ s := by
    show term.lo * x.lo / 2 ^ s ≤ _
    refine Nat.div_le_of_le_mul ?_
    exact Nat.mul_le_mul h.lo hx.1
  have h2 : (term.times x s).hi ≤ 2 ^ s := cD_mul_le h.hi hx.2 hS
  generalize term.times x s = t at *
  have h3 : (t.part n).lo ≤ 2 ^ s := Nat.le_trans (Nat.div_le_self _ _) h1
  have h4 : (t.part n).hi ≤ 2 ^ s := Nat.le_trans (cD_pos h.one) h2
  have e : (n + 1) * 2 ^ s = n * 2 ^ s + 2 ^ s := Nat.succ_mul _ _
  have h5 := h.slo
  have h6 := h.shi
  exact ⟨h3, h4, by show sum.lo + _ ≤ _; omega, by show sum.hi + _ ≤ _; omega, h1, h2⟩
theorem ExJ.step {s : Nat} {x : PN} {R : PN × PN} {g : Nat} {sum term : PN} {n : Nat} (h : ExJ s x R (g + 1) sum term n) (hx : x.lo ≤ 2 ^ s ∧ x.hi ≤ 2 ^ s) (h0 : ¬ (term.lo = 0 ∧ x.hi = 0)) (h1 : ¬ ((term.times x s).part n).hi ≤ 1) :
    ExJ s x R g (sum.plus ((term.times x s).part n)) ((term.times x s).part n) (n + 1) := by
  obtain ⟨a1, a2, a3, a4, a5, a6⟩ := h.next hx
  have hr := h.res
  unfold exLoop at hr
  rw [if_neg h0, if_neg h1] at hr
  refine ⟨hr, a1, a2, a3, a4, by have := h.c; omega, by omega, .inr ⟨by have := h.one; omega, by omega, ?_⟩⟩
  have hS := Nat.two_pow_pos s
  rcases h.z with h2 | ⟨hn, h2, h3⟩
  · have := h.c
    rw [show g - 1 = s by omega]
    exact a2
  · have h4 : (term.times x s).hi ≤ 2 ^ (g - 1 + 1) := by
      have hg : 1 ≤ g := by
        rcases Nat.eq_zero_or_pos g with h5 | h5
        · rw [h5] at h3
          have : term.hi ≤ 1 := h3
          omega
        · exact h5
      rw [show g - 1 + 1 = g by omega]
      refine Nat.le_trans (cD_le hS (Nat.mul_le_mul_left _ hx.2)) ?_
      simpa using h3
    exact cD_half hn h4
theorem bitLen_two2 (n : Nat) : bitLen (2 ^ n) ≤ n + 1 := (bitLen_le _ _).2 (Nat.pow_lt_pow_right (by decide) (Nat.lt_succ_self n))
theorem bits_le_one (x : Nat) : (bitLen x ≤ 1) ↔ x ≤ 1 := by rw [bitLen_le]; omega
set_option maxHeartbeats 4000000 in
theorem s_Exp {a b s : Nat} (h8 : 8 ≤ s) (hs : s ≤ 9000) (ha : bitLen a ≤ 100000) (hbb : bitLen b ≤ 100000) :
    PC E 111 [NN a, NN b, .int .i64 s] (if a ≤ b ∧ b ≤ 2 ^ s then .tuple [NN (expN a b s).lo, NN (expN a b s).hi, .int .i64 0] else .tuple [.lst 0 [], .lst 0 [], .int .i64 1]) := by
  have k1 := s_scale s
  rw [decide_eq_true (show (8 : Int) ≤ s by omega), decide_eq_true (show (s : Int) ≤ 9000 by omega), Bool.and_true] at k1
  have k2 := k_Cmp (num_bits (x := a) (by omega)) (num_bits (x := b) (by omega))
  have k3 := u_one
  have k4 := k_Shln (num_bits (x := 1) (by decide)) s (by have : bitLen 1 = 1 := by decide
                                                          omega)
  rw [Nat.one_mul] at k4
  have k5 := k_Cmp (num_bits (x := b) (by omega)) (num_bits (x := 2 ^ s) (by have := bitLen_two2 s; omega))
  have g2 := sgn_pos (a : Int) (b : Int)
  have g5 := sgn_pos (b : Int) ((2 ^ s : Nat) : Int)
  by_cases hab : a ≤ b
  case neg =>
    rw [if_neg (fun h => hab h.1)]
    simp only [NN, NL] at k2 ⊢
    refine PC.of_body follows Tryz.func111 (by decide +kernel) rfl (by kernel_rfl) (Nat.le_of_ble_eq_true rfl) (walk ?_)
    simp only [Tryz.f111, go_sem]
    refine qcall_i (k1) ?_; simp only [Tryz.f111, go_sem]
    refine qcall_i (k2) ?_; simp only [Tryz.f111, go_sem]
    refine qif_dt (by omega) ?_
    simp only [Tryz.f111, go_sem]
    try rfl
  by_cases hbS : b ≤ 2 ^ s
  case neg =>
    rw [if_neg (fun h => hbS h.2)]
    simp only [NN, NL] at k2 k3 k4 k5 ⊢
    refine PC.of_body follows Tryz.func111 (by decide +kernel) rfl (by kernel_rfl) (Nat.le_of_ble_eq_true rfl) (walk ?_)
    simp only [Tryz.f111, go_sem]
    refine qcall_i (k1) ?_; simp only [Tryz.f111, go_sem]
    refine qcall_i (k2) ?_; simp only [Tryz.f111, go_sem]
    refine qif_df (by omega) ?_
    simp only [Tryz.f111, go_sem]
    refine qcall_i (k3) ?_; simp only [Tryz.f111, go_sem]
    refine qcall_i (k4) ?_; simp only [Tryz.f111, go_sem]
    refine qcall_i (k5) ?_; simp only [Tryz.f111, go_sem]
    refine qif_dt (by omega) ?_
    simp only [Tryz.f111, go_sem]
    try rfl
  rw [if_pos ⟨hab, hbS⟩]
  have k6 := k_Bare (num_bits (x := a) (by omega))
  have k7 := k_Bare (num_bits (x := b) (by omega))
  have hJ := ExJ.start (a := a) (b := b) (s := s)
  have hx : (PN.mk a b).lo ≤ 2 ^ s ∧ (PN.mk a b).hi ≤ 2 ^ s := ⟨by show a ≤ _; omega, hbS⟩
  unfold expN
  have hf2 : ¬ sgn (a : Int) (b : Int) > 0 := by omega
  have hf5 : ¬ sgn (b : Int) ((2 ^ s : Nat) : Int) > 0 := by omega
  generalize sgn (a : Int) (b : Int) = g1 at *
  generalize sgn (b : Int) ((2 ^ s : Nat) : Int) = g4 at *
  generalize exR a b s = R at *
  have kl : ∀ (f : Nat) (sum term : PN) (n : Nat), ExJ s ⟨a, b⟩ R f sum term n → ∃ g, f = g + 1 ∧
      PC E 61 [NN term.lo] (.int .i64 (bitLen term.lo)) ∧ PC E 61 [NN b] (.int .i64 (bitLen b)) ∧ PC E 183 [pnv term, pnv ⟨a, b⟩, .int .i64 s] (pnv (term.times ⟨a, b⟩ s)) ∧
      PC E 184 [pnv (term.times ⟨a, b⟩ s), .int .u64 n] (pnv ((term.times ⟨a, b⟩ s).part n)) ∧ PC E 185 [pnv sum, pnv ((term.times ⟨a, b⟩ s).part n)] (pnv (sum.plus ((term.times ⟨a, b⟩ s).part n))) ∧
      PC E 61 [NN ((term.times ⟨a, b⟩ s).part n).hi] (.int .i64 (bitLen ((term.times ⟨a, b⟩ s).part n).hi)) ∧
      PC E 186 [pnv sum, pnv term] (pnv (sum.rest term)) ∧ PC E 186 [pnv (sum.plus ((term.times ⟨a, b⟩ s).part n)), pnv ((term.times ⟨a, b⟩ s).part n)] (pnv ((sum.plus ((term.times ⟨a, b⟩ s).part n)).rest ((term.times ⟨a, b⟩ s).part n))) ∧
      (¬ (term.lo = 0 ∧ b = 0) → ¬ ((term.times ⟨a, b⟩ s).part n).hi ≤ 1 → ExJ s ⟨a, b⟩ R g (sum.plus ((term.times ⟨a, b⟩ s).part n)) ((term.times ⟨a, b⟩ s).part n) (n + 1)) ∧
      R = (if term.lo = 0 ∧ b = 0 then (sum, term) else if ((term.times ⟨a, b⟩ s).part n).hi ≤ 1 then (sum.plus ((term.times ⟨a, b⟩ s).part n), (term.times ⟨a, b⟩ s).part n) else exLoop s ⟨a, b⟩ g (sum.plus ((term.times ⟨a, b⟩ s).part n)) ((term.times ⟨a, b⟩ s).part n) (n + 1)) ∧ n ≤ 9003 := fun f sum term n hj => by
    obtain ⟨g, rfl⟩ := hj.fuel
    obtain ⟨a1, a2, a3, a4, a5, a6⟩ := hj.next hx
    have hst := hj.step hx
    have hc := hj.c
    have hone := hj.one
    have hr := hj.res
    unfold exLoop at hr
    have b1 := bits_two hj.lo
    have b2 := bits_two hj.hi
    have b3 := bits_mul hj.slo (by omega)
    have b4 := bits_mul hj.shi (by omega)
    have b5 := bits_two a1
    have b6 := bits_two a2
    have b7 := bits_mul a3 (by omega)
    have b8 := bits_mul a4 (by omega)
    have b9 := bits_two a5
    have b10 := bits_two a6
    have b11 := bits_two hx.1
    have b12 := bits_two hx.2
    dsimp only at b11 b12
    have pt : PLe term 9100 := ⟨by omega, by omega⟩
    have ps : PLe sum 9100 := ⟨by omega, by omega⟩
    have p1 : PLe (term.times ⟨a, b⟩ s) 9100 := ⟨by omega, by omega⟩
    have p2 : PLe ((term.times ⟨a, b⟩ s).part n) 9100 := ⟨by omega, by omega⟩
    have p3 : PLe (sum.plus ((term.times ⟨a, b⟩ s).part n)) 9100 := ⟨by omega, by omega⟩
    refine ⟨g, rfl, k_Bits (num_bits (by omega)), k_Bits (num_bits (by omega)), p_times pt ⟨by show bitLen a ≤ _; omega, by show bitLen b ≤ _; omega⟩ (by omega) s, p_by p1 (by omega) (Nat.lt_of_le_of_lt (show n ≤ 9003 by omega) (by decide)) (by omega), p_plus ps p2 (by omega), k_Bits (num_bits (by omega)), p_rest ps pt (by omega), p_rest p3 p2 (by omega), hst, hr.symm, by omega⟩
  simp only [pnv, NN, NL] at k2 k3 k4 k5 k6 k7 kl ⊢
  refine PC.of_body follows Tryz.func111 (by decide +kernel) rfl (by kernel_rfl) (Nat.le_of_ble_eq_true rfl) (walk ?_)
  simp only [Tryz.f111, go_sem]
  refine qcall_i (k1) ?_; simp only [Tryz.f111, go_sem]
  refine qcall_i (k2) ?_; simp only [Tryz.f111, go_sem]
  refine qif_df hf2 ?_
  simp only [Tryz.f111, go_sem]
  refine qcall_i (k3) ?_; simp only [Tryz.f111, go_sem]
  refine qcall_i (k4) ?_; simp only [Tryz.f111, go_sem]
  refine qcall_i (k5) ?_; simp only [Tryz.f111, go_sem]
  refine qif_df hf5 ?_
  simp only [Tryz.f111, go_sem]
  refine qcall_i (k6) ?_; simp only [Tryz.f111, go_sem]
  refine qcall_i (k7) ?_; simp only [Tryz.f111, go_sem]
  clear k1 k2 k3 k4 k5 k6 k7
  refine PLoop.intro (fun i : Nat × PN × PN × Nat => ⟨[(2, .val (.int .i64 s)), (11, .ptr 11 0), (12, .ptr 12 0), (13, .ptr 13 0), (14, .val (.int .u64 i.2.2.2))],
    [(11, (.box [.lst (dg W a).length (U (dg W a)), .lst (dg W b).length (U (dg W b))], false)), (12, (.box [.lst (dg W i.2.1.lo).length (U (dg W i.2.1.lo)), .lst (dg W i.2.1.hi).length (U (dg W i.2.1.hi))], false)),
     (13, (.box [.lst (dg W i.2.2.1.lo).length (U (dg W i.2.2.1.lo)), .lst (dg W i.2.2.1.hi).length (U (dg W i.2.2.1.hi))], false))]⟩)
    (fun i => ExJ s ⟨a, b⟩ R i.1 i.2.1 i.2.2.1 i.2.2.2) (fun i => i.1) (s + 2, ⟨2 ^ s, 2 ^ s⟩, ⟨2 ^ s, 2 ^ s⟩, 1) hJ ?_ fun i hi => walk ?_
  · simp [Wk, sget, killL, kill1, SV.key]
  obtain ⟨f, sum, term, n⟩ := i
  dsimp only at hi
  obtain ⟨g, rfl, l1, l2, l3, l4, l5, l6, l7, l8, l9, l10, l11⟩ := kl f sum term n hi
  clear kl
  have wn : IntKind.wrap .u64 ((n : Int) + 1) = ((n + 1 : Nat) : Int) := wrap_nat64 (a := n + 1) (Nat.lt_of_le_of_lt (show n + 1 ≤ 9004 by omega) (by decide))
  have c1 := bitLen_le term.lo 9001
  have c2 := bitLen_le b 9001
  have q1 := bits_two hi.lo
  have q2 := bits_two hx.2
  dsimp only at q2
  have wb : IntKind.wrap .i64 ((bitLen term.lo : Int) + (bitLen b : Int)) = (bitLen term.lo : Int) + (bitLen b : Int) := wrap64 (by omega) (by omega)
  have z1 : bitLen term.lo = 0 ↔ term.lo = 0 := ⟨fun h => Decidable.byContradiction fun h' => by have := bitLen_pos h'; omega, fun h => by rw [h]; rfl⟩
  have z2 : bitLen b = 0 ↔ b = 0 := ⟨fun h => Decidable.byContradiction fun h' => by have := bitLen_pos h'; omega, fun h => by rw [h]; rfl⟩
  simp only [Tryz.f111, go_sem]
  refine qcall_i (l1) ?_; simp only [Tryz.f111, go_sem]
  refine qcall_i (l2) ?_; simp only [Tryz.f111, wb, go_sem]
  by_cases h0 : term.lo = 0 ∧ b = 0
  · rw [if_pos h0] at l10
    refine qif_df (by omega) ?_
    simp only [Tryz.f111, go_sem]
    refine qcall_i (l7) ?_; simp only [Tryz.f111, go_sem]
    subst l10
    exact ⟨⟨rfl, rfl⟩, rfl, rfl⟩
  rw [if_neg h0] at l10
  refine qif_dt (by omega) ?_
  simp only [Tryz.f111, go_sem]
  refine qcall_i (l3) ?_; simp only [Tryz.f111, go_sem]
  refine qcall_i (l4) ?_; simp only [Tryz.f111, go_sem]
  refine qcall_i (l5) ?_; simp only [Tryz.f111, go_sem]
  refine qcall_i (l6) ?_; simp only [Tryz.f111, go_sem]
  have hb1 := bits_le_one ((term.times ⟨a, b⟩ s).part n).hi
  by_cases h1 : ((term.times ⟨a, b⟩ s).part n).hi ≤ 1
  · rw [if_pos h1] at l10
    refine qif_dt (by omega) ?_
    simp only [Tryz.f111, go_sem]
    refine qcall_i (l8) ?_; simp only [Tryz.f111, go_sem]
    subst l10
    exact ⟨⟨rfl, rfl⟩, rfl, rfl⟩
  · have hj := l9 h0 h1
    refine qif_df (by omega) ?_
    simp only [Tryz.f111, wn, go_sem]
    refine ⟨(g, sum.plus ((term.times ⟨a, b⟩ s).part n), (term.times ⟨a, b⟩ s).part n, n + 1), hj, Nat.lt_succ_self g, ?_⟩
    simp [Wk, sget, killL, kill1, SV.key]
def withinS (lo hi : Nat) (s : Int) (neg : Bool) : Iv := if 0 < cmpD (mkD neg lo (-s)) (mkD neg hi (-s)) then ⟨mkD neg hi (-s), mkD neg lo (-s)⟩ else ⟨mkD neg lo (-s), mkD neg hi (-s)⟩
theorem withinS_lim {lo hi n J : Nat} {s : Int} (neg : Bool) (h1 : bitLen lo ≤ n) (h2 : bitLen hi ≤ n) (hs : -(J : Int) ≤ s ∧ s ≤ J) (hJ : n + J ≤ 1000000) : (withinS lo hi s neg).lim (n + J) := by
  have a1 : Lim (n + J) (mkD neg lo (-s)) := Lim.mk h1 (by omega) hJ
  have a2 : Lim (n + J) (mkD neg hi (-s)) := Lim.mk h2 (by omega) hJ
  unfold withinS
  split
  · exact ⟨a2, a1⟩
  · exact ⟨a1, a2⟩
theorem okD_of {d : Dy} (h : d.fits) : okD d = .tuple [d.pv, .int .i64 0] := if_pos h
theorem s_Within {lo hi n J : Nat} {s : Int} (neg : Bool) (h1 : bitLen lo ≤ n) (h2 : bitLen hi ≤ n) (hs : -(J : Int) ≤ s ∧ s ≤ J) (hJ : n + J ≤ 400000) : PC E 112 [NN lo, NN hi, .int .i64 s, .bool neg] (withinS lo hi s neg).pv := by
  have a1 : Lim (n + J) (mkD neg lo (-s)) := Lim.mk h1 (by omega) (by omega)
  have a2 : Lim (n + J) (mkD neg hi (-s)) := Lim.mk h2 (by omega) (by omega)
  have k1 := r_Make (num_bits (x := lo) (by omega)) (by omega) neg (-s)
  have k2 := r_Make (num_bits (x := hi) (by omega)) (by omega) neg (-s)
  rw [okD_of (a1.fits (by omega))] at k1
  rw [okD_of (a2.fits (by omega))] at k2
  have k3 := r_Cmp (a1.RD (by omega)) (a2.RD (by omega))
  have wn : IntKind.wrap .i64 (0 - s) = -s := by rw [wrap64 (by omega) (by omega)]; omega
  unfold withinS
  by_cases hc : 0 < cmpD (mkD neg lo (-s)) (mkD neg hi (-s))
  · rw [if_pos hc]
    generalize mkD neg lo (-s) = A at *
    generalize mkD neg hi (-s) = B at *
    simp only [Iv.pv, Dy.pv, DP, NN, NL] at k1 k2 k3 ⊢
    refine PC.of_body follows Tryz.func112 (by decide +kernel) rfl (by kernel_rfl) (Nat.le_of_ble_eq_true rfl) (walk ?_)
    simp only [Tryz.f112, wn, go_sem]
    refine qcall_i (k1) ?_; simp only [Tryz.f112, wn, go_sem]
    refine qcall_i (k2) ?_; simp only [Tryz.f112, wn, go_sem]
    refine qcall_i (k3) ?_; simp only [Tryz.f112, go_sem]
    refine qif_dt hc ?_
    simp only [Tryz.f112, go_sem]
    try rfl
  · rw [if_neg hc]
    generalize mkD neg lo (-s) = A at *
    generalize mkD neg hi (-s) = B at *
    simp only [Iv.pv, Dy.pv, DP, NN, NL] at k1 k2 k3 ⊢
    refine PC.of_body follows Tryz.func112 (by decide +kernel) rfl (by kernel_rfl) (Nat.le_of_ble_eq_true rfl) (walk ?_)
    simp only [Tryz.f112, wn, go_sem]
    refine qcall_i (k1) ?_; simp only [Tryz.f112, wn, go_sem]
    refine qcall_i (k2) ?_; simp only [Tryz.f112, wn, go_sem]
    refine qcall_i (k3) ?_; simp only [Tryz.f112, go_sem]
    refine qif_df hc ?_
    simp only [Tryz.f112, go_sem]
    try rfl
end
section
open Go PG Go.Proofs
open XX
def nUp (m : Nat) : Bool := decide (3 * 2 ^ (bitLen m - 1) ≤ 2 * m)
def nOne (m : Nat) : Nat := if nUp m = true then 2 ^ (bitLen m - 1) + 2 ^ (bitLen m - 1) else 2 ^ (bitLen m - 1)
def nE (d : Dy) : Int := if nUp d.m = true then d.top + 1 else d.top
def nDen (m : Nat) : Nat := m + nOne m
def nNum (m : Nat) : Nat := if m < nOne m then nOne m - m else m - nOne m
def nNeg (m : Nat) : Bool := decide (m < nOne m)
structure LgOk (d : Dy) : Prop where
  ok : d.ok
  pos : d.s = false
  m0 : d.m ≠ 0
  bits : bitLen d.m ≤ 4000
  top : -1048576 ≤ d.top ∧ d.top ≤ 1048576
theorem LgOk.e {d : Dy} (h : LgOk d) : -1052576 ≤ d.e ∧ d.e ≤ 1048576 := by
  have h1 := h.top
  have h2 := h.bits
  have h3 := bitLen_pos h.m0
  unfold Dy.top at h1
  rw [if_neg h.m0] at h1
  omega
theorem LgOk.fits {d : Dy} (h : LgOk d) : d.fits := by
  have := h.e
  constructor <;> omega
theorem LgOk.sg {d : Dy} (h : LgOk d) : d.sg = 1 := by
  unfold Dy.sg; rw [if_neg h.m0, h.pos]; rfl
theorem m_range {m : Nat} (h : m ≠ 0) : 2 ^ (bitLen m - 1) ≤ m ∧ m < 2 * 2 ^ (bitLen m - 1) := by
  have h1 := bitLen_pos h
  have h2 := (bitLen_le m (bitLen m)).1 (Nat.le_refl _)
  have h3 : ¬ m < 2 ^ (bitLen m - 1) := fun h' => by
    have := (bitLen_le m (bitLen m - 1)).2 h'
    omega
  refine ⟨by omega, ?_⟩
  rw [show 2 * 2 ^ (bitLen m - 1) = 2 ^ (bitLen m) by rw [Nat.mul_comm, ← Nat.pow_succ]; congr 1; omega]
  exact h2
theorem near_facts {m : Nat} (h : m ≠ 0) : 0 < nDen m ∧ 3 * nNum m ≤ nDen m := by
  obtain ⟨h1, h2⟩ := m_range h
  unfold nDen nNum nOne nUp
  generalize 2 ^ (bitLen m - 1) = P at *
  by_cases hu : 3 * P ≤ 2 * m
  · rw [decide_eq_true hu, if_pos rfl]
    constructor
    · omega
    · split <;> omega
  · rw [decide_eq_false hu, if_neg (by decide)]
    constructor
    · omega
    · split <;> omega
theorem near_bits {m n : Nat} (h : m ≠ 0) (hb : bitLen m ≤ n) : bitLen (nOne m) ≤ n + 1 ∧ bitLen (nDen m) ≤ n + 2 ∧ bitLen (nNum m) ≤ n + 1 := by
  obtain ⟨h1, h2⟩ := m_range h
  have hO : nOne m ≤ m + m := by unfold nOne; split <;> omega
  have b1 := bitLen_add hb hb
  have b2 := bitLen_add b1 b1
  refine ⟨Nat.le_trans (bitLen_mono hO) b1, Nat.le_trans (bitLen_mono (show nDen m ≤ m + m + (m + m) by unfold nDen; omega)) b2, Nat.le_trans (bitLen_mono (show nNum m ≤ m + m by unfold nNum; split <;> omega)) b1⟩
theorem bit1 : bitLen 1 = 1 := by decide
set_option maxHeartbeats 4000000 in
theorem g_Near {p : PV} {d : Dy} (h : RD p d) (hl : LgOk d) : PC E 113 [p] (.tuple [NN (nNum d.m), NN (nDen d.m), .bool (nNeg d.m), .int .i64 (nE d), .bool true]) := by
  have k1 := r_Bare h
  rw [okD_of hl.fits] at k1
  have hR : RD d.pv d := RD.fit hl.ok (by have := hl.bits; omega) hl.fits
  have k2 := r_Top hR
  rw [decide_eq_true hl.m0] at k2
  have k3 := r_Sign hR
  rw [hl.sg] at k3
  have hb := hl.bits
  have hb0 := bitLen_pos hl.m0
  have ht := hl.top
  have k4 := k_Bits (num_bits (x := d.m) (by omega))
  have k5 := u_one
  have k6 := k_Shln (num_bits (x := 1) (by decide)) (bitLen d.m - 1) (by rw [bit1]; omega)
  rw [Nat.one_mul] at k6
  have hP : bitLen (2 ^ (bitLen d.m - 1)) ≤ 4001 := Nat.le_trans (bitLen_two2 _) (by omega)
  obtain ⟨n1, n2, n3⟩ := near_bits hl.m0 hb
  have k7 := k_Add (num_bits (x := d.m) (by omega)) (num_bits (x := d.m) (by omega))
  have k8 := k_Add (num_bits (x := 2 ^ (bitLen d.m - 1)) (by omega)) (num_bits (x := 2 ^ (bitLen d.m - 1)) (by omega))
  have bA := bitLen_add (x := 2 ^ (bitLen d.m - 1)) (y := 2 ^ (bitLen d.m - 1)) hP hP
  have k9 := k_Add (num_bits (x := 2 ^ (bitLen d.m - 1)) (by omega)) (num_bits (x := 2 ^ (bitLen d.m - 1) + 2 ^ (bitLen d.m - 1)) (by omega))
  have bB := bitLen_add (x := 2 ^ (bitLen d.m - 1)) (y := 2 ^ (bitLen d.m - 1) + 2 ^ (bitLen d.m - 1)) (n := 4002) (by omega) bA
  have bM := bitLen_add (x := d.m) (y := d.m) hb hb
  have k10 := k_Cmp (num_bits (x := d.m + d.m) (by omega)) (num_bits (x := 2 ^ (bitLen d.m - 1) + (2 ^ (bitLen d.m - 1) + 2 ^ (bitLen d.m - 1))) (by omega))
  have wb : IntKind.wrap .i64 ((bitLen d.m : Int) - 1) = ((bitLen d.m - 1 : Nat) : Int) := by rw [wrap64 (by omega) (by omega)]; omega
  have wt : IntKind.wrap .i64 (d.top + 1) = d.top + 1 := wrap64 (by omega) (by omega)
  have hg : (sgn ((d.m + d.m : Nat) : Int) ((2 ^ (bitLen d.m - 1) + (2 ^ (bitLen d.m - 1) + 2 ^ (bitLen d.m - 1)) : Nat) : Int) ≥ 0) ↔ 3 * 2 ^ (bitLen d.m - 1) ≤ 2 * d.m := by
    have := sgn_neg ((d.m + d.m : Nat) : Int) ((2 ^ (bitLen d.m - 1) + (2 ^ (bitLen d.m - 1) + 2 ^ (bitLen d.m - 1)) : Nat) : Int)
    generalize sgn ((d.m + d.m : Nat) : Int) ((2 ^ (bitLen d.m - 1) + (2 ^ (bitLen d.m - 1) + 2 ^ (bitLen d.m - 1)) : Nat) : Int) = g at *
    generalize 2 ^ (bitLen d.m - 1) = P at *
    constructor <;> intro h' <;> omega
  -- the fraction
  have k11 := k_Add (num_bits (x := d.m) (by omega)) (num_bits (x := nOne d.m) (by omega))
  have k12 : d.m < nOne d.m → PC E 188 [NN d.m, NN (nOne d.m)] (.tuple [.lst 0 [], .int .i64 1]) := fun hlt => k_Sub_lt (num_bits (by omega)) (num_bits (by omega)) hlt
  have k13 : d.m < nOne d.m → PC E 188 [NN (nOne d.m), NN d.m] (.tuple [NN (nOne d.m - d.m), .int .i64 0]) := fun hlt => k_Sub (num_bits (by omega)) (num_bits (by omega)) (by omega)
  have k14 : ¬ d.m < nOne d.m → PC E 188 [NN d.m, NN (nOne d.m)] (.tuple [NN (d.m - nOne d.m), .int .i64 0]) := fun hlt => k_Sub (num_bits (by omega)) (num_bits (by omega)) (by omega)
  obtain ⟨s, q, x, e, rfl, -⟩ := h
  have hE : nE d = if nUp d.m = true then d.top + 1 else d.top := rfl
  have hO : nOne d.m = if nUp d.m = true then 2 ^ (bitLen d.m - 1) + 2 ^ (bitLen d.m - 1) else 2 ^ (bitLen d.m - 1) := rfl
  have hU : nUp d.m = decide (3 * 2 ^ (bitLen d.m - 1) ≤ 2 * d.m) := rfl
  have hN : nNum d.m = if d.m < nOne d.m then nOne d.m - d.m else d.m - nOne d.m := rfl
  have hD : nDen d.m = d.m + nOne d.m := rfl
  have hG : nNeg d.m = decide (d.m < nOne d.m) := rfl
  rw [hE, hN, hD, hG]
  obtain ⟨R, hR'⟩ : ∃ R, R = PV.tuple [NN (if d.m < nOne d.m then nOne d.m - d.m else d.m - nOne d.m), NN (d.m + nOne d.m), .bool (decide (d.m < nOne d.m)), .int .i64 (if nUp d.m = true then d.top + 1 else d.top), .bool true] := ⟨_, rfl⟩
  rw [← hR']
  clear hE hN hD hG n1 n2 n3 bA bB bM hP
  generalize nOne d.m = O at *
  generalize hpp : 2 ^ (bitLen d.m - 1) = P at *
  simp only [DP, Dy.pv, NN, NL] at k1 k2 k3 k4 k5 k6 k7 k8 k9 k10 k11 k12 k13 k14 hR' ⊢
  refine PC.of_body follows Tryz.func113 (by decide +kernel) rfl (by kernel_rfl) (Nat.le_of_ble_eq_true rfl) (walk ?_)
  simp only [Tryz.f113, go_sem]
  refine qcall_i (k1) ?_; simp only [Tryz.f113, go_sem]
  refine qcall_i (k2) ?_; simp only [Tryz.f113, go_sem]
  refine qcall_i (k3) ?_; simp only [Tryz.f113, go_sem]
  refine qcall_i (k4) ?_; simp only [Tryz.f113, go_sem]
  refine qif_df (by omega) ?_
  simp only [Tryz.f113, go_sem]
  refine qif_df (by omega) ?_
  simp only [Tryz.f113, go_sem]
  refine qif_df (by omega) ?_
  simp only [Tryz.f113, go_sem]
  refine qcall_i (k4) ?_; simp only [Tryz.f113, wb, go_sem]
  refine qcall_i (k5) ?_; simp only [Tryz.f113, go_sem]
  refine qcall_i (k6) ?_; simp only [Tryz.f113, go_sem]
  refine qcall_i (k7) ?_; simp only [Tryz.f113, go_sem]
  refine qcall_i (k8) ?_; simp only [Tryz.f113, go_sem]
  refine qcall_i (k9) ?_; simp only [Tryz.f113, go_sem]
  refine qcall_i (k10) ?_; simp only [Tryz.f113, go_sem]
  by_cases hu : 3 * P ≤ 2 * d.m
  · rw [decide_eq_true hu] at hU
    rw [hU, if_pos rfl] at hO
    rw [hU, if_pos rfl] at hR'
    subst hO
    refine qif_dt (hg.2 hu) ?_
    simp only [Tryz.f113, go_sem]
    refine qcall_i (k8) ?_; simp only [Tryz.f113, wt, go_sem]
    refine qcall_i (k11) ?_; simp only [Tryz.f113, go_sem]
    by_cases hlt : d.m < P + P
    · rw [decide_eq_true hlt, if_pos hlt] at hR'
      subst hR'
      have q1 := k12 hlt
      have q2 := k13 hlt
      refine qcall_i (q1) ?_; simp only [Tryz.f113, go_sem]
      refine qcall_i (q2) ?_; simp only [Tryz.f113, go_sem]
      try rfl
    · rw [decide_eq_false hlt, if_neg hlt] at hR'
      subst hR'
      have q1 := k14 hlt
      refine qcall_i (q1) ?_; simp only [Tryz.f113, go_sem]
      try rfl
  · rw [decide_eq_false hu] at hU
    rw [hU, if_neg Bool.false_ne_true] at hO
    rw [hU, if_neg Bool.false_ne_true] at hR'
    subst hO
    refine qif_df (fun h' => hu (hg.1 h')) ?_
    simp only [Tryz.f113, go_sem]
    refine qcall_i (k11) ?_; simp only [Tryz.f113, go_sem]
    by_cases hlt : d.m < O
    · rw [decide_eq_true hlt, if_pos hlt] at hR'
      subst hR'
      have q1 := k12 hlt
      have q2 := k13 hlt
      refine qcall_i (q1) ?_; simp only [Tryz.f113, go_sem]
      refine qcall_i (q2) ?_; simp only [Tryz.f113, go_sem]
      try rfl
    · rw [decide_eq_false hlt, if_neg hlt] at hR'
      subst hR'
      have q1 := k14 hlt
      refine qcall_i (q1) ?_; simp only [Tryz.f113, go_sem]
      try rfl
end
section
open Go PG Go.Proofs
open XX
theorem k_times {x n : Nat} (hx : bitLen x ≤ 60000) (hn : n < W) : PC E 189 [NN x, .int .u64 n] (.tuple [NN (x * n), .int .i64 0]) := by
  have k1 := c_Of n hn
  have hb : bitLen n ≤ 64 := (bitLen_le _ _).2 hn
  have k2 := k_mul (num_bits (x := x) (by omega)) (num_bits (x := n) (by omega)) (by omega)
  simp only [u, NN, NL] at k1 k2 ⊢
  refine PC.of_body follows Tryz.func189 (by decide +kernel) rfl (by kernel_rfl) (Nat.le_of_ble_eq_true rfl) (walk ?_)
  simp only [Tryz.f189, go_sem]
  refine qcall_i (k1) ?_; simp only [Tryz.f189, go_sem]
  refine qcall_i (k2) ?_; simp only [Tryz.f189, go_sem]
  try rfl
def partV (lo hi : Nat) (neg : Bool) : PV := .agg [NN lo, NN hi, .bool neg]
theorem g_times {lo hi : Nat} (h1 : bitLen lo ≤ 30000) (h2 : bitLen hi ≤ 30000) {n : Int} (hn : -1073741824 ≤ n ∧ n ≤ 1073741824) :
    PC E 115 [NN lo, NN hi, .int .i64 n] (partV (lo * n.natAbs) (hi * n.natAbs) (decide (n < 0))) := by
  have hW : n.natAbs < W := Nat.lt_of_le_of_lt (show n.natAbs ≤ 1073741824 by omega) (by decide)
  have k1 := k_times (x := lo) (n := n.natAbs) (by omega) hW
  have k2 := k_times (x := hi) (n := n.natAbs) (by omega) hW
  have wn : IntKind.wrap .i64 (0 - n) = -n := by rw [wrap64 (by omega) (by omega)]; omega
  have wu := wrap_nat64 hW
  unfold partV
  simp only [NN, NL] at k1 k2 ⊢
  by_cases h : n < 0
  · rw [decide_eq_true h]
    have e : -n = ((n.natAbs : Nat) : Int) := by omega
    refine PC.of_body follows Tryz.func115 (by decide +kernel) rfl (by kernel_rfl) (Nat.le_of_ble_eq_true rfl) (walk ?_)
    simp only [Tryz.f115, go_sem]
    refine qif_dt h ?_
    simp only [Tryz.f115, wn, e, wu, go_sem]
    refine qcall_i (k1) ?_; simp only [Tryz.f115, wn, e, wu, go_sem]
    refine qcall_i (k2) ?_; simp only [Tryz.f115, wn, e, wu, go_sem]
    simp only [decide_eq_true h]
    try exact ⟨⟨rfl, rfl⟩, rfl, rfl⟩
    try rfl
  · rw [decide_eq_false h]
    obtain ⟨k, rfl⟩ : ∃ k : Nat, n = k := ⟨n.natAbs, by omega⟩
    simp only [Int.natAbs_natCast] at k1 k2 wu ⊢
    refine PC.of_body follows Tryz.func115 (by decide +kernel) rfl (by kernel_rfl) (Nat.le_of_ble_eq_true rfl) (walk ?_)
    simp only [Tryz.f115, go_sem]
    refine qif_df h ?_
    simp only [Tryz.f115, wu, go_sem]
    refine qcall_i (k1) ?_; simp only [Tryz.f115, wu, go_sem]
    refine qcall_i (k2) ?_; simp only [Tryz.f115, wu, go_sem]
    simp only [decide_eq_false h]
    try exact ⟨⟨rfl, rfl⟩, rfl, rfl⟩
    try rfl
theorem g_ends {lo hi n J : Nat} {s : Int} (neg : Bool) (h1 : bitLen lo ≤ n) (h2 : bitLen hi ≤ n) (hs : -(J : Int) ≤ s ∧ s ≤ J) (hJ : n + J ≤ 400000) :
    PC E 117 [partV lo hi neg, .int .i64 s] (withinS lo hi s neg).pv := by
  have k1 := s_Within neg h1 h2 hs hJ
  unfold partV
  generalize withinS lo hi s neg = R at *
  simp only [Iv.pv, NN, NL] at k1 ⊢
  refine PC.of_body follows Tryz.func117 (by decide +kernel) rfl (by kernel_rfl) (Nat.le_of_ble_eq_true rfl) (walk ?_)
  simp only [Tryz.f117, go_sem]
  refine qcall_i (k1) ?_; simp only [Tryz.f117, go_sem]
  try rfl
def logX (d : Dy) (s : Nat) : Iv := withinS ((atanhS (nNum d.m) (nDen d.m) s).lo * 2) ((atanhS (nNum d.m) (nDen d.m) s).hi * 2) s (nNeg d.m)
def logY (d : Dy) (s : Nat) : Iv := withinS ((ln2S s).lo * (nE d).natAbs) ((ln2S s).hi * (nE d).natAbs) s (decide (nE d < 0))
def logS (d : Dy) (s : Nat) : Iv := addI (logX d s) (logY d s)
theorem nE_range {d : Dy} (hl : LgOk d) : -1048576 ≤ nE d ∧ nE d ≤ 1048577 := by
  have := hl.top
  unfold nE
  split <;> omega
theorem mul_bits {x y a b : Nat} (h1 : bitLen x ≤ a) (h2 : bitLen y ≤ b) : bitLen (x * y) ≤ a + b := Nat.le_trans (bitLen_mul_le x y) (by omega)
theorem logX_bits {d : Dy} (hl : LgOk d) {s : Nat} (hs : s ≤ 9000) : bitLen ((atanhS (nNum d.m) (nDen d.m) s).lo * 2) ≤ 9050 ∧ bitLen ((atanhS (nNum d.m) (nDen d.m) s).hi * 2) ≤ 9050 := by
  obtain ⟨h1, h2⟩ := near_facts hl.m0
  obtain ⟨b1, b2⟩ := atanhS_bits (s := s) h1 h2 hs
  exact ⟨Nat.le_trans (mul_bits b1 (show bitLen 2 ≤ 2 by decide)) (by omega), Nat.le_trans (mul_bits b2 (show bitLen 2 ≤ 2 by decide)) (by omega)⟩
theorem logY_bits {d : Dy} (hl : LgOk d) {s : Nat} (hs : s ≤ 9000) : bitLen ((ln2S s).lo * (nE d).natAbs) ≤ 9050 ∧ bitLen ((ln2S s).hi * (nE d).natAbs) ≤ 9050 := by
  have he := nE_range hl
  obtain ⟨b1, b2⟩ := ln2S_bits hs
  have b3 : bitLen (nE d).natAbs ≤ 21 := (bitLen_le _ _).2 (Nat.lt_of_le_of_lt (show (nE d).natAbs ≤ 1048577 by omega) (by decide))
  exact ⟨Nat.le_trans (mul_bits b1 b3) (by omega), Nat.le_trans (mul_bits b2 b3) (by omega)⟩
theorem logX_lim {d : Dy} (hl : LgOk d) {s : Nat} (hs : s ≤ 9000) : (logX d s).lim 18050 := by
  obtain ⟨b1, b2⟩ := logX_bits hl hs
  exact withinS_lim (n := 9050) (J := 9000) _ b1 b2 ⟨by omega, by omega⟩ (by decide)
theorem logY_lim {d : Dy} (hl : LgOk d) {s : Nat} (hs : s ≤ 9000) : (logY d s).lim 18050 := by
  obtain ⟨b1, b2⟩ := logY_bits hl hs
  exact withinS_lim (n := 9050) (J := 9000) _ b1 b2 ⟨by omega, by omega⟩ (by decide)
theorem logS_lim {d : Dy} (hl : LgOk d) {s : Nat} (hs : s ≤ 9000) : (logS d s).lim 18051 := (logX_lim hl hs).add (logY_lim hl hs) (by decide)
set_option maxHeartbeats 4000000 in
theorem g_Log {p : PV} {d : Dy} (h : RD p d) (hl : LgOk d) {s : Nat} (h8 : 8 ≤ s) (hs : s ≤ 9000) : PC E 58 [p, .int .i64 s] (.tuple [(logS d s).pv, .int .i64 0]) := by
  have k1 := g_Near h hl
  obtain ⟨h1, h2⟩ := near_facts hl.m0
  obtain ⟨c1, c2, c3⟩ := near_bits hl.m0 hl.bits
  have k2 := s_Atanh (num := nNum d.m) (den := nDen d.m) (by omega) (by omega) h1 h2 h8 hs
  obtain ⟨b1, b2⟩ := atanhS_bits (s := s) h1 h2 hs
  have k3 := g_times (lo := (atanhS (nNum d.m) (nDen d.m) s).lo) (hi := (atanhS (nNum d.m) (nDen d.m) s).hi) (by omega) (by omega) (n := 2) (by decide)
  have k4 := s_Ln2 h8 hs
  obtain ⟨b3, b4⟩ := ln2S_bits hs
  obtain ⟨x1, x2⟩ := logX_bits hl hs
  obtain ⟨y1, y2⟩ := logY_bits hl hs
  have he := nE_range hl
  have k5 := g_ends (n := 9050) (J := 9000) (s := s) (nNeg d.m) x1 x2 ⟨by omega, by omega⟩ (by decide)
  have k6 := g_times (lo := (ln2S s).lo) (hi := (ln2S s).hi) (by omega) (by omega) (n := nE d) (by omega)
  have k7 := g_ends (n := 9050) (J := 9000) (s := s) (decide (nE d < 0)) y1 y2 ⟨by omega, by omega⟩ (by decide)
  have lX := logX_lim hl hs
  have lY := logY_lim hl hs
  have k8 := r_Add (lX.1.RD (by decide)) (lY.1.RD (by decide))
  rw [addV_lim lX.1 lY.1 (by decide)] at k8
  have k9 := r_Add (lX.2.RD (by decide)) (lY.2.RD (by decide))
  rw [addV_lim lX.2 lY.2 (by decide)] at k9
  have e2 : (2 : Int).natAbs = 2 := rfl
  rw [e2, show decide ((2 : Int) < 0) = false from rfl] at k3
  have eX : withinS ((atanhS (nNum d.m) (nDen d.m) s).lo * 2) ((atanhS (nNum d.m) (nDen d.m) s).hi * 2) s (nNeg d.m) = logX d s := rfl
  have eY : withinS ((ln2S s).lo * (nE d).natAbs) ((ln2S s).hi * (nE d).natAbs) s (decide (nE d < 0)) = logY d s := rfl
  rw [eX] at k5
  rw [eY] at k7
  show PC E _ _ (.tuple [(Iv.mk (addS (logX d s).lo (logY d s).lo) (addS (logX d s).hi (logY d s).hi)).pv, .int .i64 0])
  clear eX eY lX lY x1 x2 y1 y2 b1 b2 b3 b4 c1 c2 c3
  generalize logX d s = X at *
  generalize logY d s = Y at *
  generalize addS X.lo Y.lo = L at *
  generalize addS X.hi Y.hi = H at *
  generalize decide (nE d < 0) = ng at *
  generalize (ln2S s).lo * (nE d).natAbs = A1 at *
  generalize (ln2S s).hi * (nE d).natAbs = A2 at *
  generalize (ln2S s).lo = A3 at *
  generalize (ln2S s).hi = A4 at *
  generalize (atanhS (nNum d.m) (nDen d.m) s).lo * 2 = A5 at *
  generalize (atanhS (nNum d.m) (nDen d.m) s).hi * 2 = A6 at *
  generalize (atanhS (nNum d.m) (nDen d.m) s).lo = A7 at *
  generalize (atanhS (nNum d.m) (nDen d.m) s).hi = A8 at *
  generalize nNum d.m = A9 at *
  generalize nDen d.m = A10 at *
  generalize nNeg d.m = A11 at *
  generalize nE d = A12 at *
  obtain ⟨s0, q, x, e, rfl, -⟩ := h
  simp only [partV, Iv.pv, Dy.pv, DP, NN, NL] at k1 k2 k3 k4 k5 k6 k7 k8 k9 ⊢
  refine PC.of_body follows Tryz.func58 (by decide +kernel) rfl (by kernel_rfl) (Nat.le_of_ble_eq_true rfl) (walk ?_)
  simp only [Tryz.f58, go_sem]
  refine qcall_i (k1) ?_; simp only [Tryz.f58, go_sem]
  refine qcall_i (k2) ?_; simp only [Tryz.f58, go_sem]
  refine qcall_i (k3) ?_; simp only [Tryz.f58, go_sem]
  refine qcall_i (k4) ?_; simp only [Tryz.f58, go_sem]
  refine qcall_i (k5) ?_; simp only [Tryz.f58, go_sem]
  refine qcall_i (k6) ?_; simp only [Tryz.f58, go_sem]
  refine qcall_i (k7) ?_; simp only [Tryz.f58, go_sem]
  refine qcall_i (k8) ?_; simp only [Tryz.f58, go_sem]
  refine qcall_i (k9) ?_; simp only [Tryz.f58, go_sem]
  try rfl
end
end
section
section
open Go PG Go.Proofs
open XX
theorem atLoop_lo {s : Nat} {sq : PN} : ∀ (f : Nat) (sum term : PN) (n : Nat), sum.lo ≤ (atLoop s sq f sum term n).1.lo
  | 0, sum, term, n => Nat.le_refl _
  | f + 1, sum, term, n => by
    unfold atLoop
    split
    · exact Nat.le_refl _
    · refine Nat.le_trans ?_ (atLoop_lo f (sum.plus (term.part n)) (term.times sq s) (n + 2))
      exact Nat.le_add_right _ _
theorem ln2_big {s : Nat} (h8 : 8 ≤ s) : 2 ^ (s - 1) ≤ (ln2S s).lo ∧ (ln2S s).lo ≤ (ln2S s).hi := by
  have hS : 2 ^ s = 4 * 2 ^ (s - 2) := by
    rw [show s = s - 2 + 2 by omega, Nat.pow_add, Nat.mul_comm]
    simp
  have hp := Nat.two_pow_pos (s - 2)
  have h0 : 2 ^ (s - 2) ≤ 2 ^ s / 3 := by
    rw [Nat.le_div_iff_mul_le (by decide), hS]; omega
  have h1 : 2 ^ s / 3 ≤ (atanhS 1 3 s).lo := by
    unfold atanhS
    rw [if_neg (by decide)]
    show _ ≤ (atR 1 3 s).1.lo
    unfold atR
    have hf : (fracS 1 3 s).lo = 2 ^ s / 3 := by show 1 * 2 ^ s / 3 = _; rw [Nat.one_mul]
    unfold atLoop
    rw [if_neg (by rw [hf]; omega)]
    refine Nat.le_trans ?_ (atLoop_lo _ _ _ _)
    show _ ≤ 0 + (fracS 1 3 s).lo / 1
    rw [hf, Nat.div_one]; omega
  constructor
  · show _ ≤ (atanhS 1 3 s).lo + (atanhS 1 3 s).lo
    have : 2 ^ (s - 1) = 2 * 2 ^ (s - 2) := by
      rw [show s - 1 = s - 2 + 1 by omega, Nat.pow_succ, Nat.mul_comm]
    omega
  · obtain ⟨⟨n, h2⟩, h3⟩ := atanhS_sound (num := 1) (den := 3) (s := s) (by decide) (by decide)
    have h4 := Rat.natCast_le_natCast.1 (Rat.le_trans h2 (h3 n))
    show (atanhS 1 3 s).lo + (atanhS 1 3 s).lo ≤ (atanhS 1 3 s).hi + (atanhS 1 3 s).hi
    omega
def exRight (d : Dy) : Bool := decide (bitLen d.m ≤ 20000) && decide (-20000 ≤ d.e) && decide (d.top < 12)
theorem exRight_of {d : Dy} (h : exRight d = true) : bitLen d.m ≤ 20000 ∧ -20000 ≤ d.e ∧ d.top < 12 := by
  unfold exRight at h
  rw [Bool.and_eq_true, Bool.and_eq_true, decide_eq_true_eq, decide_eq_true_eq, decide_eq_true_eq] at h
  exact ⟨h.1.1, h.1.2, h.2⟩
theorem x_right {p : PV} {d : Dy} {K : Nat} (h : RD p d) (hl : Lim K d) (hK : K ≤ 200000) : PC E 172 [p] (.bool (exRight d)) := by
  have k1 := r_Bare h
  rw [okD_of (hl.fits (by omega))] at k1
  have hR : RD d.pv d := hl.RD (by omega)
  have k2 := r_Top hR
  have k3 := k_Bits (num_bits (x := d.m) (by have := hl.bits; omega))
  unfold exRight
  generalize decide (d.m ≠ 0) = b0 at *
  generalize d.top = T at *
  obtain ⟨s, q, x, e, rfl, -⟩ := h
  simp only [DP, Dy.pv, NN, NL] at k1 k2 k3 ⊢
  by_cases h1 : (bitLen d.m : Int) ≤ 20000
  · by_cases h2 : d.e ≥ -20000
    · rw [decide_eq_true (show bitLen d.m ≤ 20000 by omega), decide_eq_true (show -20000 ≤ d.e from h2)]
      refine PC.of_body follows Tryz.func172 (by decide +kernel) rfl (by kernel_rfl) (Nat.le_of_ble_eq_true rfl) (walk ?_)
      simp only [Tryz.f172, go_sem]
      refine qcall_i (k1) ?_; simp only [Tryz.f172, go_sem]
      refine qcall_i (k2) ?_; simp only [Tryz.f172, go_sem]
      refine qcall_i (k3) ?_; simp only [Tryz.f172, go_sem]
      refine qif_dt h1 ?_
      simp only [Tryz.f172, go_sem]
      refine qif_dt h2 ?_
      simp only [Tryz.f172, go_sem]
      try simp
    · rw [decide_eq_true (show bitLen d.m ≤ 20000 by omega), decide_eq_false (show ¬ -20000 ≤ d.e from h2)]
      refine PC.of_body follows Tryz.func172 (by decide +kernel) rfl (by kernel_rfl) (Nat.le_of_ble_eq_true rfl) (walk ?_)
      simp only [Tryz.f172, go_sem]
      refine qcall_i (k1) ?_; simp only [Tryz.f172, go_sem]
      refine qcall_i (k2) ?_; simp only [Tryz.f172, go_sem]
      refine qcall_i (k3) ?_; simp only [Tryz.f172, go_sem]
      refine qif_dt h1 ?_
      simp only [Tryz.f172, go_sem]
      refine qif_df h2 ?_
      simp only [Tryz.f172, go_sem]
      try simp
  · rw [decide_eq_false (show ¬ bitLen d.m ≤ 20000 by omega)]
    refine PC.of_body follows Tryz.func172 (by decide +kernel) rfl (by kernel_rfl) (Nat.le_of_ble_eq_true rfl) (walk ?_)
    simp only [Tryz.f172, go_sem]
    refine qcall_i (k1) ?_; simp only [Tryz.f172, go_sem]
    refine qcall_i (k2) ?_; simp only [Tryz.f172, go_sem]
    refine qcall_i (k3) ?_; simp only [Tryz.f172, go_sem]
    refine qif_df h1 ?_
    simp only [Tryz.f172, go_sem]
    try simp
def unitsS (d : Dy) (s : Nat) (above : Bool) : Nat := if 0 ≤ d.e + s then d.m * 2 ^ (d.e + s).toNat else d.m / 2 ^ (-d.e - s).toNat + (if d.m % 2 ^ (-d.e - s).toNat ≠ 0 ∧ above = true then 1 else 0)
theorem units_le {d : Dy} (h : exRight d = true) (s : Nat) (a : Bool) : unitsS d s a ≤ 2 ^ (s + 12) := by
  obtain ⟨h1, h2, h3⟩ := exRight_of h
  unfold unitsS
  by_cases hm : d.m = 0
  · rw [hm]
    split
    · rw [Nat.zero_mul]; exact Nat.zero_le _
    · rw [Nat.zero_div, Nat.zero_mod, if_neg (by simp)]; exact Nat.zero_le _
  have h4 : d.top = bitLen d.m - 1 + d.e := by unfold Dy.top; rw [if_neg hm]
  have h5 := (bitLen_le d.m (bitLen d.m)).1 (Nat.le_refl _)
  have h0 := bitLen_pos hm
  split
  · rename_i hk
    refine Nat.le_of_lt (Nat.lt_of_lt_of_le (Nat.mul_lt_mul_of_pos_right h5 (Nat.two_pow_pos _)) ?_)
    rw [← Nat.pow_add]
    exact Nat.pow_le_pow_right (by decide) (by omega)
  · rename_i hk
    have h6 : d.m / 2 ^ (-d.e - s).toNat < 2 ^ (s + 12) := by
      rw [Nat.div_lt_iff_lt_mul (Nat.two_pow_pos _), ← Nat.pow_add]
      exact Nat.lt_of_lt_of_le h5 (Nat.pow_le_pow_right (by decide) (by omega))
    split <;> omega
theorem x_units {p : PV} {d : Dy} (h : RD p d) (hl : exRight d = true) (hf : d.fits) {s : Nat} (hs : s ≤ 9000) (a : Bool) : PC E 220 [p, .int .i64 s, .bool a] (NN (unitsS d s a)) := by
  obtain ⟨h1, h2, h3⟩ := exRight_of hl
  have hb := units_le hl s a
  have k1 := r_Bare h
  rw [okD_of hf] at k1
  have hfe := hf.2
  have ht : d.m ≠ 0 → (bitLen d.m : Int) - 1 + d.e < 12 := fun hm => by unfold Dy.top at h3; rw [if_neg hm] at h3; exact h3
  have we : IntKind.wrap .i64 (d.e + (s : Int)) = d.e + s := wrap64 (by omega) (by omega)
  have wn : IntKind.wrap .i64 (0 - d.e) = -d.e := by rw [wrap64 (by omega) (by omega)]; omega
  have wm : IntKind.wrap .i64 (-d.e - (s : Int)) = -d.e - s := wrap64 (by omega) (by omega)
  obtain ⟨s0, q, x, e, rfl, -⟩ := h
  unfold unitsS at hb ⊢
  by_cases hk : 0 ≤ d.e + s
  · rw [if_pos hk]
    have k2 : PC E 63 [NN d.m, .int .i64 (d.e + s)] (.tuple [NN (d.m * 2 ^ (d.e + s).toNat), .int .i64 0]) := by
      have hm0 : d.m = 0 ∨ d.m ≠ 0 := by omega
      rcases hm0 with hm0 | hm0
      · refine PC.cast (k_Shl (num_bits (x := d.m) (by omega)) (d.e + s) (by omega)) ?_
        unfold shlV
        rw [if_neg (by omega), if_pos hm0, hm0, Nat.zero_mul]; rfl
      · have := k_Shln (num_bits (x := d.m) (by omega)) (d.e + s).toNat (by have := ht hm0; omega)
        rwa [show (((d.e + s).toNat : Nat) : Int) = d.e + s by omega] at this
    generalize d.m * 2 ^ (d.e + s).toNat = R at *
    simp only [DP, Dy.pv, NN, NL] at k1 k2 ⊢
    refine PC.of_body follows Tryz.func220 (by decide +kernel) rfl (by kernel_rfl) (Nat.le_of_ble_eq_true rfl) (walk ?_)
    simp only [Tryz.f220, go_sem]
    refine qcall_i (k1) ?_; simp only [Tryz.f220, we, go_sem]
    refine qif_dt hk ?_
    simp only [Tryz.f220, we, go_sem]
    refine qcall_i (k2) ?_; simp only [Tryz.f220, go_sem]
    try exact ⟨rfl, rfl⟩
    try rfl
  · rw [if_neg hk] at hb ⊢
    have k2 := k_Shrn (num_bits (x := d.m) (by omega)) (-d.e - s).toNat
    rw [show (((-d.e - s).toNat : Nat) : Int) = -d.e - s by omega] at k2
    have bq := div_bits (n := 2 ^ (-d.e - s).toNat) h1
    have k3 := u_one
    have k4 := k_Add (num_bits (x := d.m / 2 ^ (-d.e - s).toNat) (by omega)) (num_bits (x := 1) (by decide))
    by_cases hr : d.m % 2 ^ (-d.e - s).toNat ≠ 0
    · rw [decide_eq_true hr] at k2
      cases a with
      | true =>
        rw [if_pos ⟨hr, rfl⟩]
        generalize d.m / 2 ^ (-d.e - s).toNat = R at *
        simp only [DP, Dy.pv, NN, NL] at k1 k2 k3 k4 ⊢
        refine PC.of_body follows Tryz.func220 (by decide +kernel) rfl (by kernel_rfl) (Nat.le_of_ble_eq_true rfl) (walk ?_)
        simp only [Tryz.f220, go_sem]
        refine qcall_i (k1) ?_; simp only [Tryz.f220, we, go_sem]
        refine qif_df hk ?_
        simp only [Tryz.f220, wn, wm, go_sem]
        refine qcall_i (k2) ?_; simp only [Tryz.f220, go_sem]
        refine qcall_i (k3) ?_; simp only [Tryz.f220, go_sem]
        refine qcall_i (k4) ?_; simp only [Tryz.f220, go_sem]
        try exact ⟨rfl, rfl⟩
        try rfl
      | false =>
        rw [if_neg (fun h => Bool.false_ne_true h.2), Nat.add_zero]
        generalize d.m / 2 ^ (-d.e - s).toNat = R at *
        simp only [DP, Dy.pv, NN, NL] at k1 k2 k3 k4 ⊢
        refine PC.of_body follows Tryz.func220 (by decide +kernel) rfl (by kernel_rfl) (Nat.le_of_ble_eq_true rfl) (walk ?_)
        simp only [Tryz.f220, go_sem]
        refine qcall_i (k1) ?_; simp only [Tryz.f220, we, go_sem]
        refine qif_df hk ?_
        simp only [Tryz.f220, wn, wm, go_sem]
        refine qcall_i (k2) ?_; simp only [Tryz.f220, go_sem]
        try exact ⟨rfl, rfl⟩
        try rfl
    · rw [decide_eq_false hr] at k2
      rw [if_neg (fun h => hr h.1), Nat.add_zero]
      generalize d.m / 2 ^ (-d.e - s).toNat = R at *
      simp only [DP, Dy.pv, NN, NL] at k1 k2 k3 k4 ⊢
      refine PC.of_body follows Tryz.func220 (by decide +kernel) rfl (by kernel_rfl) (Nat.le_of_ble_eq_true rfl) (walk ?_)
      simp only [Tryz.f220, go_sem]
      refine qcall_i (k1) ?_; simp only [Tryz.f220, we, go_sem]
      refine qif_df hk ?_
      simp only [Tryz.f220, wn, wm, go_sem]
      refine qcall_i (k2) ?_; simp only [Tryz.f220, go_sem]
      try exact ⟨rfl, rfl⟩
      try rfl
def nbv (n : Bool × Nat) : PV := .agg [.bool n.1, NN n.2]
def floorS (d : Dy) (s : Nat) : Bool × Nat := (decide (d.sg < 0), unitsS d s (decide (d.sg < 0)))
def ceilS (d : Dy) (s : Nat) : Bool × Nat := (decide (d.sg < 0), unitsS d s (!decide (d.sg < 0)))
def plusS (n : Bool × Nat) (m : Nat) : Bool × Nat := if n.1 = true then (if n.2 ≤ m then (false, m - n.2) else (true, n.2 - m)) else (false, n.2 + m)
def minusS (n : Bool × Nat) (m : Nat) : Bool × Nat := if n.1 = true then (true, n.2 + m) else (if m ≤ n.2 then (false, n.2 - m) else (true, m - n.2))
theorem x_floor {p : PV} {d : Dy} (h : RD p d) (hl : exRight d = true) (hf : d.fits) {s : Nat} (hs : s ≤ 9000) : PC E 173 [p, .int .i64 s] (nbv (floorS d s)) := by
  have k1 := r_Sign h
  have k2 := x_units h hl hf hs (decide (d.sg < 0))
  unfold nbv floorS
  dsimp only
  generalize unitsS d s (decide (d.sg < 0)) = R at *
  obtain ⟨s0, q, x, e, rfl, -⟩ := h
  simp only [DP, Dy.pv, NN, NL] at k1 k2 ⊢
  refine PC.of_body follows Tryz.func173 (by decide +kernel) rfl (by kernel_rfl) (Nat.le_of_ble_eq_true rfl) (walk ?_)
  simp only [Tryz.f173, go_sem]
  refine qcall_i (k1) ?_; simp only [Tryz.f173, go_sem]
  refine qcall_i (k2) ?_; simp only [Tryz.f173, go_sem]
  try rfl
theorem x_ceil {p : PV} {d : Dy} (h : RD p d) (hl : exRight d = true) (hf : d.fits) {s : Nat} (hs : s ≤ 9000) : PC E 174 [p, .int .i64 s] (nbv (ceilS d s)) := by
  have k1 := r_Sign h
  have k2 := x_units h hl hf hs (!decide (d.sg < 0))
  unfold nbv ceilS
  dsimp only
  generalize unitsS d s (!decide (d.sg < 0)) = R at *
  obtain ⟨s0, q, x, e, rfl, -⟩ := h
  simp only [DP, Dy.pv, NN, NL] at k1 k2 ⊢
  refine PC.of_body follows Tryz.func174 (by decide +kernel) rfl (by kernel_rfl) (Nat.le_of_ble_eq_true rfl) (walk ?_)
  simp only [Tryz.f174, go_sem]
  refine qcall_i (k1) ?_; simp only [Tryz.f174, go_sem]
  refine qcall_i (k2) ?_; simp only [Tryz.f174, go_sem]
  try rfl
theorem x_plus {n : Bool × Nat} {m : Nat} (h1 : bitLen n.2 ≤ 100000) (h2 : bitLen m ≤ 100000) : PC E 177 [nbv n, NN m] (nbv (plusS n m)) := by
  obtain ⟨ng, n⟩ := n
  dsimp only at h1
  have k1 := k_Add (num_bits (x := n) (by omega)) (num_bits (x := m) (by omega))
  unfold nbv plusS
  dsimp only
  cases ng with
  | false =>
    simp only [NN, NL, Bool.false_eq_true, if_false] at k1 ⊢
    refine PC.of_body follows Tryz.func177 (by decide +kernel) rfl (by kernel_rfl) (Nat.le_of_ble_eq_true rfl) (walk ?_)
    simp only [Tryz.f177, go_sem]
    refine qcall_i (k1) ?_; simp only [Tryz.f177, go_sem]
    try rfl
  | true =>
    rw [if_pos rfl]
    by_cases hle : n ≤ m
    · rw [if_pos hle]
      have k2 := k_Sub (num_bits (x := m) (by omega)) (num_bits (x := n) (by omega)) hle
      simp only [NN, NL] at k2 ⊢
      refine PC.of_body follows Tryz.func177 (by decide +kernel) rfl (by kernel_rfl) (Nat.le_of_ble_eq_true rfl) (walk ?_)
      simp only [Tryz.f177, go_sem]
      refine qcall_i (k2) ?_; simp only [Tryz.f177, go_sem]
      try rfl
    · rw [if_neg hle]
      have k2 := k_Sub_lt (num_bits (x := m) (by omega)) (num_bits (x := n) (by omega)) (by omega)
      have k3 := k_Sub (num_bits (x := n) (by omega)) (num_bits (x := m) (by omega)) (by omega)
      simp only [NN, NL] at k2 k3 ⊢
      refine PC.of_body follows Tryz.func177 (by decide +kernel) rfl (by kernel_rfl) (Nat.le_of_ble_eq_true rfl) (walk ?_)
      simp only [Tryz.f177, go_sem]
      refine qcall_i (k2) ?_; simp only [Tryz.f177, go_sem]
      refine qcall_i (k3) ?_; simp only [Tryz.f177, go_sem]
      try rfl
theorem x_minus {n : Bool × Nat} {m : Nat} (h1 : bitLen n.2 ≤ 100000) (h2 : bitLen m ≤ 100000) : PC E 179 [nbv n, NN m] (nbv (minusS n m)) := by
  obtain ⟨ng, n⟩ := n
  dsimp only at h1
  have k1 := k_Add (num_bits (x := n) (by omega)) (num_bits (x := m) (by omega))
  unfold nbv minusS
  dsimp only
  cases ng with
  | true =>
    simp only [NN, NL, if_true] at k1 ⊢
    refine PC.of_body follows Tryz.func179 (by decide +kernel) rfl (by kernel_rfl) (Nat.le_of_ble_eq_true rfl) (walk ?_)
    simp only [Tryz.f179, go_sem]
    refine qcall_i (k1) ?_; simp only [Tryz.f179, go_sem]
    try rfl
  | false =>
    rw [if_neg Bool.false_ne_true]
    by_cases hle : m ≤ n
    · rw [if_pos hle]
      have k2 := k_Sub (num_bits (x := n) (by omega)) (num_bits (x := m) (by omega)) hle
      simp only [NN, NL] at k2 ⊢
      refine PC.of_body follows Tryz.func179 (by decide +kernel) rfl (by kernel_rfl) (Nat.le_of_ble_eq_true rfl) (walk ?_)
      simp only [Tryz.f179, go_sem]
      refine qcall_i (k2) ?_; simp only [Tryz.f179, go_sem]
      try rfl
    · rw [if_neg hle]
      have k2 := k_Sub_lt (num_bits (x := n) (by omega)) (num_bits (x := m) (by omega)) (by omega)
      have k3 := k_Sub (num_bits (x := m) (by omega)) (num_bits (x := n) (by omega)) (by omega)
      simp only [NN, NL] at k2 k3 ⊢
      refine PC.of_body follows Tryz.func179 (by decide +kernel) rfl (by kernel_rfl) (Nat.le_of_ble_eq_true rfl) (walk ?_)
      simp only [Tryz.f179, go_sem]
      refine qcall_i (k2) ?_; simp only [Tryz.f179, go_sem]
      refine qcall_i (k3) ?_; simp only [Tryz.f179, go_sem]
      try rfl
theorem k_Up {x y : Nat} (hx : bitLen x ≤ 900000) (hy : bitLen y ≤ 900000) (h0 : y ≠ 0) : PC E 175 [NN x, NN y] (.tuple [NN (cD x y), .int .i64 0]) := by
  have k1 := k_Div (num_bits (x := x) (by omega)) (num_bits (x := y) (by omega)) (by omega) (by omega) h0
  have hd := div_bits (n := y) hx
  have k2 := u_one
  have k3 := k_Add (num_bits (x := x / y) (by omega)) (num_bits (x := 1) (by decide))
  unfold cD
  obtain ⟨l, cs, e, hl⟩ := NN_len (x := x % y)
  rw [e] at k1
  by_cases h : x % y = 0
  · rw [if_pos h, Nat.add_zero]
    have hl0 := hl.2 h
    subst hl0
    simp only [NN, NL] at k1 k2 k3 ⊢
    refine PC.of_body follows Tryz.func175 (by decide +kernel) rfl (by kernel_rfl) (Nat.le_of_ble_eq_true rfl) (walk ?_)
    simp only [Tryz.f175, go_sem]
    refine qcall_i (k1) ?_; simp only [Tryz.f175, go_sem]
    try (refine qif_dt (by decide) ?_)
    try simp only [Tryz.f175, go_sem]
    try exact ⟨rfl, rfl⟩
    try rfl
  · rw [if_neg h]
    have hl0 : ¬ (l : Int) = 0 := by have : l ≠ 0 := fun h' => h (hl.1 h'); omega
    simp only [NN, NL] at k1 k2 k3 ⊢
    refine PC.of_body follows Tryz.func175 (by decide +kernel) rfl (by kernel_rfl) (Nat.le_of_ble_eq_true rfl) (walk ?_)
    simp only [Tryz.f175, go_sem]
    refine qcall_i (k1) ?_; simp only [Tryz.f175, go_sem]
    refine qif_df hl0 ?_
    simp only [Tryz.f175, go_sem]
    refine qcall_i (k2) ?_; simp only [Tryz.f175, go_sem]
    refine qcall_i (k3) ?_; simp only [Tryz.f175, go_sem]
    try exact ⟨rfl, rfl⟩
    try rfl
end
section
open Go PG Go.Proofs
open XX
def splitK (i : Iv) (s : Nat) : Int × Nat × Nat :=
  if (floorS i.lo s).1 = true then
    (-(cD (floorS i.lo s).2 (ln2S s).lo : Int), (plusS (floorS i.lo s) (cD (floorS i.lo s).2 (ln2S s).lo * (ln2S s).lo)).2, (plusS (ceilS i.hi s) (cD (floorS i.lo s).2 (ln2S s).lo * (ln2S s).hi)).2)
  else (((floorS i.lo s).2 / (ln2S s).hi : Nat), (floorS i.lo s).2 % (ln2S s).hi, (minusS (ceilS i.hi s) ((floorS i.lo s).2 / (ln2S s).hi * (ln2S s).lo)).2)
def splitOk (i : Iv) (s : Nat) : Prop := exRight i.lo = true ∧ exRight i.hi = true ∧ cmpD i.lo i.hi ≤ 0 ∧ (splitK i s).2.2 ≤ 2 ^ s
instance (i : Iv) (s : Nat) : Decidable (splitOk i s) := inferInstanceAs (Decidable (_ ∧ _))
theorem small_W {q : Nat} (h : q ≤ 8192) : q < W := Nat.lt_of_le_of_lt h (by decide)
set_option maxHeartbeats 4000000 in
theorem x_Split {p : PV} {i : Iv} {K : Nat} (h : RI p i) (hl : i.lim K) (hK : K ≤ 200000) {s : Nat} (h8 : 8 ≤ s) (hs : s ≤ 8900) :
    PC E 110 [p, .int .i64 s] (if splitOk i s then .tuple [.int .i64 (splitK i s).1, NN (splitK i s).2.1, NN (splitK i s).2.2, .int .i64 0] else .tuple [.int .i64 0, .lst 0 [], .lst 0 [], .int .i64 1]) := by
  obtain ⟨s1, P1, e1, s2, P2, e2, rfl, h1, h2⟩ := h
  have k1 := x_right h1 hl.1 hK
  have k2 := x_right h2 hl.2 hK
  have k3 := r_Cmp h1 h2
  by_cases r1 : exRight i.lo = true
  case neg =>
    rw [if_neg (fun h : splitOk i s => r1 h.1)]
    rw [Bool.not_eq_true] at r1
    rw [r1] at k1
    simp only [DP] at k1
    refine PC.of_body follows Tryz.func110 (by decide +kernel) rfl (by kernel_rfl) (Nat.le_of_ble_eq_true rfl) (walk ?_)
    simp only [Tryz.f110, go_sem]
    refine qif_df (by omega) ?_
    simp only [Tryz.f110, go_sem]
    refine qif_df (by omega) ?_
    simp only [Tryz.f110, go_sem]
    refine qcall_i (k1) ?_; simp only [Tryz.f110, go_sem]
    try rfl
  by_cases r2 : exRight i.hi = true
  case neg =>
    rw [if_neg (fun h : splitOk i s => r2 h.2.1)]
    rw [Bool.not_eq_true] at r2
    rw [r1] at k1
    rw [r2] at k2
    simp only [DP] at k1 k2
    refine PC.of_body follows Tryz.func110 (by decide +kernel) rfl (by kernel_rfl) (Nat.le_of_ble_eq_true rfl) (walk ?_)
    simp only [Tryz.f110, go_sem]
    refine qif_df (by omega) ?_
    simp only [Tryz.f110, go_sem]
    refine qif_df (by omega) ?_
    simp only [Tryz.f110, go_sem]
    refine qcall_i (k1) ?_; simp only [Tryz.f110, go_sem]
    refine qcall_i (k2) ?_; simp only [Tryz.f110, go_sem]
    try rfl
  by_cases r3 : cmpD i.lo i.hi ≤ 0
  case neg =>
    rw [if_neg (fun h : splitOk i s => r3 h.2.2.1)]
    rw [r1] at k1
    rw [r2] at k2
    simp only [DP] at k1 k2 k3
    refine PC.of_body follows Tryz.func110 (by decide +kernel) rfl (by kernel_rfl) (Nat.le_of_ble_eq_true rfl) (walk ?_)
    simp only [Tryz.f110, go_sem]
    refine qif_df (by omega) ?_
    simp only [Tryz.f110, go_sem]
    refine qif_df (by omega) ?_
    simp only [Tryz.f110, go_sem]
    refine qcall_i (k1) ?_; simp only [Tryz.f110, go_sem]
    refine qcall_i (k2) ?_; simp only [Tryz.f110, go_sem]
    refine qcall_i (k3) ?_; simp only [Tryz.f110, go_sem]
    refine qif_dt (by omega) ?_
    simp only [Tryz.f110, go_sem]
    try rfl
  have hL : (floorS i.lo s).2 ≤ 2 ^ (s + 12) := units_le r1 s _
  have hH : (ceilS i.hi s).2 ≤ 2 ^ (s + 12) := units_le r2 s _
  obtain ⟨b1, b2⟩ := ln2_big h8
  obtain ⟨b3, b4⟩ := ln2S_bits (s := s) (by omega)
  have hp1 := Nat.two_pow_pos (s - 1)
  have h13 : 2 ^ (s + 12) = 8192 * 2 ^ (s - 1) := by
    rw [show s + 12 = 13 + (s - 1) by omega, Nat.pow_add]
  have bL : bitLen (floorS i.lo s).2 ≤ s + 13 := by
    rw [bitLen_le, show s + 13 = s + 12 + 1 by omega, Nat.pow_succ]
    have := Nat.two_pow_pos (s + 12)
    omega
  have bH : bitLen (ceilS i.hi s).2 ≤ s + 13 := by
    rw [bitLen_le, show s + 13 = s + 12 + 1 by omega, Nat.pow_succ]
    have := Nat.two_pow_pos (s + 12)
    omega
  have k4 := s_Ln2 h8 (by omega)
  have k5 := x_floor h1 r1 (hl.1.fits (by omega)) (s := s) (by omega)
  have k6 := x_ceil h2 r2 (hl.2.fits (by omega)) (s := s) (by omega)
  have k7 := u_one
  have k8 := k_Shln (num_bits (x := 1) (by decide)) s (by rw [bit1]; omega)
  rw [Nat.one_mul] at k8
  have hb2s := bitLen_two2 s
  rw [r1] at k1
  rw [r2] at k2
  -- both cases of the sign, as one
  have main : ∀ (c : Bool) (q x y : Nat), (floorS i.lo s).1 = c → q ≤ 8192 →
      (c = true → PC E 175 [NN (floorS i.lo s).2, NN (ln2S s).lo] (.tuple [NN q, .int .i64 0])) →
      (c = false → PC E 178 [NN (floorS i.lo s).2, NN (ln2S s).hi] (.tuple [NN q, NN x, .int .i64 0])) →
      splitK i s = (if c = true then -(q : Int) else (q : Int), x, y) →
      (c = true → x = (plusS (floorS i.lo s) (q * (ln2S s).lo)).2 ∧ y = (plusS (ceilS i.hi s) (q * (ln2S s).hi)).2) →
      (c = false → y = (minusS (ceilS i.hi s) (q * (ln2S s).lo)).2) →
      PC E 110 [.agg [.bool s1, P1, .int .i64 e1, .bool s2, P2, .int .i64 e2], .int .i64 s] (if y ≤ 2 ^ s then .tuple [.int .i64 (if c = true then -(q : Int) else (q : Int)), NN x, NN y, .int .i64 0] else .tuple [.int .i64 0, .lst 0 [], .lst 0 [], .int .i64 1]) := by
    intro c q x y hc hq kU kD hsp hx hy
    have hqW := small_W hq
    have bq : bitLen q ≤ 14 := (bitLen_le _ _).2 (Nat.lt_of_le_of_lt hq (by decide))
    have k9 := k_Small (num_bits (x := q) (by omega))
    rw [if_pos hqW, decide_eq_true hqW] at k9
    have wq : IntKind.wrap .i64 (q : Int) = q := wrap64 (by omega) (by omega)
    have wq2 : IntKind.wrap .i64 (0 - (q : Int)) = -(q : Int) := by rw [wrap64 (by omega) (by omega)]; omega
    have m1 := k_mul (num_bits (x := q) (by omega)) (num_bits (x := (ln2S s).lo) (by omega)) (by omega)
    have m2 := k_mul (num_bits (x := q) (by omega)) (num_bits (x := (ln2S s).hi) (by omega)) (by omega)
    have n1 := mul_bits bq b3
    have n2 := mul_bits bq b4
    have yb : bitLen y ≤ 100000 := by
      cases c with
      | true =>
        rw [(hx rfl).2]
        unfold plusS
        split
        · split
          · exact Nat.le_trans (bitLen_mono (Nat.sub_le _ _)) (by omega)
          · exact Nat.le_trans (bitLen_mono (Nat.sub_le _ _)) (by omega)
        · exact Nat.le_trans (bitLen_add (n := 20000) (by omega) (by omega)) (by omega)
      | false =>
        rw [hy rfl]
        unfold minusS
        split
        · exact Nat.le_trans (bitLen_add (n := 20000) (by omega) (by omega)) (by omega)
        · split
          · exact Nat.le_trans (bitLen_mono (Nat.sub_le _ _)) (by omega)
          · exact Nat.le_trans (bitLen_mono (Nat.sub_le _ _)) (by omega)
    have k10 := k_Cmp (num_bits (x := y) (by omega)) (num_bits (x := 2 ^ s) (by omega))
    have hg := sgn_pos (y : Int) ((2 ^ s : Nat) : Int)
    cases c with
    | true =>
      obtain ⟨hx1, hx2⟩ := hx rfl
      have kUp := kU rfl
      have k11 := x_plus (n := floorS i.lo s) (m := q * (ln2S s).lo) (by omega) (by omega)
      have k12 := x_plus (n := ceilS i.hi s) (m := q * (ln2S s).hi) (by omega) (by omega)
      obtain ⟨X, hX⟩ : ∃ X, X = plusS (floorS i.lo s) (q * (ln2S s).lo) := ⟨_, rfl⟩
      obtain ⟨Y, hY⟩ : ∃ Y, Y = plusS (ceilS i.hi s) (q * (ln2S s).hi) := ⟨_, rfl⟩
      rw [← hX] at hx1 k11
      rw [← hY] at hx2 k12
      subst hx1
      subst hx2
      obtain ⟨R, hR⟩ : ∃ R, R = (if Y.2 ≤ 2 ^ s then PV.tuple [.int .i64 (if true = true then -(q : Int) else (q : Int)), NN X.2, NN Y.2, .int .i64 0] else .tuple [.int .i64 0, .lst 0 [], .lst 0 [], .int .i64 1]) := ⟨_, rfl⟩
      rw [← hR]
      rw [if_pos rfl] at hR
      unfold nbv at k5 k6 k11 k12
      rw [hc] at k5 k11
      generalize (floorS i.lo s).2 = L at *
      generalize ceilS i.hi s = Hc at *
      generalize (ln2S s).lo = c1 at *
      generalize (ln2S s).hi = c2 at *
      generalize q * c1 = m1v at *
      generalize q * c2 = m2v at *
      clear hsp hx hy kU kD hX hY
      simp only [DP, u, NN, NL] at k1 k2 k3 k4 k5 k6 k7 k8 k9 k10 k11 k12 m1 m2 kUp hR ⊢
      refine PC.of_body follows Tryz.func110 (by decide +kernel) rfl (by kernel_rfl) (Nat.le_of_ble_eq_true rfl) (walk ?_)
      simp only [Tryz.f110, go_sem]
      refine qif_df (by omega) ?_
      simp only [Tryz.f110, go_sem]
      refine qif_df (by omega) ?_
      simp only [Tryz.f110, go_sem]
      refine qcall_i (k1) ?_; simp only [Tryz.f110, go_sem]
      refine qcall_i (k2) ?_; simp only [Tryz.f110, go_sem]
      refine qcall_i (k3) ?_; simp only [Tryz.f110, go_sem]
      refine qif_df (by omega) ?_
      simp only [Tryz.f110, go_sem]
      refine qcall_i (k4) ?_; simp only [Tryz.f110, go_sem]
      refine qcall_i (k5) ?_; simp only [Tryz.f110, go_sem]
      refine qcall_i (k6) ?_; simp only [Tryz.f110, go_sem]
      refine qcall_i (kUp) ?_; simp only [Tryz.f110, go_sem]
      refine qcall_i (k9) ?_; simp only [Tryz.f110, wq, wq2, go_sem]
      refine qcall_i (m1) ?_; simp only [Tryz.f110, go_sem]
      refine qcall_i (m2) ?_; simp only [Tryz.f110, go_sem]
      refine qcall_i (k11) ?_; simp only [Tryz.f110, go_sem]
      refine qcall_i (k12) ?_; simp only [Tryz.f110, go_sem]
      refine qcall_i (k7) ?_; simp only [Tryz.f110, go_sem]
      refine qcall_i (k8) ?_; simp only [Tryz.f110, go_sem]
      refine qcall_i (k10) ?_; simp only [Tryz.f110, go_sem]
      by_cases hle : Y.2 ≤ 2 ^ s
      · rw [if_pos hle] at hR
        subst hR
        refine qif_df (by omega) ?_
        simp only [Tryz.f110, go_sem]
        try exact ⟨⟨rfl, rfl⟩, rfl, rfl⟩
        try rfl
      · rw [if_neg hle] at hR
        subst hR
        refine qif_dt (by omega) ?_
        simp only [Tryz.f110, go_sem]
        try rfl
    | false =>
      have hy1 := hy rfl
      have kDv := kD rfl
      have k11 := x_minus (n := ceilS i.hi s) (m := q * (ln2S s).lo) (by omega) (by omega)
      obtain ⟨Y, hY⟩ : ∃ Y, Y = minusS (ceilS i.hi s) (q * (ln2S s).lo) := ⟨_, rfl⟩
      rw [← hY] at hy1 k11
      subst hy1
      obtain ⟨R, hR⟩ : ∃ R, R = (if Y.2 ≤ 2 ^ s then PV.tuple [.int .i64 (if false = true then -(q : Int) else (q : Int)), NN x, NN Y.2, .int .i64 0] else .tuple [.int .i64 0, .lst 0 [], .lst 0 [], .int .i64 1]) := ⟨_, rfl⟩
      rw [← hR]
      rw [if_neg Bool.false_ne_true] at hR
      unfold nbv at k5 k6 k11
      rw [hc] at k5
      generalize (floorS i.lo s).2 = L at *
      generalize ceilS i.hi s = Hc at *
      generalize (ln2S s).lo = c1 at *
      generalize (ln2S s).hi = c2 at *
      generalize q * c1 = m1v at *
      clear hsp hx hy kU kD hY
      simp only [DP, u, NN, NL] at k1 k2 k3 k4 k5 k6 k7 k8 k9 k10 k11 m1 kDv hR ⊢
      refine PC.of_body follows Tryz.func110 (by decide +kernel) rfl (by kernel_rfl) (Nat.le_of_ble_eq_true rfl) (walk ?_)
      simp only [Tryz.f110, go_sem]
      refine qif_df (by omega) ?_
      simp only [Tryz.f110, go_sem]
      refine qif_df (by omega) ?_
      simp only [Tryz.f110, go_sem]
      refine qcall_i (k1) ?_; simp only [Tryz.f110, go_sem]
      refine qcall_i (k2) ?_; simp only [Tryz.f110, go_sem]
      refine qcall_i (k3) ?_; simp only [Tryz.f110, go_sem]
      refine qif_df (by omega) ?_
      simp only [Tryz.f110, go_sem]
      refine qcall_i (k4) ?_; simp only [Tryz.f110, go_sem]
      refine qcall_i (k5) ?_; simp only [Tryz.f110, go_sem]
      refine qcall_i (k6) ?_; simp only [Tryz.f110, go_sem]
      refine qcall_i (kDv) ?_; simp only [Tryz.f110, go_sem]
      refine qcall_i (k9) ?_; simp only [Tryz.f110, wq, wq2, go_sem]
      refine qcall_i (m1) ?_; simp only [Tryz.f110, go_sem]
      refine qcall_i (k11) ?_; simp only [Tryz.f110, go_sem]
      refine qcall_i (k7) ?_; simp only [Tryz.f110, go_sem]
      refine qcall_i (k8) ?_; simp only [Tryz.f110, go_sem]
      refine qcall_i (k10) ?_; simp only [Tryz.f110, go_sem]
      by_cases hle : Y.2 ≤ 2 ^ s
      · rw [if_pos hle] at hR
        subst hR
        refine qif_df (by omega) ?_
        simp only [Tryz.f110, go_sem]
        try exact ⟨⟨rfl, rfl⟩, rfl, rfl⟩
        try rfl
      · rw [if_neg hle] at hR
        subst hR
        refine qif_dt (by omega) ?_
        simp only [Tryz.f110, go_sem]
        try rfl
  by_cases hc : (floorS i.lo s).1 = true
  · have hsp : splitK i s = (-(cD (floorS i.lo s).2 (ln2S s).lo : Int), (plusS (floorS i.lo s) (cD (floorS i.lo s).2 (ln2S s).lo * (ln2S s).lo)).2, (plusS (ceilS i.hi s) (cD (floorS i.lo s).2 (ln2S s).lo * (ln2S s).hi)).2) := by
      unfold splitK; rw [if_pos hc]
    have kU := k_Up (x := (floorS i.lo s).2) (y := (ln2S s).lo) (by omega) (by omega) (by omega)
    have hq : cD (floorS i.lo s).2 (ln2S s).lo ≤ 8192 := cD_le (by omega) (Nat.le_trans hL (by rw [h13]; exact Nat.mul_le_mul_left _ b1))
    have := main true _ _ _ hc hq (fun _ => kU) (fun h => absurd h (by decide)) hsp (fun _ => ⟨rfl, rfl⟩) (fun h => absurd h (by decide))
    have hY : (splitK i s).2.2 = (plusS (ceilS i.hi s) (cD (floorS i.lo s).2 (ln2S s).lo * (ln2S s).hi)).2 := by rw [hsp]
    have hO : splitOk i s ↔ (plusS (ceilS i.hi s) (cD (floorS i.lo s).2 (ln2S s).lo * (ln2S s).hi)).2 ≤ 2 ^ s := ⟨fun h => by have := h.2.2.2; rwa [hY] at this, fun h => ⟨r1, r2, r3, by rw [hY]; exact h⟩⟩
    rw [hsp]
    refine PC.cast this ?_
    rw [if_pos (rfl : true = true)]
    by_cases hle : (plusS (ceilS i.hi s) (cD (floorS i.lo s).2 (ln2S s).lo * (ln2S s).hi)).2 ≤ 2 ^ s
    · rw [if_pos hle, if_pos (hO.2 hle)]
    · rw [if_neg hle, if_neg (fun h => hle (hO.1 h))]
  · have hsp : splitK i s = ((((floorS i.lo s).2 / (ln2S s).hi : Nat) : Int), (floorS i.lo s).2 % (ln2S s).hi, (minusS (ceilS i.hi s) ((floorS i.lo s).2 / (ln2S s).hi * (ln2S s).lo)).2) := by
      unfold splitK; rw [if_neg hc]
    have kD := k_Div (num_bits (x := (floorS i.lo s).2) (by omega)) (num_bits (x := (ln2S s).hi) (by omega)) (by omega) (by omega) (by omega)
    have hq : (floorS i.lo s).2 / (ln2S s).hi ≤ 8192 := Nat.div_le_of_le_mul (by
      rw [Nat.mul_comm]
      exact Nat.le_trans hL (by rw [h13]; exact Nat.mul_le_mul_left _ (by omega)))
    have := main false _ _ _ (by rw [Bool.not_eq_true] at hc; exact hc) hq (fun h => absurd h (by decide)) (fun _ => kD) hsp (fun h => absurd h (by decide)) (fun _ => rfl)
    have hY : (splitK i s).2.2 = (minusS (ceilS i.hi s) ((floorS i.lo s).2 / (ln2S s).hi * (ln2S s).lo)).2 := by rw [hsp]
    have hO : splitOk i s ↔ (minusS (ceilS i.hi s) ((floorS i.lo s).2 / (ln2S s).hi * (ln2S s).lo)).2 ≤ 2 ^ s := ⟨fun h => by have := h.2.2.2; rwa [hY] at this, fun h => ⟨r1, r2, r3, by rw [hY]; exact h⟩⟩
    rw [hsp]
    refine PC.cast this ?_
    rw [if_neg (Bool.false_ne_true)]
    by_cases hle : (minusS (ceilS i.hi s) ((floorS i.lo s).2 / (ln2S s).hi * (ln2S s).lo)).2 ≤ 2 ^ s
    · rw [if_pos hle, if_pos (hO.2 hle)]
    · rw [if_neg hle, if_neg (fun h => hle (hO.1 h))]
def expPN (a b s : Nat) : PN := if a ≤ b ∧ b ≤ 2 ^ s then expN a b s else ⟨0, 0⟩
def expI (i : Iv) (s : Nat) : Iv := withinS (expPN (splitK i s).2.1 (splitK i s).2.2 s).lo (expPN (splitK i s).2.1 (splitK i s).2.2 s).hi ((s : Int) - (splitK i s).1) false
theorem exR_bits {a b s : Nat} (hx : a ≤ 2 ^ s ∧ b ≤ 2 ^ s) : ∃ n, n ≤ s + 3 ∧ (exR a b s).1.lo ≤ n * 2 ^ s ∧ (exR a b s).1.hi ≤ n * 2 ^ s ∧ (exR a b s).2.hi ≤ 2 ^ s := by
  have main : ∀ (f : Nat) (sum term : PN) (n : Nat), ExJ s ⟨a, b⟩ (exR a b s) f sum term n → ∃ n, n ≤ s + 3 ∧ (exR a b s).1.lo ≤ n * 2 ^ s ∧ (exR a b s).1.hi ≤ n * 2 ^ s ∧ (exR a b s).2.hi ≤ 2 ^ s := by
    intro f
    induction f with
    | zero =>
      intro sum term n h
      obtain ⟨g, hg⟩ := h.fuel
      omega
    | succ f ih =>
      intro sum term n h
      obtain ⟨a1, a2, a3, a4, -, -⟩ := h.next hx
      have hr := h.res
      have hc := h.c
      unfold exLoop at hr
      by_cases h0 : term.lo = 0 ∧ b = 0
      · rw [if_pos h0] at hr
        rw [← hr]
        exact ⟨n, by omega, h.slo, h.shi, h.hi⟩
      rw [if_neg h0] at hr
      by_cases h1 : ((term.times ⟨a, b⟩ s).part n).hi ≤ 1
      · rw [if_pos h1] at hr
        rw [← hr]
        exact ⟨n + 1, by omega, a3, a4, a2⟩
      · exact ih _ _ _ (h.step hx h0 h1)
  exact main _ _ _ _ ExJ.start
theorem expPN_bits {a b s : Nat} (hs : s ≤ 9000) : PLe (expPN a b s) (s + 16) := by
  unfold expPN
  split
  · rename_i h
    obtain ⟨n, h1, h2, h3, h4⟩ := exR_bits (a := a) (b := b) (s := s) ⟨by omega, h.2⟩
    have e : (n + 2) * 2 ^ s = n * 2 ^ s + 2 * 2 ^ s := Nat.add_mul _ _ _
    unfold expN
    refine ⟨Nat.le_trans (bits_mul h2 (by omega)) (by omega), Nat.le_trans (bits_mul (s := s) (n := n + 2) (by show (exR a b s).1.hi + ((exR a b s).2.hi + (exR a b s).2.hi) ≤ _; omega) (by omega)) (by omega)⟩
  · exact ⟨Nat.le_trans (show bitLen 0 ≤ 0 by decide) (Nat.zero_le _), Nat.le_trans (show bitLen 0 ≤ 0 by decide) (Nat.zero_le _)⟩
theorem splitK_range {i : Iv} {s : Nat} (h8 : 8 ≤ s) (h : splitOk i s) : -8192 ≤ (splitK i s).1 ∧ (splitK i s).1 ≤ 8192 := by
  obtain ⟨r1, r2, -, -⟩ := h
  have hL : (floorS i.lo s).2 ≤ 2 ^ (s + 12) := units_le r1 s _
  obtain ⟨b1, b2⟩ := ln2_big h8
  have hp1 := Nat.two_pow_pos (s - 1)
  have h13 : 2 ^ (s + 12) = 8192 * 2 ^ (s - 1) := by
    rw [show s + 12 = 13 + (s - 1) by omega, Nat.pow_add]
  have hq : cD (floorS i.lo s).2 (ln2S s).lo ≤ 8192 := cD_le (by omega) (Nat.le_trans hL (by rw [h13]; exact Nat.mul_le_mul_left _ b1))
  have hq2 : (floorS i.lo s).2 / (ln2S s).hi ≤ 8192 := Nat.div_le_of_le_mul (by
    rw [Nat.mul_comm]
    exact Nat.le_trans hL (by rw [h13]; exact Nat.mul_le_mul_left _ (by omega)))
  unfold splitK
  generalize (floorS i.lo s).2 / (ln2S s).hi = q2 at *
  split <;> dsimp only <;> omega
theorem expI_lim {i : Iv} {s : Nat} (h8 : 8 ≤ s) (hs : s ≤ 8900) (h : splitOk i s) : (expI i s).lim 26200 := by
  obtain ⟨b1, b2⟩ := expPN_bits (a := (splitK i s).2.1) (b := (splitK i s).2.2) (s := s) (by omega)
  have hk := splitK_range h8 h
  exact withinS_lim (n := 9000) (J := 17200) _ (by omega) (by omega) ⟨by omega, by omega⟩ (by decide)
theorem splitK_bits {i : Iv} {s : Nat} (h8 : 8 ≤ s) (hs : s ≤ 8900) (h : splitOk i s) : bitLen (splitK i s).2.1 ≤ 10000 ∧ bitLen (splitK i s).2.2 ≤ 10000 := by
  have hy := h.2.2.2
  refine ⟨?_, Nat.le_trans (bitLen_mono hy) (by have := bitLen_two2 s; omega)⟩
  have hL : (floorS i.lo s).2 ≤ 2 ^ (s + 12) := units_le h.1 s _
  obtain ⟨b1, b2⟩ := ln2_big h8
  obtain ⟨b3, b4⟩ := ln2S_bits (s := s) (by omega)
  have hp1 := Nat.two_pow_pos (s - 1)
  have h13 : 2 ^ (s + 12) = 8192 * 2 ^ (s - 1) := by
    rw [show s + 12 = 13 + (s - 1) by omega, Nat.pow_add]
  have hq : cD (floorS i.lo s).2 (ln2S s).lo ≤ 8192 := cD_le (by omega) (Nat.le_trans hL (by rw [h13]; exact Nat.mul_le_mul_left _ b1))
  have bq : bitLen (cD (floorS i.lo s).2 (ln2S s).lo) ≤ 14 := (bitLen_le _ _).2 (Nat.lt_of_le_of_lt hq (by decide))
  have bL : bitLen (floorS i.lo s).2 ≤ s + 13 := by
    rw [bitLen_le, show s + 13 = s + 12 + 1 by omega, Nat.pow_succ]
    have := Nat.two_pow_pos (s + 12)
    omega
  unfold splitK
  split
  · rename_i hc
    dsimp only
    have := mul_bits bq b3
    unfold plusS
    rw [if_pos hc]
    split
    · exact Nat.le_trans (bitLen_mono (Nat.sub_le _ _)) (by omega)
    · exact Nat.le_trans (bitLen_mono (Nat.sub_le _ _)) (by omega)
  · dsimp only
    exact Nat.le_trans (bitLen_mono (Nat.mod_le _ _)) (by omega)
theorem x_Exp {p : PV} {i : Iv} {K : Nat} (h : RI p i) (hl : i.lim K) (hK : K ≤ 200000) {s : Nat} (h8 : 8 ≤ s) (hs : s ≤ 8900) :
    PC E 56 [p, .int .i64 s] (if splitOk i s then .tuple [(expI i s).pv, .int .i64 0] else .tuple [Iv.zero.pv, .int .i64 1]) := by
  have k1 := x_Split h hl hK h8 hs
  by_cases ho : splitOk i s
  case neg =>
    rw [if_neg ho] at k1 ⊢
    obtain ⟨s1, P1, e1, s2, P2, e2, rfl, h1, h2⟩ := h
    simp only [Iv.pv, Iv.zero, Dy.zero, NN0] at k1 ⊢
    refine PC.of_body follows Tryz.func56 (by decide +kernel) rfl (by kernel_rfl) (Nat.le_of_ble_eq_true rfl) (walk ?_)
    simp only [Tryz.f56, go_sem]
    refine qcall_i (k1) ?_; simp only [Tryz.f56, go_sem]
    try rfl
  rw [if_pos ho] at k1 ⊢
  obtain ⟨c1, c2⟩ := splitK_bits h8 hs ho
  have hk := splitK_range h8 ho
  have k2 := s_Exp (a := (splitK i s).2.1) (b := (splitK i s).2.2) h8 (by omega) (by omega) (by omega)
  obtain ⟨b1, b2⟩ := expPN_bits (a := (splitK i s).2.1) (b := (splitK i s).2.2) (s := s) (by omega)
  have k3 := s_Within (n := 9000) (J := 17200) (s := (s : Int) - (splitK i s).1) false (show bitLen (expPN (splitK i s).2.1 (splitK i s).2.2 s).lo ≤ 9000 by omega) (show bitLen (expPN (splitK i s).2.1 (splitK i s).2.2 s).hi ≤ 9000 by omega) ⟨by omega, by omega⟩ (by decide)
  have wk : IntKind.wrap .i64 ((s : Int) - (splitK i s).1) = (s : Int) - (splitK i s).1 := wrap64 (by omega) (by omega)
  have ke : ∃ er : Int, PC E 111 [NN (splitK i s).2.1, NN (splitK i s).2.2, .int .i64 s] (.tuple [NN (expPN (splitK i s).2.1 (splitK i s).2.2 s).lo, NN (expPN (splitK i s).2.1 (splitK i s).2.2 s).hi, .int .i64 er]) := by
    unfold expPN
    by_cases hc : (splitK i s).2.1 ≤ (splitK i s).2.2 ∧ (splitK i s).2.2 ≤ 2 ^ s
    · rw [if_pos hc] at k2 ⊢
      exact ⟨0, k2⟩
    · rw [if_neg hc] at k2 ⊢
      exact ⟨1, k2⟩
  obtain ⟨er, k4⟩ := ke
  unfold expI
  generalize withinS (expPN (splitK i s).2.1 (splitK i s).2.2 s).lo (expPN (splitK i s).2.1 (splitK i s).2.2 s).hi ((s : Int) - (splitK i s).1) false = R at *
  generalize (expPN (splitK i s).2.1 (splitK i s).2.2 s).lo = A at *
  generalize (expPN (splitK i s).2.1 (splitK i s).2.2 s).hi = B at *
  obtain ⟨s1, P1, e1, s2, P2, e2, rfl, h1, h2⟩ := h
  generalize (splitK i s).2.1 = a at *
  generalize (splitK i s).2.2 = b at *
  generalize (splitK i s).1 = k at *
  clear k2
  simp only [Iv.pv, NN, NL] at k1 k3 k4 ⊢
  refine PC.of_body follows Tryz.func56 (by decide +kernel) rfl (by kernel_rfl) (Nat.le_of_ble_eq_true rfl) (walk ?_)
  simp only [Tryz.f56, go_sem]
  refine qcall_i (k1) ?_; simp only [Tryz.f56, go_sem]
  refine qcall_i (k4) ?_; simp only [Tryz.f56, wk, go_sem]
  refine qcall_i (k3) ?_; simp only [Tryz.f56, go_sem]
  try rfl
end
section
open Go PG Go.Proofs
open XX
def sgnD (d : Dy) (neg : Bool) : Dy := if neg = true then d.neg else d
theorem sgnD_lim {K : Nat} {d : Dy} (h : Lim K d) (neg : Bool) : Lim K (sgnD d neg) := by
  unfold sgnD; split
  · exact h.neg
  · exact h
theorem sgnD_m {d : Dy} {neg : Bool} : (sgnD d neg).m = d.m := by
  unfold sgnD Dy.neg
  split
  · split
    · rename_i h; rw [h]; rfl
    · rfl
  · rfl
theorem r_MinusF {p : PV} {d : Dy} (h : RD p d) (hf : d.fits) : PC E 102 [p] d.neg.pv := by
  obtain ⟨r, -, h2, h3⟩ := r_Minus h
  rw [h2 hf] at h3
  exact h3
theorem d_signed {p : PV} {d : Dy} (h : RD p d) (hf : d.fits) (neg : Bool) : ∃ q, RD q (sgnD d neg) ∧ PC E 170 [p, .bool neg] q := by
  have k1 := r_MinusF h hf
  cases neg with
  | true =>
    refine ⟨d.neg.pv, RD.fit (neg_ok h.ok) (by
      have := h.bits
      unfold Dy.neg
      split
      · exact Nat.le_trans (show bitLen 0 ≤ 0 by decide) (Nat.zero_le _)
      · exact this) (by
      unfold Dy.neg
      split
      · decide
      · exact hf), ?_⟩
    obtain ⟨s, q, x, e, rfl, -⟩ := h
    simp only [Dy.pv, DP, NN, NL] at k1 ⊢
    refine PC.of_body follows Tryz.func170 (by decide +kernel) rfl (by kernel_rfl) (Nat.le_of_ble_eq_true rfl) (walk ?_)
    simp only [Tryz.f170, go_sem]
    refine qcall_i (k1) ?_; simp only [Tryz.f170, go_sem]
    try rfl
  | false =>
    refine ⟨p, h, ?_⟩
    obtain ⟨s, q, x, e, rfl, -⟩ := h
    simp only [DP]
    refine PC.of_body follows Tryz.func170 (by decide +kernel) rfl (by kernel_rfl) (Nat.le_of_ble_eq_true rfl) (walk ?_)
    simp only [Tryz.f170, go_sem]
    try rfl
def decR (i : Iv) : Prop := i.right ∧ 0 < i.lo.sg
instance (i : Iv) : Decidable (decR i) := inferInstanceAs (Decidable (_ ∧ _))
theorem d_right {p : PV} {i : Iv} (h : RI p i) {dir : Int} (hd : 0 ≤ dir ∧ dir ≤ 3) : PC E 169 [p, .int .i64 dir] (.bool (decide (decR i))) := by
  have k1 := q_Right h
  obtain ⟨s1, P1, e1, s2, P2, e2, rfl, h1, h2⟩ := h
  have k2 := r_Sign h1
  simp only [DP] at k2
  refine PC.of_body follows Tryz.func169 (by decide +kernel) rfl (by kernel_rfl) (Nat.le_of_ble_eq_true rfl) (walk ?_)
  by_cases hr : i.right
  case neg =>
    rw [decide_eq_false hr] at k1
    rw [decide_eq_false (fun h : decR i => hr h.1)]
    simp only [Tryz.f169, go_sem]
    refine qcall_i (k1) ?_; simp only [Tryz.f169, go_sem]
    try rfl
  rw [decide_eq_true hr] at k1
  by_cases hs : 0 < i.lo.sg
  case neg =>
    rw [decide_eq_false (fun h : decR i => hs h.2)]
    simp only [Tryz.f169, go_sem]
    refine qcall_i (k1) ?_; simp only [Tryz.f169, go_sem]
    refine qcall_i (k2) ?_; simp only [Tryz.f169, go_sem]
    refine qif_df (by omega) ?_
    simp only [Tryz.f169, go_sem]
    try rfl
  rw [decide_eq_true (show decR i from ⟨hr, hs⟩)]
  simp only [Tryz.f169, go_sem]
  refine qcall_i (k1) ?_; simp only [Tryz.f169, go_sem]
  refine qcall_i (k2) ?_; simp only [Tryz.f169, go_sem]
  refine qif_dt (by omega) ?_
  simp only [Tryz.f169, go_sem]
  refine qif_dt (by omega) ?_
  simp only [Tryz.f169, go_sem]
  try (simp; omega)
def roundS (i : Iv) (neg : Bool) (dir : Int) : Option (Nat × Nat) :=
  if (decR i ∧ ¬ (i.lo.fits ∧ brkP i.lo) ∧ ¬ (i.hi.fits ∧ brkP i.hi)) ∧ toS (sgnD i.lo neg) false dir = toS (sgnD i.hi neg) false dir then some (toS (sgnD i.lo neg) false dir) else none
def bfoPV (o : Option (Nat × Nat)) : PV := match o with
  | some r => .tuple [u r.1, .int .u8 r.2, .bool true]
  | none => .tuple [u 0, .int .u8 0, .bool false]
theorem toE_of {d : Dy} {dir : Int} (hf : d.fits) (hd : 0 ≤ dir ∧ dir ≤ 3) : toE d false dir := ⟨hf, hd.1, hd.2, fun h => absurd h.1 (by decide)⟩
set_option maxHeartbeats 2000000 in
theorem d_Round {p : PV} {i : Iv} {K : Nat} (h : RI p i) (hl : i.lim K) (hK : K ≤ 200000) (neg : Bool) {dir : Int} (hd : 0 ≤ dir ∧ dir ≤ 3) :
    PC E 108 [p, .bool neg, .int .i64 dir] (bfoPV (roundS i neg dir)) := by
  have k1 := d_right h hd
  obtain ⟨s1, P1, e1, s2, P2, e2, rfl, h1, h2⟩ := h
  have k2 := c_Break h1
  have k3 := c_Break h2
  have f1 := hl.1.fits (by omega)
  have f2 := hl.2.fits (by omega)
  obtain ⟨q1, g1, k4⟩ := d_signed h1 f1 neg
  obtain ⟨q2, g2, k5⟩ := d_signed h2 f2 neg
  have l1 := sgnD_lim hl.1 neg
  have l2 := sgnD_lim hl.2 neg
  have k6 := r_To g1 (by have := l1.bits; omega) false dir
  have k7 := r_To g2 (by have := l2.bits; omega) false dir
  rw [if_pos (toE_of (l1.fits (by omega)) hd)] at k6
  rw [if_pos (toE_of (l2.fits (by omega)) hd)] at k7
  unfold roundS
  obtain ⟨s3, P3, x3, e3, rfl, -⟩ := g1
  obtain ⟨s4, P4, x4, e4, rfl, -⟩ := g2
  generalize toS (sgnD i.lo neg) false dir = A at *
  generalize toS (sgnD i.hi neg) false dir = B at *
  obtain ⟨a1, a2⟩ := A
  obtain ⟨b1, b2⟩ := B
  by_cases c1 : decR i
  case neg =>
    rw [if_neg (fun h => c1 h.1.1)]
    rw [decide_eq_false c1] at k1
    simp only [DP, bfoPV, u] at k1 ⊢
    refine PC.of_body follows Tryz.func108 (by decide +kernel) rfl (by kernel_rfl) (Nat.le_of_ble_eq_true rfl) (walk ?_)
    simp only [Tryz.f108, go_sem]
    refine qcall_i (k1) ?_; simp only [Tryz.f108, go_sem]
    try rfl
  rw [decide_eq_true c1] at k1
  by_cases c2 : i.lo.fits ∧ brkP i.lo
  case pos =>
    rw [if_neg (fun h => h.1.2.1 c2)]
    rw [decide_eq_true c2] at k2
    simp only [DP, bfoPV, u] at k1 k2 ⊢
    refine PC.of_body follows Tryz.func108 (by decide +kernel) rfl (by kernel_rfl) (Nat.le_of_ble_eq_true rfl) (walk ?_)
    simp only [Tryz.f108, go_sem]
    refine qcall_i (k1) ?_; simp only [Tryz.f108, go_sem]
    refine qcall_i (k2) ?_; simp only [Tryz.f108, go_sem]
    try rfl
  rw [decide_eq_false c2] at k2
  by_cases c3 : i.hi.fits ∧ brkP i.hi
  case pos =>
    rw [if_neg (fun h => h.1.2.2 c3)]
    rw [decide_eq_true c3] at k3
    simp only [DP, bfoPV, u] at k1 k2 k3 ⊢
    refine PC.of_body follows Tryz.func108 (by decide +kernel) rfl (by kernel_rfl) (Nat.le_of_ble_eq_true rfl) (walk ?_)
    simp only [Tryz.f108, go_sem]
    refine qcall_i (k1) ?_; simp only [Tryz.f108, go_sem]
    refine qcall_i (k2) ?_; simp only [Tryz.f108, go_sem]
    refine qcall_i (k3) ?_; simp only [Tryz.f108, go_sem]
    try rfl
  rw [decide_eq_false c3] at k3
  dsimp only at k6 k7
  by_cases c4 : a1 = b1
  case neg =>
    rw [if_neg (fun h => c4 (Prod.mk.inj h.2).1)]
    simp only [DP, bfoPV, u] at k1 k2 k3 k4 k5 k6 k7 ⊢
    refine PC.of_body follows Tryz.func108 (by decide +kernel) rfl (by kernel_rfl) (Nat.le_of_ble_eq_true rfl) (walk ?_)
    simp only [Tryz.f108, go_sem]
    refine qcall_i (k1) ?_; simp only [Tryz.f108, go_sem]
    refine qcall_i (k2) ?_; simp only [Tryz.f108, go_sem]
    refine qcall_i (k3) ?_; simp only [Tryz.f108, go_sem]
    refine qcall_i (k4) ?_; simp only [Tryz.f108, go_sem]
    refine qcall_i (k6) ?_; simp only [Tryz.f108, go_sem]
    refine qcall_i (k5) ?_; simp only [Tryz.f108, go_sem]
    refine qcall_i (k7) ?_; simp only [Tryz.f108, go_sem]
    refine qif_dt (by omega) ?_
    simp only [Tryz.f108, go_sem]
    try rfl
  by_cases c5 : a2 = b2
  case neg =>
    rw [if_neg (fun h => c5 (Prod.mk.inj h.2).2)]
    simp only [DP, bfoPV, u] at k1 k2 k3 k4 k5 k6 k7 ⊢
    refine PC.of_body follows Tryz.func108 (by decide +kernel) rfl (by kernel_rfl) (Nat.le_of_ble_eq_true rfl) (walk ?_)
    simp only [Tryz.f108, go_sem]
    refine qcall_i (k1) ?_; simp only [Tryz.f108, go_sem]
    refine qcall_i (k2) ?_; simp only [Tryz.f108, go_sem]
    refine qcall_i (k3) ?_; simp only [Tryz.f108, go_sem]
    refine qcall_i (k4) ?_; simp only [Tryz.f108, go_sem]
    refine qcall_i (k6) ?_; simp only [Tryz.f108, go_sem]
    refine qcall_i (k5) ?_; simp only [Tryz.f108, go_sem]
    refine qcall_i (k7) ?_; simp only [Tryz.f108, go_sem]
    refine qif_df (by omega) ?_
    simp only [Tryz.f108, go_sem]
    refine qif_dt (by omega) ?_
    simp only [Tryz.f108, go_sem]
    try rfl
  subst c4 c5
  rw [if_pos ⟨⟨c1, c2, c3⟩, rfl⟩]
  simp only [DP, bfoPV, u] at k1 k2 k3 k4 k5 k6 k7 ⊢
  refine PC.of_body follows Tryz.func108 (by decide +kernel) rfl (by kernel_rfl) (Nat.le_of_ble_eq_true rfl) (walk ?_)
  simp only [Tryz.f108, go_sem]
  refine qcall_i (k1) ?_; simp only [Tryz.f108, go_sem]
  refine qcall_i (k2) ?_; simp only [Tryz.f108, go_sem]
  refine qcall_i (k3) ?_; simp only [Tryz.f108, go_sem]
  refine qcall_i (k4) ?_; simp only [Tryz.f108, go_sem]
  refine qcall_i (k6) ?_; simp only [Tryz.f108, go_sem]
  refine qcall_i (k5) ?_; simp only [Tryz.f108, go_sem]
  refine qcall_i (k7) ?_; simp only [Tryz.f108, go_sem]
  try (refine qif_df (by omega) ?_)
  try simp only [Tryz.f108, go_sem]
  try (refine qif_df (by omega) ?_)
  try simp only [Tryz.f108, go_sem]
  try rfl
def dwn (neg : Bool) (dir : Int) : Bool := decide (dir = 1) || ((decide (dir = 3) && !neg) || (decide (dir = 2) && neg))
theorem d_down (neg : Bool) (dir : Int) : PC E 171 [.bool neg, .int .i64 dir] (.bool (dwn neg dir)) := by
  obtain ⟨R, hR⟩ : ∃ R, R = PV.bool (dwn neg dir) := ⟨_, rfl⟩
  rw [← hR]
  unfold dwn at hR
  refine PC.of_body follows Tryz.func171 (by decide +kernel) rfl (by kernel_rfl) (Nat.le_of_ble_eq_true rfl) (walk ?_)
  simp only [Tryz.f171, go_sem]
  refine qif_d (fun h1 => ?_) (fun h1 => ?_)
  · rw [decide_eq_true h1] at hR
    simp only [Tryz.f171, go_sem]
    rw [hR]; rfl
  rw [decide_eq_false h1] at hR
  simp only [Tryz.f171, go_sem]
  refine qif_d (fun h3 => ?_) (fun h3 => ?_)
  · rw [decide_eq_true h3, decide_eq_false (show ¬ dir = 2 by omega)] at hR
    cases neg
    · simp only [Tryz.f171, go_sem]
      rw [hR]; rfl
    · simp only [Tryz.f171, go_sem]
      refine qif_df (by omega) ?_
      simp only [Tryz.f171, go_sem]
      rw [hR]; rfl
  rw [decide_eq_false h3] at hR
  simp only [Tryz.f171, go_sem]
  refine qif_d (fun h2 => ?_) (fun h2 => ?_)
  · rw [decide_eq_true h2] at hR
    simp only [Tryz.f171, go_sem]
    rw [hR]; cases neg <;> rfl
  rw [decide_eq_false h2] at hR
  simp only [Tryz.f171, go_sem]
  rw [hR]; rfl
def looseD (i : Iv) (neg : Bool) (dir : Int) : Dy := sgnD (if dwn neg dir = true then i.hi else i.lo) neg
def looseS (i : Iv) (neg : Bool) (dir : Int) : Option (Nat × Nat) := if decR i then some (toS (looseD i neg dir) true dir) else none
theorem sg_m0 {d : Dy} (h : 0 < d.sg) : d.m ≠ 0 := fun h0 => by unfold Dy.sg at h; rw [if_pos h0] at h; omega
theorem decR_hi {i : Iv} (h : decR i) : 0 < i.hi.sg := by
  refine Int.not_le.1 fun hle => ?_
  have h1 := h.1.2.2
  have h3 := h.2
  rw [cmpD_sg (.inl (by omega))] at h1
  have := (sgn_pos i.lo.sg i.hi.sg).2 (by omega)
  omega
theorem d_Loose {p : PV} {i : Iv} {K : Nat} (h : RI p i) (hl : i.lim K) (hK : K ≤ 200000) (neg : Bool) {dir : Int} (hd : 0 ≤ dir ∧ dir ≤ 3) :
    PC E 109 [p, .bool neg, .int .i64 dir] (bfoPV (looseS i neg dir)) := by
  have k1 := d_right h hd
  have k2 := d_down neg dir
  obtain ⟨s1, P1, e1, s2, P2, e2, rfl, h1, h2⟩ := h
  unfold looseS looseD
  by_cases c1 : decR i
  case neg =>
    rw [if_neg c1]
    rw [decide_eq_false c1] at k1
    simp only [bfoPV, u] at k1 ⊢
    refine PC.of_body follows Tryz.func109 (by decide +kernel) rfl (by kernel_rfl) (Nat.le_of_ble_eq_true rfl) (walk ?_)
    simp only [Tryz.f109, go_sem]
    refine qcall_i (k1) ?_; simp only [Tryz.f109, go_sem]
    try rfl
  rw [if_pos c1]
  rw [decide_eq_true c1] at k1
  have m1 := sg_m0 c1.2
  have m2 := sg_m0 (decR_hi c1)
  cases hdw : dwn neg dir with
  | true =>
    rw [hdw] at k2
    rw [if_pos rfl]
    obtain ⟨q2, g2, k5⟩ := d_signed h2 (hl.2.fits (by omega)) neg
    have l2 := sgnD_lim hl.2 neg
    have k7 := r_To g2 (by have := l2.bits; omega) true dir
    rw [if_pos ⟨l2.fits (by omega), hd.1, hd.2, fun h => m2 (by have := h.2; rwa [sgnD_m] at this)⟩] at k7
    generalize toS (sgnD i.hi neg) true dir = A at *
    obtain ⟨a1, a2⟩ := A
    obtain ⟨s4, P4, x4, e4, rfl, -⟩ := g2
    simp only [DP, bfoPV, u] at k1 k5 k7 ⊢
    refine PC.of_body follows Tryz.func109 (by decide +kernel) rfl (by kernel_rfl) (Nat.le_of_ble_eq_true rfl) (walk ?_)
    simp only [Tryz.f109, go_sem]
    refine qcall_i (k1) ?_; simp only [Tryz.f109, go_sem]
    refine qcall_i (k2) ?_; simp only [Tryz.f109, go_sem]
    refine qcall_i (k5) ?_; simp only [Tryz.f109, go_sem]
    refine qcall_i (k7) ?_; simp only [Tryz.f109, go_sem]
    try rfl
  | false =>
    rw [hdw] at k2
    rw [if_neg Bool.false_ne_true]
    obtain ⟨q2, g2, k5⟩ := d_signed h1 (hl.1.fits (by omega)) neg
    have l2 := sgnD_lim hl.1 neg
    have k7 := r_To g2 (by have := l2.bits; omega) true dir
    rw [if_pos ⟨l2.fits (by omega), hd.1, hd.2, fun h => m1 (by have := h.2; rwa [sgnD_m] at this)⟩] at k7
    generalize toS (sgnD i.lo neg) true dir = A at *
    obtain ⟨a1, a2⟩ := A
    obtain ⟨s4, P4, x4, e4, rfl, -⟩ := g2
    simp only [DP, bfoPV, u] at k1 k5 k7 ⊢
    refine PC.of_body follows Tryz.func109 (by decide +kernel) rfl (by kernel_rfl) (Nat.le_of_ble_eq_true rfl) (walk ?_)
    simp only [Tryz.f109, go_sem]
    refine qcall_i (k1) ?_; simp only [Tryz.f109, go_sem]
    refine qcall_i (k2) ?_; simp only [Tryz.f109, go_sem]
    refine qcall_i (k5) ?_; simp only [Tryz.f109, go_sem]
    refine qcall_i (k7) ?_; simp only [Tryz.f109, go_sem]
    try rfl
end
section
open Go PG Go.Proofs
open XX
def nearD : Dy := mkD false 1 (-60)
def boundS (z : Iv) (sign : Int) : Int :=
  if sign = 0 ∨ ¬ z.right then 0 else if 0 ≤ cmpD z.lo (norm 710 0) then 1 else if cmpD z.hi (norm (-746) 0) ≤ 0 then 2 else if sign = 1 ∧ cmpD z.hi nearD < 0 then 3 else if sign = -1 ∧ 0 < cmpD z.lo nearD.neg then 4 else 0
theorem near_RD : RD (DP false (.lst 1 [.int .u64 1]) (-60)) nearD := RD.one (x := 1) (by decide)
set_option maxHeartbeats 2000000 in
theorem b_Of {p : PV} {z : Iv} {K : Nat} (h : RI p z) (hl : z.lim K) (hK : K ≤ 200000) (sign : Int) : PC E 51 [p, .int .i64 sign] (.int .i64 (boundS z sign)) := by
  have k1 := q_Right h
  obtain ⟨s1, P1, e1, s2, P2, e2, rfl, h1, h2⟩ := h
  have k2 := c_dOf 710 (by decide) (by decide)
  have k3 := c_dOf (-746) (by decide) (by decide)
  have g2 : RD (norm 710 0).pv (norm 710 0) := (Lim.norm (K := 20) (z := 710) (by decide) (by decide)).RD (by decide)
  have g3 : RD (norm (-746) 0).pv (norm (-746) 0) := (Lim.norm (K := 20) (z := -746) (by decide) (by decide)).RD (by decide)
  have k4 := r_Cmp h1 g2
  have k5 := r_Cmp h2 g3
  have k6 := r_Cmp h2 near_RD
  have k7 := r_MinusF near_RD (by decide)
  have g4 : RD nearD.neg.pv nearD.neg := RD.fit (neg_ok near_RD.ok) (by decide) (by decide)
  have k8 := r_Cmp h1 g4
  obtain ⟨R, hR⟩ : ∃ R, R = PV.int .i64 (boundS z sign) := ⟨_, rfl⟩
  rw [← hR]
  unfold boundS at hR
  generalize nearD.neg = N1 at *
  generalize nearD = N0 at *
  generalize norm 710 0 = N2 at *
  generalize norm (-746) 0 = N3 at *
  simp only [DP, Dy.pv, NN, NL] at k2 k3 k4 k5 k6 k7 k8
  refine PC.of_body follows Tryz.func51 (by decide +kernel) rfl (by kernel_rfl) (Nat.le_of_ble_eq_true rfl) (walk ?_)
  simp only [Tryz.f51, go_sem]
  by_cases c0 : sign = 0
  · rw [if_pos (.inl c0)] at hR
    subst hR
    refine qif_dt c0 ?_
    simp only [Tryz.f51, go_sem]
    try rfl
  refine qif_df c0 ?_
  simp only [Tryz.f51, go_sem]
  by_cases c1 : z.right
  case neg =>
    rw [decide_eq_false c1] at k1
    rw [if_pos (.inr c1)] at hR
    subst hR
    refine qcall_i (k1) ?_; simp only [Tryz.f51, go_sem]
    try rfl
  rw [decide_eq_true c1] at k1
  rw [if_neg (fun h => h.elim c0 (fun h => h c1))] at hR
  refine qcall_i (k1) ?_; simp only [Tryz.f51, go_sem]
  refine qcall_i (k2) ?_; simp only [Tryz.f51, go_sem]
  refine qcall_i (k4) ?_; simp only [Tryz.f51, go_sem]
  by_cases c2 : 0 ≤ cmpD z.lo N2
  · rw [if_pos c2] at hR
    subst hR
    refine qif_dt c2 ?_
    simp only [Tryz.f51, go_sem]
    try rfl
  rw [if_neg c2] at hR
  refine qif_df c2 ?_
  simp only [Tryz.f51, go_sem]
  refine qcall_i (k3) ?_; simp only [Tryz.f51, go_sem]
  refine qcall_i (k5) ?_; simp only [Tryz.f51, go_sem]
  by_cases c3 : cmpD z.hi N3 ≤ 0
  · rw [if_pos c3] at hR
    subst hR
    refine qif_dt c3 ?_
    simp only [Tryz.f51, go_sem]
    try rfl
  rw [if_neg c3] at hR
  refine qif_df c3 ?_
  simp only [Tryz.f51, go_sem]
  by_cases c4 : sign = 1
  · refine qif_dt c4 ?_
    simp only [Tryz.f51, go_sem]
    refine qcall_i (k6) ?_; simp only [Tryz.f51, go_sem]
    by_cases c5 : cmpD z.hi N0 < 0
    · rw [if_pos ⟨c4, c5⟩] at hR
      subst hR
      refine qif_dt c5 ?_
      simp only [Tryz.f51, go_sem]
      try rfl
    · rw [if_neg (fun h => c5 h.2), if_neg (fun h => by omega)] at hR
      subst hR
      refine qif_df c5 ?_
      simp only [Tryz.f51, go_sem]
      refine qif_df (by omega) ?_
      simp only [Tryz.f51, go_sem]
      try rfl
  rw [if_neg (fun h => c4 h.1)] at hR
  refine qif_df c4 ?_
  simp only [Tryz.f51, go_sem]
  by_cases c6 : sign = -1
  · refine qif_dt c6 ?_
    simp only [Tryz.f51, go_sem]
    refine qcall_i (k7) ?_; simp only [Tryz.f51, go_sem]
    refine qcall_i (k8) ?_; simp only [Tryz.f51, go_sem]
    by_cases c7 : 0 < cmpD z.lo N1
    · rw [if_pos ⟨c6, c7⟩] at hR
      subst hR
      refine qif_dt c7 ?_
      simp only [Tryz.f51, go_sem]
      try rfl
    · rw [if_neg (fun h => c7 h.2)] at hR
      subst hR
      refine qif_df c7 ?_
      simp only [Tryz.f51, go_sem]
      try rfl
  · rw [if_neg (fun h => c6 h.1)] at hR
    subst hR
    refine qif_df c6 ?_
    simp only [Tryz.f51, go_sem]
    try rfl
def classS (c : Int) (neg : Bool) (dir : Int) : Nat × Nat :=
  if c = 1 then (withS neg (if dir = 0 ∨ upw dir neg = true then INF else MAX), 5) else if c = 2 then (withS neg (if upw dir neg = true then 1 else 0), 3)
  else if c = 3 then toS (mkD neg 1 0) true dir else toS (mkD neg 18014398509481983 (-54)) true dir
set_option maxHeartbeats 2000000 in
theorem b_Result {c : Int} (hc : 1 ≤ c ∧ c ≤ 4) (neg : Bool) {dir : Int} (hd : 0 ≤ dir ∧ dir ≤ 3) : PC E 53 [.int .i64 c, .bool neg, .int .i64 dir] (bfoPV (some (classS c neg dir))) := by
  have k1 := c_Over neg dir
  have k2 := c_Under neg dir
  have g1 : RD (DP neg (.lst 1 [.int .u64 1]) 0) (mkD neg 1 0) := RD.one (x := 1) (by decide)
  have g2 : RD (DP neg (.lst 1 [.int .u64 18014398509481983]) (-54)) (mkD neg 18014398509481983 (-54)) := RD.one (x := 18014398509481983) (by decide)
  have k3 := r_To g1 (by cases neg <;> decide) true dir
  have k4 := r_To g2 (by cases neg <;> decide) true dir
  rw [if_pos ⟨by cases neg <;> decide, hd.1, hd.2, fun h => absurd h.2 (by cases neg <;> decide)⟩] at k3 k4
  obtain ⟨R, hR⟩ : ∃ R, R = bfoPV (some (classS c neg dir)) := ⟨_, rfl⟩
  rw [← hR]
  unfold bfoPV classS at hR
  generalize toS (mkD neg 1 0) true dir = A3 at *
  generalize toS (mkD neg 18014398509481983 (-54)) true dir = A4 at *
  generalize withS neg (if dir = 0 ∨ upw dir neg = true then INF else MAX) = A1 at *
  generalize withS neg (if upw dir neg = true then 1 else 0) = A2 at *
  obtain ⟨a1, a2⟩ := A3
  obtain ⟨b1, b2⟩ := A4
  simp only [DP, u] at k1 k2 k3 k4 hR
  refine PC.of_body follows Tryz.func53 (by decide +kernel) rfl (by kernel_rfl) (Nat.le_of_ble_eq_true rfl) (walk ?_)
  simp only [Tryz.f53, go_sem]
  refine qif_df (by omega) ?_
  simp only [Tryz.f53, go_sem]
  refine qif_df (by omega) ?_
  simp only [Tryz.f53, List.range_zero, List.getD_cons_zero, List.getD_cons_succ, Nat.reduceMod, go_sem]
  by_cases c1 : c = 1
  · rw [if_pos c1] at hR
    subst hR
    refine qif_dt c1 ?_
    simp only [Tryz.f53, go_sem]
    refine qcall_i (k1) ?_; simp only [Tryz.f53, go_sem]
    try rfl
  rw [if_neg c1] at hR
  refine qif_df c1 ?_
  simp only [Tryz.f53, go_sem]
  by_cases c2 : c = 2
  · rw [if_pos c2] at hR
    subst hR
    refine qif_dt c2 ?_
    simp only [Tryz.f53, go_sem]
    refine qcall_i (k2) ?_; simp only [Tryz.f53, go_sem]
    try rfl
  rw [if_neg c2] at hR
  refine qif_df c2 ?_
  simp only [Tryz.f53, go_sem]
  by_cases c3 : c = 3
  · rw [if_pos c3] at hR
    subst hR
    refine qif_dt c3 ?_
    simp only [Tryz.f53, List.range_zero, List.getD_cons_zero, List.getD_cons_succ, Nat.reduceMod, go_sem]
    refine qcall_i (k3) ?_; simp only [Tryz.f53, go_sem]
    try rfl
  rw [if_neg c3] at hR
  subst hR
  refine qif_df c3 ?_
  simp only [Tryz.f53, go_sem]
  refine qif_dt (by omega) ?_
  simp only [Tryz.f53, List.range_zero, List.getD_cons_zero, List.getD_cons_succ, Nat.reduceMod, go_sem]
  refine qcall_i (k4) ?_; simp only [Tryz.f53, go_sem]
  try rfl
end
end
section
section
open Go PG Go.Proofs
open XX
def planL : Nat → Nat → Nat → List Nat
  | 0, _, t => [t]
  | f + 1, n, t => if n < t then n :: planL f (2 * n) t else [t]
def planOk (f t : Int) : Prop := 32 ≤ f ∧ f ≤ t ∧ 64 ≤ t ∧ t ≤ 8192
instance (f t : Int) : Decidable (planOk f t) := inferInstanceAs (Decidable (_ ∧ _))
def planS (f t : Int) : List Nat := planL 8 f.toNat t.toNat
def IL (l : List Nat) : List PV := l.map fun n : Nat => PV.int .i64 (n : Int)
theorem planL_len : ∀ f n t, (planL f n t).length ≤ f + 1
  | 0, n, t => Nat.le_refl _
  | f + 1, n, t => by
    unfold planL
    split
    · have := planL_len f (2 * n) t
      simp; omega
    · simp
theorem planL_range : ∀ f n t, 32 ≤ n → 32 ≤ t → ∀ x ∈ planL f n t, 32 ≤ x ∧ x ≤ t
  | 0, n, t, hn, ht, x, hx => by
    unfold planL at hx
    rw [List.mem_singleton] at hx; omega
  | f + 1, n, t, hn, ht, x, hx => by
    unfold planL at hx
    split at hx
    · rename_i h
      rcases List.mem_cons.1 hx with h1 | h1
      · omega
      · exact planL_range f (2 * n) t (by omega) ht x h1
    · rw [List.mem_singleton] at hx; omega
theorem planS_range {f t : Int} (h : planOk f t) {x : Nat} (hx : x ∈ planS f t) : 32 ≤ x ∧ (x : Int) ≤ t ∧ x ≤ 8192 := by
  obtain ⟨h1, h2, h3, h4⟩ := h
  have := planL_range 8 f.toNat t.toNat (by omega) (by omega) x hx
  omega
set_option maxHeartbeats 2000000 in
theorem c_Plan (f t : Int) : PC E 99 [.int .i64 f, .int .i64 t] (if planOk f t then .tuple [.lst (planS f t).length (IL (planS f t)), .int .i64 0] else .tuple [.lst 0 [], .int .i64 1]) := by
  obtain ⟨R, hR⟩ : ∃ R, R = (if planOk f t then PV.tuple [.lst (planS f t).length (IL (planS f t)), .int .i64 0] else .tuple [.lst 0 [], .int .i64 1]) := ⟨_, rfl⟩
  rw [← hR]
  refine PC.of_body follows Tryz.func99 (by decide +kernel) rfl (by kernel_rfl) (Nat.le_of_ble_eq_true rfl) (walk ?_)
  simp only [Tryz.f99, go_sem]
  by_cases c1 : f < 32
  · rw [if_neg (fun h => by have := h.1; omega)] at hR
    subst hR
    refine qif_dt c1 ?_
    simp only [Tryz.f99, go_sem]
    try rfl
  refine qif_df c1 ?_
  simp only [Tryz.f99, go_sem]
  by_cases c2 : f > t
  · rw [if_neg (fun h => by have := h.2.1; omega)] at hR
    subst hR
    refine qif_dt c2 ?_
    simp only [Tryz.f99, go_sem]
    try rfl
  refine qif_df c2 ?_
  simp only [Tryz.f99, go_sem]
  by_cases c3 : t < 64
  · rw [if_neg (fun h => by have := h.2.2.1; omega)] at hR
    subst hR
    refine qif_dt c3 ?_
    simp only [Tryz.f99, go_sem]
    try rfl
  refine qif_df c3 ?_
  simp only [Tryz.f99, go_sem]
  by_cases c4 : t > 8192
  · rw [if_neg (fun h => by have := h.2.2.2; omega)] at hR
    subst hR
    refine qif_dt c4 ?_
    simp only [Tryz.f99, go_sem]
    try rfl
  refine qif_df c4 ?_
  simp only [Tryz.f99, go_sem]
  rw [if_pos ⟨by omega, by omega, by omega, by omega⟩] at hR
  have eP : planS f t = planL 8 f.toNat t.toNat := rfl
  have hlen := planL_len 8 f.toNat t.toNat
  rw [← eP] at hlen
  obtain ⟨T, rfl⟩ : ∃ T : Nat, t = T := ⟨t.toNat, by omega⟩
  obtain ⟨F, rfl⟩ : ∃ F : Nat, f = F := ⟨f.toNat, by omega⟩
  rw [Int.toNat_natCast, Int.toNat_natCast] at eP
  generalize planS (F : Int) (T : Int) = P at *
  refine PLoop.nilrow 6 32 (by decide) 3 1 rfl ?_
  refine PLoop.intro (fun i : List Nat × Nat × Nat => ⟨[(1, .val (.int .i64 T)), (6, .row 32), (7, .val (.int .i64 i.2.1))], [(32, (.row 3 1 i.1.length (IL i.1), false))]⟩)
    (fun i => i.1 ++ planL i.2.2 i.2.1 T = P ∧ T ≤ i.2.1 * 2 ^ i.2.2 ∧ i.1.length + i.2.2 = 8 ∧ i.2.1 ≤ 16384) (fun i => i.2.2) ([], F, 8) ⟨eP.symm, by show T ≤ F * 256; omega, rfl, by dsimp only; omega⟩ ?_ fun i hi => walk ?_
  · simp [Wk, sget, killL, kill1, SV.key, IL]
  obtain ⟨l, n, fu⟩ := i
  dsimp only at hi ⊢
  obtain ⟨h1, h2, h3, h4⟩ := hi
  have wn : IntKind.wrap .i64 ((n : Int) * 2) = ((2 * n : Nat) : Int) := by rw [wrap64 (by omega) (by omega)]; omega
  have hmx : maxLen = 9223372036854775807 := rfl
  simp only [Tryz.f99, go_sem]
  refine qif_d (fun h => ?_) (fun h => ?_)
  · obtain ⟨g, rfl⟩ : ∃ g, fu = g + 1 := ⟨fu - 1, by
      rcases Nat.eq_zero_or_pos fu with h0 | h0
      · subst h0; omega
      · omega⟩
    unfold planL at h1
    rw [if_pos (by omega)] at h1
    simp only [Tryz.f99, List.range_zero, List.getD_cons_zero, List.getD_cons_succ, Nat.reduceMod, wn, go_sem]
    refine qand_i (by rw [hmx]; omega) ?_
    simp only [Tryz.f99, List.range_zero, List.getD_cons_zero, List.getD_cons_succ, Nat.reduceMod, wn, go_sem]
    have h5 : T ≤ 2 * n * 2 ^ g := by
      rw [Nat.pow_succ] at h2
      rw [Nat.mul_comm 2 n, Nat.mul_assoc, Nat.mul_comm 2]
      exact h2
    have h6 : l ++ [n] ++ planL g (2 * n) T = P := by rw [List.append_assoc]; exact h1
    refine ⟨(l ++ [n], 2 * n, g), ⟨h6, h5, by dsimp only; rw [List.length_append, List.length_singleton]; omega, by dsimp only; omega⟩, by dsimp only; omega, ?_⟩
    simp [Wk, sget, killL, kill1, SV.key, IL]
  · have e : planL fu n T = [T] := by
      cases fu with
      | zero => rfl
      | succ g => unfold planL; rw [if_neg (by omega)]
    rw [e] at h1
    simp only [Tryz.f99, List.range_zero, List.getD_cons_zero, List.getD_cons_succ, Nat.reduceMod, go_sem]
    refine qand_i (by rw [hmx]; omega) ?_
    simp only [Tryz.f99, List.range_zero, List.getD_cons_zero, List.getD_cons_succ, Nat.reduceMod, go_sem]
    subst h1
    subst hR
    simp [IL]
end
section
open Go PG Go.Proofs Go.RowKit
open XX
def ansC (v : (Nat × Nat) × Iv) : List PV := [.int .u64 (v.1.1 : Nat), .int .u8 (v.1.2 : Nat), .int .i64 0, .bool v.2.lo.s, NN v.2.lo.m, .int .i64 v.2.lo.e, .bool v.2.hi.s, NN v.2.hi.m, .int .i64 v.2.hi.e]
def ans0 : (Nat × Nat) × Iv := ((0, 0), Iv.zero)
def goS (A : Nat → (Nat × Nat) × Iv) (ok : Nat → Bool) : List Nat → ((Nat × Nat) × Iv) → Nat → Nat → (((Nat × Nat) × Iv) × Nat × Nat) × Nat
  | [], v, b, t => ((v, b, t), 2)
  | n :: l, v, b, t => if ok n = true then ((A n, n, t + 1), 0) else goS A ok l (A n) n (t + 1)
def runC (r : (((Nat × Nat) × Iv) × Nat × Nat) × Nat) : List PV := ansC r.1.1 ++ [.int .i64 (r.1.2.1 : Nat), .int .i64 (r.1.2.2 : Nat), .int .i64 (r.2 : Nat)]
theorem func_nil {P : Program} (w : World) {t : TypeId} {d : TypeDesc} {ps rs : Array TypeId} (ht : P.underlying t = some d) (hd : ∃ a b c, d = .func a b c) {f : Fn} {xs ys : Array Value} (x y : Operand) :
    (do eqGuard .eql t x y (.func f xs ys) .nilFunc; binOp .eql t (.func f xs ys) .nilFunc : Sem Value).run P w = .ok (.bool false) w := by
  obtain ⟨a, b, c, rfl⟩ := hd
  have h : ∀ d : Nat, (Op.equalIn (d + 1) t (.func f xs ys) .nilFunc).run P w = .ok false w := fun d => by
    simp [Op.equalIn, run_underlying ht]
  simp only [binOp]
  simp [eqGuard, Op.equal, Op.maxDepth, h 9999]
theorem step_atV {ops : Array Oper} {i : Nat} {o : Oper} {s s' : PS} (ho : ops[i]? = some o) (hg : o.guard = none) (hs : StepP E o s s') : StepI E ops i s s' := ⟨o, ho, by rw [hg]; exact hs⟩
theorem nfq_ops {N : Nat} {wk : Gh} {w0 : Fm} {Pr0 : Nat → Nat → Prop} {m : Nat → Value} {Pr : Nat → Nat → Prop} {a : Act} {w : World} {Q : Exit → Act → World → Prop} {t0 t1 : TypeId} {p0 p1 : String} {f0 f1 : Array Edge} {τ : List (Nat × SV)} {σ : List (Nat × (Bk × Bool))} {f : FuncId} {cs : List PV} (hN : 26 ≤ N)
    (hr : Rel E N wk w0 Pr0 (ES.den ⟨τ, σ⟩) m Pr a w) (h2 : sget τ 2 = some (.val (.clo f cs)))
    (hQ : ∀ m' Pr' a' w', Rel E N wk w0 Pr0 (ES.den ⟨(14, .val (.bool false)) :: (13, .val (.clo f cs)) :: τ, σ⟩) m' Pr' a' w' → Q .normal a' w') :
    wpOpsIn (RF none) 0 E.P #[⟨some 13, .move (.tmp 2), t0, p0, f0, none⟩, ⟨some 14, .binOp .eql 215 (.tmp 13) (.const .nilFunc) 215, t1, p1, f1, none⟩] Q [0, 1] a w := by
  obtain ⟨o0, h0⟩ : ∃ o : Oper, o = ⟨some 13, .move (.tmp 2), t0, p0, f0, none⟩ := ⟨_, rfl⟩
  obtain ⟨o1, h1⟩ : ∃ o : Oper, o = ⟨some 14, .binOp .eql 215 (.tmp 13) (.const .nilFunc) 215, t1, p1, f1, none⟩ := ⟨_, rfl⟩
  rw [← h0, ← h1]
  have hds : dstsOk N #[o0, o1] = true := by
    subst h0 h1
    rw [dstsOk, ← Array.all_toList]
    simp only [List.all_cons, List.all_nil, Bool.and_true, Bool.and_eq_true, decide_eq_true_eq]
    exact ⟨(by omega : 13 < N), (by omega : 14 < N)⟩
  have nm : ∀ (i : Nat) (o : Oper) (s : PS), #[o0, o1][i]? = some o → isNew o.op = false → NMs #[o0, o1] [i] s := fun i o s ho hn j hj o' ho' hn' => by
    rw [List.mem_singleton] at hj
    subst hj
    rw [ho] at ho'
    cases ho'
    rw [hn] at hn'
    cases hn'
  rw [wpOpsIn_cons]
  refine stepI_sound (s' := ES.den ⟨(13, .val (.clo f cs)) :: τ, σ⟩) hds hr (nm 0 o0 _ rfl (by rw [h0]; rfl)) (step_atV (o := o0) rfl (by rw [h0]) ?_) fun m1 Pr1 a1 w1 hr1 => ?_
  · rw [h0]
    show StepP E ⟨some 13, .move (.tmp 2), t0, p0, f0, none⟩ _ _
    unfold StepP
    refine (if_pos (show isA (Op.move (Operand.tmp 2)) = true from rfl)).mpr ⟨.val (.clo f cs), ?_, rfl⟩
    show stepA E (Op.move (Operand.tmp 2)) (opSV E (sget τ)) = _
    simp only [stepA, opSV, h2]
  rw [wpOpsIn_cons]
  unfold wpOpIn
  have e1 : (#[o0, o1] : Array Oper)[1]? = some o1 := rfl
  rw [e1]
  simp only
  rw [if_pos (by rw [h1]; simp [Region.wanted]), h1]
  obtain ⟨xv, hxv, ex⟩ := hr1.tmp 13 (.val (.clo f cs)) rfl
  have ev : a1.eval (.tmp 13) = xv := by simp only [Act.eval, getD_of hxv]
  obtain ⟨d, hty, hd⟩ : ∃ d, Tryz.prog.underlying 215 = some d ∧ ∃ a b c, d = .func a b c := ⟨_, Tryz.underlying215, _, _, _, rfl⟩
  have hrun : (execOp a1.eval ⟨some 14, .binOp .eql 215 (.tmp 13) (.const .nilFunc) 215, t1, p1, f1, none⟩).run E.P w1 = .ok (.value (.bool false)) w1 := by
    simp only [execOp]
    rw [ev, show a1.eval (.const .nilFunc) = .nilFunc from rfl]
    have ex' : Rep _ (.clo f cs) xv := ex
    obtain ⟨xs, rfl, -⟩ := ex'.clo_inv
    rw [Sem.run_bind, show E.P = Tryz.prog from rfl, func_nil w1 (ps := #[]) (rs := #[]) hty hd]
    rfl
  refine wpIn_of_wp (fun c hc => by cases hc) (val_step hr1 (fun d hd => by cases hd; exact Nat.lt_of_lt_of_le (by decide) hN) hrun (v := .val (.bool false)) (Rep.bool false) fun m2 Pr2 a2 w2 hr2 => ?_)
  exact hQ m2 Pr2 a2 w2 hr2
theorem IL_get (P : List Nat) (i : Nat) (h : i < P.length) : (IL P)[i]? = some (.int .i64 ((P.getD i 0 : Nat) : Int)) := by
  unfold IL
  rw [List.getElem?_map, List.getD_eq_getElem?_getD, List.getElem?_eq_getElem h]
  rfl
set_option maxHeartbeats 4000000 in
theorem c_Go {f : Nat} (hmu : E.mu f = false) {cs : List PV} {A : Nat → (Nat × Nat) × Iv} {ok : Nat → Bool} {P : List Nat} (hl : P.length ≤ 1000) (hk : ∀ n ∈ P, PC E f (.int .i64 (n : Nat) :: cs) (.tuple [.agg (ansC (A n)), .bool (ok n)])) :
    PC E 154 [.lst P.length (IL P), .np, .clo f cs] (.tuple [.agg (runC (goS A ok P ans0 0 0)), .int .i64 0]) := by
  have hk' : ∀ i, i < P.length → PC E f (.int .i64 ((P.getD i 0 : Nat) : Int) :: cs) (.tuple [.agg (ansC (A (P.getD i 0))), .bool (ok (P.getD i 0))]) := fun i hi =>
    hk _ (by rw [List.getD_eq_getElem?_getD, List.getElem?_eq_getElem hi]; exact List.getElem_mem _)
  have hg := IL_get P
  have hdr : ∀ i, i < P.length → P.drop i = P.getD i 0 :: P.drop (i + 1) := fun i hi => by
    rw [List.getD_eq_getElem?_getD, List.getElem?_eq_getElem hi]
    exact List.drop_eq_getElem_cons hi
  have hd0 : P.drop P.length = [] := List.drop_length
  have hR0 : goS A ok (P.drop 0) ans0 0 0 = goS A ok P ans0 0 0 := by rw [List.drop_zero]
  rw [E_mu] at hmu
  generalize goS A ok P ans0 0 0 = R at *
  obtain ⟨X, hX⟩ : ∃ X : Nat → Nat, ∀ i, P.getD i 0 = X i := ⟨_, fun _ => rfl⟩
  simp only [hX] at hg hk' hdr
  clear hk hX
  generalize IL P = IP at *
  generalize hn : P.length = n at *
  refine PC.of_sem Tryz.func154 (by decide +kernel) rfl (Nat.le_of_ble_eq_true rfl) ?_
  refine PSem.cut follows (by kernel_rfl) 2 (fun _ : Unit => ⟨[(0, .val (.lst n IP)), (1, .val .np), (2, .val (.clo f cs)), (6, .ptr 6 0), (7, .val (.int .i64 0)), (8, .ptr 8 0)], [(6, (.box (ansC ans0 ++ [.int .i64 0, .int .i64 0, .int .i64 0]), false)), (8, (.box (ansC ans0 ++ [.int .i64 0, .int .i64 0, .int .i64 0]), false))]⟩) (fun _ => True) ?_ (fun _ _ => ?_)
  · simp only [Tryz.f154, hmu, qfirst_succ, qfirst_zero, after_succ, after_zero, go_sem]
    try refine ⟨(), ?_⟩
    simp [Wk, sget, killL, kill1, SV.key, ansC, ans0, Iv.zero, Dy.zero, NN0]
  · intro wk w0 Pr0 m Pr act w hr
    simp only [after_succ, after_zero]
    refine wpIn_seq (wpIn_seq (wpIn_region (nfq_ops (N := 49) (by decide) hr rfl fun m1 Pr1 a1 w1 hr1 => ?_)))
    have hv := (hr1.opSV (x := .tmp 14) (v := .val (.bool false)) rfl : Rep _ _ _).bool_inv
    refine wpIn_cond_false hv (wpIn_skip ?_)
    refine PSem.last follows (by kernel_rfl) ?_ wk w0 Pr0 m1 Pr1 a1 w1 hr1
    simp only [ansC, ans0, Iv.zero, Dy.zero, List.cons_append, List.nil_append]
    simp only [Tryz.f154, hmu, go_sem]
    refine PLoop.intro (fun i : Nat × ((Nat × Nat) × Iv) × Nat × Nat => ⟨[(1, .val .np), (2, .val (.clo f cs)), (6, .ptr 6 0), (8, .ptr 8 0), (17, .val (.lst n IP)), (18, .val (.int .i64 n)), (19, .val (.int .i64 i.1))],
      [(6, (.box (ansC ans0 ++ [.int .i64 0, .int .i64 0, .int .i64 0]), false)), (8, (.box (ansC i.2.1 ++ [.int .i64 (i.2.2.1 : Nat), .int .i64 (i.2.2.2 : Nat), .int .i64 2]), false))]⟩)
      (fun i => i.1 ≤ n ∧ goS A ok (P.drop i.1) i.2.1 i.2.2.1 i.2.2.2 = R ∧ i.2.2.2 = i.1) (fun i => n - i.1) (0, ans0, 0, 0) ⟨Nat.zero_le _, hR0, rfl⟩ ?_ fun i hi => walk ?_
    · simp [Wk, sget, killL, kill1, SV.key, ansC, ans0, Iv.zero, Dy.zero, NN0]
    obtain ⟨i, v, b, t⟩ := i
    dsimp only at hi ⊢
    obtain ⟨hi, hgo, rfl⟩ := hi
    have wi : IntKind.wrap .i64 ((t : Int) + 1) = ((t + 1 : Nat) : Int) := by rw [wrap64 (by omega) (by omega)]; omega
    simp only [ansC, ans0, Iv.zero, Dy.zero, List.cons_append, List.nil_append]
    simp only [Tryz.f154, go_sem]
    refine qif_d (fun h => ?_) (fun h => ?_)
    · have hin : t < n := by omega
      have x1 := hg t hin
      have k1 := hk' t hin
      rw [hdr t hin] at hgo
      unfold goS at hgo
      generalize X t = x at *
      cases hok : ok x with
      | true =>
        rw [hok, if_pos rfl] at hgo
        rw [hok] at k1
        subst hgo
        simp only [ansC] at k1
        simp only [Tryz.f154, hmu, go_sem]
        refine qand_i (by first | omega | (simp [V_length, U_length, tab_length, maxLen]; done) | (simp [V_length, U_length, tab_length, maxLen]; omega) | (refine ⟨?_, ?_⟩ <;> first | omega | (simp [V_length, U_length, tab_length, maxLen]; done) | (simp [V_length, U_length, tab_length, maxLen]; omega))) ?_; simp only [Tryz.f154, hmu, go_sem]
        refine qval_i (congrArg (Option.map _) x1) ?_
        simp only [Tryz.f154, hmu, nilCmp, go_sem]
        refine qcall_i (k1) ?_; simp only [Tryz.f154, hmu, wi, go_sem]
        simp [runC, ansC]
      | false =>
        rw [hok, if_neg Bool.false_ne_true] at hgo
        rw [hok] at k1
        simp only [ansC] at k1
        simp only [Tryz.f154, hmu, go_sem]
        refine qand_i (by first | omega | (simp [V_length, U_length, tab_length, maxLen]; done) | (simp [V_length, U_length, tab_length, maxLen]; omega) | (refine ⟨?_, ?_⟩ <;> first | omega | (simp [V_length, U_length, tab_length, maxLen]; done) | (simp [V_length, U_length, tab_length, maxLen]; omega))) ?_; simp only [Tryz.f154, hmu, go_sem]
        refine qval_i (congrArg (Option.map _) x1) ?_
        simp only [Tryz.f154, hmu, nilCmp, go_sem]
        refine qcall_i (k1) ?_; simp only [Tryz.f154, hmu, wi, go_sem]
        refine ⟨(t + 1, A x, x, t + 1), ⟨by omega, hgo, rfl⟩, by dsimp only; omega, ?_⟩
        simp [Wk, sget, killL, kill1, SV.key, ansC, ans0, Iv.zero, Dy.zero, NN0]
    · have hin : t = n := by omega
      subst hin
      rw [hd0] at hgo
      unfold goS at hgo
      subst hgo
      simp only [Tryz.f154, go_sem]
      simp [runC, ansC]
end
section
open Go PG Go.Proofs
open XX
structure Ask where
  x : Dy
  y : Dy
  n : Nat
  neg : Bool
  dir : Int
  f : Int
  t : Int
def RA (p : PV) (a : Ask) : Prop := ∃ (s1 : Bool) (P1 : PV) (e1 : Int) (s2 : Bool) (P2 : PV) (e2 : Int),
  p = .agg [.bool s1, P1, .int .i64 e1, .bool s2, P2, .int .i64 e2, .int .u64 (a.n : Nat), .bool a.neg, .int .i64 a.dir, .int .i64 a.f, .int .i64 a.t] ∧ RD (DP s1 P1 e1) a.x ∧ RD (DP s2 P2 e2) a.y
structure AskOk (a : Ask) : Prop where
  x : LgOk a.x
  xl : -2200 ≤ a.x.top ∧ a.x.top ≤ 2200
  xb : bitLen a.x.m ≤ 2400
  y : a.y.ok
  y0 : a.y.m ≠ 0
  yb : bitLen a.y.m ≤ 64
  yt : -1100 ≤ a.y.top ∧ a.y.top ≤ 1100
  n1 : 1 ≤ a.n
  nW : a.n < W
  dir : 0 ≤ a.dir ∧ a.dir ≤ 3
  plan : planOk a.f a.t
theorem top_eq {d : Dy} (h : d.m ≠ 0) : d.top = bitLen d.m - 1 + d.e := by unfold Dy.top; rw [if_neg h]
theorem lim_top {K : Nat} {d : Dy} (ho : d.ok) (h0 : d.m ≠ 0) (he : -(K : Int) ≤ d.e) (ht : d.top < K) : Lim K d := by
  refine ⟨ho, .inr he, Nat.lt_of_lt_of_le (top_at h0 he).2 (Nat.pow_le_pow_right (by decide) (by omega))⟩
theorem AskOk.xLim {a : Ask} (h : AskOk a) : Lim 4700 a.x := by
  have h1 := h.xl
  have h2 := h.xb
  have h3 := bitLen_pos h.x.m0
  have h4 := top_eq h.x.m0
  exact lim_top h.x.ok h.x.m0 (by omega) (by omega)
theorem AskOk.yLim {a : Ask} (h : AskOk a) : Lim 1200 a.y := by
  have h1 := h.yt
  have h2 := h.yb
  have h3 := bitLen_pos h.y0
  have h4 := top_eq h.y0
  exact lim_top h.y h.y0 (by omega) (by omega)
theorem o_short {p : PV} {d : Dy} {K : Nat} (h : RD p d) (hl : Lim K d) (hK : K ≤ 200000) {b mt : Int} (hb : (bitLen d.m : Int) ≤ b) (ht : -mt ≤ d.top ∧ d.top ≤ mt) (hm : mt ≤ 1073741824) : PC E 212 [p, .int .i64 b, .int .i64 mt] (.bool true) := by
  have k1 := r_Bare h
  rw [okD_of (hl.fits (by omega))] at k1
  have hR : RD d.pv d := hl.RD (by omega)
  have k2 := r_Top hR
  have k3 := k_Bits (num_bits (x := d.m) (by have := hl.bits; omega))
  have wn : IntKind.wrap .i64 (0 - mt) = -mt := by rw [wrap64 (by omega) (by omega)]; omega
  generalize decide (d.m ≠ 0) = b0 at *
  generalize d.top = T at *
  obtain ⟨s, q, x, e, rfl, -⟩ := h
  simp only [DP, Dy.pv, NN, NL] at k1 k2 k3 ⊢
  refine PC.of_body follows Tryz.func212 (by decide +kernel) rfl (by kernel_rfl) (Nat.le_of_ble_eq_true rfl) (walk ?_)
  simp only [Tryz.f212, go_sem]
  refine qcall_i (k1) ?_; simp only [Tryz.f212, go_sem]
  refine qcall_i (k2) ?_; simp only [Tryz.f212, go_sem]
  refine qcall_i (k3) ?_; simp only [Tryz.f212, go_sem]
  refine qif_dt hb ?_
  simp only [Tryz.f212, wn, go_sem]
  refine qif_dt (by omega) ?_
  simp only [Tryz.f212, go_sem]
  simp; omega
theorem o_Right {p : PV} {a : Ask} (h : RA p a) (ha : AskOk a) : PC E 151 [p] (.bool true) := by
  obtain ⟨s1, P1, e1, s2, P2, e2, rfl, h1, h2⟩ := h
  have k1 := c_Plan a.f a.t
  rw [if_pos ha.plan] at k1
  have k2 := o_short h1 ha.xLim (by decide) (b := 4000) (mt := 1048576) (by have := ha.x.bits; omega) (by have := ha.x.top; omega) (by decide)
  have k3 := r_Sign h1
  rw [ha.x.sg] at k3
  have k4 := o_short h2 ha.yLim (by decide) (b := 64) (mt := 1100) (by have := ha.yb; omega) (by have := ha.yt; omega) (by decide)
  have hn := ha.n1
  have hd := ha.dir
  generalize (planS a.f a.t).length = L at *
  generalize IL (planS a.f a.t) = IP at *
  simp only [DP] at k1 k2 k3 k4
  refine PC.of_body follows Tryz.func151 (by decide +kernel) rfl (by kernel_rfl) (Nat.le_of_ble_eq_true rfl) (walk ?_)
  simp only [Tryz.f151, go_sem]
  refine qcall_i (k1) ?_; simp only [Tryz.f151, go_sem]
  refine qcall_i (k2) ?_; simp only [Tryz.f151, go_sem]
  refine qcall_i (k3) ?_; simp only [Tryz.f151, go_sem]
  refine qcall_i (k4) ?_; simp only [Tryz.f151, go_sem]
  refine qif_dt (by omega) ?_
  simp only [Tryz.f151, go_sem]
  refine qif_dt (by omega) ?_
  simp only [Tryz.f151, go_sem]
  simp; omega
def scS (y : Dy) (b : Nat) : Nat := min (b + 64 + (max (y.top + 1) 0).toNat) 8900
theorem o_scale {p : PV} {a : Ask} (h : RA p a) (ha : AskOk a) {b : Nat} (hb : b ≤ 8192) : PC E 234 [p, .int .i64 b] (.int .i64 (scS a.y b)) := by
  obtain ⟨s1, P1, e1, s2, P2, e2, rfl, h1, h2⟩ := h
  have k1 := r_Top h2
  rw [decide_eq_true ha.y0] at k1
  have ht := ha.yt
  have hR : ((scS a.y b : Nat) : Int) = min ((b : Int) + 64 + max (a.y.top + 1) 0) 8900 := by unfold scS; omega
  rw [hR]
  generalize a.y.top = T at *
  have w1 : IntKind.wrap .i64 ((b : Int) + 64) = (b : Int) + 64 := wrap64 (by omega) (by omega)
  have w2 : IntKind.wrap .i64 (T + 1) = T + 1 := wrap64 (by omega) (by omega)
  have w3 : IntKind.wrap .i64 ((b : Int) + 64 + max (T + 1) 0) = (b : Int) + 64 + max (T + 1) 0 := wrap64 (by omega) (by omega)
  simp only [DP] at k1
  refine PC.of_body follows Tryz.func234 (by decide +kernel) rfl (by kernel_rfl) (Nat.le_of_ble_eq_true rfl) (walk ?_)
  simp only [Tryz.f234, go_sem]
  refine qcall_i (k1) ?_; simp only [Tryz.f234, w1, w2, w3, go_sem]
  try rfl
def awayD (d : Dy) (dn : Bool) : Bool := d.s == dn
def divM (d : Dy) (s : Nat) (aw : Bool) : Nat := if 0 ≤ d.e + s then d.m * 2 ^ (d.e + s).toNat else d.m / 2 ^ (-d.e - s).toNat + (if d.m % 2 ^ (-d.e - s).toNat ≠ 0 ∧ aw = true then 1 else 0)
def divQ (d : Dy) (n s : Nat) (aw : Bool) : Nat := divM d s aw / n + (if divM d s aw % n ≠ 0 ∧ aw = true then 1 else 0)
def divD (d : Dy) (n s : Nat) (dn : Bool) : Dy := mkD d.s (divQ d n s (awayD d dn)) (-(s : Int))
theorem divM_bits {K : Nat} {d : Dy} (h : Lim K d) (hK : 1 ≤ K) (s : Nat) (aw : Bool) : bitLen (divM d s aw) ≤ 2 * K + s + 1 := by
  unfold divM
  split
  · rename_i hk
    by_cases hm : d.m = 0
    · rw [hm, Nat.zero_mul]; exact Nat.le_trans (show bitLen 0 ≤ 0 by decide) (Nat.zero_le _)
    have h1 := bitLen_shl_le d.m (d.e + s).toNat
    have h2 := h.top_lt hm
    have h3 := top_eq hm
    omega
  · refine Nat.le_trans (bitLen_mono (y := d.m / 2 ^ (-d.e - s).toNat + 1) (by split <;> omega)) ?_
    have := bitLen_add (x := d.m / 2 ^ (-d.e - s).toNat) (y := 1) (n := 2 * K + s) (Nat.le_trans (div_bits h.bits) (by omega)) (by rw [bit1]; omega)
    omega
theorem divQ_bits {K : Nat} {d : Dy} (h : Lim K d) (hK : 1 ≤ K) (n s : Nat) (aw : Bool) : bitLen (divQ d n s aw) ≤ 2 * K + s + 2 := by
  have h1 := divM_bits h hK s aw
  unfold divQ
  refine Nat.le_trans (bitLen_mono (y := divM d s aw / n + 1) (by split <;> omega)) ?_
  exact bitLen_add (Nat.le_trans (div_bits h1) (Nat.le_refl _)) (by rw [bit1]; omega)
theorem divD_lim {K : Nat} {d : Dy} (h : Lim K d) (hK : 1 ≤ K) (hK2 : K ≤ 100000) (n : Nat) {s : Nat} (hs : s ≤ 9000) (dn : Bool) : Lim (2 * K + 18002) (divD d n s dn) := by
  have h1 := divQ_bits h hK n s (awayD d dn)
  exact Lim.mono (Lim.mk (n := 2 * K + s + 2) (J := 9000) h1 (by omega) (by omega)) (by omega)
set_option maxHeartbeats 2000000 in
theorem o_divided {p : PV} {d : Dy} {K : Nat} (h : RD p d) (hl : Lim K d) (hK1 : 1 ≤ K) (hK : K ≤ 26000) {n : Nat} (hn : n < W) (h0 : n ≠ 0) {s : Nat} (hs : s ≤ 9000) {dir : Int} :
    PC E 236 [p, .int .u64 n, .int .i64 s, .int .i64 dir] (divD d n s (decide (dir = 3))).pv := by
  have k1 := r_Bare h
  rw [okD_of (hl.fits (by omega))] at k1
  have he := hl.e0
  have hbt := hl.bits
  have we : IntKind.wrap .i64 (d.e + (s : Int)) = d.e + s := wrap64 (by omega) (by omega)
  have wn : IntKind.wrap .i64 (0 - d.e) = -d.e := by rw [wrap64 (by omega) (by omega)]; omega
  have wm : IntKind.wrap .i64 (-d.e - (s : Int)) = -d.e - s := wrap64 (by omega) (by omega)
  have ws : IntKind.wrap .i64 (0 - (s : Int)) = -(s : Int) := by rw [wrap64 (by omega) (by omega)]; omega
  have hmb := divM_bits hl hK1 s (awayD d (decide (dir = 3)))
  have hqb := divQ_bits hl hK1 n s (awayD d (decide (dir = 3)))
  have hlim := divD_lim hl hK1 (by omega) n hs (decide (dir = 3))
  have kk1 := k_small (x := divM d s (awayD d (decide (dir = 3)))) (by omega) hn h0
  have k2 := u_one
  have kk2 := k_Add (num_bits (x := divM d s (awayD d (decide (dir = 3))) / n) (by have := div_bits (n := n) hmb; omega)) (num_bits (x := 1) (by decide))
  have kk3 := r_Make (num_bits (x := divQ d n s (awayD d (decide (dir = 3)))) (by omega)) (by omega) d.s (-(s : Int))
  have eM : mkD d.s (divQ d n s (awayD d (decide (dir = 3)))) (-(s : Int)) = divD d n s (decide (dir = 3)) := rfl
  rw [eM, okD_of (hlim.fits (by omega))] at kk3
  have eQ : divQ d n s (awayD d (decide (dir = 3))) = divM d s (awayD d (decide (dir = 3))) / n + (if divM d s (awayD d (decide (dir = 3))) % n ≠ 0 ∧ awayD d (decide (dir = 3)) = true then 1 else 0) := rfl
  generalize divD d n s (decide (dir = 3)) = OUT at *
  have haw2 : (d.s == decide (dir = 3)) = awayD d (decide (dir = 3)) := rfl
  generalize awayD d (decide (dir = 3)) = aw at *
  have eM2 : divM d s aw = if 0 ≤ d.e + s then d.m * 2 ^ (d.e + s).toNat else d.m / 2 ^ (-d.e - s).toNat + (if d.m % 2 ^ (-d.e - s).toNat ≠ 0 ∧ aw = true then 1 else 0) := rfl
  generalize divQ d n s aw = Q at *
  generalize divM d s aw = M at *
  obtain ⟨s0, q, x, e, rfl, -⟩ := h
  have hrest : aw = false ∨ M % n = 0 → Q = M / n := fun h => by
    rw [eQ]
    rcases h with h | h
    · rw [h, if_neg (fun h => Bool.false_ne_true h.2), Nat.add_zero]
    · rw [if_neg (fun h' => h'.1 h), Nat.add_zero]
  have hrest2 : aw = true → M % n ≠ 0 → Q = M / n + 1 := fun h h' => by rw [eQ, if_pos ⟨h', h⟩]
  by_cases hk : 0 ≤ d.e + s
  · rw [if_pos hk] at eM2
    have k3 : PC E 63 [NN d.m, .int .i64 (d.e + s)] (.tuple [NN M, .int .i64 0]) := by
      rw [eM2]
      by_cases hm0 : d.m = 0
      · refine PC.cast (k_Shl (num_bits (x := d.m) (by omega)) (d.e + s) (by omega)) ?_
        unfold shlV
        rw [if_neg (by omega), if_pos hm0, hm0, Nat.zero_mul]; rfl
      · have h2 := hl.top_lt hm0
        have h3 := top_eq hm0
        have := k_Shln (num_bits (x := d.m) (by omega)) (d.e + s).toNat (by omega)
        rwa [show (((d.e + s).toNat : Nat) : Int) = d.e + s by omega] at this
    by_cases hr : M % n = 0
    · rw [hrest (.inr hr)] at kk3
      rw [hr] at kk1
      simp only [DP, Dy.pv, u, NN, NL] at k1 k2 k3 kk1 kk2 kk3 ⊢
      refine PC.of_body follows Tryz.func236 (by decide +kernel) rfl (by kernel_rfl) (Nat.le_of_ble_eq_true rfl) (walk ?_)
      simp only [Tryz.f236, go_sem]
      refine qcall_i (k1) ?_; simp only [Tryz.f236, we, haw2, ws, go_sem]
      refine qif_dt hk ?_
      simp only [Tryz.f236, we, haw2, go_sem]
      refine qcall_i (k3) ?_; simp only [Tryz.f236, go_sem]
      refine qcall_i (kk1) ?_; simp only [Tryz.f236, go_sem]
      try (refine qif_df (by decide) ?_)
      try simp only [Tryz.f236, ws, go_sem]
      refine qcall_i (kk3) ?_; simp only [Tryz.f236, go_sem]
      try rfl
    · cases aw with
      | false =>
        rw [hrest (.inl rfl)] at kk3
        simp only [DP, Dy.pv, u, NN, NL] at k1 k2 k3 kk1 kk2 kk3 ⊢
        refine PC.of_body follows Tryz.func236 (by decide +kernel) rfl (by kernel_rfl) (Nat.le_of_ble_eq_true rfl) (walk ?_)
        simp only [Tryz.f236, go_sem]
        refine qcall_i (k1) ?_; simp only [Tryz.f236, we, haw2, ws, go_sem]
        refine qif_dt hk ?_
        simp only [Tryz.f236, we, haw2, go_sem]
        refine qcall_i (k3) ?_; simp only [Tryz.f236, go_sem]
        refine qcall_i (kk1) ?_; simp only [Tryz.f236, go_sem]
        refine qif_dt (by omega) ?_
        simp only [Tryz.f236, ws, go_sem]
        refine qcall_i (kk3) ?_; simp only [Tryz.f236, go_sem]
        try rfl
      | true =>
        rw [hrest2 rfl hr] at kk3
        simp only [DP, Dy.pv, u, NN, NL] at k1 k2 k3 kk1 kk2 kk3 ⊢
        refine PC.of_body follows Tryz.func236 (by decide +kernel) rfl (by kernel_rfl) (Nat.le_of_ble_eq_true rfl) (walk ?_)
        simp only [Tryz.f236, go_sem]
        refine qcall_i (k1) ?_; simp only [Tryz.f236, we, haw2, ws, go_sem]
        refine qif_dt hk ?_
        simp only [Tryz.f236, we, haw2, go_sem]
        refine qcall_i (k3) ?_; simp only [Tryz.f236, go_sem]
        refine qcall_i (kk1) ?_; simp only [Tryz.f236, go_sem]
        refine qif_dt (by omega) ?_
        simp only [Tryz.f236, ws, go_sem]
        refine qcall_i (k2) ?_; simp only [Tryz.f236, go_sem]
        refine qcall_i (kk2) ?_; simp only [Tryz.f236, ws, go_sem]
        refine qcall_i (kk3) ?_; simp only [Tryz.f236, go_sem]
        try rfl
  · rw [if_neg hk] at eM2
    have k3 := k_Shrn (num_bits (x := d.m) (by omega)) (-d.e - s).toNat
    rw [show (((-d.e - s).toNat : Nat) : Int) = -d.e - s by omega] at k3
    have bq := div_bits (n := 2 ^ (-d.e - s).toNat) hbt
    have k4 := k_Add (num_bits (x := d.m / 2 ^ (-d.e - s).toNat) (by omega)) (num_bits (x := 1) (by decide))
    generalize d.m / 2 ^ (-d.e - s).toNat = R at *
    generalize hrr : d.m % 2 ^ (-d.e - s).toNat = RR at *
    cases aw with
    | false =>
      rw [if_neg (fun h => Bool.false_ne_true h.2), Nat.add_zero] at eM2
      subst eM2
      rw [hrest (.inl rfl)] at kk3
      generalize decide (RR ≠ 0) = bb at *
      by_cases hr : M % n = 0
      · rw [hr] at kk1
        simp only [DP, Dy.pv, u, NN, NL] at k1 k2 k3 kk1 kk2 kk3 ⊢
        refine PC.of_body follows Tryz.func236 (by decide +kernel) rfl (by kernel_rfl) (Nat.le_of_ble_eq_true rfl) (walk ?_)
        simp only [Tryz.f236, go_sem]
        refine qcall_i (k1) ?_; simp only [Tryz.f236, we, haw2, ws, go_sem]
        refine qif_df hk ?_
        simp only [Tryz.f236, wn, wm, haw2, go_sem]
        refine qcall_i (k3) ?_; simp only [Tryz.f236, go_sem]
        cases bb
        · simp only [Tryz.f236, go_sem]
          refine qcall_i (kk1) ?_; simp only [Tryz.f236, go_sem]
          try (refine qif_df (by decide) ?_)
          try simp only [Tryz.f236, ws, go_sem]
          refine qcall_i (kk3) ?_; simp only [Tryz.f236, go_sem]
          try rfl
        · simp only [Tryz.f236, go_sem]
          refine qcall_i (kk1) ?_; simp only [Tryz.f236, go_sem]
          try (refine qif_df (by decide) ?_)
          try simp only [Tryz.f236, ws, go_sem]
          refine qcall_i (kk3) ?_; simp only [Tryz.f236, go_sem]
          try rfl
      · simp only [DP, Dy.pv, u, NN, NL] at k1 k2 k3 kk1 kk2 kk3 ⊢
        refine PC.of_body follows Tryz.func236 (by decide +kernel) rfl (by kernel_rfl) (Nat.le_of_ble_eq_true rfl) (walk ?_)
        simp only [Tryz.f236, go_sem]
        refine qcall_i (k1) ?_; simp only [Tryz.f236, we, haw2, ws, go_sem]
        refine qif_df hk ?_
        simp only [Tryz.f236, wn, wm, haw2, go_sem]
        refine qcall_i (k3) ?_; simp only [Tryz.f236, go_sem]
        cases bb
        · simp only [Tryz.f236, go_sem]
          refine qcall_i (kk1) ?_; simp only [Tryz.f236, go_sem]
          refine qif_dt (by omega) ?_
          simp only [Tryz.f236, ws, go_sem]
          refine qcall_i (kk3) ?_; simp only [Tryz.f236, go_sem]
          try rfl
        · simp only [Tryz.f236, go_sem]
          refine qcall_i (kk1) ?_; simp only [Tryz.f236, go_sem]
          refine qif_dt (by omega) ?_
          simp only [Tryz.f236, ws, go_sem]
          refine qcall_i (kk3) ?_; simp only [Tryz.f236, go_sem]
          try rfl
    | true =>
      by_cases hz : RR = 0
      · rw [if_neg (fun h => h.1 hz), Nat.add_zero] at eM2
        subst eM2
        rw [decide_eq_false (fun h => h hz)] at k3
        by_cases hr : M % n = 0
        · rw [hrest (.inr hr)] at kk3
          rw [hr] at kk1
          simp only [DP, Dy.pv, u, NN, NL] at k1 k2 k3 kk1 kk2 kk3 ⊢
          refine PC.of_body follows Tryz.func236 (by decide +kernel) rfl (by kernel_rfl) (Nat.le_of_ble_eq_true rfl) (walk ?_)
          simp only [Tryz.f236, go_sem]
          refine qcall_i (k1) ?_; simp only [Tryz.f236, we, haw2, ws, go_sem]
          refine qif_df hk ?_
          simp only [Tryz.f236, wn, wm, haw2, go_sem]
          refine qcall_i (k3) ?_; simp only [Tryz.f236, go_sem]
          refine qcall_i (kk1) ?_; simp only [Tryz.f236, go_sem]
          try (refine qif_df (by decide) ?_)
          try simp only [Tryz.f236, ws, go_sem]
          refine qcall_i (kk3) ?_; simp only [Tryz.f236, go_sem]
          try rfl
        · rw [hrest2 rfl hr] at kk3
          simp only [DP, Dy.pv, u, NN, NL] at k1 k2 k3 kk1 kk2 kk3 ⊢
          refine PC.of_body follows Tryz.func236 (by decide +kernel) rfl (by kernel_rfl) (Nat.le_of_ble_eq_true rfl) (walk ?_)
          simp only [Tryz.f236, go_sem]
          refine qcall_i (k1) ?_; simp only [Tryz.f236, we, haw2, ws, go_sem]
          refine qif_df hk ?_
          simp only [Tryz.f236, wn, wm, haw2, go_sem]
          refine qcall_i (k3) ?_; simp only [Tryz.f236, go_sem]
          refine qcall_i (kk1) ?_; simp only [Tryz.f236, go_sem]
          refine qif_dt (by omega) ?_
          simp only [Tryz.f236, ws, go_sem]
          refine qcall_i (k2) ?_; simp only [Tryz.f236, go_sem]
          refine qcall_i (kk2) ?_; simp only [Tryz.f236, ws, go_sem]
          refine qcall_i (kk3) ?_; simp only [Tryz.f236, go_sem]
          try rfl
      · rw [if_pos ⟨hz, rfl⟩] at eM2
        subst eM2
        rw [decide_eq_true hz] at k3
        by_cases hr : (R + 1) % n = 0
        · rw [hrest (.inr hr)] at kk3
          rw [hr] at kk1
          simp only [DP, Dy.pv, u, NN, NL] at k1 k2 k3 k4 kk1 kk2 kk3 ⊢
          refine PC.of_body follows Tryz.func236 (by decide +kernel) rfl (by kernel_rfl) (Nat.le_of_ble_eq_true rfl) (walk ?_)
          simp only [Tryz.f236, go_sem]
          refine qcall_i (k1) ?_; simp only [Tryz.f236, we, haw2, ws, go_sem]
          refine qif_df hk ?_
          simp only [Tryz.f236, wn, wm, haw2, go_sem]
          refine qcall_i (k3) ?_; simp only [Tryz.f236, go_sem]
          refine qcall_i (k2) ?_; simp only [Tryz.f236, go_sem]
          refine qcall_i (k4) ?_; simp only [Tryz.f236, go_sem]
          refine qcall_i (kk1) ?_; simp only [Tryz.f236, go_sem]
          try (refine qif_df (by decide) ?_)
          try simp only [Tryz.f236, ws, go_sem]
          refine qcall_i (kk3) ?_; simp only [Tryz.f236, go_sem]
          try rfl
        · rw [hrest2 rfl hr] at kk3
          simp only [DP, Dy.pv, u, NN, NL] at k1 k2 k3 k4 kk1 kk2 kk3 ⊢
          refine PC.of_body follows Tryz.func236 (by decide +kernel) rfl (by kernel_rfl) (Nat.le_of_ble_eq_true rfl) (walk ?_)
          simp only [Tryz.f236, go_sem]
          refine qcall_i (k1) ?_; simp only [Tryz.f236, we, haw2, ws, go_sem]
          refine qif_df hk ?_
          simp only [Tryz.f236, wn, wm, haw2, go_sem]
          refine qcall_i (k3) ?_; simp only [Tryz.f236, go_sem]
          refine qcall_i (k2) ?_; simp only [Tryz.f236, go_sem]
          refine qcall_i (k4) ?_; simp only [Tryz.f236, go_sem]
          refine qcall_i (kk1) ?_; simp only [Tryz.f236, go_sem]
          refine qif_dt (by omega) ?_
          simp only [Tryz.f236, ws, go_sem]
          refine qcall_i (k2) ?_; simp only [Tryz.f236, go_sem]
          refine qcall_i (kk2) ?_; simp only [Tryz.f236, ws, go_sem]
          refine qcall_i (kk3) ?_; simp only [Tryz.f236, go_sem]
          try rfl
end
section
open Go PG Go.Proofs
open XX
theorem withinS_le (lo hi : Nat) (s : Int) (neg : Bool) : cmpD (withinS lo hi s neg).lo (withinS lo hi s neg).hi ≤ 0 := by
  unfold withinS
  split
  · rename_i h
    dsimp only
    rw [cmp_swap]; omega
  · rename_i h
    dsimp only
    omega
theorem addI_le {i k : Iv} {K : Nat} (h1 : i.lim K) (h2 : k.lim K) (hK : K ≤ 900000) (c1 : cmpD i.lo i.hi ≤ 0) (c2 : cmpD k.lo k.hi ≤ 0) : cmpD (addI i k).lo (addI i k).hi ≤ 0 := by
  have l3 := h1.add h2 (by omega)
  rw [cmp_val_le] at c1 c2 ⊢
  show (addS i.lo k.lo).val ≤ (addS i.hi k.hi).val
  rw [h1.1.val_add h2.1 (by omega), h1.2.val_add h2.2 (by omega)]
  grind
theorem logS_right {d : Dy} (hl : LgOk d) {s : Nat} (hs : s ≤ 9000) : (logS d s).right :=
  ((logS_lim hl hs).right (by decide)).2 (addI_le (logX_lim hl hs) (logY_lim hl hs) (by decide) (withinS_le _ _ _ _) (withinS_le _ _ _ _))
def zI (a : Ask) (b : Nat) : Iv := mulI (logS a.x (scS a.y b)) ⟨a.y, a.y⟩
def zS (a : Ask) (b : Nat) : Iv := if 1 < a.n then ⟨divD (zI a b).lo a.n (scS a.y b) true, divD (zI a b).hi a.n (scS a.y b) false⟩ else zI a b
theorem scS_range {y : Dy} {b : Nat} (hb : 32 ≤ b) : 96 ≤ scS y b ∧ scS y b ≤ 8900 := by unfold scS; omega
theorem zI_lim {a : Ask} (h : AskOk a) {b : Nat} (hb : 32 ≤ b) : (zI a b).lim 19251 := by
  have := scS_range (y := a.y) hb
  have h1 := (logS_lim h.x (s := scS a.y b) (by omega)).mul (k := ⟨a.y, a.y⟩) (J := 1200) ⟨h.yLim, h.yLim⟩
  exact h1.mono (by omega)
theorem zS_lim {a : Ask} (h : AskOk a) {b : Nat} (hb : 32 ≤ b) : (zS a b).lim 56504 := by
  have hz := zI_lim h hb
  have := scS_range (y := a.y) hb
  have h1 : Lim 19251 (zI a b).lo := hz.1
  have h2 : Lim 19251 (zI a b).hi := hz.2
  have a1 := divD_lim h1 (by decide) (by decide) a.n (s := scS a.y b) (by omega) true
  have a2 := divD_lim h2 (by decide) (by decide) a.n (s := scS a.y b) (by omega) false
  have b1 : Lim 56504 (divD (zI a b).lo a.n (scS a.y b) true) := a1
  have b2 : Lim 56504 (divD (zI a b).hi a.n (scS a.y b) false) := a2
  have b3 : Lim 56504 (zI a b).lo := h1.mono (by decide)
  have b4 : Lim 56504 (zI a b).hi := h2.mono (by decide)
  unfold zS
  generalize divD (zI a b).lo a.n (scS a.y b) true = D1 at *
  generalize divD (zI a b).hi a.n (scS a.y b) false = D2 at *
  generalize zI a b = Z at *
  by_cases hn : 1 < a.n
  · rw [if_pos hn]; exact ⟨b1, b2⟩
  · rw [if_neg hn]; exact ⟨b3, b4⟩
set_option maxHeartbeats 2000000 in
theorem o_Log {p : PV} {a : Ask} (h : RA p a) (ha : AskOk a) {b : Nat} (hb : 32 ≤ b) (hb2 : b ≤ 8192) : PC E 214 [p, .int .i64 b] (.tuple [(zS a b).pv, .int .i64 (scS a.y b : Nat), .int .i64 0]) := by
  have k1 := o_Right h ha
  have k2 := o_scale h ha hb2
  obtain ⟨s1, P1, e1, s2, P2, e2, rfl, h1, h2⟩ := h
  have hsc := scS_range (y := a.y) hb
  have k3 := g_Log h1 ha.x (s := scS a.y b) (by omega) (by omega)
  have lL := logS_lim ha.x (s := scS a.y b) (by omega)
  have k4 := q_Times (lL.RI (by decide)) h2 lL ha.yLim (by decide)
  unfold ivV at k4
  rw [if_pos (logS_right ha.x (by omega))] at k4
  have eZ : mulI (logS a.x (scS a.y b)) ⟨a.y, a.y⟩ = zI a b := rfl
  rw [eZ] at k4
  have lZ := zI_lim ha hb
  have hn0 := ha.n1
  have rZ := lZ.RI (by decide)
  have k5 := o_divided (lZ.1.RD (by decide)) lZ.1 (by decide) (by decide) ha.nW (by omega) (s := scS a.y b) (by omega) (dir := 3)
  have k6 := o_divided (lZ.2.RD (by decide)) lZ.2 (by decide) (by decide) ha.nW (by omega) (s := scS a.y b) (by omega) (dir := 2)
  rw [show decide ((3 : Int) = 3) = true from rfl] at k5
  rw [show decide ((2 : Int) = 3) = false from rfl] at k6
  unfold zS
  generalize logS a.x (scS a.y b) = L at *
  generalize divD (zI a b).lo a.n (scS a.y b) true = Q1 at *
  generalize divD (zI a b).hi a.n (scS a.y b) false = Q2 at *
  generalize zI a b = Z at *
  generalize scS a.y b = sc at *
  simp only [DP, Dy.pv, Iv.pv, NN, NL] at k1 k2 k3 k4 k5 k6 ⊢
  by_cases hn : 1 < a.n
  · rw [if_pos hn]
    refine PC.of_body follows Tryz.func214 (by decide +kernel) rfl (by kernel_rfl) (Nat.le_of_ble_eq_true rfl) (walk ?_)
    simp only [Tryz.f214, go_sem]
    refine qcall_i (k1) ?_; simp only [Tryz.f214, go_sem]
    refine qif_df (by omega) ?_
    simp only [Tryz.f214, go_sem]
    refine qif_df (by omega) ?_
    simp only [Tryz.f214, go_sem]
    refine qcall_i (k2) ?_; simp only [Tryz.f214, go_sem]
    refine qcall_i (k3) ?_; simp only [Tryz.f214, go_sem]
    refine qcall_i (k4) ?_; simp only [Tryz.f214, go_sem]
    refine qif_dt (by omega) ?_
    simp only [Tryz.f214, go_sem]
    refine qcall_i (k5) ?_; simp only [Tryz.f214, go_sem]
    refine qcall_i (k6) ?_; simp only [Tryz.f214, go_sem]
    try rfl
  · rw [if_neg hn]
    refine PC.of_body follows Tryz.func214 (by decide +kernel) rfl (by kernel_rfl) (Nat.le_of_ble_eq_true rfl) (walk ?_)
    simp only [Tryz.f214, go_sem]
    refine qcall_i (k1) ?_; simp only [Tryz.f214, go_sem]
    refine qif_df (by omega) ?_
    simp only [Tryz.f214, go_sem]
    refine qif_df (by omega) ?_
    simp only [Tryz.f214, go_sem]
    refine qcall_i (k2) ?_; simp only [Tryz.f214, go_sem]
    refine qcall_i (k3) ?_; simp only [Tryz.f214, go_sem]
    refine qcall_i (k4) ?_; simp only [Tryz.f214, go_sem]
    refine qif_df (by omega) ?_
    simp only [Tryz.f214, go_sem]
    try rfl
def sgS (a : Ask) : Int := a.y.sg * cmpD a.x (norm 1 0)
theorem sg_in (d : Dy) : -1 ≤ d.sg ∧ d.sg ≤ 1 := by unfold Dy.sg; split <;> (try split) <;> omega
theorem o_Sign {p : PV} {a : Ask} (h : RA p a) (ha : AskOk a) : PC E 153 [p] (.int .i64 (sgS a)) := by
  have k1 := o_Right h ha
  obtain ⟨s1, P1, e1, s2, P2, e2, rfl, h1, h2⟩ := h
  have k2 := r_Sign h2
  have k3 := c_dOf 1 (by decide) (by decide)
  have g3 : RD (norm 1 0).pv (norm 1 0) := (Lim.norm (K := 20) (z := 1) (by decide) (by decide)).RD (by decide)
  have k4 := r_Cmp h1 g3
  have hs := sg_in a.y
  have hc : -1 ≤ cmpD a.x (norm 1 0) ∧ cmpD a.x (norm 1 0) ≤ 1 := sgn_range _ _
  unfold sgS
  generalize cmpD a.x (norm 1 0) = c at *
  generalize a.y.sg = y at *
  generalize norm 1 0 = N at *
  have w : IntKind.wrap .i64 (y * c) = y * c := by
    have h1 : y = -1 ∨ y = 0 ∨ y = 1 := by omega
    have h2 : c = -1 ∨ c = 0 ∨ c = 1 := by omega
    rcases h1 with rfl | rfl | rfl <;> rcases h2 with rfl | rfl | rfl <;> decide
  simp only [DP, Dy.pv, NN, NL] at k1 k2 k3 k4
  refine PC.of_body follows Tryz.func153 (by decide +kernel) rfl (by kernel_rfl) (Nat.le_of_ble_eq_true rfl) (walk ?_)
  simp only [Tryz.f153, go_sem]
  refine qcall_i (k1) ?_; simp only [Tryz.f153, go_sem]
  refine qcall_i (k2) ?_; simp only [Tryz.f153, go_sem]
  refine qcall_i (k3) ?_; simp only [Tryz.f153, go_sem]
  refine qcall_i (k4) ?_; simp only [Tryz.f153, w, go_sem]
  try rfl
def tryS (a : Ask) (sign : Int) (b : Nat) : ((Nat × Nat) × Iv) × Bool :=
  if boundS (zS a b) sign ≠ 0 then ((classS (boundS (zS a b) sign) a.neg a.dir, Iv.zero), true)
  else if splitOk (zS a b) (scS a.y b) then
    match roundS (expI (zS a b) (scS a.y b)) a.neg a.dir with
    | some r => ((r, expI (zS a b) (scS a.y b)), true)
    | none => (((0, 0), expI (zS a b) (scS a.y b)), false)
  else (((0, 0), Iv.zero), false)
theorem boundS_range (z : Iv) (sign : Int) : 0 ≤ boundS z sign ∧ boundS z sign ≤ 4 := by
  unfold boundS
  repeat' split
  all_goals omega
set_option maxHeartbeats 2000000 in
theorem o_try {p : PV} {a : Ask} (h : RA p a) (ha : AskOk a) (sign : Int) {b : Nat} (hb : 32 ≤ b) (hb2 : b ≤ 8192) : PC E 156 [p, .int .i64 sign, .int .i64 b] (.tuple [.agg (ansC (tryS a sign b).1), .bool (tryS a sign b).2]) := by
  have k1 := o_Log h ha hb hb2
  have lz := zS_lim ha hb
  have hsc := scS_range (y := a.y) hb
  have k2 := b_Of (lz.RI (by decide)) lz (by decide) sign
  have hbr := boundS_range (zS a b) sign
  obtain ⟨s1, P1, e1, s2, P2, e2, rfl, h1, h2⟩ := h
  have hdir := ha.dir
  obtain ⟨R, hR⟩ : ∃ R, R = PV.tuple [.agg (ansC (tryS a sign b).1), .bool (tryS a sign b).2] := ⟨_, rfl⟩
  rw [← hR]
  unfold tryS at hR
  by_cases hc : boundS (zS a b) sign ≠ 0
  · rw [if_pos hc] at hR
    have k3 := b_Result (c := boundS (zS a b) sign) (by omega) a.neg hdir
    generalize classS (boundS (zS a b) sign) a.neg a.dir = C at *
    generalize boundS (zS a b) sign = B at *
    generalize zS a b = Z at *
    obtain ⟨c1, c2⟩ := C
    simp only [DP, Dy.pv, Iv.pv, NN, NL, bfoPV, u, ansC, Iv.zero, Dy.zero] at k1 k2 k3 hR
    refine PC.of_body follows Tryz.func156 (by decide +kernel) rfl (by kernel_rfl) (Nat.le_of_ble_eq_true rfl) (walk ?_)
    simp only [Tryz.f156, go_sem]
    refine qcall_i (k1) ?_; simp only [Tryz.f156, go_sem]
    refine qcall_i (k2) ?_; simp only [Tryz.f156, go_sem]
    refine qif_dt hc ?_
    simp only [Tryz.f156, go_sem]
    refine qcall_i (k3) ?_; simp only [Tryz.f156, go_sem]
    first | (rw [hR]; done) | (rw [hR]; rfl)
  rw [if_neg hc] at hR
  have k3 := x_Exp (lz.RI (by decide)) lz (by decide) (s := scS a.y b) (by omega) (by omega)
  by_cases ho : splitOk (zS a b) (scS a.y b)
  · rw [if_pos ho] at hR k3
    have lE := expI_lim (i := zS a b) (s := scS a.y b) (by omega) (by omega) ho
    have k4 := d_Round (lE.RI (by decide)) lE (by decide) a.neg hdir
    generalize roundS (expI (zS a b) (scS a.y b)) a.neg a.dir = O at *
    generalize expI (zS a b) (scS a.y b) = X at *
    generalize boundS (zS a b) sign = B at *
    generalize zS a b = Z at *
    cases O with
    | some r =>
      obtain ⟨r1, r2⟩ := r
      simp only [DP, Dy.pv, Iv.pv, NN, NL, bfoPV, u, ansC] at k1 k2 k3 k4 hR
      refine PC.of_body follows Tryz.func156 (by decide +kernel) rfl (by kernel_rfl) (Nat.le_of_ble_eq_true rfl) (walk ?_)
      simp only [Tryz.f156, go_sem]
      refine qcall_i (k1) ?_; simp only [Tryz.f156, go_sem]
      refine qcall_i (k2) ?_; simp only [Tryz.f156, go_sem]
      refine qif_df hc ?_
      simp only [Tryz.f156, go_sem]
      refine qcall_i (k3) ?_; simp only [Tryz.f156, go_sem]
      refine qcall_i (k4) ?_; simp only [Tryz.f156, go_sem]
      first | (rw [hR]; done) | (rw [hR]; rfl)
    | none =>
      simp only [DP, Dy.pv, Iv.pv, NN, NL, bfoPV, u, ansC] at k1 k2 k3 k4 hR
      refine PC.of_body follows Tryz.func156 (by decide +kernel) rfl (by kernel_rfl) (Nat.le_of_ble_eq_true rfl) (walk ?_)
      simp only [Tryz.f156, go_sem]
      refine qcall_i (k1) ?_; simp only [Tryz.f156, go_sem]
      refine qcall_i (k2) ?_; simp only [Tryz.f156, go_sem]
      refine qif_df hc ?_
      simp only [Tryz.f156, go_sem]
      refine qcall_i (k3) ?_; simp only [Tryz.f156, go_sem]
      refine qcall_i (k4) ?_; simp only [Tryz.f156, go_sem]
      first | (rw [hR]; done) | (rw [hR]; rfl)
  · rw [if_neg ho] at hR k3
    generalize boundS (zS a b) sign = B at *
    generalize zS a b = Z at *
    simp only [DP, Dy.pv, Iv.pv, NN, NL, u, ansC, Iv.zero, Dy.zero] at k1 k2 k3 hR
    refine PC.of_body follows Tryz.func156 (by decide +kernel) rfl (by kernel_rfl) (Nat.le_of_ble_eq_true rfl) (walk ?_)
    simp only [Tryz.f156, go_sem]
    refine qcall_i (k1) ?_; simp only [Tryz.f156, go_sem]
    refine qcall_i (k2) ?_; simp only [Tryz.f156, go_sem]
    refine qif_df hc ?_
    simp only [Tryz.f156, go_sem]
    refine qcall_i (k3) ?_; simp only [Tryz.f156, go_sem]
    first | (rw [hR]; done) | (rw [hR]; rfl)
end
end
section
open Go PG Go.Proofs Go.RowKit
open XX
theorem nfq_opsE {N : Nat} {wk : Gh} {w0 : Fm} {Pr0 : Nat → Nat → Prop} {m : Nat → Value} {Pr : Nat → Nat → Prop} {a : Act} {w : World} {Q : Exit → Act → World → Prop} {t0 t1 : TypeId} {p0 p1 : String} {f0 f1 : Array Edge} {τ : List (Nat × SV)} {σ : List (Nat × (Bk × Bool))} {f : FuncId} {cs : List PV} (hN : 26 ≤ N)
    (hr : Rel E N wk w0 Pr0 (ES.den ⟨τ, σ⟩) m Pr a w) (h2 : sget τ 2 = some (.val (.clo f cs)))
    (hQ : ∀ m' Pr' a' w', Rel E N wk w0 Pr0 (ES.den ⟨(14, .val (.bool false)) :: (13, .val (.clo f cs)) :: τ, σ⟩) m' Pr' a' w' → Q .normal a' w') :
    wpOpsIn (RF none) 0 E.P #[⟨some 13, .move (.tmp 2), t0, p0, f0, none⟩, ⟨some 14, .binOp .eql 166 (.tmp 13) (.const .nilFunc) 166, t1, p1, f1, none⟩] Q [0, 1] a w := by
  obtain ⟨o0, h0⟩ : ∃ o : Oper, o = ⟨some 13, .move (.tmp 2), t0, p0, f0, none⟩ := ⟨_, rfl⟩
  obtain ⟨o1, h1⟩ : ∃ o : Oper, o = ⟨some 14, .binOp .eql 166 (.tmp 13) (.const .nilFunc) 166, t1, p1, f1, none⟩ := ⟨_, rfl⟩
  rw [← h0, ← h1]
  have hds : dstsOk N #[o0, o1] = true := by
    subst h0 h1
    rw [dstsOk, ← Array.all_toList]
    simp only [List.all_cons, List.all_nil, Bool.and_true, Bool.and_eq_true, decide_eq_true_eq]
    exact ⟨(by omega : 13 < N), (by omega : 14 < N)⟩
  have nm : ∀ (i : Nat) (o : Oper) (s : PS), #[o0, o1][i]? = some o → isNew o.op = false → NMs #[o0, o1] [i] s := fun i o s ho hn j hj o' ho' hn' => by
    rw [List.mem_singleton] at hj
    subst hj
    rw [ho] at ho'
    cases ho'
    rw [hn] at hn'
    cases hn'
  rw [wpOpsIn_cons]
  refine stepI_sound (s' := ES.den ⟨(13, .val (.clo f cs)) :: τ, σ⟩) hds hr (nm 0 o0 _ rfl (by rw [h0]; rfl)) (step_atV (o := o0) rfl (by rw [h0]) ?_) fun m1 Pr1 a1 w1 hr1 => ?_
  · rw [h0]
    show StepP E ⟨some 13, .move (.tmp 2), t0, p0, f0, none⟩ _ _
    unfold StepP
    refine (if_pos (show isA (Op.move (Operand.tmp 2)) = true from rfl)).mpr ⟨.val (.clo f cs), ?_, rfl⟩
    show stepA E (Op.move (Operand.tmp 2)) (opSV E (sget τ)) = _
    simp only [stepA, opSV, h2]
  rw [wpOpsIn_cons]
  unfold wpOpIn
  have e1 : (#[o0, o1] : Array Oper)[1]? = some o1 := rfl
  rw [e1]
  simp only
  rw [if_pos (by rw [h1]; simp [Region.wanted]), h1]
  obtain ⟨xv, hxv, ex⟩ := hr1.tmp 13 (.val (.clo f cs)) rfl
  have ev : a1.eval (.tmp 13) = xv := by simp only [Act.eval, getD_of hxv]
  obtain ⟨d, hty, hd⟩ : ∃ d, Tryz.prog.underlying 166 = some d ∧ ∃ a b c, d = .func a b c := ⟨_, Tryz.underlying166, _, _, _, rfl⟩
  have hrun : (execOp a1.eval ⟨some 14, .binOp .eql 166 (.tmp 13) (.const .nilFunc) 166, t1, p1, f1, none⟩).run E.P w1 = .ok (.value (.bool false)) w1 := by
    simp only [execOp]
    rw [ev, show a1.eval (.const .nilFunc) = .nilFunc from rfl]
    have ex' : Rep _ (.clo f cs) xv := ex
    obtain ⟨xs, rfl, -⟩ := ex'.clo_inv
    rw [Sem.run_bind, show E.P = Tryz.prog from rfl, func_nil w1 (ps := #[]) (rs := #[]) hty hd]
    rfl
  refine wpIn_of_wp (fun c hc => by cases hc) (val_step hr1 (fun d hd => by cases hd; exact Nat.lt_of_lt_of_le (by decide) hN) hrun (v := .val (.bool false)) (Rep.bool false) fun m2 Pr2 a2 w2 hr2 => ?_)
  exact hQ m2 Pr2 a2 w2 hr2
set_option maxHeartbeats 4000000 in
theorem c_GoE {f : Nat} (hmu : E.mu f = false) {cs : List PV} {A : Nat → (Nat × Nat) × Iv} {ok : Nat → Bool} {P : List Nat} (hl : P.length ≤ 1000) (hk : ∀ n ∈ P, PC E f (.int .i64 (n : Nat) :: cs) (.tuple [.agg (ansC (A n)), .bool (ok n)])) :
    PC E 106 [.lst P.length (IL P), .np, .clo f cs] (.tuple [.agg (runC (goS A ok P ans0 0 0)), .int .i64 0]) := by
  have hk' : ∀ i, i < P.length → PC E f (.int .i64 ((P.getD i 0 : Nat) : Int) :: cs) (.tuple [.agg (ansC (A (P.getD i 0))), .bool (ok (P.getD i 0))]) := fun i hi =>
    hk _ (by rw [List.getD_eq_getElem?_getD, List.getElem?_eq_getElem hi]; exact List.getElem_mem _)
  have hg := IL_get P
  have hdr : ∀ i, i < P.length → P.drop i = P.getD i 0 :: P.drop (i + 1) := fun i hi => by
    rw [List.getD_eq_getElem?_getD, List.getElem?_eq_getElem hi]
    exact List.drop_eq_getElem_cons hi
  have hd0 : P.drop P.length = [] := List.drop_length
  have hR0 : goS A ok (P.drop 0) ans0 0 0 = goS A ok P ans0 0 0 := by rw [List.drop_zero]
  rw [E_mu] at hmu
  generalize goS A ok P ans0 0 0 = R at *
  obtain ⟨X, hX⟩ : ∃ X : Nat → Nat, ∀ i, P.getD i 0 = X i := ⟨_, fun _ => rfl⟩
  simp only [hX] at hg hk' hdr
  clear hk hX
  generalize IL P = IP at *
  generalize hn : P.length = n at *
  refine PC.of_sem Tryz.func106 (by decide +kernel) rfl (Nat.le_of_ble_eq_true rfl) ?_
  refine PSem.cut follows (by kernel_rfl) 2 (fun _ : Unit => ⟨[(0, .val (.lst n IP)), (1, .val .np), (2, .val (.clo f cs)), (6, .ptr 6 0), (7, .val (.int .i64 0)), (8, .ptr 8 0)], [(6, (.box (ansC ans0 ++ [.int .i64 0, .int .i64 0, .int .i64 0]), false)), (8, (.box (ansC ans0 ++ [.int .i64 0, .int .i64 0, .int .i64 0]), false))]⟩) (fun _ => True) ?_ (fun _ _ => ?_)
  · simp only [Tryz.f106, hmu, qfirst_succ, qfirst_zero, after_succ, after_zero, go_sem]
    try refine ⟨(), ?_⟩
    simp [Wk, sget, killL, kill1, SV.key, ansC, ans0, Iv.zero, Dy.zero, NN0]
  · intro wk w0 Pr0 m Pr act w hr
    simp only [after_succ, after_zero]
    refine wpIn_seq (wpIn_seq (wpIn_region (nfq_opsE (N := 49) (by decide) hr rfl fun m1 Pr1 a1 w1 hr1 => ?_)))
    have hv := (hr1.opSV (x := .tmp 14) (v := .val (.bool false)) rfl : Rep _ _ _).bool_inv
    refine wpIn_cond_false hv (wpIn_skip ?_)
    refine PSem.last follows (by kernel_rfl) ?_ wk w0 Pr0 m1 Pr1 a1 w1 hr1
    simp only [ansC, ans0, Iv.zero, Dy.zero, List.cons_append, List.nil_append]
    simp only [Tryz.f106, hmu, go_sem]
    refine PLoop.intro (fun i : Nat × ((Nat × Nat) × Iv) × Nat × Nat => ⟨[(1, .val .np), (2, .val (.clo f cs)), (6, .ptr 6 0), (8, .ptr 8 0), (17, .val (.lst n IP)), (18, .val (.int .i64 n)), (19, .val (.int .i64 i.1))],
      [(6, (.box (ansC ans0 ++ [.int .i64 0, .int .i64 0, .int .i64 0]), false)), (8, (.box (ansC i.2.1 ++ [.int .i64 (i.2.2.1 : Nat), .int .i64 (i.2.2.2 : Nat), .int .i64 2]), false))]⟩)
      (fun i => i.1 ≤ n ∧ goS A ok (P.drop i.1) i.2.1 i.2.2.1 i.2.2.2 = R ∧ i.2.2.2 = i.1) (fun i => n - i.1) (0, ans0, 0, 0) ⟨Nat.zero_le _, hR0, rfl⟩ ?_ fun i hi => walk ?_
    · simp [Wk, sget, killL, kill1, SV.key, ansC, ans0, Iv.zero, Dy.zero, NN0]
    obtain ⟨i, v, b, t⟩ := i
    dsimp only at hi ⊢
    obtain ⟨hi, hgo, rfl⟩ := hi
    have wi : IntKind.wrap .i64 ((t : Int) + 1) = ((t + 1 : Nat) : Int) := by rw [wrap64 (by omega) (by omega)]; omega
    simp only [ansC, ans0, Iv.zero, Dy.zero, List.cons_append, List.nil_append]
    simp only [Tryz.f106, go_sem]
    refine qif_d (fun h => ?_) (fun h => ?_)
    · have hin : t < n := by omega
      have x1 := hg t hin
      have k1 := hk' t hin
      rw [hdr t hin] at hgo
      unfold goS at hgo
      generalize X t = x at *
      cases hok : ok x with
      | true =>
        rw [hok, if_pos rfl] at hgo
        rw [hok] at k1
        subst hgo
        simp only [ansC] at k1
        simp only [Tryz.f106, hmu, go_sem]
        refine qand_i (by first | omega | (simp [V_length, U_length, tab_length, maxLen]; done) | (simp [V_length, U_length, tab_length, maxLen]; omega) | (refine ⟨?_, ?_⟩ <;> first | omega | (simp [V_length, U_length, tab_length, maxLen]; done) | (simp [V_length, U_length, tab_length, maxLen]; omega))) ?_; simp only [Tryz.f106, hmu, go_sem]
        refine qval_i (congrArg (Option.map _) x1) ?_
        simp only [Tryz.f106, hmu, nilCmp, go_sem]
        refine qcall_i (k1) ?_; simp only [Tryz.f106, hmu, wi, go_sem]
        simp [runC, ansC]
      | false =>
        rw [hok, if_neg Bool.false_ne_true] at hgo
        rw [hok] at k1
        simp only [ansC] at k1
        simp only [Tryz.f106, hmu, go_sem]
        refine qand_i (by first | omega | (simp [V_length, U_length, tab_length, maxLen]; done) | (simp [V_length, U_length, tab_length, maxLen]; omega) | (refine ⟨?_, ?_⟩ <;> first | omega | (simp [V_length, U_length, tab_length, maxLen]; done) | (simp [V_length, U_length, tab_length, maxLen]; omega))) ?_; simp only [Tryz.f106, hmu, go_sem]
        refine qval_i (congrArg (Option.map _) x1) ?_
        simp only [Tryz.f106, hmu, nilCmp, go_sem]
        refine qcall_i (k1) ?_; simp only [Tryz.f106, hmu, wi, go_sem]
        refine ⟨(t + 1, A x, x, t + 1), ⟨by omega, hgo, rfl⟩, by dsimp only; omega, ?_⟩
        simp [Wk, sget, killL, kill1, SV.key, ansC, ans0, Iv.zero, Dy.zero, NN0]
    · have hin : t = n := by omega
      subst hin
      rw [hd0] at hgo
      unfold goS at hgo
      subst hgo
      simp only [Tryz.f106, go_sem]
      simp [runC, ansC]
end
section
section
open Go PG Go.Proofs
open XX
theorem and1_i64w {a : Nat} (ha : a < 9223372036854775808) : bits .and .i64 (a : Int) 1 = ((a % 2 : Nat) : Int) := by
  have h1 : (BitVec.ofInt 64 (a : Int)).toNat = a := by
    rw [BitVec.ofInt_natCast, BitVec.toNat_ofNat]; exact Nat.mod_eq_of_lt (by omega)
  have h2 : (BitVec.ofInt 64 (1 : Int)).toNat = 1 := by decide
  show IntKind.i64.wrap ((BitVec.ofInt 64 (a : Int) &&& BitVec.ofInt 64 (1 : Int)).toNat : Int) = _
  rw [BitVec.toNat_and, h1, h2, Nat.and_one_is_mod, wrap64 (by omega) (by omega)]
theorem c_BLenW (k : Nat) (hk : k < W) : PC E 230 [.int .u64 k] (.int .i64 (bitLen k)) := by
  have k1 := c_Len64 k hk
  simp only [u] at k1
  refine PC.of_body follows Tryz.func230 (by decide +kernel) rfl (by kernel_rfl) (Nat.le_of_ble_eq_true rfl) (walk ?_)
  simp only [Tryz.f230, go_sem]
  refine qcall_i (k1) ?_; simp only [Tryz.f230, go_sem]
  try rfl
theorem pow_bits1 (x : Nat) : ∀ j : Nat, bitLen (x ^ (j + 1)) ≤ bitLen x * (j + 1)
  | 0 => by rw [Nat.pow_one]; omega
  | j + 1 => by
    have ih := pow_bits1 x j
    have h := bitLen_mul_le (x ^ (j + 1)) x
    rw [Nat.pow_succ, show bitLen x * (j + 1 + 1) = bitLen x * (j + 1) + bitLen x from Nat.mul_succ _ _]
    omega
theorem pow_bits (x : Nat) (j : Nat) : bitLen (x ^ j) ≤ bitLen x * j + 1 := by
  cases j with
  | zero => rw [Nat.pow_zero, bit1]; omega
  | succ j => exact Nat.le_trans (pow_bits1 x j) (by omega)
set_option maxHeartbeats 4000000 in
theorem k_PowG {x n : Nat} (hb : bitLen x * n ≤ 65000) (hbx : bitLen x ≤ 65000) (hn : n < 4611686018427387904) : PC E 194 [NN x, .int .i64 n] (.tuple [NN (x ^ n), .int .i64 0]) := by
  have k1 := k_Bare (num_bits (x := x) (by omega))
  have k2 := k_Small (num_bits (x := x) (by omega))
  have k3 := k_Bits (num_bits (x := x) (by omega))
  have k4 := u_one
  by_cases h0 : n = 0
  · subst h0
    rw [Nat.pow_zero]
    simp only [u, NN, NL, Int.cast_ofNat_Int] at k1 k2 k3 k4 ⊢
    refine PC.of_body follows Tryz.func194 (by decide +kernel) rfl (by kernel_rfl) (Nat.le_of_ble_eq_true rfl) (walk ?_)
    simp only [Tryz.f194, Int.cast_ofNat_Int, go_sem]
    refine qcall_i (k1) ?_; simp only [Tryz.f194, Int.cast_ofNat_Int, go_sem]
    refine qcall_i (k2) ?_; simp only [Tryz.f194, Int.cast_ofNat_Int, go_sem]
    refine qcall_i (k4) ?_; simp only [Tryz.f194, Int.cast_ofNat_Int, go_sem]
    try rfl
  have hk0 : ((n : Int) < 0) = False := eq_false (by omega)
  have hk1 : ((n : Int) = 0) = False := eq_false (by omega)
  by_cases hs : x < 2
  · have hW : x < W := Nat.lt_trans hs (by decide)
    rw [if_pos hW, decide_eq_true hW] at k2
    have ex : x ^ n = x := by
      obtain rfl | rfl : x = 0 ∨ x = 1 := by omega
      · rw [Nat.zero_pow (by omega)]
      · rw [Nat.one_pow]
    rw [ex]
    simp only [u, NN, NL] at k1 k2 ⊢
    refine PC.of_body follows Tryz.func194 (by decide +kernel) rfl (by kernel_rfl) (Nat.le_of_ble_eq_true rfl) (walk ?_)
    simp only [Tryz.f194, go_sem]
    refine qcall_i (k1) ?_; simp only [Tryz.f194, go_sem]
    refine qcall_i (k2) ?_; simp only [Tryz.f194, hk0, hk1, go_sem]
    refine qif_dt (by omega) ?_
    simp only [Tryz.f194, go_sem]
    try rfl
  have hx2 : 2 ≤ bitLen x := Nat.not_lt.1 fun h2 => by
    have := (bitLen_le x 1).1 (by omega)
    omega
  have hnk : n ≤ 32500 := by
    have := Nat.mul_le_mul_right n hx2
    omega
  have k5 := c_BLenW n (Nat.lt_of_le_of_lt hnk (by decide))
  have hbl : bitLen n ≤ 15 := (bitLen_le n 15).2 (Nat.lt_of_le_of_lt hnk (by decide))
  have hbl1 : n < 2 ^ bitLen n := (bitLen_le n (bitLen n)).1 (Nat.le_refl _)
  have pm : ∀ a b : Nat, bitLen a ≤ 70000 → bitLen b ≤ 70000 → PC E 221 [NN a, NN b] (NN (a * b)) := fun a b ha hb => by
    have h1 := w_of_bits (x := a) (n := 15625) (by omega)
    have h2 := w_of_bits (x := b) (n := 15625) (by omega)
    have := c_product (dg W a) (dg W b) (ok_dg W2 a) (ok_dg W2 b) (by omega) (by omega)
    rwa [show vl (dg W a) = a from dv_dg W2 a, show vl (dg W b) = b from dv_dg W2 b] at this
  have wK : IntKind.wrap .u64 (n : Int) = n := wrap_nat64 (Nat.lt_of_le_of_lt hnk (by decide))
  have wb : IntKind.wrap .i64 ((bitLen n : Int) - 1) = ((bitLen n : Nat) : Int) - 1 := wrap64 (by omega) (by omega)
  have wx : IntKind.wrap .i64 ((bitLen x : Int) - 1) = (bitLen x : Int) - 1 := wrap64 (by omega) (by omega)
  have hq : (n : Int) ≤ Int.tdiv 65535 ((bitLen x : Int) - 1) := by
    rw [Int.tdiv_eq_ediv_of_nonneg (by decide), Int.le_ediv_iff_mul_le (by omega)]
    have h1 : ((bitLen x * n : Nat) : Int) = (bitLen x : Int) * n := Int.natCast_mul _ _
    have h2 : (n : Int) * ((bitLen x : Int) - 1) = (bitLen x : Int) * n - n := by rw [Int.mul_sub, Int.mul_one, Int.mul_comm]
    omega
  have wt : IntKind.wrap .i64 (Int.tdiv 65535 ((bitLen x : Int) - 1)) = Int.tdiv 65535 ((bitLen x : Int) - 1) := by
    rw [Int.tdiv_eq_ediv_of_nonneg (by decide)]
    have h1 : 0 ≤ 65535 / ((bitLen x : Int) - 1) := Int.ediv_nonneg (by decide) (by omega)
    have h2 : 65535 / ((bitLen x : Int) - 1) ≤ 65535 := Int.ediv_le_self _ (by decide)
    exact wrap64 (by omega) (by omega)
  have hfb0 : ∀ j, bitLen (x ^ (n / 2 ^ j)) ≤ 65001 := fun j => by
    have h1 := pow_bits x (n / 2 ^ j)
    have h2 := Nat.mul_le_mul_left (bitLen x) (Nat.div_le_self n (2 ^ j))
    omega
  have hsq0 : ∀ j, bitLen (x ^ (n / 2 ^ (j + 1)) * x ^ (n / 2 ^ (j + 1))) ≤ 65001 := fun j => by
    rw [← Nat.pow_add]
    have h1 := pow_bits x (n / 2 ^ (j + 1) + n / 2 ^ (j + 1))
    have h3 : n / 2 ^ (j + 1) + n / 2 ^ (j + 1) ≤ n := by
      have e : n / 2 ^ (j + 1) = n / 2 ^ j / 2 := by rw [Nat.pow_succ, Nat.div_div_eq_div_mul]
      have := Nat.div_le_self n (2 ^ j)
      omega
    have h2 := Nat.mul_le_mul_left (bitLen x) h3
    omega
  have hstep0 : ∀ j, (n / 2 ^ j % 2 = 1 → x ^ (n / 2 ^ (j + 1)) * x ^ (n / 2 ^ (j + 1)) * x = x ^ (n / 2 ^ j)) ∧ (n / 2 ^ j % 2 = 0 → x ^ (n / 2 ^ (j + 1)) * x ^ (n / 2 ^ (j + 1)) = x ^ (n / 2 ^ j)) := fun j => by
    have e : n / 2 ^ (j + 1) = n / 2 ^ j / 2 := by rw [Nat.pow_succ, Nat.div_div_eq_div_mul]
    rw [← Nat.pow_add, e]
    refine ⟨fun h => ?_, fun h => ?_⟩
    · rw [← Nat.pow_succ]; congr 1; omega
    · congr 1; omega
  have e0 : x ^ (n / 2 ^ bitLen n) = 1 := by rw [Nat.div_eq_of_lt hbl1, Nat.pow_zero]
  have en : x ^ (n / 2 ^ 0) = x ^ n := by rw [Nat.pow_zero, Nat.div_one]
  obtain ⟨f, hf⟩ : ∃ f : Nat → Nat, ∀ j, x ^ (n / 2 ^ j) = f j := ⟨_, fun _ => rfl⟩
  simp only [hf] at hfb0 hsq0 hstep0 e0 en
  rw [← en]
  rw [← e0] at k4
  have p1 := fun j => pm (f j) (f j) (by have := hfb0 j; omega) (by have := hfb0 j; omega)
  have p2 := fun j => pm (f (j + 1) * f (j + 1)) x (by have := hsq0 j; omega) (by omega)
  have p3 := fun j => k_Bits (num_bits (x := f j) (by have := hfb0 j; omega))
  have hbn : ∀ j, n / 2 ^ j < 9223372036854775808 := fun j => Nat.lt_of_le_of_lt (Nat.div_le_self _ _) (by omega)
  have hshr : ∀ j : Nat, j ≤ 15 → (n : Int).fdiv (2 ^ min j 64) = ((n / 2 ^ j : Nat) : Int) := fun j hj => by
    rw [Nat.min_eq_left (by omega), Int.fdiv_eq_ediv_of_nonneg _ (Int.pow_nonneg (by decide))]
    simp
  have hsm : (decide (x < W) && decide (((if x < W then x else 0 : Nat) : Int) < 2)) = false := by
    by_cases h : x < W
    · rw [if_pos h, decide_eq_false (by omega : ¬ ((x : Int) < 2)), Bool.and_false]
    · rw [decide_eq_false h, Bool.false_and]
  clear pm hf e0 en
  generalize bitLen n = L at *
  simp only [u, NN, NL] at k1 k2 k3 k4 k5 p1 p2 p3 ⊢
  refine PC.of_body follows Tryz.func194 (by decide +kernel) rfl (by kernel_rfl) (Nat.le_of_ble_eq_true rfl) (walk ?_)
  by_cases hW : x < W
  case' pos =>
    rw [if_pos hW, decide_eq_true hW] at k2
    simp only [Tryz.f194, go_sem]
    refine qcall_i (k1) ?_; simp only [Tryz.f194, go_sem]
    refine qcall_i (k2) ?_; simp only [Tryz.f194, hk0, hk1, go_sem]
    refine qif_df (by omega) ?_
    simp only [Tryz.f194, go_sem]
  case' neg =>
    rw [if_neg hW, decide_eq_false hW] at k2
    simp only [Tryz.f194, go_sem]
    refine qcall_i (k1) ?_; simp only [Tryz.f194, go_sem]
    refine qcall_i (k2) ?_; simp only [Tryz.f194, hk0, hk1, go_sem]
  all_goals
    refine qcall_i (k3) ?_; simp only [Tryz.f194, wx, wt, go_sem]
    refine qand_i (by first | omega | (simp [V_length, U_length, tab_length, maxLen]; done) | (simp [V_length, U_length, tab_length, maxLen]; omega) | (refine ⟨?_, ?_⟩ <;> first | omega | (simp [V_length, U_length, tab_length, maxLen]; done) | (simp [V_length, U_length, tab_length, maxLen]; omega))) ?_; simp only [Tryz.f194, wx, wt, go_sem]
    refine qif_df (by omega) ?_
    simp only [Tryz.f194, go_sem]
    refine qcall_i (k4) ?_; simp only [Tryz.f194, wK, go_sem]
    refine qcall_i (k5) ?_; simp only [Tryz.f194, wK, wb, go_sem]
    refine PLoop.intro (fun j : Nat => ⟨[(0, .val (.lst (dg W x).length (U (dg W x)))), (1, .val (.int .i64 n)), (8, .val (.lst (dg W (f j)).length (U (dg W (f j))))), (9, .val (.int .i64 ((j : Int) - 1)))], []⟩) (fun j => j ≤ L) (fun j => j) L (Nat.le_refl _) ?_ fun j hj => walk ?_
    · simp [Wk, sget, killL, kill1, SV.key]
    rcases j with _ | j
    · simp only [Tryz.f194, go_sem]
      refine qif_df (by omega) ?_
      simp only [Tryz.f194, go_sem]
      try exact ⟨rfl, rfl⟩
      try rfl
    · have e1 : (((j + 1 : Nat) : Int) - 1) = (j : Nat) := by omega
      rw [e1]
      have hs := hshr j (by omega)
      have hb := and1_i64w (hbn j)
      have wj : IntKind.wrap .i64 ((j : Int) - 1) = (j : Int) - 1 := wrap64 (by omega) (by omega)
      have q1 := p1 (j + 1)
      have q2 := p2 j
      have q3 := p3 j
      have hfj := hfb0 j
      have st := hstep0 j
      have hm2 : n / 2 ^ j % 2 < 2 := Nat.mod_lt _ (by decide)
      generalize n / 2 ^ j % 2 = bt at *
      generalize n / 2 ^ j = nj at *
      simp only [Tryz.f194, go_sem]
      refine qif_dt (by omega) ?_
      simp only [Tryz.f194, go_sem]
      refine qcall_i (q1) ?_; simp only [Tryz.f194, go_sem]
      refine qand_i (by first | omega | (simp [V_length, U_length, tab_length, maxLen]; done) | (simp [V_length, U_length, tab_length, maxLen]; omega) | (refine ⟨?_, ?_⟩ <;> first | omega | (simp [V_length, U_length, tab_length, maxLen]; done) | (simp [V_length, U_length, tab_length, maxLen]; omega))) ?_; simp only [Tryz.f194, hs, hb, go_sem]
      refine qif_d (fun h => ?_) (fun h => ?_)
      · have h1 : bt = 1 := by omega
        have e2 := st.1 h1
        rw [e2] at q2
        simp only [Tryz.f194, go_sem]
        refine qcall_i (q2) ?_; simp only [Tryz.f194, go_sem]
        refine qcall_i (q3) ?_; simp only [Tryz.f194, go_sem]
        refine qif_df (by omega) ?_
        simp only [Tryz.f194, wj, go_sem]
        refine ⟨j, by omega, by omega, ?_⟩
        simp [Wk, sget, killL, kill1, SV.key]
      · have h1 : bt = 0 := by omega
        have e2 := st.2 h1
        rw [e2]
        simp only [Tryz.f194, go_sem]
        refine qcall_i (q3) ?_; simp only [Tryz.f194, go_sem]
        refine qif_df (by omega) ?_
        simp only [Tryz.f194, wj, go_sem]
        refine ⟨j, by omega, by omega, ?_⟩
        simp [Wk, sget, killL, kill1, SV.key]
end
section
open Go PG Go.Proofs
open XX
def Irt (j a r : Nat) : Prop := r ^ (j + 1) ≤ a ∧ a < (r + 1) ^ (j + 1)
def newtonK (j a x : Nat) : Nat := (x * j + a / x ^ j) / (j + 1)
theorem amgm (r x : Nat) : ∀ j : Nat, (j + 1) * (r * x ^ j) ≤ r ^ (j + 1) + j * x ^ (j + 1)
  | 0 => by simp
  | j + 1 => by
    have ih := amgm r x j
    have h1 := Nat.mul_le_mul_left r ih
    -- r^(j+2) + (j+1) x^(j+2) - (j+2) r x^(j+1) = r * (..) + (j+1) x^j (x - r)^2
    have h2 : 2 * (r * x) ≤ x * x + r * r := by
      obtain ⟨t, ht⟩ | ⟨t, ht⟩ : (∃ t, r = x + t) ∨ (∃ t, x = r + t) := by
        by_cases hc : x ≤ r
        · exact .inl ⟨r - x, by omega⟩
        · exact .inr ⟨x - r, by omega⟩
      · subst ht; grind
      · subst ht; grind
    have h3 := Nat.mul_le_mul_left ((j + 1) * x ^ j) h2
    rw [Nat.pow_succ x (j + 1), Nat.pow_succ r (j + 1)]
    rw [Nat.pow_succ x j] at *
    generalize x ^ j = X at *
    generalize r ^ (j + 1) = Rr at *
    grind
theorem newtonK_ge {j a r x : Nat} (h : Irt j a r) (hx : 0 < x) : r ≤ newtonK j a x := by
  unfold newtonK
  rw [Nat.le_div_iff_mul_le (by omega)]
  refine Nat.not_lt.1 fun hlt => ?_
  have hxj := Nat.pow_pos (n := j) hx
  have hle : x * j ≤ r * (j + 1) := Nat.le_of_lt (Nat.lt_of_le_of_lt (Nat.le_add_right _ _) hlt)
  have h1 : a / x ^ j < r * (j + 1) - x * j := Nat.lt_sub_of_add_lt (by rw [Nat.add_comm]; exact hlt)
  have h2 := (Nat.div_lt_iff_lt_mul hxj).1 h1
  clear h1 hlt
  have h3 := amgm r x j
  have h4 := h.1
  obtain ⟨d, hd⟩ : ∃ d, r * (j + 1) = x * j + d := ⟨r * (j + 1) - x * j, by omega⟩
  rw [show r * (j + 1) - x * j = d by omega] at h2
  have h5 : (j + 1) * (r * x ^ j) = x * j * x ^ j + d * x ^ j := by
    rw [← Nat.mul_assoc, Nat.mul_comm (j + 1) r, hd, Nat.add_mul]
  have h6 : j * x ^ (j + 1) = x * j * x ^ j := by rw [Nat.pow_succ, Nat.mul_comm (x ^ j) x, ← Nat.mul_assoc, Nat.mul_comm j x]
  omega
theorem newtonK_lt {j a r x : Nat} (h : Irt j a r) (hx : r < x) : newtonK j a x < x := by
  unfold newtonK
  rw [Nat.div_lt_iff_lt_mul (by omega)]
  have h1 : a < x ^ (j + 1) := Nat.lt_of_lt_of_le h.2 (Nat.pow_le_pow_left hx _)
  have h2 : a / x ^ j < x := (Nat.div_lt_iff_lt_mul (Nat.pow_pos (by omega))).2 (by rwa [Nat.pow_succ, Nat.mul_comm] at h1)
  rw [Nat.mul_add, Nat.mul_one]
  omega
theorem newtonK_le {j a x : Nat} : newtonK j a x ≤ x + a := by
  unfold newtonK
  have h1 := Nat.div_le_self a (x ^ j)
  refine Nat.div_le_of_le_mul ?_
  have h2 : (j + 1) * (x + a) = x * j + x + (j * a + a) := by grind
  have := Nat.zero_le (j * a)
  omega
theorem k_stepK {a x j : Nat} (ha : bitLen a ≤ 20000) (hx : bitLen x ≤ 20000) (h0 : x ≠ 0) (hj : j < 4611686018427387903) (hb : bitLen x * j ≤ 60000) : PC E 229 [NN a, NN x, .int .i64 ((j + 1 : Nat) : Int)] (NN (newtonK j a x)) := by
  have k1 := k_PowG (x := x) (n := j) (by omega) (by omega) (by omega)
  have hpb := pow_bits x j
  have hxj : x ^ j ≠ 0 := Nat.pos_iff_ne_zero.1 (Nat.pow_pos (by omega))
  have k2 := k_Div (num_bits (x := a) (by omega)) (num_bits (x := x ^ j) (by omega)) (by omega) (by omega) hxj
  have hjW : j < W := Nat.lt_trans hj (by decide)
  have hj1W : j + 1 < W := Nat.lt_of_le_of_lt (show j + 1 ≤ 4611686018427387903 by omega) (by decide)
  have k3 := k_times (x := x) (n := j) (by omega) hjW
  have bj : bitLen j ≤ 64 := (bitLen_le _ _).2 hjW
  have b3 := mul_bits hx bj
  have b4 := div_bits (n := x ^ j) ha
  have k4 := k_Add (num_bits (x := x * j) (by omega)) (num_bits (x := a / x ^ j) (by omega))
  have b5 := bitLen_add (x := x * j) (y := a / x ^ j) (n := 20064) (by omega) (by omega)
  have k5 := k_small (x := x * j + a / x ^ j) (n := j + 1) (by omega) hj1W (by omega)
  rw [show (x * j + a / x ^ j) / (j + 1) = newtonK j a x from rfl] at k5
  have w1 : IntKind.wrap .i64 (((j + 1 : Nat) : Int) - 1) = (j : Int) := by rw [wrap64 (by omega) (by omega)]; omega
  have w2 := wrap_nat64 hjW
  have w3 := wrap_nat64 hj1W
  generalize newtonK j a x = nw at *
  generalize (x * j + a / x ^ j) % (j + 1) = rm at *
  generalize x * j + a / x ^ j = sm at *
  generalize x * j = xj at *
  generalize a % x ^ j = am at *
  generalize a / x ^ j = ad at *
  generalize x ^ j = px at *
  generalize hJ : ((j + 1 : Nat) : Int) = J at *
  simp only [u, NN, NL, hJ] at k1 k2 k3 k4 k5 ⊢
  refine PC.of_body follows Tryz.func229 (by decide +kernel) rfl (by kernel_rfl) (Nat.le_of_ble_eq_true rfl) (walk ?_)
  simp only [Tryz.f229, w1, go_sem]
  refine qcall_i (k1) ?_; simp only [Tryz.f229, w1, go_sem]
  refine qcall_i (k2) ?_; simp only [Tryz.f229, w1, w2, go_sem]
  refine qcall_i (k3) ?_; simp only [Tryz.f229, w3, go_sem]
  refine qcall_i (k4) ?_; simp only [Tryz.f229, w3, go_sem]
  refine qcall_i (k5) ?_; simp only [Tryz.f229, go_sem]
  try exact ⟨rfl, rfl⟩
  try rfl
theorem irt_pos {j a r : Nat} (h : Irt j a r) (ha : a ≠ 0) : 1 ≤ r := Nat.not_lt.1 fun h0 => by
  have : r = 0 := by omega
  subst this
  have := h.2
  rw [Nat.zero_add, Nat.one_pow] at this
  omega
theorem irt_lt {j a r n : Nat} (h : Irt j a r) (hn : a < (2 ^ n) ^ (j + 1)) : r < 2 ^ n := Nat.not_le.1 fun h0 => by
  have := Nat.pow_le_pow_left h0 (j + 1)
  have := h.1
  omega
theorem irt_one {j a r : Nat} (h : Irt j a r) (ha : a ≠ 0) (hk : bitLen a ≤ j + 1) : r = 1 := by
  have h1 := irt_pos h ha
  have h2 := irt_lt (n := 1) h (by rw [← Nat.pow_mul, Nat.one_mul]; exact (bitLen_le a (j + 1)).1 hk)
  omega
set_option maxHeartbeats 4000000 in
theorem k_floorK {a r j : Nat} (h : Irt j a r) (ha : a ≠ 0) (hb : bitLen a ≤ 8192) (hj : j < 4611686018427387903) : PC E 193 [NN a, .int .i64 ((j + 1 : Nat) : Int)] (NN r) := by
  have k1 := k_Bits (num_bits (x := a) (by omega))
  have k2 := u_one
  have hb0 := bitLen_pos ha
  by_cases hs : bitLen a ≤ j + 1
  · have e := irt_one h ha hs
    subst e
    simp only [NN, NL] at k1 k2 ⊢
    refine PC.of_body follows Tryz.func193 (by decide +kernel) rfl (by kernel_rfl) (Nat.le_of_ble_eq_true rfl) (walk ?_)
    simp only [Tryz.f193, go_sem]
    refine qcall_i (k1) ?_; simp only [Tryz.f193, go_sem]
    refine qif_dt (by omega) ?_
    simp only [Tryz.f193, go_sem]
    refine qcall_i (k2) ?_; simp only [Tryz.f193, go_sem]
    try exact ⟨rfl, rfl⟩
    try rfl
  obtain ⟨n, hn⟩ : ∃ n, n = (bitLen a + j) / (j + 1) := ⟨_, rfl⟩
  have hjb : j + 1 < bitLen a := by omega
  have hn1 : bitLen a ≤ n * (j + 1) := by
    have h1 := Nat.div_add_mod (bitLen a + j) (j + 1)
    have h2 := Nat.mod_lt (bitLen a + j) (show 0 < j + 1 by omega)
    rw [← hn, Nat.mul_comm] at h1
    omega
  have hn2 : n * (j + 1) ≤ bitLen a + j := by rw [hn]; exact Nat.div_mul_le_self _ _
  have hnj : n ≤ n * (j + 1) := Nat.le_mul_of_pos_right n (by omega)
  have k3 := k_Shln (num_bits (x := 1) (by decide)) n (by rw [bit1]; omega)
  rw [Nat.one_mul] at k3
  have hr1 := irt_pos h ha
  have hrn : r < 2 ^ n := irt_lt h (by
    rw [← Nat.pow_mul]
    exact (bitLen_le a _).1 hn1)
  have hbn : bitLen (2 ^ n) ≤ n + 1 := bitLen_two2 n
  have hmj : (n + 1) * j ≤ 30000 := by
    have h1 : (n + 1) * j ≤ n * (j + 1) + j := by grind
    omega
  have hst : ∀ X : Nat, r ≤ X → bitLen X ≤ n + 1 → PC E 229 [NN a, NN X, .int .i64 ((j + 1 : Nat) : Int)] (NN (newtonK j a X)) := fun X hX hbX => k_stepK (by omega) (by omega) (by omega) hj (by
    have := Nat.mul_le_mul_right j hbX
    omega)
  have hcm : ∀ X : Nat, bitLen X ≤ n + 1 → PC E 181 [NN (newtonK j a X), NN X] (.int .i64 (sgn (newtonK j a X) X)) := fun X hbX => k_Cmp (num_bits (by
    have h1 := bitLen_mono (newtonK_le (j := j) (a := a) (x := X))
    have h2 := bitLen_add (x := X) (y := a) (n := 20000) (by omega) (by omega)
    omega)) (num_bits (by omega))
  have hge : ∀ X : Nat, r ≤ X → r ≤ newtonK j a X := fun X hX => newtonK_ge h (by omega)
  have hlt : ∀ X : Nat, r < X → newtonK j a X < X := fun X hX => newtonK_lt h hX
  generalize newtonK j a = nw at *
  have wb1 : IntKind.wrap .i64 ((bitLen a : Int) + ((j + 1 : Nat) : Int)) = (bitLen a : Int) + ((j + 1 : Nat) : Int) := wrap64 (by omega) (by omega)
  have wb2 : IntKind.wrap .i64 ((bitLen a : Int) + ((j + 1 : Nat) : Int) - 1) = ((bitLen a + j : Nat) : Int) := by rw [wrap64 (by omega) (by omega)]; omega
  have wt : Int.tdiv ((bitLen a + j : Nat) : Int) ((j + 1 : Nat) : Int) = n := by
    rw [Int.tdiv_eq_ediv_of_nonneg (by omega), hn]; rfl
  have wt2 : IntKind.wrap .i64 (n : Int) = n := wrap64 (by omega) (by omega)
  have hj0 : ¬ ((j + 1 : Nat) : Int) = 0 := by omega
  have hgeJ : ¬ ((j + 1 : Nat) : Int) ≥ (bitLen a : Int) := by omega
  clear hn hn1 hn2 hnj hmj hjb hj hs
  generalize hJ : ((j + 1 : Nat) : Int) = J at *
  simp only [NN, NL] at k1 k2 k3 hst hcm ⊢
  refine PC.of_body follows Tryz.func193 (by decide +kernel) rfl (by kernel_rfl) (Nat.le_of_ble_eq_true rfl) (walk ?_)
  simp only [Tryz.f193, go_sem]
  refine qcall_i (k1) ?_; simp only [Tryz.f193, go_sem]
  refine qif_df hgeJ ?_
  simp only [Tryz.f193, go_sem]
  refine qcall_i (k2) ?_; simp only [Tryz.f193, wb1, wb2, wt, wt2, go_sem]
  try (refine qand_i hj0 ?_; simp only [Tryz.f193, wb1, wb2, wt, wt2, go_sem])
  refine qcall_i (k3) ?_; simp only [Tryz.f193, go_sem]
  have hrn' : r ≤ 2 ^ n := Nat.le_of_lt hrn
  clear k1 k2 k3 hrn
  generalize 2 ^ n = x0 at *
  refine PLoop.intro (fun X : Nat => ⟨[(0, .val (.lst (dg W a).length (U (dg W a)))), (1, .val (.int .i64 J)), (6, .val (.lst (dg W X).length (U (dg W X))))], []⟩) (fun X => r ≤ X ∧ bitLen X ≤ n + 1) (fun X => X) x0 ⟨hrn', hbn⟩ ?_ fun X hX => walk ?_
  · simp [Wk, sget, killL, kill1, SV.key]
  have q1 := hst X hX.1 hX.2
  have q2 := hcm X hX.2
  have g1 := hge X hX.1
  have g2 := hlt X
  generalize nw X = Y at *
  simp only [Tryz.f193, go_sem]
  refine qcall_i (q1) ?_; simp only [Tryz.f193, go_sem]
  refine qcall_i (q2) ?_; simp only [Tryz.f193, go_sem]
  have hsg : (sgn (Y : Int) X ≥ 0) ↔ X ≤ Y := by
    have := sgn_neg (Y : Int) X
    omega
  refine qif_d (fun hc => ?_) (fun hc => ?_)
  · have hc := hsg.1 hc
    have e : X = r := by
      by_cases h : r < X
      · have := g2 h; omega
      · have := hX.1; omega
    simp only [Tryz.f193, go_sem]
    rw [e]
    exact ⟨rfl, rfl⟩
  · have hc : ¬ X ≤ Y := fun h => hc (hsg.2 h)
    simp only [Tryz.f193, go_sem]
    refine ⟨Y, ⟨g1, Nat.le_trans (bitLen_mono (by omega)) hX.2⟩, by omega, ?_⟩
    simp [Wk, sget, killL, kill1, SV.key]
theorem k_RootK {a r j : Nat} (h : Irt j a r) (ha : a ≠ 0) (hb : bitLen a ≤ 4000) (hj1 : 1 ≤ j) (hj : j ≤ 10000) : PC E 123 [NN a, .int .i64 ((j + 1 : Nat) : Int)] (.tuple [NN r, .bool (decide (r ^ (j + 1) = a)), .int .i64 0]) := by
  have k1 := k_Bare (num_bits (x := a) (by omega))
  have k2 := k_Bits (num_bits (x := a) (by omega))
  have k3 := k_floorK h ha (by omega) (by omega)
  -- r^(j+1) is at most a
  have hb0 := bitLen_pos ha
  have hr1 := irt_pos h ha
  have hrb : bitLen r * (j + 1) ≤ 30000 := by
    -- (bits - 1) * (j+1) ≤ bits of a - 1
    have h1 : (2 ^ (bitLen r - 1)) ^ (j + 1) ≤ a := Nat.le_trans (Nat.pow_le_pow_left (m_range (by omega)).1 _) h.1
    rw [← Nat.pow_mul] at h1
    have h2 := (bitLen_le a (bitLen a)).1 (Nat.le_refl _)
    have h3 := (Nat.pow_lt_pow_iff_right (by decide : 1 < 2)).1 (Nat.lt_of_le_of_lt h1 h2)
    have h4 := bitLen_pos (x := r) (by omega)
    obtain ⟨t, ht⟩ : ∃ t, bitLen r = t + 1 := ⟨bitLen r - 1, by omega⟩
    rw [ht] at h3 ⊢
    rw [show t + 1 - 1 = t by omega] at h3
    rw [Nat.add_mul, Nat.one_mul]
    omega
  have hrl : bitLen r ≤ 30000 := Nat.le_trans (Nat.le_mul_of_pos_right _ (by omega)) hrb
  have k4 := k_PowG (x := r) (n := j + 1) (by omega) (by omega) (by omega)
  have hpb := pow_bits r (j + 1)
  have k5 := k_Cmp (num_bits (x := r ^ (j + 1)) (by omega)) (num_bits (x := a) (by omega))
  obtain ⟨l, cs, e, hl⟩ := NN_len (x := a)
  have hl0 : ¬ (l : Int) = 0 := by have : l ≠ 0 := fun h' => ha (hl.1 h'); omega
  have hsg : decide (sgn ((r ^ (j + 1) : Nat) : Int) (a : Int) = 0) = decide (r ^ (j + 1) = a) := by
    have := sgn_zero ((r ^ (j + 1) : Nat) : Int) (a : Int)
    exact decide_eq_decide.2 (by rw [this]; exact Int.ofNat_inj)
  rw [← hsg]
  generalize r ^ (j + 1) = rr at *
  generalize sgn (rr : Int) (a : Int) = sg at *
  generalize hJ : ((j + 1 : Nat) : Int) = J at *
  have hJ1 : ¬ J < 1 := by omega
  have hJ2 : ¬ J = 1 := by omega
  rw [e] at k1 k2 k3 k5 ⊢
  simp only [NN, NL] at k1 k2 k3 k4 k5 ⊢
  refine PC.of_body follows Tryz.func123 (by decide +kernel) rfl (by kernel_rfl) (Nat.le_of_ble_eq_true rfl) (walk ?_)
  simp only [Tryz.f123, go_sem]
  refine qcall_i (k1) ?_; simp only [Tryz.f123, go_sem]
  refine qif_df hJ1 ?_
  simp only [Tryz.f123, go_sem]
  refine qcall_i (k2) ?_; simp only [Tryz.f123, go_sem]
  refine qif_df (by omega) ?_
  simp only [Tryz.f123, go_sem]
  refine qif_df hl0 ?_
  simp only [Tryz.f123, go_sem]
  refine qif_df hJ2 ?_
  simp only [Tryz.f123, go_sem]
  refine qcall_i (k3) ?_; simp only [Tryz.f123, go_sem]
  refine qcall_i (k4) ?_; simp only [Tryz.f123, go_sem]
  refine qcall_i (k5) ?_; simp only [Tryz.f123, go_sem]
  try exact ⟨rfl, rfl⟩
  try rfl
end
section
open Go PG Go.Proofs
open XX
theorem wrapN64 {n : Int} (h0 : -9223372036854775808 ≤ n) (h1 : n < 0) : IntKind.wrap .u64 (0 - IntKind.wrap .u64 n) = ((n.natAbs : Nat) : Int) := by
  rw [IntKind.wrap_u64, IntKind.wrap_u64]; omega
theorem wrapP64 {n : Int} (h0 : 0 ≤ n) (h1 : n < 9223372036854775808) : IntKind.wrap .u64 n = ((n.natAbs : Nat) : Int) := by
  rw [IntKind.wrap_u64]; omega
theorem t_size {n : Int} (h0 : -9223372036854775808 ≤ n) (h1 : n < 9223372036854775808) : PC E 197 [.int .i64 n] (.int .u64 (n.natAbs : Nat)) := by
  refine PC.of_body follows Tryz.func197 (by decide +kernel) rfl (by kernel_rfl) (Nat.le_of_ble_eq_true rfl) (walk ?_)
  simp only [Tryz.f197, go_sem]
  refine qif_d (fun h => ?_) (fun h => ?_)
  · have w := wrapN64 h0 h
    simp only [Tryz.f197, w, go_sem]
    try rfl
  · have w := wrapP64 (n := n) (by omega) h1
    simp only [Tryz.f197, w, go_sem]
    try rfl
theorem e_size {n : Int} (h0 : -9223372036854775808 ≤ n) (h1 : n < 9223372036854775808) : PC E 122 [.int .i64 n] (.int .u64 (n.natAbs : Nat)) := by
  refine PC.of_body follows Tryz.func122 (by decide +kernel) rfl (by kernel_rfl) (Nat.le_of_ble_eq_true rfl) (walk ?_)
  simp only [Tryz.f122, go_sem]
  refine qif_d (fun h => ?_) (fun h => ?_)
  · have w := wrapN64 h0 h
    simp only [Tryz.f122, w, go_sem]
    try rfl
  · have w := wrapP64 (n := n) (by omega) h1
    simp only [Tryz.f122, w, go_sem]
    try rfl
theorem natAbs_W {n : Int} (h0 : -9223372036854775808 ≤ n) (h1 : n < 9223372036854775808) : n.natAbs < W := Nat.lt_of_le_of_lt (show n.natAbs ≤ 9223372036854775808 by omega) (by decide)
theorem mul_split {a b c : Nat} (hc : c < W) : (a * b / W = 0 ∧ a * b % W ≤ c) ↔ a * b ≤ c := by
  generalize a * b = p
  have h1 := Nat.div_add_mod p W
  constructor
  · rintro ⟨h2, h3⟩
    rw [h2, Nat.mul_zero, Nat.zero_add] at h1
    omega
  · intro h
    have h2 : p / W = 0 := Nat.div_eq_of_lt (by omega)
    refine ⟨h2, ?_⟩
    rw [h2, Nat.mul_zero, Nat.zero_add] at h1
    omega
theorem t_under {a b : Nat} (ha : a < W) (hb : b < W) : PC E 196 [.int .u64 a, .int .u64 b] (.bool (decide (a * b ≤ 60000))) := by
  have k1 := c_Mul64 a b ha hb
  have hs := mul_split (a := a) (b := b) (c := 60000) (by decide)
  simp only [u] at k1
  obtain ⟨R, hR⟩ : ∃ R, R = PV.bool (decide (a * b ≤ 60000)) := ⟨_, rfl⟩
  rw [← hR]
  obtain ⟨H, hH⟩ : ∃ H, H = a * b / W := ⟨_, rfl⟩
  obtain ⟨L, hL⟩ : ∃ L, L = a * b % W := ⟨_, rfl⟩
  rw [← hH, ← hL] at k1 hs
  refine PC.of_body follows Tryz.func196 (by decide +kernel) rfl (by kernel_rfl) (Nat.le_of_ble_eq_true rfl) (walk ?_)
  simp only [Tryz.f196, go_sem]
  refine qcall_i (k1) ?_; simp only [Tryz.f196, go_sem]
  refine qif_d (fun h => ?_) (fun h => ?_)
  · simp only [Tryz.f196, go_sem]
    rw [hR]
    congr 1
    exact decide_eq_decide.2 (by rw [← hs]; omega)
  · simp only [Tryz.f196, go_sem]
    rw [hR]
    congr 1
    exact (decide_eq_false (by rw [← hs]; omega)).symm
def fitsR (d : Dy) (m : Int) : Prop := bitLen d.m * m.natAbs ≤ 60000 ∧ d.e.natAbs * m.natAbs ≤ 60000
instance (d : Dy) (m : Int) : Decidable (fitsR d m) := inferInstanceAs (Decidable (_ ∧ _))
theorem t_Fits {p : PV} {d : Dy} (h : RD p d) (hf : d.fits) {m : Int} (h0 : -9223372036854775808 ≤ m) (h1 : m < 9223372036854775808) : PC E 126 [p, .int .i64 m] (.bool (decide (fitsR d m))) := by
  have k1 := r_Bare h
  rw [okD_of hf] at k1
  have hb := h.bits
  have k2 := k_Bits (num_bits (x := d.m) hb)
  have k3 := t_size h0 h1
  have hfe := hf.1
  have hfe2 := hf.2
  have k4 := t_size (n := d.e) (by omega) (by omega)
  have k5 := t_under (a := bitLen d.m) (b := m.natAbs) (Nat.lt_of_le_of_lt hb (by decide)) (natAbs_W h0 h1)
  have k6 := t_under (a := d.e.natAbs) (b := m.natAbs) (natAbs_W (by omega) (by omega)) (natAbs_W h0 h1)
  have w := wrap_nat64 (a := bitLen d.m) (Nat.lt_of_le_of_lt hb (by decide))
  obtain ⟨R, hR⟩ : ∃ R, R = PV.bool (decide (fitsR d m)) := ⟨_, rfl⟩
  rw [← hR]
  obtain ⟨s, q, x, e, rfl, -⟩ := h
  by_cases c1 : bitLen d.m * m.natAbs ≤ 60000
  case neg =>
    rw [decide_eq_false c1] at k5
    rw [decide_eq_false (fun h : fitsR d m => c1 h.1)] at hR
    simp only [DP, Dy.pv, NN, NL] at k1 k2 ⊢
    refine PC.of_body follows Tryz.func126 (by decide +kernel) rfl (by kernel_rfl) (Nat.le_of_ble_eq_true rfl) (walk ?_)
    simp only [Tryz.f126, go_sem]
    refine qcall_i (k1) ?_; simp only [Tryz.f126, go_sem]
    refine qcall_i (k2) ?_; simp only [Tryz.f126, w, go_sem]
    refine qcall_i (k3) ?_; simp only [Tryz.f126, go_sem]
    refine qcall_i (k5) ?_; simp only [Tryz.f126, go_sem]
    first | (rw [hR]; done) | (rw [hR]; rfl)
  rw [decide_eq_true c1] at k5
  have hd : decide (fitsR d m) = decide (d.e.natAbs * m.natAbs ≤ 60000) := decide_eq_decide.2 ⟨fun h => h.2, fun h => ⟨c1, h⟩⟩
  rw [hd] at hR
  simp only [DP, Dy.pv, NN, NL] at k1 k2 ⊢
  refine PC.of_body follows Tryz.func126 (by decide +kernel) rfl (by kernel_rfl) (Nat.le_of_ble_eq_true rfl) (walk ?_)
  simp only [Tryz.f126, go_sem]
  refine qcall_i (k1) ?_; simp only [Tryz.f126, go_sem]
  refine qcall_i (k2) ?_; simp only [Tryz.f126, w, go_sem]
  refine qcall_i (k3) ?_; simp only [Tryz.f126, go_sem]
  refine qcall_i (k5) ?_; simp only [Tryz.f126, go_sem]
  refine qcall_i (k4) ?_; simp only [Tryz.f126, go_sem]
  refine qcall_i (k3) ?_; simp only [Tryz.f126, go_sem]
  refine qcall_i (k6) ?_; simp only [Tryz.f126, go_sem]
  first | (rw [hR]; done) | (rw [hR]; rfl)
theorem odd_pow {m : Nat} (h : m % 2 = 1) (n : Nat) : m ^ n % 2 = 1 := by
  induction n with
  | zero => rfl
  | succ n ih => rw [Nat.pow_succ, Nat.mul_mod, ih, h]
theorem t_Pow0 {x n : Nat} (hx : x % 2 = 1) (hxb : bitLen x ≤ 60000) (hn : n ≤ 54) : ∃ v, PC E 125 [.agg [.bool false, NN x, .int .i64 0], .int .i64 n] v ∧ (bitLen x * n ≤ 60000 → v = .tuple [(Dy.mk false (x ^ n) 0).pv, .int .i64 0]) ∧ (¬ bitLen x * n ≤ 60000 → v = .tuple [Dy.zero.pv, .int .i64 2]) := by
  have hok : (Dy.mk false x 0).ok := .inr hx
  have hf : (Dy.mk false x 0).fits := ⟨show (-1073741824 : Int) ≤ 0 by decide, show (0 : Int) ≤ 1073741824 by decide⟩
  have hR : RD (Dy.mk false x 0).pv ⟨false, x, 0⟩ := RD.fit hok (by show bitLen x ≤ _; omega) hf
  have k1 := r_Bare hR
  rw [okD_of hf] at k1
  have k2 := t_Fits hR hf (m := n) (by omega) (by omega)
  have hfr : fitsR ⟨false, x, 0⟩ (n : Int) ↔ bitLen x * n ≤ 60000 := by
    unfold fitsR
    dsimp only
    rw [Int.natAbs_natCast, Int.natAbs_zero, Nat.zero_mul]
    exact ⟨fun h => h.1, fun h => ⟨h, by omega⟩⟩
  rw [decide_eq_decide.2 hfr] at k2
  by_cases hc : bitLen x * n ≤ 60000
  · refine ⟨_, ?_, fun _ => rfl, fun h => absurd hc h⟩
    rw [decide_eq_true hc] at k2
    have k3 := k_PowG (x := x) (n := n) (by omega) (by omega) (by omega)
    have hpb := pow_bits x n
    have k4 := r_Make (num_bits (x := x ^ n) (by omega)) (by omega) false 0
    rw [mkD_odd (odd_pow hx n) (by decide) (by decide), okD_of ⟨show (-1073741824 : Int) ≤ 0 by decide, show (0 : Int) ≤ 1073741824 by decide⟩] at k4
    generalize x ^ n = P at *
    simp only [DP, Dy.pv, NN, NL] at k1 k2 k3 k4 ⊢
    refine PC.of_body follows Tryz.func125 (by decide +kernel) rfl (by kernel_rfl) (Nat.le_of_ble_eq_true rfl) (walk ?_)
    simp only [Tryz.f125, go_sem]
    refine qcall_i (k1) ?_; simp only [Tryz.f125, go_sem]
    refine qif_df (by omega) ?_
    simp only [Tryz.f125, go_sem]
    refine qcall_i (k2) ?_; simp only [Tryz.f125, go_sem]
    refine qcall_i (k3) ?_; simp only [Tryz.f125, go_sem]
    have w0 : IntKind.wrap .i64 (0 * (n : Int)) = 0 := by rw [Int.zero_mul]; decide
    simp only [Tryz.f125, w0, go_sem]
    refine qcall_i (k4) ?_; simp only [Tryz.f125, go_sem]
    try exact ⟨rfl, rfl⟩
    try rfl
  · refine ⟨_, ?_, fun h => absurd h hc, fun _ => rfl⟩
    rw [decide_eq_false hc] at k2
    simp only [DP, Dy.pv, Dy.zero, NN, NL] at k1 k2 ⊢
    refine PC.of_body follows Tryz.func125 (by decide +kernel) rfl (by kernel_rfl) (Nat.le_of_ble_eq_true rfl) (walk ?_)
    simp only [Tryz.f125, go_sem]
    refine qcall_i (k1) ?_; simp only [Tryz.f125, go_sem]
    refine qif_df (by omega) ?_
    simp only [Tryz.f125, go_sem]
    refine qcall_i (k2) ?_; simp only [Tryz.f125, go_sem]
    try rfl
theorem e_Low {M : Int} {K : Nat} (hM : -9223372036854775808 < M ∧ M < 9223372036854775808) (hK : 1 ≤ K) (hK2 : K < 9223372036854775808) :
    PC E 65 [.agg [.int .i64 M, .int .i64 (K : Nat)]] (.tuple [.agg [.int .i64 (M.tdiv ((Nat.gcd M.natAbs K : Nat) : Int)), .int .i64 ((K / Nat.gcd M.natAbs K : Nat) : Int)], .int .i64 0]) := by
  have k1 := e_size (n := M) (by omega) hM.2
  have wK : IntKind.wrap .u64 (K : Int) = K := wrap_nat64 (Nat.lt_trans hK2 (by decide))
  have hg0 : 0 < Nat.gcd M.natAbs K := Nat.gcd_pos_of_pos_right _ (by omega)
  have hgK : Nat.gcd M.natAbs K ≤ K := Nat.gcd_le_right _ (by omega)
  have hKd : (K : Int).tdiv ((Nat.gcd M.natAbs K : Nat) : Int) = ((K / Nat.gcd M.natAbs K : Nat) : Int) := by
    rw [Int.tdiv_eq_ediv_of_nonneg (by omega)]; rfl
  have hMt : (M.tdiv ((Nat.gcd M.natAbs K : Nat) : Int)).natAbs ≤ M.natAbs := by
    rw [Int.natAbs_tdiv]
    exact Nat.div_le_self _ _
  have wM : IntKind.wrap .i64 (M.tdiv ((Nat.gcd M.natAbs K : Nat) : Int)) = M.tdiv ((Nat.gcd M.natAbs K : Nat) : Int) := wrap64 (by omega) (by omega)
  have hKq := Nat.div_le_self K (Nat.gcd M.natAbs K)
  have wKK : IntKind.wrap .i64 ((K / Nat.gcd M.natAbs K : Nat) : Int) = ((K / Nat.gcd M.natAbs K : Nat) : Int) := by
    generalize K / Nat.gcd M.natAbs K = KG at *
    exact wrap64 (by omega) (by omega)
  obtain ⟨G, hG⟩ : ∃ G, G = Nat.gcd M.natAbs K := ⟨_, rfl⟩
  rw [← hG] at hg0 hgK hKd hMt wM hKq wKK ⊢
  have wG : IntKind.wrap .i64 (G : Int) = G := wrap64 (by omega) (by omega)
  generalize K / G = KG at *
  have hG0 : ¬ (G : Int) = 0 := by omega
  refine PC.of_body follows Tryz.func65 (by decide +kernel) rfl (by kernel_rfl) (Nat.le_of_ble_eq_true rfl) (walk ?_)
  simp only [Tryz.f65, go_sem]
  refine qif_df (by omega) ?_
  simp only [Tryz.f65, go_sem]
  refine qcall_i (k1) ?_; simp only [Tryz.f65, wK, go_sem]
  refine PLoop.intro (fun i : Nat × Nat => ⟨[(1, .ptr 1 0), (2, .ptr 2 0), (3, .val (.int .i64 0)), (4, .val (.int .u64 i.1)), (5, .val (.int .u64 i.2))],
    [(1, (.box [.int .i64 M, .int .i64 K], false)), (2, (.box [.int .i64 0, .int .i64 0], false))]⟩) (fun i => Nat.gcd i.1 i.2 = G) (fun i => i.2) (M.natAbs, K) hG.symm ?_ fun i hi => walk ?_
  · simp [Wk, sget, killL, kill1, SV.key]
  obtain ⟨a, b⟩ := i
  dsimp only at hi ⊢
  simp only [Tryz.f65, go_sem]
  refine qif_d (fun h => ?_) (fun h => ?_)
  · have hb0 : ¬ (b : Int) = 0 := by omega
    have et : (a : Int).tmod b = ((a % b : Nat) : Int) := by rw [Int.tmod_eq_emod_of_nonneg (by omega)]; rfl
    simp only [Tryz.f65, go_sem]
    refine qand_i (by first | omega | (simp [V_length, U_length, tab_length, maxLen]; done) | (simp [V_length, U_length, tab_length, maxLen]; omega) | (refine ⟨?_, ?_⟩ <;> first | omega | (simp [V_length, U_length, tab_length, maxLen]; done) | (simp [V_length, U_length, tab_length, maxLen]; omega))) ?_; simp only [Tryz.f65, et, go_sem]
    try simp only [Tryz.f65, et, go_sem]
    refine ⟨(b, a % b), ?_, Nat.mod_lt _ (by omega), ?_⟩
    · dsimp only
      rw [Nat.gcd_comm b, ← Nat.gcd_rec, Nat.gcd_comm]; exact hi
    · simp [Wk, sget, killL, kill1, SV.key]
  · have hb : b = 0 := by omega
    subst hb
    rw [Nat.gcd_zero_right] at hi
    subst hi
    simp only [Tryz.f65, wG, go_sem]
    refine qand_i (by first | omega | (simp [V_length, U_length, tab_length, maxLen]; done) | (simp [V_length, U_length, tab_length, maxLen]; omega) | (refine ⟨?_, ?_⟩ <;> first | omega | (simp [V_length, U_length, tab_length, maxLen]; done) | (simp [V_length, U_length, tab_length, maxLen]; omega))) ?_; simp only [Tryz.f65, wG, wM, go_sem]
    refine qand_i (by first | omega | (simp [V_length, U_length, tab_length, maxLen]; done) | (simp [V_length, U_length, tab_length, maxLen]; omega) | (refine ⟨?_, ?_⟩ <;> first | omega | (simp [V_length, U_length, tab_length, maxLen]; done) | (simp [V_length, U_length, tab_length, maxLen]; omega))) ?_; simp only [Tryz.f65, wG, wM, hKd, wKK, go_sem]
    try exact ⟨rfl, rfl⟩
    try rfl
end
section
open Go PG Go.Proofs
open XX
def exU (d : Dy) : Nat := d.m * 2 ^ (max d.e 0).toNat
def exOfOk (d : Dy) : Prop := -62 ≤ d.e ∧ (bitLen d.m : Int) + max d.e 0 ≤ 62
instance (d : Dy) : Decidable (exOfOk d) := inferInstanceAs (Decidable (_ ∧ _))
def exM (d : Dy) : Int := if d.s = true then -(exU d : Int) else exU d
def exK (d : Dy) : Nat := 2 ^ (max (-d.e) 0).toNat
theorem exU_lt {d : Dy} (h : exOfOk d) : exU d < 4611686018427387904 := by
  have h1 := (bitLen_le d.m (bitLen d.m)).1 (Nat.le_refl _)
  unfold exU
  have h2 := Nat.mul_lt_mul_of_pos_right h1 (Nat.two_pow_pos (max d.e 0).toNat)
  rw [← Nat.pow_add] at h2
  have h3 : 2 ^ (bitLen d.m + (max d.e 0).toNat) ≤ 2 ^ 62 := Nat.pow_le_pow_right (by decide) (by have := h.2; omega)
  exact Nat.lt_of_lt_of_le h2 h3
theorem exK_range {d : Dy} (h : -62 ≤ d.e) : 1 ≤ exK d ∧ exK d ≤ 4611686018427387904 := by
  unfold exK
  have h3 : 2 ^ (max (-d.e) 0).toNat ≤ 2 ^ 62 := Nat.pow_le_pow_right (by decide) (by omega)
  exact ⟨Nat.two_pow_pos _, h3⟩
theorem shl_one {x : Int} (h0 : 0 ≤ x) (h1 : x ≤ 62) : IntKind.wrap .i64 (1 * 2 ^ (min x.toNat 64)) = ((2 ^ x.toNat : Nat) : Int) := by
  rw [Nat.min_eq_left (by omega), Int.one_mul]
  have h3 : 2 ^ x.toNat ≤ 2 ^ 62 := Nat.pow_le_pow_right (by decide) (by omega)
  have e : (2 : Int) ^ x.toNat = ((2 ^ x.toNat : Nat) : Int) := by rw [Int.natCast_pow]; rfl
  rw [e]
  have h4 : (2 : Nat) ^ 62 = 4611686018427387904 := by decide
  generalize 2 ^ x.toNat = P at *
  exact wrap64 (by omega) (by omega)
set_option maxHeartbeats 2000000 in
theorem e_Of {p : PV} {d : Dy} {K : Nat} (h : RD p d) (hl : Lim K d) (hK : K ≤ 200000) : PC E 22 [p] (if exOfOk d then .tuple [.agg [.int .i64 (exM d), .int .i64 (exK d : Nat)], .bool true] else .tuple [.agg [.int .i64 0, .int .i64 0], .bool false]) := by
  have k1 := r_Bare h
  have hf := hl.fits (by omega)
  rw [okD_of hf] at k1
  have hbt := hl.bits
  have k2 := k_Bits (num_bits (x := d.m) (by omega))
  have he := hl.e0
  obtain ⟨s, q, x, e, rfl, -⟩ := h
  obtain ⟨R, hR⟩ : ∃ R, R = (if exOfOk d then PV.tuple [.agg [.int .i64 (exM d), .int .i64 (exK d : Nat)], .bool true] else .tuple [.agg [.int .i64 0, .int .i64 0], .bool false]) := ⟨_, rfl⟩
  rw [← hR]
  by_cases c1 : d.e < -62
  · rw [if_neg (fun h : exOfOk d => by have := h.1; omega)] at hR
    simp only [DP, Dy.pv, NN, NL] at k1 k2 ⊢
    refine PC.of_body follows Tryz.func22 (by decide +kernel) rfl (by kernel_rfl) (Nat.le_of_ble_eq_true rfl) (walk ?_)
    simp only [Tryz.f22, go_sem]
    refine qcall_i (k1) ?_; simp only [Tryz.f22, go_sem]
    refine qif_dt c1 ?_
    simp only [Tryz.f22, go_sem]
    rw [hR]
  have w1 : IntKind.wrap .i64 ((bitLen d.m : Int) + max d.e 0) = (bitLen d.m : Int) + max d.e 0 := wrap64 (by omega) (by omega)
  by_cases c2 : (bitLen d.m : Int) + max d.e 0 > 62
  · rw [if_neg (fun h : exOfOk d => by have := h.2; omega)] at hR
    simp only [DP, Dy.pv, NN, NL] at k1 k2 ⊢
    refine PC.of_body follows Tryz.func22 (by decide +kernel) rfl (by kernel_rfl) (Nat.le_of_ble_eq_true rfl) (walk ?_)
    simp only [Tryz.f22, go_sem]
    refine qcall_i (k1) ?_; simp only [Tryz.f22, go_sem]
    refine qif_df c1 ?_
    simp only [Tryz.f22, go_sem]
    refine qcall_i (k2) ?_; simp only [Tryz.f22, w1, go_sem]
    refine qif_dt c2 ?_
    simp only [Tryz.f22, go_sem]
    rw [hR]
  have ho : exOfOk d := ⟨by omega, by omega⟩
  rw [if_pos ho] at hR
  have hU := exU_lt ho
  have k3 := k_Shln (num_bits (x := d.m) (by omega)) (max d.e 0).toNat (by omega)
  rw [show (((max d.e 0).toNat : Nat) : Int) = max d.e 0 by omega] at k3
  have eU : d.m * 2 ^ (max d.e 0).toNat = exU d := rfl
  rw [eU] at k3
  have hUW : exU d < W := Nat.lt_trans hU (by decide)
  have k4 := k_Small (num_bits (x := exU d) (by have : bitLen (exU d) ≤ 64 := (bitLen_le _ _).2 hUW; omega))
  rw [if_pos hUW, decide_eq_true hUW] at k4
  have w2 : IntKind.wrap .i64 (exU d : Int) = exU d := wrap64 (by omega) (by omega)
  have w3 : IntKind.wrap .i64 (0 - d.e) = -d.e := by rw [wrap64 (by omega) (by omega)]; omega
  have w4 := shl_one (x := max (-d.e) 0) (by omega) (by omega)
  have eK : 2 ^ (max (-d.e) 0).toNat = exK d := rfl
  rw [eK] at w4
  have w5 : IntKind.wrap .i64 (0 - (exU d : Int)) = -(exU d : Int) := by rw [wrap64 (by omega) (by omega)]; omega
  have eM : exM d = if d.s = true then -(exU d : Int) else exU d := rfl
  rw [eM] at hR
  generalize exU d = Uu at *
  generalize exK d = Kk at *
  have hmx : ¬ max (-d.e) 0 < 0 := by omega
  simp only [DP, Dy.pv, u, NN, NL] at k1 k2 k3 k4 ⊢
  cases hs : d.s with
  | true =>
    rw [hs, if_pos rfl] at hR
    rw [hs] at k1
    refine PC.of_body follows Tryz.func22 (by decide +kernel) rfl (by kernel_rfl) (Nat.le_of_ble_eq_true rfl) (walk ?_)
    simp only [Tryz.f22, go_sem]
    refine qcall_i (k1) ?_; simp only [Tryz.f22, go_sem]
    refine qif_df c1 ?_
    simp only [Tryz.f22, go_sem]
    refine qcall_i (k2) ?_; simp only [Tryz.f22, w1, go_sem]
    refine qif_df c2 ?_
    simp only [Tryz.f22, go_sem]
    refine qcall_i (k3) ?_; simp only [Tryz.f22, go_sem]
    refine qcall_i (k4) ?_; simp only [Tryz.f22, w2, w3, go_sem]
    try (refine qand_i hmx ?_; simp only [Tryz.f22, w4, w5, go_sem])
    try simp only [Tryz.f22, w2, w3, w4, w5, go_sem]
    rw [hR]
  | false =>
    rw [hs, if_neg Bool.false_ne_true] at hR
    rw [hs] at k1
    refine PC.of_body follows Tryz.func22 (by decide +kernel) rfl (by kernel_rfl) (Nat.le_of_ble_eq_true rfl) (walk ?_)
    simp only [Tryz.f22, go_sem]
    refine qcall_i (k1) ?_; simp only [Tryz.f22, go_sem]
    refine qif_df c1 ?_
    simp only [Tryz.f22, go_sem]
    refine qcall_i (k2) ?_; simp only [Tryz.f22, w1, go_sem]
    refine qif_df c2 ?_
    simp only [Tryz.f22, go_sem]
    refine qcall_i (k3) ?_; simp only [Tryz.f22, go_sem]
    refine qcall_i (k4) ?_; simp only [Tryz.f22, w2, w3, go_sem]
    try (refine qand_i hmx ?_; simp only [Tryz.f22, w4, go_sem])
    try simp only [Tryz.f22, w2, w3, w4, go_sem]
    rw [hR]
end
section
open Go PG Go.Proofs
open XX
theorem mulsign {e m : Int} (h : (decide (e < 0) != decide (m < 0)) = true) : -((e.natAbs * m.natAbs : Nat) : Int) = e * m := by
  rw [Int.natCast_mul]
  by_cases h1 : e < 0
  · by_cases h2 : m < 0
    · rw [decide_eq_true h1, decide_eq_true h2] at h; cases h
    · rw [show ((e.natAbs : Nat) : Int) = -e by omega, show ((m.natAbs : Nat) : Int) = m by omega]; grind
  · by_cases h2 : m < 0
    · rw [show ((e.natAbs : Nat) : Int) = e by omega, show ((m.natAbs : Nat) : Int) = -m by omega]; grind
    · rw [decide_eq_false h1, decide_eq_false h2] at h; cases h
theorem mulsign2 {e m : Int} (h : (decide (e < 0) != decide (m < 0)) = false) : ((e.natAbs * m.natAbs : Nat) : Int) = e * m := by
  rw [Int.natCast_mul]
  by_cases h1 : e < 0
  · by_cases h2 : m < 0
    · rw [show ((e.natAbs : Nat) : Int) = -e by omega, show ((m.natAbs : Nat) : Int) = -m by omega]; grind
    · rw [decide_eq_true h1, decide_eq_false h2] at h; cases h
  · by_cases h2 : m < 0
    · rw [decide_eq_false h1, decide_eq_true h2] at h; cases h
    · rw [show ((e.natAbs : Nat) : Int) = e by omega, show ((m.natAbs : Nat) : Int) = m by omega]
theorem e_shift {e m : Int} (h0 : -9223372036854775808 ≤ e) (h1 : e < 9223372036854775808) (h2 : -9223372036854775808 ≤ m) (h3 : m < 9223372036854775808) :
    PC E 124 [.int .i64 e, .int .i64 m] (if e.natAbs * m.natAbs ≤ 4096 then .tuple [.int .i64 (e * m), .bool true] else .tuple [.int .i64 0, .bool false]) := by
  have k1 := e_size h0 h1
  have k2 := e_size h2 h3
  have k3 := c_Mul64 e.natAbs m.natAbs (natAbs_W h0 h1) (natAbs_W h2 h3)
  have hs := mul_split (a := e.natAbs) (b := m.natAbs) (c := 4096) (by decide)
  have m1 := mulsign (e := e) (m := m)
  have m2 := mulsign2 (e := e) (m := m)
  have hdm := Nat.div_add_mod (e.natAbs * m.natAbs) W
  simp only [u] at k3
  obtain ⟨R, hR⟩ : ∃ R, R = (if e.natAbs * m.natAbs ≤ 4096 then PV.tuple [.int .i64 (e * m), .bool true] else .tuple [.int .i64 0, .bool false]) := ⟨_, rfl⟩
  rw [← hR]
  by_cases hc : e.natAbs * m.natAbs ≤ 4096
  · rw [if_pos hc] at hR
    obtain ⟨z1, z2⟩ := hs.2 hc
    have z3 : e.natAbs * m.natAbs % W = e.natAbs * m.natAbs := by rw [z1, Nat.mul_zero, Nat.zero_add] at hdm; exact hdm
    rw [z1, z3] at k3
    have w1 : IntKind.wrap .i64 ((e.natAbs * m.natAbs : Nat) : Int) = ((e.natAbs * m.natAbs : Nat) : Int) := wrap64 (by omega) (by omega)
    have w2 : IntKind.wrap .i64 (0 - ((e.natAbs * m.natAbs : Nat) : Int)) = -((e.natAbs * m.natAbs : Nat) : Int) := by rw [wrap64 (by omega) (by omega)]; omega
    generalize e.natAbs * m.natAbs = P at *
    cases hb : (decide (e < 0) != decide (m < 0)) with
    | true =>
      rw [← m1 hb] at hR
      refine PC.of_body follows Tryz.func124 (by decide +kernel) rfl (by kernel_rfl) (Nat.le_of_ble_eq_true rfl) (walk ?_)
      simp only [Tryz.f124, go_sem]
      refine qcall_i (k1) ?_; simp only [Tryz.f124, go_sem]
      refine qcall_i (k2) ?_; simp only [Tryz.f124, go_sem]
      refine qcall_i (k3) ?_; simp only [Tryz.f124, go_sem]
      try (refine qif_df (by omega) ?_)
      try simp only [Tryz.f124, go_sem]
      try (refine qif_df (by omega) ?_)
      try simp only [Tryz.f124, hb, w1, w2, go_sem]
      rw [hR]
    | false =>
      rw [← m2 hb] at hR
      refine PC.of_body follows Tryz.func124 (by decide +kernel) rfl (by kernel_rfl) (Nat.le_of_ble_eq_true rfl) (walk ?_)
      simp only [Tryz.f124, go_sem]
      refine qcall_i (k1) ?_; simp only [Tryz.f124, go_sem]
      refine qcall_i (k2) ?_; simp only [Tryz.f124, go_sem]
      refine qcall_i (k3) ?_; simp only [Tryz.f124, go_sem]
      try (refine qif_df (by omega) ?_)
      try simp only [Tryz.f124, go_sem]
      try (refine qif_df (by omega) ?_)
      try simp only [Tryz.f124, hb, w1, w2, go_sem]
      rw [hR]
  · rw [if_neg hc] at hR
    have hs' : ¬ (e.natAbs * m.natAbs / W = 0 ∧ e.natAbs * m.natAbs % W ≤ 4096) := fun h => hc (hs.1 h)
    generalize e.natAbs * m.natAbs / W = H at *
    generalize e.natAbs * m.natAbs % W = L at *
    refine PC.of_body follows Tryz.func124 (by decide +kernel) rfl (by kernel_rfl) (Nat.le_of_ble_eq_true rfl) (walk ?_)
    simp only [Tryz.f124, go_sem]
    refine qcall_i (k1) ?_; simp only [Tryz.f124, go_sem]
    refine qcall_i (k2) ?_; simp only [Tryz.f124, go_sem]
    refine qcall_i (k3) ?_; simp only [Tryz.f124, go_sem]
    refine qif_d (fun h => ?_) (fun h => ?_)
    · simp only [Tryz.f124, go_sem]
      rw [hR]
    · simp only [Tryz.f124, go_sem]
      refine qif_dt (by omega) ?_
      simp only [Tryz.f124, go_sem]
      rw [hR]
def irtF (j : Nat) : Nat → Nat
  | 0 => 0
  | a + 1 => if (irtF j a + 1) ^ (j + 1) ≤ a + 1 then irtF j a + 1 else irtF j a
theorem irtF_spec (j a : Nat) : Irt j a (irtF j a) := by
  induction a with
  | zero => exact ⟨by show 0 ^ (j + 1) ≤ 0; rw [Nat.zero_pow (by omega)]; omega, by show 0 < (0 + 1) ^ (j + 1); rw [Nat.zero_add, Nat.one_pow]; omega⟩
  | succ a ih =>
    unfold irtF
    split
    · rename_i h
      refine ⟨h, ?_⟩
      have h2 := ih.2
      have h3 : (irtF j a + 1) ^ (j + 1) < (irtF j a + 1 + 1) ^ (j + 1) := Nat.pow_lt_pow_left (by omega) (by omega)
      omega
    · exact ⟨Nat.le_trans ih.1 (by omega), by omega⟩
def rootO (d : Dy) (k : Nat) : Option Dy :=
  if k = 1 then some d else if d.e % (k : Int) ≠ 0 then none else if d.m = 1 then some ⟨d.s, 1, d.e / k⟩
  else if bitLen d.m < k then none else if irtF (k - 1) d.m ^ k = d.m then some ⟨d.s, irtF (k - 1) d.m, d.e / k⟩ else none
theorem tmod_zero {e k : Int} : e.tmod k = 0 ↔ e % k = 0 := by rw [← Int.dvd_iff_emod_eq_zero, ← Int.dvd_iff_tmod_eq_zero]
theorem tdiv_of {e k : Int} (h : e % k = 0) : e.tdiv k = e / k := Int.tdiv_eq_ediv_of_dvd (Int.dvd_of_emod_eq_zero h)
set_option maxHeartbeats 2000000 in
theorem e_rooted {d : Dy} (hl : LgOk d) {k : Nat} (hk : 1 ≤ k) (hk2 : k < 4611686018427387905) :
    ∃ v, PC E 66 [d.pv, .int .i64 (k : Nat)] (.tuple [v, .bool (rootO d k).isSome]) ∧ (∀ r, rootO d k = some r → v = r.pv) ∧ ∃ (a b c : PV), v = .agg [a, b, c] := by
  have hb := hl.bits
  have he := hl.e
  have k1 := k_Bits (num_bits (x := d.m) (by omega))
  have hk0 : ¬ (k : Int) = 0 := by omega
  by_cases c1 : k = 1
  · have e1 : rootO d k = some d := by unfold rootO; rw [if_pos c1]
    refine ⟨d.pv, ?_, fun r h => by rw [e1] at h; cases h; rfl, _, _, _, rfl⟩
    rw [e1]
    simp only [Dy.pv, DP, NN, NL] at k1 ⊢
    refine PC.of_body follows Tryz.func66 (by decide +kernel) rfl (by kernel_rfl) (Nat.le_of_ble_eq_true rfl) (walk ?_)
    simp only [Tryz.f66, go_sem]
    refine qif_dt (by omega) ?_
    simp only [Tryz.f66, go_sem]
    try exact ⟨rfl, rfl⟩
    try rfl
  have wr : (d.e.tmod (k : Int) = 0) = (d.e % (k : Int) = 0) := propext tmod_zero
  by_cases c2 : d.e % (k : Int) = 0
  case neg =>
    have e1 : rootO d k = none := by unfold rootO; rw [if_neg c1, if_pos c2]
    refine ⟨Dy.zero.pv, ?_, fun r h => (by rw [e1] at h; cases h), _, _, _, rfl⟩
    rw [e1]
    have c2' : ¬ d.e.tmod (k : Int) = 0 := fun h => c2 (tmod_zero.1 h)
    simp only [Dy.pv, DP, NN, NL, Dy.zero] at k1 ⊢
    refine PC.of_body follows Tryz.func66 (by decide +kernel) rfl (by kernel_rfl) (Nat.le_of_ble_eq_true rfl) (walk ?_)
    simp only [Tryz.f66, go_sem]
    refine qif_df (by omega) ?_
    simp only [Tryz.f66, go_sem]
    try (refine qand_i hk0 ?_; simp only [Tryz.f66, go_sem])
    refine qif_dt c2' ?_
    simp only [Tryz.f66, go_sem]
    try exact ⟨rfl, rfl⟩
    try rfl
  have c2' : ¬ d.e.tmod (k : Int) ≠ 0 := fun h => h (tmod_zero.2 c2)
  have wd : d.e.tdiv (k : Int) = d.e / (k : Int) := tdiv_of c2
  have hq : -1052576 ≤ d.e / (k : Int) ∧ d.e / (k : Int) ≤ 1048576 := by
    have h1 : (k : Int) * (d.e / k) = d.e := Int.mul_ediv_cancel_of_emod_eq_zero c2
    rcases Int.le_total 0 (d.e / (k : Int)) with h2 | h2
    · have h3 := Int.mul_le_mul_of_nonneg_right (show (1 : Int) ≤ k by omega) h2
      omega
    · have h3 := Int.mul_le_mul_of_nonpos_right (show (1 : Int) ≤ k by omega) h2
      omega
  have ww : IntKind.wrap .i64 (d.e / (k : Int)) = d.e / (k : Int) := wrap64 (by omega) (by omega)
  by_cases c3 : d.m = 1
  · have e1 : rootO d k = some ⟨d.s, 1, d.e / k⟩ := by unfold rootO; rw [if_neg c1, if_neg (fun h => h c2), if_pos c3]
    have hb1 : bitLen d.m = 1 := by rw [c3]; decide
    rw [hb1] at k1
    refine ⟨(Dy.mk d.s 1 (d.e / k)).pv, ?_, fun r h => by rw [e1] at h; cases h; rfl, _, _, _, rfl⟩
    rw [e1]
    rw [← c3]
    generalize d.e / (k : Int) = E' at *
    generalize hKI : (k : Int) = KI at *
    have c1' : ¬ KI = 1 := by omega
    simp only [Dy.pv, DP, NN, NL] at k1 ⊢
    refine PC.of_body follows Tryz.func66 (by decide +kernel) rfl (by kernel_rfl) (Nat.le_of_ble_eq_true rfl) (walk ?_)
    simp only [Tryz.f66, go_sem]
    refine qif_df c1' ?_
    simp only [Tryz.f66, go_sem]
    try (refine qand_i hk0 ?_; simp only [Tryz.f66, go_sem])
    refine qif_df c2' ?_
    simp only [Tryz.f66, wd, ww, go_sem]
    try (refine qand_i hk0 ?_; simp only [Tryz.f66, wd, ww, go_sem])
    refine qcall_i (k1) ?_; simp only [Tryz.f66, go_sem]
    try (refine qif_dt (by decide) ?_)
    try simp only [Tryz.f66, go_sem]
    try exact ⟨rfl, rfl⟩
    try rfl
  have hb1 : ¬ (bitLen d.m : Int) = 1 := fun h => c3 ((bits_one d.m).1 (by omega))
  by_cases c4 : bitLen d.m < k
  · have e1 : rootO d k = none := by unfold rootO; rw [if_neg c1, if_neg (fun h => h c2), if_neg c3, if_pos c4]
    refine ⟨Dy.zero.pv, ?_, fun r h => (by rw [e1] at h; cases h), _, _, _, rfl⟩
    rw [e1]
    have c4' : (k : Int) > (bitLen d.m : Int) := by omega
    have c1' : ¬ (k : Int) = 1 := by omega
    generalize d.e / (k : Int) = E' at *
    generalize (k : Int) = KI at *
    simp only [Dy.pv, DP, NN, NL, Dy.zero] at k1 ⊢
    refine PC.of_body follows Tryz.func66 (by decide +kernel) rfl (by kernel_rfl) (Nat.le_of_ble_eq_true rfl) (walk ?_)
    simp only [Tryz.f66, go_sem]
    refine qif_df c1' ?_
    simp only [Tryz.f66, go_sem]
    try (refine qand_i hk0 ?_; simp only [Tryz.f66, go_sem])
    refine qif_df c2' ?_
    simp only [Tryz.f66, wd, ww, go_sem]
    try (refine qand_i hk0 ?_; simp only [Tryz.f66, wd, ww, go_sem])
    refine qcall_i (k1) ?_; simp only [Tryz.f66, go_sem]
    refine qif_df hb1 ?_
    simp only [Tryz.f66, go_sem]
    refine qcall_i (k1) ?_; simp only [Tryz.f66, go_sem]
    refine qif_dt c4' ?_
    simp only [Tryz.f66, go_sem]
    try exact ⟨rfl, rfl⟩
    try rfl
  obtain ⟨j, rfl⟩ : ∃ j, k = j + 1 := ⟨k - 1, by omega⟩
  have k2 := k_RootK (irtF_spec j d.m) hl.m0 hb (by omega) (by omega)
  have c4' : ¬ ((j + 1 : Nat) : Int) > (bitLen d.m : Int) := by omega
  have c1' : ¬ ((j + 1 : Nat) : Int) = 1 := by omega
  have e0 : rootO d (j + 1) = if irtF j d.m ^ (j + 1) = d.m then some ⟨d.s, irtF j d.m, d.e / ((j + 1 : Nat) : Int)⟩ else none := by
    unfold rootO; rw [if_neg c1, if_neg (fun h => h c2), if_neg c3, if_neg c4]; rfl
  have h0 : ∀ r, rootO d (j + 1) = some r → (Dy.mk d.s (irtF j d.m) (d.e / ((j + 1 : Nat) : Int))).pv = r.pv := fun r h => by
    rw [e0] at h
    split at h
    · cases h; rfl
    · cases h
  refine ⟨(Dy.mk d.s (irtF j d.m) (d.e / ((j + 1 : Nat) : Int))).pv, ?_, h0, _, _, _, rfl⟩
  have e1 : (rootO d (j + 1)).isSome = decide (irtF j d.m ^ (j + 1) = d.m) := by
    rw [e0]
    by_cases h : irtF j d.m ^ (j + 1) = d.m
    · rw [if_pos h, decide_eq_true h]; rfl
    · rw [if_neg h, decide_eq_false h]; rfl
  rw [e1]
  generalize decide (irtF j d.m ^ (j + 1) = d.m) = bb at *
  generalize irtF j d.m = r at *
  generalize d.e / ((j + 1 : Nat) : Int) = E' at *
  generalize ((j + 1 : Nat) : Int) = KI at *
  simp only [Dy.pv, DP, NN, NL] at k1 k2 ⊢
  refine PC.of_body follows Tryz.func66 (by decide +kernel) rfl (by kernel_rfl) (Nat.le_of_ble_eq_true rfl) (walk ?_)
  simp only [Tryz.f66, go_sem]
  refine qif_df c1' ?_
  simp only [Tryz.f66, go_sem]
  try (refine qand_i hk0 ?_; simp only [Tryz.f66, go_sem])
  refine qif_df c2' ?_
  simp only [Tryz.f66, wd, ww, go_sem]
  try (refine qand_i hk0 ?_; simp only [Tryz.f66, wd, ww, go_sem])
  refine qcall_i (k1) ?_; simp only [Tryz.f66, go_sem]
  refine qif_df hb1 ?_
  simp only [Tryz.f66, go_sem]
  refine qcall_i (k1) ?_; simp only [Tryz.f66, go_sem]
  refine qif_df c4' ?_
  simp only [Tryz.f66, go_sem]
  refine qcall_i (k2) ?_; simp only [Tryz.f66, go_sem]
  cases bb
  · simp only [Tryz.f66, go_sem]
    try exact ⟨rfl, rfl⟩
    try rfl
  · simp only [Tryz.f66, go_sem]
    try exact ⟨rfl, rfl⟩
    try rfl
def raisO (d : Dy) (m : Int) : Option Dy :=
  if 4096 < d.e.natAbs * m.natAbs then none else if d.m = 1 then some ⟨false, 1, d.e * m⟩ else if m < 0 ∨ 54 < m then none
  else if bitLen d.m * m.natAbs ≤ 60000 then some ⟨false, d.m ^ m.natAbs, d.e * m⟩ else none
set_option maxHeartbeats 2000000 in
theorem e_raised {d : Dy} (hm : d.m % 2 = 1) (hb : bitLen d.m ≤ 4000) (he : -1073741824 ≤ d.e ∧ d.e ≤ 1073741824) {m : Int} (h2 : -9223372036854775808 ≤ m) (h3 : m < 9223372036854775808) :
    ∃ v, PC E 67 [d.pv, .int .i64 m] (.tuple [v, .bool (raisO d m).isSome]) ∧ (∀ r, raisO d m = some r → v = r.pv) ∧ ∃ (a b c : PV), v = .agg [a, b, c] := by
  have k1 := e_shift (e := d.e) (m := m) (by omega) (by omega) h2 h3
  have k2 := k_Bits (num_bits (x := d.m) (by omega))
  by_cases c1 : d.e.natAbs * m.natAbs ≤ 4096
  case neg =>
    have e1 : raisO d m = none := by unfold raisO; rw [if_pos (by omega)]
    refine ⟨Dy.zero.pv, ?_, fun r h => (by rw [e1] at h; cases h), _, _, _, rfl⟩
    rw [e1]
    rw [if_neg c1] at k1
    simp only [Dy.pv, DP, NN0, NN, NL, Dy.zero] at k1 k2 ⊢
    refine PC.of_body follows Tryz.func67 (by decide +kernel) rfl (by kernel_rfl) (Nat.le_of_ble_eq_true rfl) (walk ?_)
    simp only [Tryz.f67, go_sem]
    refine qcall_i (k1) ?_; simp only [Tryz.f67, go_sem]
    try exact ⟨rfl, rfl⟩
    try rfl
  rw [if_pos c1] at k1
  by_cases c3 : d.m = 1
  · have e1 : raisO d m = some ⟨false, 1, d.e * m⟩ := by unfold raisO; rw [if_neg (by omega), if_pos c3]
    have hb1 : bitLen d.m = 1 := by rw [c3]; decide
    rw [hb1] at k2
    refine ⟨(Dy.mk false 1 (d.e * m)).pv, ?_, fun r h => by rw [e1] at h; cases h; rfl, _, _, _, rfl⟩
    rw [e1]
    rw [← c3]
    generalize d.e * m = E' at *
    simp only [Dy.pv, DP, NN, NL] at k1 k2 ⊢
    refine PC.of_body follows Tryz.func67 (by decide +kernel) rfl (by kernel_rfl) (Nat.le_of_ble_eq_true rfl) (walk ?_)
    simp only [Tryz.f67, go_sem]
    refine qcall_i (k1) ?_; simp only [Tryz.f67, go_sem]
    refine qcall_i (k2) ?_; simp only [Tryz.f67, go_sem]
    try (refine qif_dt (by decide) ?_)
    try simp only [Tryz.f67, go_sem]
    try exact ⟨rfl, rfl⟩
    try rfl
  have hb1 : ¬ (bitLen d.m : Int) = 1 := fun h => c3 ((bits_one d.m).1 (by omega))
  by_cases c4 : m < 0
  · have e1 : raisO d m = none := by unfold raisO; rw [if_neg (by omega), if_neg c3, if_pos (.inl c4)]
    refine ⟨Dy.zero.pv, ?_, fun r h => (by rw [e1] at h; cases h), _, _, _, rfl⟩
    rw [e1]
    simp only [Dy.pv, DP, NN, NL, Dy.zero] at k1 k2 ⊢
    refine PC.of_body follows Tryz.func67 (by decide +kernel) rfl (by kernel_rfl) (Nat.le_of_ble_eq_true rfl) (walk ?_)
    simp only [Tryz.f67, go_sem]
    refine qcall_i (k1) ?_; simp only [Tryz.f67, go_sem]
    refine qcall_i (k2) ?_; simp only [Tryz.f67, go_sem]
    refine qif_df hb1 ?_
    simp only [Tryz.f67, go_sem]
    refine qif_dt c4 ?_
    simp only [Tryz.f67, go_sem]
    try exact ⟨rfl, rfl⟩
    try rfl
  by_cases c5 : m > 54
  · have e1 : raisO d m = none := by unfold raisO; rw [if_neg (by omega), if_neg c3, if_pos (.inr c5)]
    refine ⟨Dy.zero.pv, ?_, fun r h => (by rw [e1] at h; cases h), _, _, _, rfl⟩
    rw [e1]
    simp only [Dy.pv, DP, NN, NL, Dy.zero] at k1 k2 ⊢
    refine PC.of_body follows Tryz.func67 (by decide +kernel) rfl (by kernel_rfl) (Nat.le_of_ble_eq_true rfl) (walk ?_)
    simp only [Tryz.f67, go_sem]
    refine qcall_i (k1) ?_; simp only [Tryz.f67, go_sem]
    refine qcall_i (k2) ?_; simp only [Tryz.f67, go_sem]
    refine qif_df hb1 ?_
    simp only [Tryz.f67, go_sem]
    refine qif_df c4 ?_
    simp only [Tryz.f67, go_sem]
    refine qif_dt c5 ?_
    simp only [Tryz.f67, go_sem]
    try exact ⟨rfl, rfl⟩
    try rfl
  obtain ⟨n, rfl⟩ : ∃ n : Nat, m = n := ⟨m.toNat, by omega⟩
  obtain ⟨v, k3, hv1, hv2⟩ := t_Pow0 (x := d.m) (n := n) hm (by omega) (by omega)
  by_cases c6 : bitLen d.m * n ≤ 60000
  · have e1 : raisO d (n : Int) = some ⟨false, d.m ^ n, d.e * n⟩ := by unfold raisO; rw [if_neg (by omega), if_neg c3, if_neg (by omega), Int.natAbs_natCast, if_pos c6]
    refine ⟨(Dy.mk false (d.m ^ n) (d.e * n)).pv, ?_, fun r h => by rw [e1] at h; cases h; rfl, _, _, _, rfl⟩
    rw [e1]
    have hv := hv1 c6
    subst hv
    generalize d.e * (n : Int) = E' at *
    generalize d.m ^ n = P at *
    simp only [Dy.pv, DP, NN, NL] at k1 k2 k3 ⊢
    refine PC.of_body follows Tryz.func67 (by decide +kernel) rfl (by kernel_rfl) (Nat.le_of_ble_eq_true rfl) (walk ?_)
    simp only [Tryz.f67, go_sem]
    refine qcall_i (k1) ?_; simp only [Tryz.f67, go_sem]
    refine qcall_i (k2) ?_; simp only [Tryz.f67, go_sem]
    refine qif_df hb1 ?_
    simp only [Tryz.f67, go_sem]
    refine qif_df c4 ?_
    simp only [Tryz.f67, go_sem]
    refine qif_df c5 ?_
    simp only [Tryz.f67, go_sem]
    refine qcall_i (k3) ?_; simp only [Tryz.f67, go_sem]
    try exact ⟨rfl, rfl⟩
    try rfl
  · have e1 : raisO d (n : Int) = none := by unfold raisO; rw [if_neg (by omega), if_neg c3, if_neg (by omega), Int.natAbs_natCast, if_neg c6]
    refine ⟨.agg [.bool false, .lst 0 [], .int .i64 (d.e * n)], ?_, fun r h => (by rw [e1] at h; cases h), _, _, _, rfl⟩
    rw [e1]
    have hv := hv2 c6
    subst hv
    generalize d.e * (n : Int) = E' at *
    simp only [Dy.pv, DP, NN0, NN, NL, Dy.zero] at k1 k2 k3 ⊢
    refine PC.of_body follows Tryz.func67 (by decide +kernel) rfl (by kernel_rfl) (Nat.le_of_ble_eq_true rfl) (walk ?_)
    simp only [Tryz.f67, go_sem]
    refine qcall_i (k1) ?_; simp only [Tryz.f67, go_sem]
    refine qcall_i (k2) ?_; simp only [Tryz.f67, go_sem]
    refine qif_df hb1 ?_
    simp only [Tryz.f67, go_sem]
    refine qif_df c4 ?_
    simp only [Tryz.f67, go_sem]
    refine qif_df c5 ?_
    simp only [Tryz.f67, go_sem]
    refine qcall_i (k3) ?_; simp only [Tryz.f67, go_sem]
    try exact ⟨rfl, rfl⟩
    try rfl
end
section
open Go PG Go.Proofs
open XX
theorem odd_of_pow {r m n : Nat} (h : r ^ n = m) (hm : m % 2 = 1) (hn : 1 ≤ n) : r % 2 = 1 := by
  have h0 : r % 2 = 0 ∨ r % 2 = 1 := by omega
  rcases h0 with h0 | h0
  · obtain ⟨n', rfl⟩ : ∃ n', n = n' + 1 := ⟨n - 1, by omega⟩
    rw [Nat.pow_succ] at h
    have : m % 2 = 0 := by rw [← h, Nat.mul_mod, h0, Nat.mul_zero]
    omega
  · exact h0
theorem rootO_facts {d r : Dy} (hl : LgOk d) {k : Nat} (hk : 1 ≤ k) (h : rootO d k = some r) : r.m % 2 = 1 ∧ bitLen r.m ≤ 4000 ∧ -1073741824 ≤ r.e ∧ r.e ≤ 1073741824 ∧ r.s = false := by
  have hodd := hl.ok.resolve_left (fun h => hl.m0 (by rw [h]; rfl))
  have he := hl.e
  have hb := hl.bits
  have hq : ∀ (q : Int), d.e / (k : Int) = q → -1073741824 ≤ q ∧ q ≤ 1073741824 := by
    rintro q rfl
    have h1 := Int.mul_ediv_add_emod d.e k
    have h2 := Int.emod_nonneg d.e (show (k : Int) ≠ 0 by omega)
    have h3 := Int.emod_lt_of_pos d.e (show (0 : Int) < k by omega)
    rcases Int.le_total 0 (d.e / (k : Int)) with h4 | h4
    · have h5 := Int.mul_le_mul_of_nonneg_right (show (1 : Int) ≤ k by omega) h4
      omega
    · have h5 : -d.e.natAbs - 1 ≤ d.e / (k : Int) := by
        rw [Int.le_ediv_iff_mul_le (by omega)]
        have h6 : ((d.e.natAbs : Int) + 1) * 1 ≤ (d.e.natAbs + 1) * k := Int.mul_le_mul_of_nonneg_left (by omega) (by omega)
        have h7 : (-(d.e.natAbs : Int) - 1) * k = -((d.e.natAbs + 1) * k) := by grind
        rw [h7]
        omega
      omega
  unfold rootO at h
  split at h
  · cases h
    exact ⟨hodd, hb, by omega, by omega, hl.pos⟩
  · split at h
    · cases h
    · split at h
      · cases h
        obtain ⟨q1, q2⟩ := hq _ rfl
        exact ⟨rfl, by show bitLen 1 ≤ 4000; decide, q1, q2, hl.pos⟩
      · split at h
        · cases h
        · split at h
          · rename_i hr
            cases h
            obtain ⟨q1, q2⟩ := hq _ rfl
            refine ⟨odd_of_pow hr hodd hk, ?_, q1, q2, hl.pos⟩
            refine Nat.le_trans (bitLen_mono ?_) hb
            dsimp only
            have h8 : irtF (k - 1) d.m ≤ irtF (k - 1) d.m ^ k := Nat.le_self_pow (n := k) (by omega) _
            rw [hr] at h8
            exact h8
          · cases h
theorem raisO_facts {d r : Dy} (hm : d.m % 2 = 1) {m : Int} (h : raisO d m = some r) : r.m % 2 = 1 ∧ bitLen r.m ≤ 60001 ∧ -4096 ≤ r.e ∧ r.e ≤ 4096 ∧ r.s = false := by
  have hem : d.e.natAbs * m.natAbs ≤ 4096 → -4096 ≤ d.e * m ∧ d.e * m ≤ 4096 := fun h => by
    have h1 : (d.e * m).natAbs = d.e.natAbs * m.natAbs := Int.natAbs_mul _ _
    omega
  unfold raisO at h
  split at h
  · cases h
  · rename_i hc
    obtain ⟨q1, q2⟩ := hem (by omega)
    split at h
    · cases h
      exact ⟨rfl, by show bitLen 1 ≤ _; decide, q1, q2, rfl⟩
    · split at h
      · cases h
      · split at h
        · rename_i hb
          cases h
          exact ⟨odd_pow hm _, Nat.le_trans (pow_bits _ _) (by omega), q1, q2, rfl⟩
        · cases h
def powO (d : Dy) (M : Int) (K : Nat) : Option Dy :=
  if M.tdiv ((Nat.gcd M.natAbs K : Nat) : Int) = 0 then some (norm 1 0) else
  match rootO d (K / Nat.gcd M.natAbs K) with
  | none => none
  | some r => match raisO r (M.tdiv ((Nat.gcd M.natAbs K : Nat) : Int)) with
    | none => none
    | some p => if brkP p then some p else none
theorem zero_pv : Dy.zero.pv = .agg [.bool false, .lst 0 [], .int .i64 0] := rfl
def powPV : Option Dy → PV
  | some p => .tuple [p.pv, .bool true, .int .i64 0]
  | none => .tuple [Dy.zero.pv, .bool false, .int .i64 0]
set_option maxHeartbeats 2000000 in
theorem e_Power {p : PV} {d : Dy} (h : RD p d) (hl : LgOk d) {M : Int} {K : Nat} (hM : -9223372036854775808 < M ∧ M < 9223372036854775808) (hK : 1 ≤ K) (hK2 : K < 4611686018427387905) :
    PC E 23 [p, .agg [.int .i64 M, .int .i64 (K : Nat)]] (powPV (powO d M K)) := by
  have k1 := r_Bare h
  rw [okD_of hl.fits] at k1
  have hR : RD d.pv d := RD.fit hl.ok (by have := hl.bits; omega) hl.fits
  have k2 := e_Low hM hK (by omega)
  have k3 := r_Sign hR
  rw [hl.sg] at k3
  have k4 := c_dOf 1 (by decide) (by decide)
  have hg0 : 0 < Nat.gcd M.natAbs K := Nat.gcd_pos_of_pos_right _ (by omega)
  have hgK : Nat.gcd M.natAbs K ≤ K := Nat.gcd_le_right _ (by omega)
  have hkq : 1 ≤ K / Nat.gcd M.natAbs K := Nat.div_pos hgK hg0
  have hkq2 := Nat.div_le_self K (Nat.gcd M.natAbs K)
  have hMt : (M.tdiv ((Nat.gcd M.natAbs K : Nat) : Int)).natAbs ≤ M.natAbs := by
    rw [Int.natAbs_tdiv]
    exact Nat.div_le_self _ _
  obtain ⟨R, hRr⟩ : ∃ R, R = powPV (powO d M K) := ⟨_, rfl⟩
  rw [← hRr]
  unfold powO at hRr
  generalize M.tdiv ((Nat.gcd M.natAbs K : Nat) : Int) = m at *
  generalize K / Nat.gcd M.natAbs K = k at *
  generalize norm 1 0 = N1 at *
  obtain ⟨s0, q0, x0, e0, rfl, -⟩ := h
  have kd : d.pv = .agg [.bool d.s, NN d.m, .int .i64 d.e] := rfl
  by_cases c1 : m = 0
  · rw [if_pos c1] at hRr
    simp only [powPV, Dy.pv, DP, NN, NL] at k1 k2 k3 k4 hRr ⊢
    refine PC.of_body follows Tryz.func23 (by decide +kernel) rfl (by kernel_rfl) (Nat.le_of_ble_eq_true rfl) (walk ?_)
    simp only [Tryz.f23, go_sem]
    refine qcall_i (k1) ?_; simp only [Tryz.f23, go_sem]
    refine qcall_i (k2) ?_; simp only [Tryz.f23, go_sem]
    refine qcall_i (k3) ?_; simp only [Tryz.f23, go_sem]
    try (refine qif_df (by decide) ?_)
    try simp only [Tryz.f23, go_sem]
    refine qif_dt c1 ?_
    simp only [Tryz.f23, go_sem]
    refine qcall_i (k4) ?_; simp only [Tryz.f23, go_sem]
    first | (rw [hRr]; done) | (rw [hRr]; rfl)
  rw [if_neg c1] at hRr
  obtain ⟨v, k5, hv1, v1, v2, v3, hv2⟩ := e_rooted hl hkq (by omega)
  cases hr : rootO d k with
  | none =>
    rw [hr] at hRr k5
    simp only [powPV, zero_pv, Dy.pv, DP, NN, NL, Option.isSome_none] at k1 k2 k3 k4 k5 hRr ⊢
    rw [hv2] at k5
    refine PC.of_body follows Tryz.func23 (by decide +kernel) rfl (by kernel_rfl) (Nat.le_of_ble_eq_true rfl) (walk ?_)
    simp only [Tryz.f23, go_sem]
    refine qcall_i (k1) ?_; simp only [Tryz.f23, go_sem]
    refine qcall_i (k2) ?_; simp only [Tryz.f23, go_sem]
    refine qcall_i (k3) ?_; simp only [Tryz.f23, go_sem]
    try (refine qif_df (by decide) ?_)
    try simp only [Tryz.f23, go_sem]
    refine qif_df c1 ?_
    simp only [Tryz.f23, go_sem]
    refine qcall_i (k5) ?_; simp only [Tryz.f23, go_sem]
    first | (rw [hRr]; done) | (rw [hRr]; rfl)
  | some r =>
    rw [hr] at hRr k5
    have hv := hv1 r hr
    subst hv
    obtain ⟨f1, f2, f3, f4, f5⟩ := rootO_facts hl hkq hr
    obtain ⟨v', k6, hv3, v4, v5, v6, hv4⟩ := e_raised f1 f2 ⟨f3, f4⟩ (m := m) (by omega) (by omega)
    dsimp only at hRr
    cases hp : raisO r m with
    | none =>
      rw [hp] at hRr k6
      simp only [powPV, zero_pv, Dy.pv, DP, NN, NL, Option.isSome_none, Option.isSome_some] at k1 k2 k3 k4 k5 k6 hRr ⊢
      rw [hv4] at k6
      refine PC.of_body follows Tryz.func23 (by decide +kernel) rfl (by kernel_rfl) (Nat.le_of_ble_eq_true rfl) (walk ?_)
      simp only [Tryz.f23, go_sem]
      refine qcall_i (k1) ?_; simp only [Tryz.f23, go_sem]
      refine qcall_i (k2) ?_; simp only [Tryz.f23, go_sem]
      refine qcall_i (k3) ?_; simp only [Tryz.f23, go_sem]
      try (refine qif_df (by decide) ?_)
      try simp only [Tryz.f23, go_sem]
      refine qif_df c1 ?_
      simp only [Tryz.f23, go_sem]
      refine qcall_i (k5) ?_; simp only [Tryz.f23, go_sem]
      refine qcall_i (k6) ?_; simp only [Tryz.f23, go_sem]
      first | (rw [hRr]; done) | (rw [hRr]; rfl)
    | some p =>
      rw [hp] at hRr k6
      have hv := hv3 p hp
      subst hv
      obtain ⟨g1, g2, g3, g4, g5⟩ := raisO_facts f1 hp
      have hpf : p.fits := ⟨by omega, by omega⟩
      have hpR : RD p.pv p := RD.fit (.inr g1) (by omega) hpf
      have k7 := c_Break hpR
      have hbd : decide (p.fits ∧ brkP p) = decide (brkP p) := decide_eq_decide.2 ⟨fun h => h.2, fun h => ⟨hpf, h⟩⟩
      rw [hbd] at k7
      have k8 := r_Bare hpR
      rw [okD_of hpf] at k8
      dsimp only at hRr
      by_cases c2 : brkP p
      · rw [if_pos c2] at hRr
        rw [decide_eq_true c2] at k7
        simp only [powPV, Dy.pv, Dy.zero, DP, NN, NL, Option.isSome_some] at k1 k2 k3 k4 k5 k6 k7 k8 hRr ⊢
        refine PC.of_body follows Tryz.func23 (by decide +kernel) rfl (by kernel_rfl) (Nat.le_of_ble_eq_true rfl) (walk ?_)
        simp only [Tryz.f23, go_sem]
        refine qcall_i (k1) ?_; simp only [Tryz.f23, go_sem]
        refine qcall_i (k2) ?_; simp only [Tryz.f23, go_sem]
        refine qcall_i (k3) ?_; simp only [Tryz.f23, go_sem]
        try (refine qif_df (by decide) ?_)
        try simp only [Tryz.f23, go_sem]
        refine qif_df c1 ?_
        simp only [Tryz.f23, go_sem]
        refine qcall_i (k5) ?_; simp only [Tryz.f23, go_sem]
        refine qcall_i (k6) ?_; simp only [Tryz.f23, go_sem]
        refine qcall_i (k7) ?_; simp only [Tryz.f23, go_sem]
        refine qcall_i (k8) ?_; simp only [Tryz.f23, go_sem]
        first | (rw [hRr]; done) | (rw [hRr]; rfl)
      · rw [if_neg c2] at hRr
        rw [decide_eq_false c2] at k7
        simp only [powPV, zero_pv, Dy.pv, DP, NN, NL, Option.isSome_some] at k1 k2 k3 k4 k5 k6 k7 k8 hRr ⊢
        refine PC.of_body follows Tryz.func23 (by decide +kernel) rfl (by kernel_rfl) (Nat.le_of_ble_eq_true rfl) (walk ?_)
        simp only [Tryz.f23, go_sem]
        refine qcall_i (k1) ?_; simp only [Tryz.f23, go_sem]
        refine qcall_i (k2) ?_; simp only [Tryz.f23, go_sem]
        refine qcall_i (k3) ?_; simp only [Tryz.f23, go_sem]
        try (refine qif_df (by decide) ?_)
        try simp only [Tryz.f23, go_sem]
        refine qif_df c1 ?_
        simp only [Tryz.f23, go_sem]
        refine qcall_i (k5) ?_; simp only [Tryz.f23, go_sem]
        refine qcall_i (k6) ?_; simp only [Tryz.f23, go_sem]
        refine qcall_i (k7) ?_; simp only [Tryz.f23, go_sem]
        first | (rw [hRr]; done) | (rw [hRr]; rfl)
end
end
end Go.Proofs.YtfkgaldbcngliaaGreatDoor
