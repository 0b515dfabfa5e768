import Derived.Test.YtfkgaldbcngliaaGreatDoorI3
import Derived.Test.YtfkgaldbcngliaaGreatDoorH0
import Derived.Test.YtfkgaldbcngliaaGreatDoorE1
open Go PG Go.Proofs
namespace Go.Proofs.YtfkgaldbcngliaaGreatDoor
attribute [local go_sem] Lay2 Lay3 Lay4 Lay5 Lay6 Lay7 Lay8 Lay9 Lay10 Lay11 Lay12 Lay13 Lay14 Lay15 Lay16 Lay17 Lay18 Lay19 Lay20 Lay21 Lay22 Lay26 Lay27 Lay28 Lay29 Lay31 Lay32 Lay33 Lay34 Lay35 Lay41 Lay42 Lay43 Lay47 Lay48 Lay60 Lay61 Lay62 Lay63 Lay64 Lay72 Lay73 Lay74 Lay83 Lay84 Lay86 Lay90 Lay91 Lay92 Lay93 Lay102 Lay103 Lay139 Lay143 Lay149 Lay158 Lay159 Lay160 Lay161 Lay162 Lay174 Lay175 Lay193 Lay207 Lay208 Lay209 Lay210 Lay228 Lay229 Lay237 Lay238 Lay265 Lay287 Lay295 Lay296 Lay297 Lay299 Lay301 Lay302 Lay303 Lay304 Lay305 Lay307 Lay308 Lay310 Lay311 Lay312 Lay315 Lay316 Lay317 qexec_seq qexec_skip qexec_exit qexec_ret qexec_block qexec_loop qexec_range qexec_cond qexec_region qexec_drawn qops_nil qops_none qops_some put_some put_none pblk_exit pblk_other newDsts_nil inlDsts_nil isInl sget_cons sget_nil qval_some qbool_some qgs_bool qgs_und qfree_some qgrd_true qgrd_false qif_true qif_false qval_ite qval_itn qand_true map_ite map_some' map_none' qdo_move qdo_assign qdo_binOp qdo_pick qdo_unOp qdo_convert qdo_extract qdo_makeInterface qdo_field qdo_fieldAddr qdo_alloc qdo_box qdo_build qdo_buildSlice qdo_load qdo_store qdo_nilCheck qdo_makeFunc qdo_makeSlice qdo_slice qdo_indexAddr qdo_call qcont_val qcont_new qcont_st qcont_app0 qcont_app qcont_inl qcont_call njSV_val njSV_nil njSV_row njSV_ptr njSV_sub binV_val binV_nil binV_nn binV_ptr bin_np bin_nnp nilCmp bin_add bin_sub bin_mul bin_quo bin_rem bin_and bin_or bin_xor bin_andNot bin_eql bin_neq bin_lss bin_leq bin_gtr bin_geq bin_shl bin_shr bin_seql bin_sneq bin_sadd bin_beql bin_aeql bin_aneq eqAnd_some eqCells_nil eqCells_cons fieldTypes isStruct eqCell bin_bneq un_not un_neg nj_ite Nat.beq stepA stepR isNew opSV constSV RV.sv allSome E_mu E_own qkeyIn_none qkeyIn_some qkeyAt_none qkeyAt_some Bool.or_false Bool.false_or Bool.or_true Bool.true_or cst setB res resSV pstart startL killL kill1 eraL frzL svPV rvPV rvInt rvSlice rvBytes frzOf close closeL pconv pbuiltin pmax2 partPV setCells fillPV zrow bound newSV PV.cells Bk.cells Bk.with SV.key pres presL_nil presL_tmp presL_cell presC2_some cellPV_ptr presC List.toList_toArray List.size_toArray List.getElem?_drop Nat.mul_one Int.toNat_natCast Nat.not_lt_zero Nat.lt_irrefl decide_true decide_false Nat.not_lt Option.some.injEq PV.lst.injEq PV.int.injEq PV.bool.injEq PV.tuple.injEq List.cons.injEq Option.map_some Option.map_none Option.bind_some Option.toList List.map_cons List.map_nil List.nil_append List.cons_append List.append_nil List.zip_cons_cons List.zip_nil_left List.zip_nil_right List.getElem?_cons_zero List.getElem?_cons_succ List.drop_zero List.drop_succ_cons List.take_succ_cons List.take_zero List.set_cons_zero List.set_cons_succ List.length_cons List.length_nil List.length_set List.replicate_one List.replicate_zero bne_self_eq_false beq_self_eq_true Nat.zero_add Nat.add_zero Nat.zero_mul Bool.false_eq_true Bool.true_eq_false Bool.not_true Bool.not_false and_true true_and false_and and_false or_false false_or or_true true_or not_true_eq_false not_false_eq_true ne_eq gt_iff_lt List.mem_cons List.not_mem_nil
attribute [local go_sem ↓] pseq_normal pseq_ret pseq_exit pblk_normal pblk_ret newDsts_cons inlDsts_cons gdst_zero gdst_succ retQ_normal retQ_ret qneed_nil qneed_cons retM_normal retM_ret endR_normal endR_ret endR_exit
attribute [local go_sem] Int.reduceToNat Int.reduceEq Int.reduceNe Int.reduceLT Int.reduceLE Int.reduceNeg Int.reduceAdd Nat.reduceEqDiff Nat.reduceAdd Nat.reduceSub Nat.reduceMul Nat.reduceLeDiff Nat.reduceLT
attribute [local go_sem ↓] reduceIte reduceCtorEq
section
open Go PG Go.Proofs
set_option maxRecDepth 100000
set_option linter.unusedSimpArgs false
set_option linter.unusedVariables false
def RI (p : PV) (i : Iv) : Prop := ∃ (s1 : Bool) (P1 : PV) (e1 : Int) (s2 : Bool) (P2 : PV) (e2 : Int), p = .agg [.bool s1, P1, .int .i64 e1, .bool s2, P2, .int .i64 e2] ∧ RD (DP s1 P1 e1) i.lo ∧ RD (DP s2 P2 e2) i.hi
def Iv.pv (i : Iv) : PV := .agg [.bool i.lo.s, NN i.lo.m, .int .i64 i.lo.e, .bool i.hi.s, NN i.hi.m, .int .i64 i.hi.e]
def Iv.zero : Iv := ⟨.zero, .zero⟩
theorem RI.of {i : Iv} (h1 : RD i.lo.pv i.lo) (h2 : RD i.hi.pv i.hi) : RI i.pv i := ⟨_, _, _, _, _, _, rfl, h1, h2⟩
theorem RI.okI {p : PV} {i : Iv} (h : RI p i) : i.okI := by obtain ⟨_, _, _, _, _, _, _, h1, h2⟩ := h; exact ⟨h1.ok, h2.ok⟩
def Iv.lim (K : Nat) (i : Iv) : Prop := Lim K i.lo ∧ Lim K i.hi
theorem Iv.lim.RI {K : Nat} {i : Iv} (h : i.lim K) (hK : K ≤ 500000) : RI i.pv i := RI.of (h.1.RD hK) (h.2.RD hK)
theorem Iv.lim.mono {K J : Nat} {i : Iv} (h : i.lim K) (hK : K ≤ J) : i.lim J := ⟨h.1.mono hK, h.2.mono hK⟩
theorem Iv.lim.mul {K J : Nat} {i k : Iv} (h1 : i.lim K) (h2 : k.lim J) : (mulI i k).lim (K + J) :=
  mulI_P (P := Lim (K + J)) (h1.1.mul h2.1) (h1.1.mul h2.2) (h1.2.mul h2.1) (h1.2.mul h2.2)
theorem Iv.lim.add {K : Nat} {i k : Iv} (h1 : i.lim K) (h2 : k.lim K) (hK : K ≤ 1000000) : (addI i k).lim (K + 1) := ⟨h1.1.add h2.1 hK, h1.2.add h2.2 hK⟩
theorem Iv.lim.ge {K : Nat} {i : Iv} (h : i.lim K) : i.ge (-(K : Int)) := ⟨h.1.ge, h.2.ge⟩
theorem Iv.lim.okI {K : Nat} {i : Iv} (h : i.lim K) : i.okI := ⟨h.1.ok, h.2.ok⟩
theorem Iv.lim.right {K : Nat} {i : Iv} (h : i.lim K) (hK : K ≤ 1000000) : i.right ↔ cmpD i.lo i.hi ≤ 0 := ⟨fun h => h.2.2, fun hc => ⟨h.1.fits hK, h.2.fits hK, hc⟩⟩
theorem q_can {p : PV} {d : Dy} (h : RD p d) : PC E 160 [p] (.bool (decide d.fits)) := by
  have k1 := r_Bare h
  obtain ⟨s, P, x, e, rfl, -⟩ := h
  refine PC.of_body follows Tryz.func160 (by decide +kernel) rfl (by kernel_rfl) (Nat.le_of_ble_eq_true rfl) (walk ?_)
  unfold okD at k1
  by_cases hf : d.fits
  · rw [if_pos hf] at k1
    rw [decide_eq_true hf]
    simp only [Dy.pv, DP, NN, NL] at k1 ⊢
    simp only [Tryz.f160, go_sem]
    refine qcall_i (k1) ?_; simp only [Tryz.f160, go_sem]
  · rw [if_neg hf] at k1
    rw [decide_eq_false hf]
    simp only [Dy.pv, Dy.zero, DP, NN, NL] at k1 ⊢
    simp only [Tryz.f160, go_sem]
    refine qcall_i (k1) ?_; simp only [Tryz.f160, go_sem]
theorem q_Right {p : PV} {i : Iv} (h : RI p i) : PC E 100 [p] (.bool (decide i.right)) := by
  obtain ⟨s1, P1, e1, s2, P2, e2, rfl, h1, h2⟩ := h
  have k1 := q_can h1
  have k2 := q_can h2
  have k3 := r_Cmp h1 h2
  refine PC.of_body follows Tryz.func100 (by decide +kernel) rfl (by kernel_rfl) (Nat.le_of_ble_eq_true rfl) (walk ?_)
  simp only [DP] at k1 k2 k3
  by_cases f1 : i.lo.fits
  case neg =>
    rw [decide_eq_false f1] at k1
    rw [decide_eq_false (fun h => f1 h.1)]
    simp only [Tryz.f100, go_sem]
    refine qcall_i (k1) ?_; simp only [Tryz.f100, go_sem]
  by_cases f2 : i.hi.fits
  case neg =>
    rw [decide_eq_true f1] at k1
    rw [decide_eq_false f2] at k2
    rw [decide_eq_false (fun h => f2 h.2.1)]
    simp only [Tryz.f100, go_sem]
    refine qcall_i (k1) ?_; simp only [Tryz.f100, go_sem]
    refine qcall_i (k2) ?_; simp only [Tryz.f100, go_sem]
  rw [decide_eq_true f1] at k1
  rw [decide_eq_true f2] at k2
  have e : decide i.right = decide (cmpD i.lo i.hi ≤ 0) := decide_eq_decide.2 ⟨fun h => h.2.2, fun h => ⟨f1, f2, h⟩⟩
  rw [e]
  simp only [Tryz.f100, go_sem]
  refine qcall_i (k1) ?_; simp only [Tryz.f100, go_sem]
  refine qcall_i (k2) ?_; simp only [Tryz.f100, go_sem]
  refine qcall_i (k3) ?_; simp only [Tryz.f100, go_sem]
theorem q_At {s : Bool} {P : PV} {e : Int} : PC E 248 [.agg [.bool s, P, .int .i64 e]] (.agg [.bool s, P, .int .i64 e, .bool s, P, .int .i64 e]) := by
  refine PC.of_body follows Tryz.func248 (by decide +kernel) rfl (by kernel_rfl) (Nat.le_of_ble_eq_true rfl) (walk ?_)
  simp only [Tryz.f248, go_sem]
def ivV (c : Prop) [Decidable c] (i : Iv) : PV := if c then .tuple [i.pv, .int .i64 0] else .tuple [Iv.zero.pv, .int .i64 1]
def pre4 (f : Dy → Dy → Dy) (p q r s : Dy) : Nat → Dy
  | 0 => p
  | 1 => p
  | 2 => f p q
  | 3 => f (f p q) r
  | _ => f (f (f p q) r) s
def cl4 (p q r s : Dy) : PV := .lst 4 [.bool p.s, NN p.m, .int .i64 p.e, .bool q.s, NN q.m, .int .i64 q.e, .bool r.s, NN r.m, .int .i64 r.e, .bool s.s, NN s.m, .int .i64 s.e]
theorem q_MinFunc {p q r s : Dy} (hp : RD p.pv p) (hq : RD q.pv q) (hr : RD r.pv r) (hs : RD s.pv s) : PC E 250 [cl4 p q r s, .clo 101 []] (min4 p q r s).pv := by
  refine PC.of_body follows Tryz.func250 (by decide +kernel) rfl (by kernel_rfl) (Nat.le_of_ble_eq_true rfl) (walk ?_)
  have h2 : RD (minD p q).pv (minD p q) := minD_P (P := fun d => RD d.pv d) hp hq
  have h3 : RD (minD (minD p q) r).pv (minD (minD p q) r) := minD_P (P := fun d => RD d.pv d) h2 hr
  have k1 := r_Cmp hq hp
  have k2 := r_Cmp hr h2
  have k3 := r_Cmp hs h3
  have d1 : minD p q = if cmpD q p < 0 then q else p := rfl
  have d2 : minD (minD p q) r = if cmpD r (minD p q) < 0 then r else (minD p q) := rfl
  have d3 : minD (minD (minD p q) r) s = if cmpD s (minD (minD p q) r) < 0 then s else (minD (minD p q) r) := rfl
  have v1 : IntKind.wrap .i64 2 = 2 := by decide
  have v2 : IntKind.wrap .i64 3 = 3 := by decide
  have v3 : IntKind.wrap .i64 4 = 4 := by decide
  unfold cl4 min4
  simp only [Dy.pv, DP] at k1 k2 k3 ⊢
  simp only [Tryz.f250, Int.cast_ofNat_Int, go_sem]
  refine PLoop.intro (fun i : Nat => ⟨[(0, .val (.lst 4 [.bool p.s, NN p.m, .int .i64 p.e, .bool q.s, NN q.m, .int .i64 q.e, .bool r.s, NN r.m, .int .i64 r.e, .bool s.s, NN s.m, .int .i64 s.e])), (1, .val (.clo 101 [])), (4, .ptr 4 0), (5, .ptr 5 0), (6, .val (.int .i64 i))],
    [(4, (.box [.bool false, .lst 0 [], .int .i64 0], false)), (5, (.box [.bool (pre4 minD p q r s i).s, NN (pre4 minD p q r s i).m, .int .i64 (pre4 minD p q r s i).e], false))]⟩) (fun i => 1 ≤ i ∧ i ≤ 4) (fun i => 4 - i) 1 (by decide) ?_ fun i hi => walk ?_
  · simp [Wk, sget, killL, kill1, SV.key, pre4]
  obtain ⟨hi1, hi2⟩ := hi
  rcases i with _ | _ | _ | _ | _ | i
  · omega
  · simp only [pre4]
    simp only [Tryz.f250, Int.cast_ofNat_Int, v1, v2, v3, go_sem]
    refine qcall_i (k1) ?_; simp only [Tryz.f250, Int.cast_ofNat_Int, v1, v2, v3, go_sem]
    refine qif_d (fun h => ?_) (fun h => ?_)
    · simp only [Tryz.f250, Int.cast_ofNat_Int, v1, v2, v3, go_sem]
      refine ⟨2, by omega, by omega, ?_⟩
      simp only [pre4]
      rw [d1, if_pos h]
      simp [Wk, sget, killL, kill1, SV.key, setCells]
    · simp only [Tryz.f250, Int.cast_ofNat_Int, v1, v2, v3, go_sem]
      refine ⟨2, by omega, by omega, ?_⟩
      simp only [pre4]
      rw [d1, if_neg h]
      simp [Wk, sget, killL, kill1, SV.key]
  · simp only [pre4]
    simp only [Tryz.f250, Int.cast_ofNat_Int, v1, v2, v3, go_sem]
    refine qcall_i (k2) ?_; simp only [Tryz.f250, Int.cast_ofNat_Int, v1, v2, v3, go_sem]
    refine qif_d (fun h => ?_) (fun h => ?_)
    · simp only [Tryz.f250, Int.cast_ofNat_Int, v1, v2, v3, go_sem]
      refine ⟨3, by omega, by omega, ?_⟩
      simp only [pre4]
      rw [d2, if_pos h]
      simp [Wk, sget, killL, kill1, SV.key, setCells]
    · simp only [Tryz.f250, Int.cast_ofNat_Int, v1, v2, v3, go_sem]
      refine ⟨3, by omega, by omega, ?_⟩
      simp only [pre4]
      rw [d2, if_neg h]
      simp [Wk, sget, killL, kill1, SV.key]
  · simp only [pre4]
    simp only [Tryz.f250, Int.cast_ofNat_Int, v1, v2, v3, go_sem]
    refine qcall_i (k3) ?_; simp only [Tryz.f250, Int.cast_ofNat_Int, v1, v2, v3, go_sem]
    refine qif_d (fun h => ?_) (fun h => ?_)
    · simp only [Tryz.f250, Int.cast_ofNat_Int, v1, v2, v3, go_sem]
      refine ⟨4, by omega, by omega, ?_⟩
      simp only [pre4]
      rw [d3, if_pos h]
      simp [Wk, sget, killL, kill1, SV.key, setCells]
    · simp only [Tryz.f250, Int.cast_ofNat_Int, v1, v2, v3, go_sem]
      refine ⟨4, by omega, by omega, ?_⟩
      simp only [pre4]
      rw [d3, if_neg h]
      simp [Wk, sget, killL, kill1, SV.key]
  · simp only [pre4]
    simp only [Tryz.f250, Int.cast_ofNat_Int, go_sem]
    try rfl
  · omega
theorem q_MaxFunc {p q r s : Dy} (hp : RD p.pv p) (hq : RD q.pv q) (hr : RD r.pv r) (hs : RD s.pv s) : PC E 251 [cl4 p q r s, .clo 101 []] (max4 p q r s).pv := by
  refine PC.of_body follows Tryz.func251 (by decide +kernel) rfl (by kernel_rfl) (Nat.le_of_ble_eq_true rfl) (walk ?_)
  have h2 : RD (maxD p q).pv (maxD p q) := maxD_P (P := fun d => RD d.pv d) hp hq
  have h3 : RD (maxD (maxD p q) r).pv (maxD (maxD p q) r) := maxD_P (P := fun d => RD d.pv d) h2 hr
  have k1 := r_Cmp hq hp
  have k2 := r_Cmp hr h2
  have k3 := r_Cmp hs h3
  have d1 : maxD p q = if 0 < cmpD q p then q else p := rfl
  have d2 : maxD (maxD p q) r = if 0 < cmpD r (maxD p q) then r else (maxD p q) := rfl
  have d3 : maxD (maxD (maxD p q) r) s = if 0 < cmpD s (maxD (maxD p q) r) then s else (maxD (maxD p q) r) := rfl
  have v1 : IntKind.wrap .i64 2 = 2 := by decide
  have v2 : IntKind.wrap .i64 3 = 3 := by decide
  have v3 : IntKind.wrap .i64 4 = 4 := by decide
  unfold cl4 max4
  simp only [Dy.pv, DP] at k1 k2 k3 ⊢
  simp only [Tryz.f251, Int.cast_ofNat_Int, go_sem]
  refine PLoop.intro (fun i : Nat => ⟨[(0, .val (.lst 4 [.bool p.s, NN p.m, .int .i64 p.e, .bool q.s, NN q.m, .int .i64 q.e, .bool r.s, NN r.m, .int .i64 r.e, .bool s.s, NN s.m, .int .i64 s.e])), (1, .val (.clo 101 [])), (4, .ptr 4 0), (5, .ptr 5 0), (6, .val (.int .i64 i))],
    [(4, (.box [.bool false, .lst 0 [], .int .i64 0], false)), (5, (.box [.bool (pre4 maxD p q r s i).s, NN (pre4 maxD p q r s i).m, .int .i64 (pre4 maxD p q r s i).e], false))]⟩) (fun i => 1 ≤ i ∧ i ≤ 4) (fun i => 4 - i) 1 (by decide) ?_ fun i hi => walk ?_
  · simp [Wk, sget, killL, kill1, SV.key, pre4]
  obtain ⟨hi1, hi2⟩ := hi
  rcases i with _ | _ | _ | _ | _ | i
  · omega
  · simp only [pre4]
    simp only [Tryz.f251, Int.cast_ofNat_Int, v1, v2, v3, go_sem]
    refine qcall_i (k1) ?_; simp only [Tryz.f251, Int.cast_ofNat_Int, v1, v2, v3, go_sem]
    refine qif_d (fun h => ?_) (fun h => ?_)
    · simp only [Tryz.f251, Int.cast_ofNat_Int, v1, v2, v3, go_sem]
      refine ⟨2, by omega, by omega, ?_⟩
      simp only [pre4]
      rw [d1, if_pos h]
      simp [Wk, sget, killL, kill1, SV.key, setCells]
    · simp only [Tryz.f251, Int.cast_ofNat_Int, v1, v2, v3, go_sem]
      refine ⟨2, by omega, by omega, ?_⟩
      simp only [pre4]
      rw [d1, if_neg h]
      simp [Wk, sget, killL, kill1, SV.key]
  · simp only [pre4]
    simp only [Tryz.f251, Int.cast_ofNat_Int, v1, v2, v3, go_sem]
    refine qcall_i (k2) ?_; simp only [Tryz.f251, Int.cast_ofNat_Int, v1, v2, v3, go_sem]
    refine qif_d (fun h => ?_) (fun h => ?_)
    · simp only [Tryz.f251, Int.cast_ofNat_Int, v1, v2, v3, go_sem]
      refine ⟨3, by omega, by omega, ?_⟩
      simp only [pre4]
      rw [d2, if_pos h]
      simp [Wk, sget, killL, kill1, SV.key, setCells]
    · simp only [Tryz.f251, Int.cast_ofNat_Int, v1, v2, v3, go_sem]
      refine ⟨3, by omega, by omega, ?_⟩
      simp only [pre4]
      rw [d2, if_neg h]
      simp [Wk, sget, killL, kill1, SV.key]
  · simp only [pre4]
    simp only [Tryz.f251, Int.cast_ofNat_Int, v1, v2, v3, go_sem]
    refine qcall_i (k3) ?_; simp only [Tryz.f251, Int.cast_ofNat_Int, v1, v2, v3, go_sem]
    refine qif_d (fun h => ?_) (fun h => ?_)
    · simp only [Tryz.f251, Int.cast_ofNat_Int, v1, v2, v3, go_sem]
      refine ⟨4, by omega, by omega, ?_⟩
      simp only [pre4]
      rw [d3, if_pos h]
      simp [Wk, sget, killL, kill1, SV.key, setCells]
    · simp only [Tryz.f251, Int.cast_ofNat_Int, v1, v2, v3, go_sem]
      refine ⟨4, by omega, by omega, ?_⟩
      simp only [pre4]
      rw [d3, if_neg h]
      simp [Wk, sget, killL, kill1, SV.key]
  · simp only [pre4]
    simp only [Tryz.f251, Int.cast_ofNat_Int, go_sem]
    try rfl
  · omega
theorem q_Mul {p q : PV} {i k : Iv} {K J : Nat} (h : RI p i) (hk : RI q k) (hl : i.lim K) (hl' : k.lim J) (hK : K + J ≤ 32767) : PC E 247 [p, q] (ivV (i.right ∧ k.right) (mulI i k)) := by
  have k1 := q_Right h
  have k2 := q_Right hk
  obtain ⟨s1, P1, e1, s2, P2, e2, rfl, h1, h2⟩ := h
  obtain ⟨t1, Q1, g1, t2, Q2, g2, rfl, h3, h4⟩ := hk
  refine PC.of_body follows Tryz.func247 (by decide +kernel) rfl (by kernel_rfl) (Nat.le_of_ble_eq_true rfl) (walk ?_)
  unfold ivV
  by_cases f1 : i.right
  case neg =>
    rw [decide_eq_false f1] at k1
    rw [if_neg (fun h => f1 h.1)]
    simp only [Tryz.f247, go_sem]
    refine qcall_i (k1) ?_; simp only [Tryz.f247, go_sem]
    try rfl
  rw [decide_eq_true f1] at k1
  by_cases f2 : k.right
  case neg =>
    rw [decide_eq_false f2] at k2
    rw [if_neg (fun h => f2 h.2)]
    simp only [Tryz.f247, go_sem]
    refine qcall_i (k1) ?_; simp only [Tryz.f247, go_sem]
    refine qcall_i (k2) ?_; simp only [Tryz.f247, go_sem]
    try rfl
  rw [decide_eq_true f2] at k2
  rw [if_pos ⟨f1, f2⟩]
  have k3 := r_Mul h1 h3
  have k4 := r_Mul h1 h4
  have k5 := r_Mul h2 h3
  have k6 := r_Mul h2 h4
  rw [mulV_lim hl.1 hl'.1 hK] at k3
  rw [mulV_lim hl.1 hl'.2 hK] at k4
  rw [mulV_lim hl.2 hl'.1 hK] at k5
  rw [mulV_lim hl.2 hl'.2 hK] at k6
  have L3 := (hl.1.mul hl'.1).RD (by omega)
  have L4 := (hl.1.mul hl'.2).RD (by omega)
  have L5 := (hl.2.mul hl'.1).RD (by omega)
  have L6 := (hl.2.mul hl'.2).RD (by omega)
  have k7 := q_MinFunc L3 L4 L5 L6
  have k8 := q_MaxFunc L3 L4 L5 L6
  unfold mulI
  generalize mulS i.lo k.lo = m1 at *
  generalize mulS i.lo k.hi = m2 at *
  generalize mulS i.hi k.lo = m3 at *
  generalize mulS i.hi k.hi = m4 at *
  generalize min4 m1 m2 m3 m4 = mn at *
  generalize max4 m1 m2 m3 m4 = mx at *
  have v1 : IntKind.wrap .i64 1 = 1 := by decide
  have v2 : IntKind.wrap .i64 2 = 2 := by decide
  unfold cl4 at k7 k8
  simp only [Dy.pv, DP] at k3 k4 k5 k6 k7 k8
  simp only [Tryz.f247, go_sem]
  refine qcall_i (k1) ?_; simp only [Tryz.f247, go_sem]
  refine qcall_i (k2) ?_; simp only [Tryz.f247, List.range_zero, List.getD_cons_zero, List.getD_cons_succ, Nat.reduceMod, Int.cast_ofNat_Int, go_sem]
  refine qloop_u 3 ?_
  simp only [Tryz.f247, qunr_succ, Int.cast_ofNat_Int, List.range_zero, List.getD_cons_zero, List.getD_cons_succ, Nat.reduceMod, List.filter_cons, List.filter_nil, v1, v2, go_sem]
  refine qloop_u 3 ?_
  simp only [Tryz.f247, qunr_succ, Int.cast_ofNat_Int, List.range_zero, List.getD_cons_zero, List.getD_cons_succ, Nat.reduceMod, List.filter_cons, List.filter_nil, v1, v2, go_sem]
  refine qcall_i (k3) ?_; simp only [Tryz.f247, qunr_succ, Int.cast_ofNat_Int, List.range_zero, List.getD_cons_zero, List.getD_cons_succ, Nat.reduceMod, List.filter_cons, List.filter_nil, v1, v2, go_sem]
  refine qand_i (by simp [maxLen]) ?_
  simp only [Tryz.f247, qunr_succ, Int.cast_ofNat_Int, List.range_zero, List.getD_cons_zero, List.getD_cons_succ, Nat.reduceMod, List.filter_cons, List.filter_nil, v1, v2, go_sem]
  refine qcall_i (k4) ?_; simp only [Tryz.f247, qunr_succ, Int.cast_ofNat_Int, List.range_zero, List.getD_cons_zero, List.getD_cons_succ, Nat.reduceMod, List.filter_cons, List.filter_nil, v1, v2, go_sem]
  refine qand_i (by simp [maxLen]) ?_
  simp only [Tryz.f247, qunr_succ, Int.cast_ofNat_Int, List.range_zero, List.getD_cons_zero, List.getD_cons_succ, Nat.reduceMod, List.filter_cons, List.filter_nil, v1, v2, go_sem]
  refine qloop_u 3 ?_
  simp only [Tryz.f247, qunr_succ, Int.cast_ofNat_Int, List.range_zero, List.getD_cons_zero, List.getD_cons_succ, Nat.reduceMod, List.filter_cons, List.filter_nil, v1, v2, go_sem]
  refine qcall_i (k5) ?_; simp only [Tryz.f247, qunr_succ, Int.cast_ofNat_Int, List.range_zero, List.getD_cons_zero, List.getD_cons_succ, Nat.reduceMod, List.filter_cons, List.filter_nil, v1, v2, go_sem]
  refine qand_i (by simp [maxLen]) ?_
  simp only [Tryz.f247, qunr_succ, Int.cast_ofNat_Int, List.range_zero, List.getD_cons_zero, List.getD_cons_succ, Nat.reduceMod, List.filter_cons, List.filter_nil, v1, v2, go_sem]
  refine qcall_i (k6) ?_; simp only [Tryz.f247, qunr_succ, Int.cast_ofNat_Int, List.range_zero, List.getD_cons_zero, List.getD_cons_succ, Nat.reduceMod, List.filter_cons, List.filter_nil, v1, v2, go_sem]
  refine qand_i (by simp [maxLen]) ?_
  simp only [Tryz.f247, qunr_succ, Int.cast_ofNat_Int, List.range_zero, List.getD_cons_zero, List.getD_cons_succ, Nat.reduceMod, List.filter_cons, List.filter_nil, v1, v2, go_sem]
  refine qcall_i (k7) ?_; simp only [Tryz.f247, go_sem]
  refine qcall_i (k8) ?_; simp only [Tryz.f247, go_sem]
  try rfl
theorem q_Times {p q : PV} {i : Iv} {d : Dy} {K J : Nat} (h : RI p i) (hd : RD q d) (hl : i.lim K) (hl' : Lim J d) (hK : K + J ≤ 32767) : PC E 235 [p, q] (ivV i.right (mulI i ⟨d, d⟩)) := by
  have hd' := hd
  have h' := h
  obtain ⟨s1, P1, e1, s2, P2, e2, rfl, h1, h2⟩ := h'
  obtain ⟨s, P, x, e, rfl, -⟩ := hd'
  have hk : RI (.agg [.bool s, P, .int .i64 e, .bool s, P, .int .i64 e]) ⟨d, d⟩ := ⟨s, P, e, s, P, e, rfl, hd, hd⟩
  have k1 := q_At (s := s) (P := P) (e := e)
  have k2 := q_Mul h hk hl ⟨hl', hl'⟩ hK
  have hr : Iv.right ⟨d, d⟩ := ⟨hl'.fits (by omega), hl'.fits (by omega), by rw [cmp_self]; decide⟩
  refine PC.of_body follows Tryz.func235 (by decide +kernel) rfl (by kernel_rfl) (Nat.le_of_ble_eq_true rfl) (walk ?_)
  unfold ivV at k2 ⊢
  simp only [DP] at k1 k2 ⊢
  by_cases f : i.right
  · rw [if_pos ⟨f, hr⟩] at k2
    rw [if_pos f]
    simp only [Iv.pv] at k2
    simp only [Tryz.f235, go_sem]
    refine qcall_i (k1) ?_; simp only [Tryz.f235, go_sem]
    refine qcall_i (k2) ?_; simp only [Tryz.f235, go_sem]
    try rfl
  · rw [if_neg (fun h => f h.1)] at k2
    rw [if_neg f]
    simp only [Iv.pv] at k2
    simp only [Tryz.f235, go_sem]
    refine qcall_i (k1) ?_; simp only [Tryz.f235, go_sem]
    refine qcall_i (k2) ?_; simp only [Tryz.f235, go_sem]
    try rfl
end
section
open Go PG Go.Proofs
set_option maxRecDepth 100000
set_option linter.unusedSimpArgs false
set_option linter.unusedVariables false
open XX
theorem cD_bits {a n b : Nat} (hn : 0 < n) (h : bitLen a ≤ b) : bitLen (cD a n) ≤ b + 1 := by
  rw [bitLen_le] at *
  have h1 := Nat.div_le_self a n
  rw [Nat.pow_succ]
  have h2 := Nat.two_pow_pos b
  unfold cD
  generalize a / n = q at *
  split <;> omega
theorem div_bits {a n b : Nat} (h : bitLen a ≤ b) : bitLen (a / n) ≤ b := Nat.le_trans (bitLen_mono (Nat.div_le_self a n)) h
theorem NN0 : NN 0 = .lst 0 [] := rfl
theorem k_mul {p q : PV} {x y : Nat} (h : Num p x) (h' : Num q y) (hb : bitLen x + bitLen y ≤ 65536) : PC E 176 [p, q] (.tuple [NN (x * y), .int .i64 0]) := by
  have h1 := k_prodMul h h' (by omega) (by omega)
  unfold pmV at h1
  by_cases h0 : x = 0 ∨ y = 0
  · rw [if_pos h0] at h1
    rw [show x * y = 0 by rcases h0 with h | h <;> rw [h] <;> simp, NN0]
    exact h1
  · rwa [if_neg h0, if_pos hb] at h1
theorem k_small {x n : Nat} (hb : bitLen x ≤ 900000) (hn : n < W) (h0 : n ≠ 0) : PC E 222 [NN x, u n] (.tuple [NN (x / n), u (x % n), .int .i64 0]) := by
  have h := d_Small (l := dg W x) (ok_dg W2 x) (by have := w_of_bits (x := x) (n := 15625) (by omega); omega) hn h0
  rwa [show vl (dg W x) = x from dv_dg W2 x] at h
theorem u_one : PC E 180 [.int .u64 1] (NN 1) := c_Of 1 (by decide)
theorem u_three : PC E 180 [.int .u64 3] (NN 3) := c_Of 3 (by decide)
theorem s_upShift {x : Nat} (hb : bitLen x ≤ 900000) (s : Nat) : PC E 226 [NN x, .int .i64 s] (NN (cD x (2 ^ s))) := by
  have k1 := k_Shrn (num_bits (x := x) (by omega)) s
  have k3 := k_Add (num_bits (x := x / 2 ^ s) (by have := div_bits (n := 2 ^ s) hb; omega)) (num_bits (x := 1) (by decide))
  have k2 := u_one
  unfold cD
  by_cases h : x % 2 ^ s = 0
  · rw [if_pos h, Nat.add_zero]
    rw [decide_eq_false (fun h' => h' h)] at k1
    simp only [NN, NL] at *
    refine PC.of_body follows Tryz.func226 (by decide +kernel) rfl (by kernel_rfl) (Nat.le_of_ble_eq_true rfl) (walk ?_)
    simp only [Tryz.f226, go_sem]
    refine qcall_i (k1) ?_; simp only [Tryz.f226, go_sem]
    try rfl
  · rw [if_neg h]
    rw [decide_eq_true h] at k1
    simp only [NN, NL] at *
    refine PC.of_body follows Tryz.func226 (by decide +kernel) rfl (by kernel_rfl) (Nat.le_of_ble_eq_true rfl) (walk ?_)
    simp only [Tryz.f226, go_sem]
    refine qcall_i (k1) ?_; simp only [Tryz.f226, go_sem]
    refine qcall_i (k2) ?_; simp only [Tryz.f226, go_sem]
    refine qcall_i (k3) ?_; simp only [Tryz.f226, go_sem]
    try rfl
def pnv (p : PN) : PV := .agg [NN p.lo, NN p.hi]
def PLe (p : PN) (n : Nat) : Prop := bitLen p.lo ≤ n ∧ bitLen p.hi ≤ n
theorem s_scale (s : Int) : PC E 182 [.int .i64 s] (.bool (decide (8 ≤ s) && decide (s ≤ 9000))) := by
  refine PC.of_body follows Tryz.func182 (by decide +kernel) rfl (by kernel_rfl) (Nat.le_of_ble_eq_true rfl) (walk ?_)
  simp only [Tryz.f182, go_sem]
  refine qif_d (fun h => ?_) (fun h => ?_)
  · rw [decide_eq_true (show 8 ≤ s from h)]
    simp only [Tryz.f182, go_sem]
    try rfl
  · rw [decide_eq_false (show ¬ 8 ≤ s from h)]
    simp only [Tryz.f182, go_sem]
    try rfl
theorem p_times {p q : PN} {n : Nat} (hp : PLe p n) (hq : PLe q n) (hn : n ≤ 30000) (s : Nat) : PC E 183 [pnv p, pnv q, .int .i64 s] (pnv (p.times q s)) := by
  have b1 := bitLen_mul_le p.lo q.lo
  have b2 := bitLen_mul_le p.hi q.hi
  obtain ⟨h1, h2⟩ := hp
  obtain ⟨h3, h4⟩ := hq
  have k1 := k_mul (num_bits (x := p.lo) (by omega)) (num_bits (x := q.lo) (by omega)) (by omega)
  have k2 := k_mul (num_bits (x := p.hi) (by omega)) (num_bits (x := q.hi) (by omega)) (by omega)
  have k3 := k_Shrn (num_bits (x := p.lo * q.lo) (by omega)) s
  have k4 := s_upShift (x := p.hi * q.hi) (by omega) s
  unfold pnv PN.times
  dsimp only
  simp only [NN, NL] at *
  refine PC.of_body follows Tryz.func183 (by decide +kernel) rfl (by kernel_rfl) (Nat.le_of_ble_eq_true rfl) (walk ?_)
  simp only [Tryz.f183, go_sem]
  refine qcall_i (k1) ?_; simp only [Tryz.f183, go_sem]
  refine qcall_i (k2) ?_; simp only [Tryz.f183, go_sem]
  refine qcall_i (k3) ?_; simp only [Tryz.f183, go_sem]
  refine qcall_i (k4) ?_; simp only [Tryz.f183, go_sem]
  try rfl
theorem p_by {p : PN} {b n : Nat} (hp : PLe p b) (hb : b ≤ 100000) (hn : n < W) (h0 : n ≠ 0) : PC E 184 [pnv p, .int .u64 n] (pnv (p.part n)) := by
  obtain ⟨h1, h2⟩ := hp
  have k1 := k_small (x := p.lo) (by omega) hn h0
  have k2 := k_small (x := p.hi) (by omega) hn h0
  have k3 := u_one
  have k4 := k_Add (num_bits (x := p.hi / n) (by have := div_bits (n := n) h2; omega)) (num_bits (x := 1) (by decide))
  simp only [u] at k1 k2
  unfold pnv PN.part cD
  dsimp only
  generalize p.lo % n = r1 at *
  by_cases h : p.hi % n = 0
  · rw [if_pos h, Nat.add_zero]
    rw [h] at k2
    simp only [NN, NL] at *
    refine PC.of_body follows Tryz.func184 (by decide +kernel) rfl (by kernel_rfl) (Nat.le_of_ble_eq_true rfl) (walk ?_)
    simp only [Tryz.f184, go_sem]
    refine qcall_i (k1) ?_; simp only [Tryz.f184, go_sem]
    refine qcall_i (k2) ?_; simp only [Tryz.f184, go_sem]
    refine qif_df (by decide) ?_
    simp only [Tryz.f184, go_sem]
    try rfl
  · rw [if_neg h]
    have hr : ((p.hi % n : Nat) : Int) > 0 := by omega
    simp only [NN, NL] at *
    refine PC.of_body follows Tryz.func184 (by decide +kernel) rfl (by kernel_rfl) (Nat.le_of_ble_eq_true rfl) (walk ?_)
    simp only [Tryz.f184, go_sem]
    refine qcall_i (k1) ?_; simp only [Tryz.f184, go_sem]
    refine qcall_i (k2) ?_; simp only [Tryz.f184, go_sem]
    refine qif_dt hr ?_
    simp only [Tryz.f184, go_sem]
    refine qcall_i (k3) ?_; simp only [Tryz.f184, go_sem]
    refine qcall_i (k4) ?_; simp only [Tryz.f184, go_sem]
    try rfl
theorem p_plus {p q : PN} {n : Nat} (hp : PLe p n) (hq : PLe q n) (hn : n ≤ 100000) : PC E 185 [pnv p, pnv q] (pnv (p.plus q)) := by
  obtain ⟨h1, h2⟩ := hp
  obtain ⟨h3, h4⟩ := hq
  have k1 := k_Add (num_bits (x := p.lo) (by omega)) (num_bits (x := q.lo) (by omega))
  have k2 := k_Add (num_bits (x := p.hi) (by omega)) (num_bits (x := q.hi) (by omega))
  unfold pnv PN.plus
  dsimp only
  simp only [NN, NL] at *
  refine PC.of_body follows Tryz.func185 (by decide +kernel) rfl (by kernel_rfl) (Nat.le_of_ble_eq_true rfl) (walk ?_)
  simp only [Tryz.f185, go_sem]
  refine qcall_i (k1) ?_; simp only [Tryz.f185, go_sem]
  refine qcall_i (k2) ?_; simp only [Tryz.f185, go_sem]
  try rfl
theorem p_rest {p q : PN} {n : Nat} (hp : PLe p n) (hq : PLe q n) (hn : n ≤ 100000) : PC E 186 [pnv p, pnv q] (pnv (p.rest q)) := by
  obtain ⟨h1, h2⟩ := hp
  obtain ⟨h3, h4⟩ := hq
  have k1 := k_Add (num_bits (x := q.hi) (by omega)) (num_bits (x := q.hi) (by omega))
  have k2 := k_Add (num_bits (x := p.hi) (by omega)) (num_bits (x := q.hi + q.hi) (by have := bitLen_add h4 h4; omega))
  unfold pnv PN.rest
  dsimp only
  simp only [NN, NL] at *
  refine PC.of_body follows Tryz.func186 (by decide +kernel) rfl (by kernel_rfl) (Nat.le_of_ble_eq_true rfl) (walk ?_)
  simp only [Tryz.f186, go_sem]
  refine qcall_i (k1) ?_; simp only [Tryz.f186, go_sem]
  refine qcall_i (k2) ?_; simp only [Tryz.f186, go_sem]
  try rfl
theorem NN_len {x : Nat} : ∃ l cs, NN x = .lst l cs ∧ (l = 0 ↔ x = 0) := ⟨_, _, rfl, fun h => dg_nil h, fun h => by rw [h]; rfl⟩
theorem s_fraction {x y : Nat} (hx : bitLen x ≤ 5000) (hy : bitLen y ≤ 5000) (h0 : y ≠ 0) {s : Nat} (hs : s ≤ 9000) : PC E 190 [NN x, NN y, .int .i64 s] (pnv (fracS x y s)) := by
  have hb := bitLen_shl_le x s
  have k1 := k_Shln (num_bits (x := x) (by omega)) s (by omega)
  have k2 := k_Div (num_bits (x := x * 2 ^ s) (by omega)) (num_bits (x := y) (by omega)) (by omega) (by omega) h0
  have hd := div_bits (n := y) (Nat.le_refl (bitLen (x * 2 ^ s)))
  have k3 := u_one
  have k4 := k_Add (num_bits (x := x * 2 ^ s / y) (by omega)) (num_bits (x := 1) (by decide))
  unfold pnv fracS cD
  dsimp only
  obtain ⟨l, cs, e, hl⟩ := NN_len (x := x * 2 ^ s % y)
  rw [e] at k2
  by_cases h : x * 2 ^ s % y = 0
  · rw [if_pos h, Nat.add_zero]
    have hl0 := hl.2 h
    subst hl0
    simp only [NN, NL] at *
    refine PC.of_body follows Tryz.func190 (by decide +kernel) rfl (by kernel_rfl) (Nat.le_of_ble_eq_true rfl) (walk ?_)
    simp only [Tryz.f190, go_sem]
    refine qcall_i (k1) ?_; simp only [Tryz.f190, go_sem]
    refine qcall_i (k2) ?_; simp only [Tryz.f190, go_sem]
    refine qif_df (by decide) ?_
    simp only [Tryz.f190, go_sem]
    try rfl
  · rw [if_neg h]
    have hl0 : (l : Int) > 0 := by have : l ≠ 0 := fun h' => h (hl.1 h'); omega
    simp only [NN, NL] at *
    refine PC.of_body follows Tryz.func190 (by decide +kernel) rfl (by kernel_rfl) (Nat.le_of_ble_eq_true rfl) (walk ?_)
    simp only [Tryz.f190, go_sem]
    refine qcall_i (k1) ?_; simp only [Tryz.f190, go_sem]
    refine qcall_i (k2) ?_; simp only [Tryz.f190, go_sem]
    refine qif_dt hl0 ?_
    simp only [Tryz.f190, go_sem]
    refine qcall_i (k3) ?_; simp only [Tryz.f190, go_sem]
    refine qcall_i (k4) ?_; simp only [Tryz.f190, go_sem]
    try rfl
end
section
open Go PG Go.Proofs
set_option maxRecDepth 100000
set_option linter.unusedSimpArgs false
set_option linter.unusedVariables false
open XX
theorem cD_pos {a n : Nat} (hn : 1 ≤ n) : cD a n ≤ a := cD_le hn (Nat.le_mul_of_pos_right a hn)
structure AtJ (s : Nat) (sq : PN) (R : PN × PN) (f : Nat) (sum term : PN) (n : Nat) : Prop where
  res : atLoop s sq f sum term n = R
  lo : term.lo ≤ 2 ^ s
  hi : term.hi ≤ 2 ^ s
  z : term.lo < 2 ^ f
  slo : sum.lo ≤ n * 2 ^ s
  shi : sum.hi ≤ n * 2 ^ s
  c : n + 2 * f = 2 * (s + 2) + 1
  odd : 1 ≤ n
structure SqJ (s : Nat) (sq : PN) : Prop where
  lo : 2 * sq.lo ≤ 2 ^ s
  hi : sq.hi ≤ 2 ^ s
theorem mul_div_le {a b S : Nat} (h : a ≤ S) (hb : 2 * b ≤ S) (hS : 0 < S) : a * b / S ≤ a / 2 := by
  rw [Nat.le_div_iff_mul_le (by decide)]
  have h1 : a * b / S * S ≤ a * b := Nat.div_mul_le_self _ _
  refine Nat.le_of_mul_le_mul_right (c := S) ?_ hS
  have h2 : a * b * 2 ≤ a * S := by rw [Nat.mul_assoc, Nat.mul_comm b 2]; exact Nat.mul_le_mul_left a hb
  have : a * b / S * 2 * S = a * b / S * S * 2 := by rw [Nat.mul_assoc, Nat.mul_assoc, Nat.mul_comm 2 S]
  omega
theorem cD_mul_le {a b S : Nat} (h : a ≤ S) (hb : b ≤ S) (hS : 0 < S) : cD (a * b) S ≤ S := cD_le hS (Nat.mul_le_mul h hb)
theorem AtJ.step {s : Nat} {sq : PN} {R : PN × PN} {f : Nat} {sum term : PN} {n : Nat} (h : AtJ s sq R f sum term n) (hq : SqJ s sq) (h0 : term.lo ≠ 0) :
    ∃ g, f = g + 1 ∧ AtJ s sq R g (sum.plus (term.part n)) (term.times sq s) (n + 2) := by
  have hS := Nat.two_pow_pos s
  cases f with
  | zero => have := h.z; omega
  | succ g =>
    refine ⟨g, rfl, ?_⟩
    have hr := h.res
    unfold atLoop at hr
    rw [if_neg h0] at hr
    have h1 := mul_div_le h.lo hq.lo hS
    have h2 := Nat.div_le_self term.lo n
    have h3 := cD_pos (a := term.hi) h.odd
    have h4 := h.lo
    have h5 := h.hi
    have h6 := h.slo
    have h7 := h.shi
    have e : (n + 2) * 2 ^ s = n * 2 ^ s + 2 * 2 ^ s := Nat.add_mul _ _ _
    exact ⟨hr, Nat.le_trans h1 (by omega), cD_mul_le h.hi hq.hi hS, by
      show term.lo * sq.lo / 2 ^ s < _
      have := h.z
      rw [Nat.pow_succ] at this
      omega, by
      show sum.lo + term.lo / n ≤ _
      rw [e]; omega, by
      show sum.hi + cD term.hi n ≤ _
      rw [e]; omega, by have := h.c; omega, by omega⟩
theorem bits_two {a s : Nat} (h : a ≤ 2 ^ s) : bitLen a ≤ s + 1 := by
  rw [bitLen_le, Nat.pow_succ]
  have := Nat.two_pow_pos s
  omega
theorem bits_mul {a n s : Nat} (h : a ≤ n * 2 ^ s) (hn : n ≤ 20000) : bitLen a ≤ s + 15 := by
  rw [bitLen_le, Nat.pow_add]
  have h1 := Nat.two_pow_pos s
  have h2 : n * 2 ^ s < 2 ^ 15 * 2 ^ s := Nat.mul_lt_mul_of_pos_right (Nat.lt_of_le_of_lt hn (by decide)) h1
  rw [Nat.mul_comm (2 ^ s)]
  omega
theorem AtJ.bits {s : Nat} {sq : PN} {R : PN × PN} {f : Nat} {sum term : PN} {n : Nat} (h : AtJ s sq R f sum term n) (hs : s ≤ 9000) : PLe term 9100 ∧ PLe sum 9100 ∧ n ≤ 18005 := by
  have h1 := bits_two h.lo
  have h2 := bits_two h.hi
  have hc := h.c
  have h3 := bits_mul h.slo (by omega)
  have h4 := bits_mul h.shi (by omega)
  exact ⟨⟨by omega, by omega⟩, ⟨by omega, by omega⟩, by omega⟩
theorem SqJ.bits {s : Nat} {sq : PN} (h : SqJ s sq) (hs : s ≤ 9000) : PLe sq 9100 := by
  have h1 := bits_two (a := sq.lo) (s := s) (by have := h.lo; omega)
  have h2 := bits_two h.hi
  exact ⟨by omega, by omega⟩
theorem at_start {num den s : Nat} (hd : 0 < den) (h3 : 3 * num ≤ den) : SqJ s ((fracS num den s).times (fracS num den s) s) ∧ AtJ s ((fracS num den s).times (fracS num den s) s) (atR num den s) (s + 2) ⟨0, 0⟩ (fracS num den s) 1 := by
  have hS := Nat.two_pow_pos s
  have hlo : 3 * (fracS num den s).lo ≤ 2 ^ s := by
    show 3 * (num * 2 ^ s / den) ≤ 2 ^ s
    have h1 : num * 2 ^ s / den * den ≤ num * 2 ^ s := Nat.div_mul_le_self _ _
    refine Nat.le_of_mul_le_mul_right (c := den) ?_ hd
    have h2 : 3 * num * 2 ^ s ≤ den * 2 ^ s := Nat.mul_le_mul_right _ h3
    rw [Nat.mul_assoc] at h2
    rw [Nat.mul_assoc, Nat.mul_comm (2 ^ s) den]
    omega
  have hhi : (fracS num den s).hi ≤ 2 ^ s := cD_le hd (by
    rw [Nat.mul_comm]
    exact Nat.mul_le_mul_left _ (by omega))
  unfold atR
  generalize fracS num den s = t at *
  have hq : 2 * (t.times t s).lo ≤ 2 ^ s := by
    show 2 * (t.lo * t.lo / 2 ^ s) ≤ 2 ^ s
    have := mul_div_le (a := t.lo) (b := t.lo) (S := 2 ^ s) (by omega) (by omega) hS
    omega
  refine ⟨⟨hq, cD_mul_le hhi hhi hS⟩, ?_⟩
  exact ⟨rfl, by omega, hhi, by rw [Nat.pow_add]; omega, by show 0 ≤ _; omega, by show 0 ≤ _; omega, by omega, by omega⟩
set_option maxHeartbeats 4000000 in
theorem s_Atanh {num den : Nat} (hn : bitLen num ≤ 4096) (hdb : bitLen den ≤ 4096) (hd : 0 < den) (h3 : 3 * num ≤ den) {s : Nat} (h8 : 8 ≤ s) (hs : s ≤ 9000) :
    PC E 114 [NN num, NN den, .int .i64 s] (.tuple [NN (atanhS num den s).lo, NN (atanhS num den s).hi, .int .i64 0]) := by
  have b3 : bitLen 3 = 2 := by decide
  have k1 := u_three
  have k2 := k_mul (num_bits (x := num) (by omega)) (num_bits (x := 3) (by decide)) (by rw [b3]; omega)
  have k3 := s_scale s
  rw [decide_eq_true (show (8 : Int) ≤ s by omega), decide_eq_true (show (s : Int) ≤ 9000 by omega), Bool.and_true] at k3
  have k4 := k_Bits (num_bits (x := num) (by omega))
  have k5 := k_Bits (num_bits (x := den) (by omega))
  have k6 := k_Cmp (num_bits (x := num * 3) (by have := bitLen_mul_le num 3; omega)) (num_bits (x := den) (by omega))
  have kT : PC E 189 [NN num, .int .u64 3] (.tuple [NN (num * 3), .int .i64 0]) := by
    simp only [NN, NL] at k1 k2 ⊢
    refine PC.of_body follows Tryz.func189 (by decide +kernel) rfl (by kernel_rfl) (Nat.le_of_ble_eq_true rfl) (walk ?_)
    simp only [Tryz.f189, go_sem]
    refine qcall_i (k1) ?_; simp only [Tryz.f189, go_sem]
    refine qcall_i (k2) ?_; simp only [Tryz.f189, go_sem]
    try rfl
  have hsg : ¬ sgn ((num * 3 : Nat) : Int) (den : Int) > 0 := by
    have := sgn_le ((num * 3 : Nat) : Int) (den : Int)
    omega
  have hden0 : ¬ (bitLen den : Int) = 0 := by
    have := bitLen_pos (x := den) (by omega)
    omega
  have k7 := s_fraction (x := num) (y := den) (by omega) (by omega) (by omega) hs
  obtain ⟨hq, hJ⟩ := at_start (s := s) hd h3
  unfold atanhS
  by_cases hz : num = 0
  · rw [if_pos hz]
    have hb0 : bitLen num = 0 := by rw [hz]; rfl
    show PC E _ _ (.tuple [.lst 0 [], .lst 0 [], .int .i64 0])
    simp only [NN, NL] at k4 k5 k6 kT ⊢
    refine PC.of_body follows Tryz.func114 (by decide +kernel) rfl (by kernel_rfl) (Nat.le_of_ble_eq_true rfl) (walk ?_)
    simp only [Tryz.f114, go_sem]
    refine qcall_i (kT) ?_; simp only [Tryz.f114, go_sem]
    refine qcall_i (k3) ?_; simp only [Tryz.f114, go_sem]
    refine qcall_i (k4) ?_; simp only [Tryz.f114, go_sem]
    refine qif_df (by omega) ?_
    simp only [Tryz.f114, go_sem]
    refine qcall_i (k5) ?_; simp only [Tryz.f114, go_sem]
    refine qif_df (by omega) ?_
    simp only [Tryz.f114, go_sem]
    refine qcall_i (k5) ?_; simp only [Tryz.f114, go_sem]
    refine qif_df hden0 ?_
    simp only [Tryz.f114, go_sem]
    refine qcall_i (k6) ?_; simp only [Tryz.f114, go_sem]
    refine qif_df hsg ?_
    simp only [Tryz.f114, go_sem]
    refine qcall_i (k4) ?_; simp only [Tryz.f114, go_sem]
    refine qif_dt (by omega) ?_
    simp only [Tryz.f114, go_sem]
    try rfl
  rw [if_neg hz]
  have hnb : ¬ (bitLen num : Int) = 0 := by
    have := bitLen_pos (x := num) hz
    omega
  have hb1 := hJ.bits hs
  have k8 := p_times hb1.1 hb1.1 (by omega) s
  have hqb := hq.bits hs
  generalize fracS num den s = t at *
  generalize t.times t s = sq at *
  generalize atR num den s = R at *
  have kl : ∀ (f : Nat) (sum term : PN) (n : Nat), AtJ s sq R f sum term n →
      PC E 61 [NN term.lo] (.int .i64 (bitLen term.lo)) ∧ PC E 184 [pnv term, .int .u64 n] (pnv (term.part n)) ∧ PC E 185 [pnv sum, pnv (term.part n)] (pnv (sum.plus (term.part n))) ∧
      PC E 183 [pnv term, pnv sq, .int .i64 s] (pnv (term.times sq s)) ∧ PC E 186 [pnv sum, pnv term] (pnv (sum.rest term)) := fun f sum term n hj => by
    obtain ⟨b1, b2, b3⟩ := hj.bits hs
    refine ⟨k_Bits (num_bits (by have := b1.1; omega)), p_by b1 (by omega) (Nat.lt_of_le_of_lt b3 (by decide)) (by have := hj.odd; omega), ?_, p_times b1 hqb (by omega) s, p_rest b2 b1 (by omega)⟩
    have hp : PLe (term.part n) 9101 := ⟨Nat.le_trans (div_bits b1.1) (by omega), cD_bits (by have := hj.odd; omega) b1.2⟩
    exact p_plus ⟨Nat.le_trans b2.1 (by omega), Nat.le_trans b2.2 (by omega)⟩ hp (by omega)
  simp only [pnv, NN, NL] at k4 k5 k6 k7 k8 kT kl ⊢
  refine PC.of_body follows Tryz.func114 (by decide +kernel) rfl (by kernel_rfl) (Nat.le_of_ble_eq_true rfl) (walk ?_)
  simp only [Tryz.f114, go_sem]
  refine qcall_i (kT) ?_; simp only [Tryz.f114, go_sem]
  refine qcall_i (k3) ?_; simp only [Tryz.f114, go_sem]
  refine qcall_i (k4) ?_; simp only [Tryz.f114, go_sem]
  refine qif_df (by omega) ?_
  simp only [Tryz.f114, go_sem]
  refine qcall_i (k5) ?_; simp only [Tryz.f114, go_sem]
  refine qif_df (by omega) ?_
  simp only [Tryz.f114, go_sem]
  refine qcall_i (k5) ?_; simp only [Tryz.f114, go_sem]
  refine qif_df hden0 ?_
  simp only [Tryz.f114, go_sem]
  refine qcall_i (k6) ?_; simp only [Tryz.f114, go_sem]
  refine qif_df hsg ?_
  simp only [Tryz.f114, go_sem]
  refine qcall_i (k4) ?_; simp only [Tryz.f114, go_sem]
  refine qif_df hnb ?_
  simp only [Tryz.f114, go_sem]
  refine qcall_i (k7) ?_; simp only [Tryz.f114, go_sem]
  refine qcall_i (k8) ?_; simp only [Tryz.f114, go_sem]
  clear k1 k2 k3 k4 k5 k6 k7 k8 kT
  refine PLoop.intro (fun i : Nat × PN × PN × Nat => ⟨[(2, .val (.int .i64 s)), (11, .ptr 11 0), (12, .ptr 12 0), (13, .ptr 13 0), (14, .val (.int .u64 i.2.2.2))],
    [(11, (.box [.lst (dg W i.2.2.1.lo).length (U (dg W i.2.2.1.lo)), .lst (dg W i.2.2.1.hi).length (U (dg W i.2.2.1.hi))], false)), (12, (.box [.lst (dg W sq.lo).length (U (dg W sq.lo)), .lst (dg W sq.hi).length (U (dg W sq.hi))], false)),
     (13, (.box [.lst (dg W i.2.1.lo).length (U (dg W i.2.1.lo)), .lst (dg W i.2.1.hi).length (U (dg W i.2.1.hi))], false))]⟩)
    (fun i => AtJ s sq R i.1 i.2.1 i.2.2.1 i.2.2.2) (fun i => i.1) (s + 2, ⟨0, 0⟩, t, 1) hJ ?_ fun i hi => walk ?_
  · simp [Wk, sget, killL, kill1, SV.key]
    try exact ⟨rfl, rfl⟩
  obtain ⟨f, sum, term, n⟩ := i
  dsimp only at hi
  have hstep := hi.step hq
  obtain ⟨l1, l2, l3, l4, l5⟩ := kl f sum term n hi
  obtain ⟨-, -, hn2⟩ := hi.bits hs
  have hres := hi.res
  clear kl
  have wn : IntKind.wrap .u64 ((n : Int) + 2) = ((n + 2 : Nat) : Int) := wrap_nat64 (a := n + 2) (Nat.lt_of_le_of_lt (show n + 2 ≤ 18007 by omega) (by decide))
  simp only [Tryz.f114, go_sem]
  refine qcall_i (l1) ?_; simp only [Tryz.f114, go_sem]
  by_cases h0 : term.lo = 0
  · have hb0 : bitLen term.lo = 0 := by rw [h0]; rfl
    have hR : R = (sum, term) := by
      rw [← hres]
      cases f with
      | zero => rfl
      | succ f => unfold atLoop; rw [if_pos h0]
    refine qif_df (by omega) ?_
    simp only [Tryz.f114, go_sem]
    refine qcall_i (l5) ?_; simp only [Tryz.f114, go_sem]
    subst hR
    exact ⟨⟨rfl, rfl⟩, rfl, rfl⟩
  · refine qif_dt (by have := bitLen_pos (x := term.lo) h0; omega) ?_
    simp only [Tryz.f114, go_sem]
    refine qcall_i (l2) ?_; simp only [Tryz.f114, go_sem]
    refine qcall_i (l3) ?_; simp only [Tryz.f114, go_sem]
    refine qcall_i (l4) ?_; simp only [Tryz.f114, wn, go_sem]
    obtain ⟨g, rfl, hj⟩ := hstep h0
    refine ⟨(g, sum.plus (term.part n), term.times sq s, n + 2), hj, Nat.lt_succ_self g, ?_⟩
    simp [Wk, sget, killL, kill1, SV.key]
end
section
open Go PG Go.Proofs
set_option maxRecDepth 100000
set_option linter.unusedSimpArgs false
set_option linter.unusedVariables false
open XX
theorem atR_J {num den s : Nat} (hd : 0 < den) (h3 : 3 * num ≤ den) : ∃ f n, n ≤ 2 * (s + 2) + 1 ∧ (atR num den s).1.lo ≤ n * 2 ^ s ∧ (atR num den s).1.hi ≤ n * 2 ^ s ∧ (atR num den s).2.hi ≤ 2 ^ s ∧ f = n := by
  obtain ⟨hq, hJ⟩ := at_start (s := s) hd h3
  obtain ⟨sq, hsq⟩ : ∃ sq, sq = (fracS num den s).times (fracS num den s) s := ⟨_, rfl⟩
  rw [← hsq] at hq hJ
  have main : ∀ (f : Nat) (sum term : PN) (n : Nat), AtJ s sq (atR num den s) f sum term n → ∃ n, n ≤ 2 * (s + 2) + 1 ∧ (atR num den s).1.lo ≤ n * 2 ^ s ∧ (atR num den s).1.hi ≤ n * 2 ^ s ∧ (atR num den s).2.hi ≤ 2 ^ s := by
    intro f
    induction f with
    | zero =>
      intro sum term n h
      have e : atR num den s = (sum, term) := h.res.symm
      rw [e]
      exact ⟨n, by have := h.c; omega, h.slo, h.shi, h.hi⟩
    | succ f ih =>
      intro sum term n h
      by_cases h0 : term.lo = 0
      · have e : atR num den s = (sum, term) := by
          rw [← h.res]; unfold atLoop; rw [if_pos h0]
        rw [e]
        exact ⟨n, by have := h.c; omega, h.slo, h.shi, h.hi⟩
      · obtain ⟨g, hg, hj⟩ := h.step hq h0
        obtain rfl : g = f := by omega
        exact ih _ _ _ hj
  obtain ⟨n, h⟩ := main _ _ _ _ hJ
  exact ⟨n, n, h.1, h.2.1, h.2.2.1, h.2.2.2, rfl⟩
theorem atanhS_bits {num den s : Nat} (hd : 0 < den) (h3 : 3 * num ≤ den) (hs : s ≤ 9000) : PLe (atanhS num den s) (s + 16) := by
  unfold atanhS
  by_cases h0 : num = 0
  · rw [if_pos h0]
    exact ⟨Nat.le_trans (show bitLen 0 ≤ 0 by decide) (Nat.zero_le _), Nat.le_trans (show bitLen 0 ≤ 0 by decide) (Nat.zero_le _)⟩
  rw [if_neg h0]
  obtain ⟨f, n, h1, h2, h4, h5, -⟩ := atR_J (s := s) hd h3
  refine ⟨Nat.le_trans (bits_mul h2 (by omega)) (by omega), ?_⟩
  have e : (n + 2) * 2 ^ s = n * 2 ^ s + 2 * 2 ^ s := Nat.add_mul _ _ _
  exact Nat.le_trans (bits_mul (s := s) (n := n + 2) (by show (atR num den s).1.hi + ((atR num den s).2.hi + (atR num den s).2.hi) ≤ _; omega) (by omega)) (by omega)
theorem ln2S_bits {s : Nat} (hs : s ≤ 9000) : PLe (ln2S s) (s + 17) := by
  obtain ⟨h1, h2⟩ := atanhS_bits (num := 1) (den := 3) (s := s) (by decide) (by decide) hs
  exact ⟨bitLen_add h1 h1, bitLen_add h2 h2⟩
theorem s_Ln2 {s : Nat} (h8 : 8 ≤ s) (hs : s ≤ 9000) : PC E 116 [.int .i64 s] (.tuple [NN (ln2S s).lo, NN (ln2S s).hi, .int .i64 0]) := by
  have k1 := u_one
  have k2 := u_three
  have k3 := s_Atanh (num := 1) (den := 3) (by decide) (by decide) (by decide) (by decide) h8 hs
  obtain ⟨h1, h2⟩ := atanhS_bits (num := 1) (den := 3) (s := s) (by decide) (by decide) hs
  have k4 := k_Add (num_bits (x := (atanhS 1 3 s).lo) (by omega)) (num_bits (x := (atanhS 1 3 s).lo) (by omega))
  have k5 := k_Add (num_bits (x := (atanhS 1 3 s).hi) (by omega)) (num_bits (x := (atanhS 1 3 s).hi) (by omega))
  show PC E _ _ (.tuple [NN ((atanhS 1 3 s).lo + (atanhS 1 3 s).lo), NN ((atanhS 1 3 s).hi + (atanhS 1 3 s).hi), .int .i64 0])
  generalize (atanhS 1 3 s).lo = L at *
  generalize (atanhS 1 3 s).hi = H at *
  simp only [NN, NL] at k1 k2 k3 k4 k5 ⊢
  refine PC.of_body follows Tryz.func116 (by decide +kernel) rfl (by kernel_rfl) (Nat.le_of_ble_eq_true rfl) (walk ?_)
  simp only [Tryz.f116, go_sem]
  refine qcall_i (k1) ?_; simp only [Tryz.f116, go_sem]
  refine qcall_i (k2) ?_; simp only [Tryz.f116, go_sem]
  refine qcall_i (k3) ?_; simp only [Tryz.f116, go_sem]
  refine qcall_i (k4) ?_; simp only [Tryz.f116, go_sem]
  refine qcall_i (k5) ?_; simp only [Tryz.f116, go_sem]
  try rfl
structure ExJ (s : Nat) (x : PN) (R : PN × PN) (f : Nat) (sum term : PN) (n : Nat) : Prop where
  res : exLoop s x f sum term n = R
  lo : term.lo ≤ 2 ^ s
  hi : term.hi ≤ 2 ^ s
  slo : sum.lo ≤ n * 2 ^ s
  shi : sum.hi ≤ n * 2 ^ s
  c : n + f = s + 3
  one : 1 ≤ n
  z : n = 1 ∨ (2 ≤ n ∧ 2 ≤ term.hi ∧ term.hi ≤ 2 ^ (f - 1))
theorem ExJ.start {a b s : Nat} : ExJ s ⟨a, b⟩ (exR a b s) (s + 2) ⟨2 ^ s, 2 ^ s⟩ ⟨2 ^ s, 2 ^ s⟩ 1 :=
  ⟨rfl, Nat.le_refl _, Nat.le_refl _, by show 2 ^ s ≤ _; omega, by show 2 ^ s ≤ _; omega, by omega, Nat.le_refl _, .inl rfl⟩
theorem cD_half {a n k : Nat} (hn : 2 ≤ n) (h : a ≤ 2 ^ (k + 1)) : cD a n ≤ 2 ^ k := cD_le (by omega) (by
  rw [Nat.pow_succ] at h
  exact Nat.le_trans h (Nat.mul_le_mul_left _ hn))
theorem ExJ.fuel {s : Nat} {x : PN} {R : PN × PN} {f : Nat} {sum term : PN} {n : Nat} (h : ExJ s x R f sum term n) : ∃ g, f = g + 1 := by
  refine ⟨f - 1, ?_⟩
  rcases h.z with h1 | ⟨-, h1, h2⟩
  · have := h.c; omega
  · rcases Nat.eq_zero_or_pos f with h3 | h3
    · rw [h3] at h2
      have : term.hi ≤ 1 := h2
      omega
    · omega
theorem ExJ.next {s : Nat} {x : PN} {R : PN × PN} {g : Nat} {sum term : PN} {n : Nat} (h : ExJ s x R (g + 1) sum term n) (hx : x.lo ≤ 2 ^ s ∧ x.hi ≤ 2 ^ s) :
    ((term.times x s).part n).lo ≤ 2 ^ s ∧ ((term.times x s).part n).hi ≤ 2 ^ s ∧ (sum.plus ((term.times x s).part n)).lo ≤ (n + 1) * 2 ^ s ∧ (sum.plus ((term.times x s).part n)).hi ≤ (n + 1) * 2 ^ s ∧ (term.times x s).lo ≤ 2 ^ s ∧ (term.times x s).hi ≤ 2 ^ s := by
  have hS := Nat.two_pow_pos s
  have h1 : (term.times x s).lo ≤ 2 ^ s := by
    show term.lo * x.lo / 2 ^ s ≤ _
    refine Nat.div_le_of_le_mul ?_
    exact Nat.mul_le_mul h.lo hx.1
  have h2 : (term.times x s).hi ≤ 2 ^ s := cD_mul_le h.hi hx.2 hS
  generalize term.times x s = t at *
  have h3 : (t.part n).lo ≤ 2 ^ s := Nat.le_trans (Nat.div_le_self _ _) h1
  have h4 : (t.part n).hi ≤ 2 ^ s := Nat.le_trans (cD_pos h.one) h2
  have e : (n + 1) * 2 ^ s = n * 2 ^ s + 2 ^ s := Nat.succ_mul _ _
  have h5 := h.slo
  have h6 := h.shi
  exact ⟨h3, h4, by show sum.lo + _ ≤ _; omega, by show sum.hi + _ ≤ _; omega, h1, h2⟩
theorem ExJ.step {s : Nat} {x : PN} {R : PN × PN} {g : Nat} {sum term : PN} {n : Nat} (h : ExJ s x R (g + 1) sum term n) (hx : x.lo ≤ 2 ^ s ∧ x.hi ≤ 2 ^ s) (h0 : ¬ (term.lo = 0 ∧ x.hi = 0)) (h1 : ¬ ((term.times x s).part n).hi ≤ 1) :
    ExJ s x R g (sum.plus ((term.times x s).part n)) ((term.times x s).part n) (n + 1) := by
  obtain ⟨a1, a2, a3, a4, a5, a6⟩ := h.next hx
  have hr := h.res
  unfold exLoop at hr
  rw [if_neg h0, if_neg h1] at hr
  refine ⟨hr, a1, a2, a3, a4, by have := h.c; omega, by omega, .inr ⟨by have := h.one; omega, by omega, ?_⟩⟩
  have hS := Nat.two_pow_pos s
  rcases h.z with h2 | ⟨hn, h2, h3⟩
  · have := h.c
    rw [show g - 1 = s by omega]
    exact a2
  · have h4 : (term.times x s).hi ≤ 2 ^ (g - 1 + 1) := by
      have hg : 1 ≤ g := by
        rcases Nat.eq_zero_or_pos g with h5 | h5
        · rw [h5] at h3
          have : term.hi ≤ 1 := h3
          omega
        · exact h5
      rw [show g - 1 + 1 = g by omega]
      refine Nat.le_trans (cD_le hS (Nat.mul_le_mul_left _ hx.2)) ?_
      simpa using h3
    exact cD_half hn h4
theorem bitLen_two2 (n : Nat) : bitLen (2 ^ n) ≤ n + 1 := (bitLen_le _ _).2 (Nat.pow_lt_pow_right (by decide) (Nat.lt_succ_self n))
theorem bits_le_one (x : Nat) : (bitLen x ≤ 1) ↔ x ≤ 1 := by rw [bitLen_le]; omega
set_option maxHeartbeats 4000000 in
theorem s_Exp {a b s : Nat} (h8 : 8 ≤ s) (hs : s ≤ 9000) (ha : bitLen a ≤ 100000) (hbb : bitLen b ≤ 100000) :
    PC E 111 [NN a, NN b, .int .i64 s] (if a ≤ b ∧ b ≤ 2 ^ s then .tuple [NN (expN a b s).lo, NN (expN a b s).hi, .int .i64 0] else .tuple [.lst 0 [], .lst 0 [], .int .i64 1]) := by
  have k1 := s_scale s
  rw [decide_eq_true (show (8 : Int) ≤ s by omega), decide_eq_true (show (s : Int) ≤ 9000 by omega), Bool.and_true] at k1
  have k2 := k_Cmp (num_bits (x := a) (by omega)) (num_bits (x := b) (by omega))
  have k3 := u_one
  have k4 := k_Shln (num_bits (x := 1) (by decide)) s (by have : bitLen 1 = 1 := by decide
                                                          omega)
  rw [Nat.one_mul] at k4
  have k5 := k_Cmp (num_bits (x := b) (by omega)) (num_bits (x := 2 ^ s) (by have := bitLen_two2 s; omega))
  have g2 := sgn_pos (a : Int) (b : Int)
  have g5 := sgn_pos (b : Int) ((2 ^ s : Nat) : Int)
  by_cases hab : a ≤ b
  case neg =>
    rw [if_neg (fun h => hab h.1)]
    simp only [NN, NL] at k2 ⊢
    refine PC.of_body follows Tryz.func111 (by decide +kernel) rfl (by kernel_rfl) (Nat.le_of_ble_eq_true rfl) (walk ?_)
    simp only [Tryz.f111, go_sem]
    refine qcall_i (k1) ?_; simp only [Tryz.f111, go_sem]
    refine qcall_i (k2) ?_; simp only [Tryz.f111, go_sem]
    refine qif_dt (by omega) ?_
    simp only [Tryz.f111, go_sem]
    try rfl
  by_cases hbS : b ≤ 2 ^ s
  case neg =>
    rw [if_neg (fun h => hbS h.2)]
    simp only [NN, NL] at k2 k3 k4 k5 ⊢
    refine PC.of_body follows Tryz.func111 (by decide +kernel) rfl (by kernel_rfl) (Nat.le_of_ble_eq_true rfl) (walk ?_)
    simp only [Tryz.f111, go_sem]
    refine qcall_i (k1) ?_; simp only [Tryz.f111, go_sem]
    refine qcall_i (k2) ?_; simp only [Tryz.f111, go_sem]
    refine qif_df (by omega) ?_
    simp only [Tryz.f111, go_sem]
    refine qcall_i (k3) ?_; simp only [Tryz.f111, go_sem]
    refine qcall_i (k4) ?_; simp only [Tryz.f111, go_sem]
    refine qcall_i (k5) ?_; simp only [Tryz.f111, go_sem]
    refine qif_dt (by omega) ?_
    simp only [Tryz.f111, go_sem]
    try rfl
  rw [if_pos ⟨hab, hbS⟩]
  have k6 := k_Bare (num_bits (x := a) (by omega))
  have k7 := k_Bare (num_bits (x := b) (by omega))
  have hJ := ExJ.start (a := a) (b := b) (s := s)
  have hx : (PN.mk a b).lo ≤ 2 ^ s ∧ (PN.mk a b).hi ≤ 2 ^ s := ⟨by show a ≤ _; omega, hbS⟩
  unfold expN
  have hf2 : ¬ sgn (a : Int) (b : Int) > 0 := by omega
  have hf5 : ¬ sgn (b : Int) ((2 ^ s : Nat) : Int) > 0 := by omega
  generalize sgn (a : Int) (b : Int) = g1 at *
  generalize sgn (b : Int) ((2 ^ s : Nat) : Int) = g4 at *
  generalize exR a b s = R at *
  have kl : ∀ (f : Nat) (sum term : PN) (n : Nat), ExJ s ⟨a, b⟩ R f sum term n → ∃ g, f = g + 1 ∧
      PC E 61 [NN term.lo] (.int .i64 (bitLen term.lo)) ∧ PC E 61 [NN b] (.int .i64 (bitLen b)) ∧ PC E 183 [pnv term, pnv ⟨a, b⟩, .int .i64 s] (pnv (term.times ⟨a, b⟩ s)) ∧
      PC E 184 [pnv (term.times ⟨a, b⟩ s), .int .u64 n] (pnv ((term.times ⟨a, b⟩ s).part n)) ∧ PC E 185 [pnv sum, pnv ((term.times ⟨a, b⟩ s).part n)] (pnv (sum.plus ((term.times ⟨a, b⟩ s).part n))) ∧
      PC E 61 [NN ((term.times ⟨a, b⟩ s).part n).hi] (.int .i64 (bitLen ((term.times ⟨a, b⟩ s).part n).hi)) ∧
      PC E 186 [pnv sum, pnv term] (pnv (sum.rest term)) ∧ PC E 186 [pnv (sum.plus ((term.times ⟨a, b⟩ s).part n)), pnv ((term.times ⟨a, b⟩ s).part n)] (pnv ((sum.plus ((term.times ⟨a, b⟩ s).part n)).rest ((term.times ⟨a, b⟩ s).part n))) ∧
      (¬ (term.lo = 0 ∧ b = 0) → ¬ ((term.times ⟨a, b⟩ s).part n).hi ≤ 1 → ExJ s ⟨a, b⟩ R g (sum.plus ((term.times ⟨a, b⟩ s).part n)) ((term.times ⟨a, b⟩ s).part n) (n + 1)) ∧
      R = (if term.lo = 0 ∧ b = 0 then (sum, term) else if ((term.times ⟨a, b⟩ s).part n).hi ≤ 1 then (sum.plus ((term.times ⟨a, b⟩ s).part n), (term.times ⟨a, b⟩ s).part n) else exLoop s ⟨a, b⟩ g (sum.plus ((term.times ⟨a, b⟩ s).part n)) ((term.times ⟨a, b⟩ s).part n) (n + 1)) ∧ n ≤ 9003 := fun f sum term n hj => by
    obtain ⟨g, rfl⟩ := hj.fuel
    obtain ⟨a1, a2, a3, a4, a5, a6⟩ := hj.next hx
    have hst := hj.step hx
    have hc := hj.c
    have hone := hj.one
    have hr := hj.res
    unfold exLoop at hr
    have b1 := bits_two hj.lo
    have b2 := bits_two hj.hi
    have b3 := bits_mul hj.slo (by omega)
    have b4 := bits_mul hj.shi (by omega)
    have b5 := bits_two a1
    have b6 := bits_two a2
    have b7 := bits_mul a3 (by omega)
    have b8 := bits_mul a4 (by omega)
    have b9 := bits_two a5
    have b10 := bits_two a6
    have b11 := bits_two hx.1
    have b12 := bits_two hx.2
    dsimp only at b11 b12
    have pt : PLe term 9100 := ⟨by omega, by omega⟩
    have ps : PLe sum 9100 := ⟨by omega, by omega⟩
    have p1 : PLe (term.times ⟨a, b⟩ s) 9100 := ⟨by omega, by omega⟩
    have p2 : PLe ((term.times ⟨a, b⟩ s).part n) 9100 := ⟨by omega, by omega⟩
    have p3 : PLe (sum.plus ((term.times ⟨a, b⟩ s).part n)) 9100 := ⟨by omega, by omega⟩
    refine ⟨g, rfl, k_Bits (num_bits (by omega)), k_Bits (num_bits (by omega)), p_times pt ⟨by show bitLen a ≤ _; omega, by show bitLen b ≤ _; omega⟩ (by omega) s, p_by p1 (by omega) (Nat.lt_of_le_of_lt (show n ≤ 9003 by omega) (by decide)) (by omega), p_plus ps p2 (by omega), k_Bits (num_bits (by omega)), p_rest ps pt (by omega), p_rest p3 p2 (by omega), hst, hr.symm, by omega⟩
  simp only [pnv, NN, NL] at k2 k3 k4 k5 k6 k7 kl ⊢
  refine PC.of_body follows Tryz.func111 (by decide +kernel) rfl (by kernel_rfl) (Nat.le_of_ble_eq_true rfl) (walk ?_)
  simp only [Tryz.f111, go_sem]
  refine qcall_i (k1) ?_; simp only [Tryz.f111, go_sem]
  refine qcall_i (k2) ?_; simp only [Tryz.f111, go_sem]
  refine qif_df hf2 ?_
  simp only [Tryz.f111, go_sem]
  refine qcall_i (k3) ?_; simp only [Tryz.f111, go_sem]
  refine qcall_i (k4) ?_; simp only [Tryz.f111, go_sem]
  refine qcall_i (k5) ?_; simp only [Tryz.f111, go_sem]
  refine qif_df hf5 ?_
  simp only [Tryz.f111, go_sem]
  refine qcall_i (k6) ?_; simp only [Tryz.f111, go_sem]
  refine qcall_i (k7) ?_; simp only [Tryz.f111, go_sem]
  clear k1 k2 k3 k4 k5 k6 k7
  refine PLoop.intro (fun i : Nat × PN × PN × Nat => ⟨[(2, .val (.int .i64 s)), (11, .ptr 11 0), (12, .ptr 12 0), (13, .ptr 13 0), (14, .val (.int .u64 i.2.2.2))],
    [(11, (.box [.lst (dg W a).length (U (dg W a)), .lst (dg W b).length (U (dg W b))], false)), (12, (.box [.lst (dg W i.2.1.lo).length (U (dg W i.2.1.lo)), .lst (dg W i.2.1.hi).length (U (dg W i.2.1.hi))], false)),
     (13, (.box [.lst (dg W i.2.2.1.lo).length (U (dg W i.2.2.1.lo)), .lst (dg W i.2.2.1.hi).length (U (dg W i.2.2.1.hi))], false))]⟩)
    (fun i => ExJ s ⟨a, b⟩ R i.1 i.2.1 i.2.2.1 i.2.2.2) (fun i => i.1) (s + 2, ⟨2 ^ s, 2 ^ s⟩, ⟨2 ^ s, 2 ^ s⟩, 1) hJ ?_ fun i hi => walk ?_
  · simp [Wk, sget, killL, kill1, SV.key]
  obtain ⟨f, sum, term, n⟩ := i
  dsimp only at hi
  obtain ⟨g, rfl, l1, l2, l3, l4, l5, l6, l7, l8, l9, l10, l11⟩ := kl f sum term n hi
  clear kl
  have wn : IntKind.wrap .u64 ((n : Int) + 1) = ((n + 1 : Nat) : Int) := wrap_nat64 (a := n + 1) (Nat.lt_of_le_of_lt (show n + 1 ≤ 9004 by omega) (by decide))
  have c1 := bitLen_le term.lo 9001
  have c2 := bitLen_le b 9001
  have q1 := bits_two hi.lo
  have q2 := bits_two hx.2
  dsimp only at q2
  have wb : IntKind.wrap .i64 ((bitLen term.lo : Int) + (bitLen b : Int)) = (bitLen term.lo : Int) + (bitLen b : Int) := wrap64 (by omega) (by omega)
  have z1 : bitLen term.lo = 0 ↔ term.lo = 0 := ⟨fun h => Decidable.byContradiction fun h' => by have := bitLen_pos h'; omega, fun h => by rw [h]; rfl⟩
  have z2 : bitLen b = 0 ↔ b = 0 := ⟨fun h => Decidable.byContradiction fun h' => by have := bitLen_pos h'; omega, fun h => by rw [h]; rfl⟩
  simp only [Tryz.f111, go_sem]
  refine qcall_i (l1) ?_; simp only [Tryz.f111, go_sem]
  refine qcall_i (l2) ?_; simp only [Tryz.f111, wb, go_sem]
  by_cases h0 : term.lo = 0 ∧ b = 0
  · rw [if_pos h0] at l10
    refine qif_df (by omega) ?_
    simp only [Tryz.f111, go_sem]
    refine qcall_i (l7) ?_; simp only [Tryz.f111, go_sem]
    subst l10
    exact ⟨⟨rfl, rfl⟩, rfl, rfl⟩
  rw [if_neg h0] at l10
  refine qif_dt (by omega) ?_
  simp only [Tryz.f111, go_sem]
  refine qcall_i (l3) ?_; simp only [Tryz.f111, go_sem]
  refine qcall_i (l4) ?_; simp only [Tryz.f111, go_sem]
  refine qcall_i (l5) ?_; simp only [Tryz.f111, go_sem]
  refine qcall_i (l6) ?_; simp only [Tryz.f111, go_sem]
  have hb1 := bits_le_one ((term.times ⟨a, b⟩ s).part n).hi
  by_cases h1 : ((term.times ⟨a, b⟩ s).part n).hi ≤ 1
  · rw [if_pos h1] at l10
    refine qif_dt (by omega) ?_
    simp only [Tryz.f111, go_sem]
    refine qcall_i (l8) ?_; simp only [Tryz.f111, go_sem]
    subst l10
    exact ⟨⟨rfl, rfl⟩, rfl, rfl⟩
  · have hj := l9 h0 h1
    refine qif_df (by omega) ?_
    simp only [Tryz.f111, wn, go_sem]
    refine ⟨(g, sum.plus ((term.times ⟨a, b⟩ s).part n), (term.times ⟨a, b⟩ s).part n, n + 1), hj, Nat.lt_succ_self g, ?_⟩
    simp [Wk, sget, killL, kill1, SV.key]
def withinS (lo hi : Nat) (s : Int) (neg : Bool) : Iv := if 0 < cmpD (mkD neg lo (-s)) (mkD neg hi (-s)) then ⟨mkD neg hi (-s), mkD neg lo (-s)⟩ else ⟨mkD neg lo (-s), mkD neg hi (-s)⟩
theorem withinS_lim {lo hi n J : Nat} {s : Int} (neg : Bool) (h1 : bitLen lo ≤ n) (h2 : bitLen hi ≤ n) (hs : -(J : Int) ≤ s ∧ s ≤ J) (hJ : n + J ≤ 1000000) : (withinS lo hi s neg).lim (n + J) := by
  have a1 : Lim (n + J) (mkD neg lo (-s)) := Lim.mk h1 (by omega) hJ
  have a2 : Lim (n + J) (mkD neg hi (-s)) := Lim.mk h2 (by omega) hJ
  unfold withinS
  split
  · exact ⟨a2, a1⟩
  · exact ⟨a1, a2⟩
theorem okD_of {d : Dy} (h : d.fits) : okD d = .tuple [d.pv, .int .i64 0] := if_pos h
theorem s_Within {lo hi n J : Nat} {s : Int} (neg : Bool) (h1 : bitLen lo ≤ n) (h2 : bitLen hi ≤ n) (hs : -(J : Int) ≤ s ∧ s ≤ J) (hJ : n + J ≤ 400000) : PC E 112 [NN lo, NN hi, .int .i64 s, .bool neg] (withinS lo hi s neg).pv := by
  have a1 : Lim (n + J) (mkD neg lo (-s)) := Lim.mk h1 (by omega) (by omega)
  have a2 : Lim (n + J) (mkD neg hi (-s)) := Lim.mk h2 (by omega) (by omega)
  have k1 := r_Make (num_bits (x := lo) (by omega)) (by omega) neg (-s)
  have k2 := r_Make (num_bits (x := hi) (by omega)) (by omega) neg (-s)
  rw [okD_of (a1.fits (by omega))] at k1
  rw [okD_of (a2.fits (by omega))] at k2
  have k3 := r_Cmp (a1.RD (by omega)) (a2.RD (by omega))
  have wn : IntKind.wrap .i64 (0 - s) = -s := by rw [wrap64 (by omega) (by omega)]; omega
  unfold withinS
  by_cases hc : 0 < cmpD (mkD neg lo (-s)) (mkD neg hi (-s))
  · rw [if_pos hc]
    generalize mkD neg lo (-s) = A at *
    generalize mkD neg hi (-s) = B at *
    simp only [Iv.pv, Dy.pv, DP, NN, NL] at k1 k2 k3 ⊢
    refine PC.of_body follows Tryz.func112 (by decide +kernel) rfl (by kernel_rfl) (Nat.le_of_ble_eq_true rfl) (walk ?_)
    simp only [Tryz.f112, wn, go_sem]
    refine qcall_i (k1) ?_; simp only [Tryz.f112, wn, go_sem]
    refine qcall_i (k2) ?_; simp only [Tryz.f112, wn, go_sem]
    refine qcall_i (k3) ?_; simp only [Tryz.f112, go_sem]
    refine qif_dt hc ?_
    simp only [Tryz.f112, go_sem]
    try rfl
  · rw [if_neg hc]
    generalize mkD neg lo (-s) = A at *
    generalize mkD neg hi (-s) = B at *
    simp only [Iv.pv, Dy.pv, DP, NN, NL] at k1 k2 k3 ⊢
    refine PC.of_body follows Tryz.func112 (by decide +kernel) rfl (by kernel_rfl) (Nat.le_of_ble_eq_true rfl) (walk ?_)
    simp only [Tryz.f112, wn, go_sem]
    refine qcall_i (k1) ?_; simp only [Tryz.f112, wn, go_sem]
    refine qcall_i (k2) ?_; simp only [Tryz.f112, wn, go_sem]
    refine qcall_i (k3) ?_; simp only [Tryz.f112, go_sem]
    refine qif_df hc ?_
    simp only [Tryz.f112, go_sem]
    try rfl
end
section
open Go PG Go.Proofs
set_option maxRecDepth 100000
set_option linter.unusedSimpArgs false
set_option linter.unusedVariables false
open XX
def nUp (m : Nat) : Bool := decide (3 * 2 ^ (bitLen m - 1) ≤ 2 * m)
def nOne (m : Nat) : Nat := if nUp m = true then 2 ^ (bitLen m - 1) + 2 ^ (bitLen m - 1) else 2 ^ (bitLen m - 1)
def nE (d : Dy) : Int := if nUp d.m = true then d.top + 1 else d.top
def nDen (m : Nat) : Nat := m + nOne m
def nNum (m : Nat) : Nat := if m < nOne m then nOne m - m else m - nOne m
def nNeg (m : Nat) : Bool := decide (m < nOne m)
structure LgOk (d : Dy) : Prop where
  ok : d.ok
  pos : d.s = false
  m0 : d.m ≠ 0
  bits : bitLen d.m ≤ 4000
  top : -1048576 ≤ d.top ∧ d.top ≤ 1048576
theorem LgOk.e {d : Dy} (h : LgOk d) : -1052576 ≤ d.e ∧ d.e ≤ 1048576 := by
  have h1 := h.top
  have h2 := h.bits
  have h3 := bitLen_pos h.m0
  unfold Dy.top at h1
  rw [if_neg h.m0] at h1
  omega
theorem LgOk.fits {d : Dy} (h : LgOk d) : d.fits := by
  have := h.e
  constructor <;> omega
theorem LgOk.sg {d : Dy} (h : LgOk d) : d.sg = 1 := by
  unfold Dy.sg; rw [if_neg h.m0, h.pos]; rfl
theorem m_range {m : Nat} (h : m ≠ 0) : 2 ^ (bitLen m - 1) ≤ m ∧ m < 2 * 2 ^ (bitLen m - 1) := by
  have h1 := bitLen_pos h
  have h2 := (bitLen_le m (bitLen m)).1 (Nat.le_refl _)
  have h3 : ¬ m < 2 ^ (bitLen m - 1) := fun h' => by
    have := (bitLen_le m (bitLen m - 1)).2 h'
    omega
  refine ⟨by omega, ?_⟩
  rw [show 2 * 2 ^ (bitLen m - 1) = 2 ^ (bitLen m) by rw [Nat.mul_comm, ← Nat.pow_succ]; congr 1; omega]
  exact h2
theorem near_facts {m : Nat} (h : m ≠ 0) : 0 < nDen m ∧ 3 * nNum m ≤ nDen m := by
  obtain ⟨h1, h2⟩ := m_range h
  unfold nDen nNum nOne nUp
  generalize 2 ^ (bitLen m - 1) = P at *
  by_cases hu : 3 * P ≤ 2 * m
  · rw [decide_eq_true hu, if_pos rfl]
    constructor
    · omega
    · split <;> omega
  · rw [decide_eq_false hu, if_neg (by decide)]
    constructor
    · omega
    · split <;> omega
theorem near_bits {m n : Nat} (h : m ≠ 0) (hb : bitLen m ≤ n) : bitLen (nOne m) ≤ n + 1 ∧ bitLen (nDen m) ≤ n + 2 ∧ bitLen (nNum m) ≤ n + 1 := by
  obtain ⟨h1, h2⟩ := m_range h
  have hO : nOne m ≤ m + m := by unfold nOne; split <;> omega
  have b1 := bitLen_add hb hb
  have b2 := bitLen_add b1 b1
  refine ⟨Nat.le_trans (bitLen_mono hO) b1, Nat.le_trans (bitLen_mono (show nDen m ≤ m + m + (m + m) by unfold nDen; omega)) b2, Nat.le_trans (bitLen_mono (show nNum m ≤ m + m by unfold nNum; split <;> omega)) b1⟩
theorem bit1 : bitLen 1 = 1 := by decide
set_option maxHeartbeats 4000000 in
theorem g_Near {p : PV} {d : Dy} (h : RD p d) (hl : LgOk d) : PC E 113 [p] (.tuple [NN (nNum d.m), NN (nDen d.m), .bool (nNeg d.m), .int .i64 (nE d), .bool true]) := by
  have k1 := r_Bare h
  rw [okD_of hl.fits] at k1
  have hR : RD d.pv d := RD.fit hl.ok (by have := hl.bits; omega) hl.fits
  have k2 := r_Top hR
  rw [decide_eq_true hl.m0] at k2
  have k3 := r_Sign hR
  rw [hl.sg] at k3
  have hb := hl.bits
  have hb0 := bitLen_pos hl.m0
  have ht := hl.top
  have k4 := k_Bits (num_bits (x := d.m) (by omega))
  have k5 := u_one
  have k6 := k_Shln (num_bits (x := 1) (by decide)) (bitLen d.m - 1) (by rw [bit1]; omega)
  rw [Nat.one_mul] at k6
  have hP : bitLen (2 ^ (bitLen d.m - 1)) ≤ 4001 := Nat.le_trans (bitLen_two2 _) (by omega)
  obtain ⟨n1, n2, n3⟩ := near_bits hl.m0 hb
  have k7 := k_Add (num_bits (x := d.m) (by omega)) (num_bits (x := d.m) (by omega))
  have k8 := k_Add (num_bits (x := 2 ^ (bitLen d.m - 1)) (by omega)) (num_bits (x := 2 ^ (bitLen d.m - 1)) (by omega))
  have bA := bitLen_add (x := 2 ^ (bitLen d.m - 1)) (y := 2 ^ (bitLen d.m - 1)) hP hP
  have k9 := k_Add (num_bits (x := 2 ^ (bitLen d.m - 1)) (by omega)) (num_bits (x := 2 ^ (bitLen d.m - 1) + 2 ^ (bitLen d.m - 1)) (by omega))
  have bB := bitLen_add (x := 2 ^ (bitLen d.m - 1)) (y := 2 ^ (bitLen d.m - 1) + 2 ^ (bitLen d.m - 1)) (n := 4002) (by omega) bA
  have bM := bitLen_add (x := d.m) (y := d.m) hb hb
  have k10 := k_Cmp (num_bits (x := d.m + d.m) (by omega)) (num_bits (x := 2 ^ (bitLen d.m - 1) + (2 ^ (bitLen d.m - 1) + 2 ^ (bitLen d.m - 1))) (by omega))
  have wb : IntKind.wrap .i64 ((bitLen d.m : Int) - 1) = ((bitLen d.m - 1 : Nat) : Int) := by rw [wrap64 (by omega) (by omega)]; omega
  have wt : IntKind.wrap .i64 (d.top + 1) = d.top + 1 := wrap64 (by omega) (by omega)
  have hg : (sgn ((d.m + d.m : Nat) : Int) ((2 ^ (bitLen d.m - 1) + (2 ^ (bitLen d.m - 1) + 2 ^ (bitLen d.m - 1)) : Nat) : Int) ≥ 0) ↔ 3 * 2 ^ (bitLen d.m - 1) ≤ 2 * d.m := by
    have := sgn_neg ((d.m + d.m : Nat) : Int) ((2 ^ (bitLen d.m - 1) + (2 ^ (bitLen d.m - 1) + 2 ^ (bitLen d.m - 1)) : Nat) : Int)
    generalize sgn ((d.m + d.m : Nat) : Int) ((2 ^ (bitLen d.m - 1) + (2 ^ (bitLen d.m - 1) + 2 ^ (bitLen d.m - 1)) : Nat) : Int) = g at *
    generalize 2 ^ (bitLen d.m - 1) = P at *
    constructor <;> intro h' <;> omega
  -- the fraction
  have k11 := k_Add (num_bits (x := d.m) (by omega)) (num_bits (x := nOne d.m) (by omega))
  have k12 : d.m < nOne d.m → PC E 188 [NN d.m, NN (nOne d.m)] (.tuple [.lst 0 [], .int .i64 1]) := fun hlt => k_Sub_lt (num_bits (by omega)) (num_bits (by omega)) hlt
  have k13 : d.m < nOne d.m → PC E 188 [NN (nOne d.m), NN d.m] (.tuple [NN (nOne d.m - d.m), .int .i64 0]) := fun hlt => k_Sub (num_bits (by omega)) (num_bits (by omega)) (by omega)
  have k14 : ¬ d.m < nOne d.m → PC E 188 [NN d.m, NN (nOne d.m)] (.tuple [NN (d.m - nOne d.m), .int .i64 0]) := fun hlt => k_Sub (num_bits (by omega)) (num_bits (by omega)) (by omega)
  obtain ⟨s, q, x, e, rfl, -⟩ := h
  have hE : nE d = if nUp d.m = true then d.top + 1 else d.top := rfl
  have hO : nOne d.m = if nUp d.m = true then 2 ^ (bitLen d.m - 1) + 2 ^ (bitLen d.m - 1) else 2 ^ (bitLen d.m - 1) := rfl
  have hU : nUp d.m = decide (3 * 2 ^ (bitLen d.m - 1) ≤ 2 * d.m) := rfl
  have hN : nNum d.m = if d.m < nOne d.m then nOne d.m - d.m else d.m - nOne d.m := rfl
  have hD : nDen d.m = d.m + nOne d.m := rfl
  have hG : nNeg d.m = decide (d.m < nOne d.m) := rfl
  rw [hE, hN, hD, hG]
  obtain ⟨R, hR'⟩ : ∃ R, R = PV.tuple [NN (if d.m < nOne d.m then nOne d.m - d.m else d.m - nOne d.m), NN (d.m + nOne d.m), .bool (decide (d.m < nOne d.m)), .int .i64 (if nUp d.m = true then d.top + 1 else d.top), .bool true] := ⟨_, rfl⟩
  rw [← hR']
  clear hE hN hD hG n1 n2 n3 bA bB bM hP
  generalize nOne d.m = O at *
  generalize hpp : 2 ^ (bitLen d.m - 1) = P at *
  simp only [DP, Dy.pv, NN, NL] at k1 k2 k3 k4 k5 k6 k7 k8 k9 k10 k11 k12 k13 k14 hR' ⊢
  refine PC.of_body follows Tryz.func113 (by decide +kernel) rfl (by kernel_rfl) (Nat.le_of_ble_eq_true rfl) (walk ?_)
  simp only [Tryz.f113, go_sem]
  refine qcall_i (k1) ?_; simp only [Tryz.f113, go_sem]
  refine qcall_i (k2) ?_; simp only [Tryz.f113, go_sem]
  refine qcall_i (k3) ?_; simp only [Tryz.f113, go_sem]
  refine qcall_i (k4) ?_; simp only [Tryz.f113, go_sem]
  refine qif_df (by omega) ?_
  simp only [Tryz.f113, go_sem]
  refine qif_df (by omega) ?_
  simp only [Tryz.f113, go_sem]
  refine qif_df (by omega) ?_
  simp only [Tryz.f113, go_sem]
  refine qcall_i (k4) ?_; simp only [Tryz.f113, wb, go_sem]
  refine qcall_i (k5) ?_; simp only [Tryz.f113, go_sem]
  refine qcall_i (k6) ?_; simp only [Tryz.f113, go_sem]
  refine qcall_i (k7) ?_; simp only [Tryz.f113, go_sem]
  refine qcall_i (k8) ?_; simp only [Tryz.f113, go_sem]
  refine qcall_i (k9) ?_; simp only [Tryz.f113, go_sem]
  refine qcall_i (k10) ?_; simp only [Tryz.f113, go_sem]
  by_cases hu : 3 * P ≤ 2 * d.m
  · rw [decide_eq_true hu] at hU
    rw [hU, if_pos rfl] at hO
    rw [hU, if_pos rfl] at hR'
    subst hO
    refine qif_dt (hg.2 hu) ?_
    simp only [Tryz.f113, go_sem]
    refine qcall_i (k8) ?_; simp only [Tryz.f113, wt, go_sem]
    refine qcall_i (k11) ?_; simp only [Tryz.f113, go_sem]
    by_cases hlt : d.m < P + P
    · rw [decide_eq_true hlt, if_pos hlt] at hR'
      subst hR'
      have q1 := k12 hlt
      have q2 := k13 hlt
      refine qcall_i (q1) ?_; simp only [Tryz.f113, go_sem]
      refine qcall_i (q2) ?_; simp only [Tryz.f113, go_sem]
      try rfl
    · rw [decide_eq_false hlt, if_neg hlt] at hR'
      subst hR'
      have q1 := k14 hlt
      refine qcall_i (q1) ?_; simp only [Tryz.f113, go_sem]
      try rfl
  · rw [decide_eq_false hu] at hU
    rw [hU, if_neg Bool.false_ne_true] at hO
    rw [hU, if_neg Bool.false_ne_true] at hR'
    subst hO
    refine qif_df (fun h' => hu (hg.1 h')) ?_
    simp only [Tryz.f113, go_sem]
    refine qcall_i (k11) ?_; simp only [Tryz.f113, go_sem]
    by_cases hlt : d.m < O
    · rw [decide_eq_true hlt, if_pos hlt] at hR'
      subst hR'
      have q1 := k12 hlt
      have q2 := k13 hlt
      refine qcall_i (q1) ?_; simp only [Tryz.f113, go_sem]
      refine qcall_i (q2) ?_; simp only [Tryz.f113, go_sem]
      try rfl
    · rw [decide_eq_false hlt, if_neg hlt] at hR'
      subst hR'
      have q1 := k14 hlt
      refine qcall_i (q1) ?_; simp only [Tryz.f113, go_sem]
      try rfl
end
section
open Go PG Go.Proofs
set_option maxRecDepth 100000
set_option linter.unusedSimpArgs false
set_option linter.unusedVariables false
open XX
theorem k_times {x n : Nat} (hx : bitLen x ≤ 60000) (hn : n < W) : PC E 189 [NN x, .int .u64 n] (.tuple [NN (x * n), .int .i64 0]) := by
  have k1 := c_Of n hn
  have hb : bitLen n ≤ 64 := (bitLen_le _ _).2 hn
  have k2 := k_mul (num_bits (x := x) (by omega)) (num_bits (x := n) (by omega)) (by omega)
  simp only [u, NN, NL] at k1 k2 ⊢
  refine PC.of_body follows Tryz.func189 (by decide +kernel) rfl (by kernel_rfl) (Nat.le_of_ble_eq_true rfl) (walk ?_)
  simp only [Tryz.f189, go_sem]
  refine qcall_i (k1) ?_; simp only [Tryz.f189, go_sem]
  refine qcall_i (k2) ?_; simp only [Tryz.f189, go_sem]
  try rfl
def partV (lo hi : Nat) (neg : Bool) : PV := .agg [NN lo, NN hi, .bool neg]
theorem g_times {lo hi : Nat} (h1 : bitLen lo ≤ 30000) (h2 : bitLen hi ≤ 30000) {n : Int} (hn : -1073741824 ≤ n ∧ n ≤ 1073741824) :
    PC E 115 [NN lo, NN hi, .int .i64 n] (partV (lo * n.natAbs) (hi * n.natAbs) (decide (n < 0))) := by
  have hW : n.natAbs < W := Nat.lt_of_le_of_lt (show n.natAbs ≤ 1073741824 by omega) (by decide)
  have k1 := k_times (x := lo) (n := n.natAbs) (by omega) hW
  have k2 := k_times (x := hi) (n := n.natAbs) (by omega) hW
  have wn : IntKind.wrap .i64 (0 - n) = -n := by rw [wrap64 (by omega) (by omega)]; omega
  have wu := wrap_nat64 hW
  unfold partV
  simp only [NN, NL] at k1 k2 ⊢
  by_cases h : n < 0
  · rw [decide_eq_true h]
    have e : -n = ((n.natAbs : Nat) : Int) := by omega
    refine PC.of_body follows Tryz.func115 (by decide +kernel) rfl (by kernel_rfl) (Nat.le_of_ble_eq_true rfl) (walk ?_)
    simp only [Tryz.f115, go_sem]
    refine qif_dt h ?_
    simp only [Tryz.f115, wn, e, wu, go_sem]
    refine qcall_i (k1) ?_; simp only [Tryz.f115, wn, e, wu, go_sem]
    refine qcall_i (k2) ?_; simp only [Tryz.f115, wn, e, wu, go_sem]
    simp only [decide_eq_true h]
    try exact ⟨⟨rfl, rfl⟩, rfl, rfl⟩
    try rfl
  · rw [decide_eq_false h]
    obtain ⟨k, rfl⟩ : ∃ k : Nat, n = k := ⟨n.natAbs, by omega⟩
    simp only [Int.natAbs_natCast] at k1 k2 wu ⊢
    refine PC.of_body follows Tryz.func115 (by decide +kernel) rfl (by kernel_rfl) (Nat.le_of_ble_eq_true rfl) (walk ?_)
    simp only [Tryz.f115, go_sem]
    refine qif_df h ?_
    simp only [Tryz.f115, wu, go_sem]
    refine qcall_i (k1) ?_; simp only [Tryz.f115, wu, go_sem]
    refine qcall_i (k2) ?_; simp only [Tryz.f115, wu, go_sem]
    simp only [decide_eq_false h]
    try exact ⟨⟨rfl, rfl⟩, rfl, rfl⟩
    try rfl
theorem g_ends {lo hi n J : Nat} {s : Int} (neg : Bool) (h1 : bitLen lo ≤ n) (h2 : bitLen hi ≤ n) (hs : -(J : Int) ≤ s ∧ s ≤ J) (hJ : n + J ≤ 400000) :
    PC E 117 [partV lo hi neg, .int .i64 s] (withinS lo hi s neg).pv := by
  have k1 := s_Within neg h1 h2 hs hJ
  unfold partV
  generalize withinS lo hi s neg = R at *
  simp only [Iv.pv, NN, NL] at k1 ⊢
  refine PC.of_body follows Tryz.func117 (by decide +kernel) rfl (by kernel_rfl) (Nat.le_of_ble_eq_true rfl) (walk ?_)
  simp only [Tryz.f117, go_sem]
  refine qcall_i (k1) ?_; simp only [Tryz.f117, go_sem]
  try rfl
def logX (d : Dy) (s : Nat) : Iv := withinS ((atanhS (nNum d.m) (nDen d.m) s).lo * 2) ((atanhS (nNum d.m) (nDen d.m) s).hi * 2) s (nNeg d.m)
def logY (d : Dy) (s : Nat) : Iv := withinS ((ln2S s).lo * (nE d).natAbs) ((ln2S s).hi * (nE d).natAbs) s (decide (nE d < 0))
def logS (d : Dy) (s : Nat) : Iv := addI (logX d s) (logY d s)
theorem nE_range {d : Dy} (hl : LgOk d) : -1048576 ≤ nE d ∧ nE d ≤ 1048577 := by
  have := hl.top
  unfold nE
  split <;> omega
theorem mul_bits {x y a b : Nat} (h1 : bitLen x ≤ a) (h2 : bitLen y ≤ b) : bitLen (x * y) ≤ a + b := Nat.le_trans (bitLen_mul_le x y) (by omega)
theorem logX_bits {d : Dy} (hl : LgOk d) {s : Nat} (hs : s ≤ 9000) : bitLen ((atanhS (nNum d.m) (nDen d.m) s).lo * 2) ≤ 9050 ∧ bitLen ((atanhS (nNum d.m) (nDen d.m) s).hi * 2) ≤ 9050 := by
  obtain ⟨h1, h2⟩ := near_facts hl.m0
  obtain ⟨b1, b2⟩ := atanhS_bits (s := s) h1 h2 hs
  exact ⟨Nat.le_trans (mul_bits b1 (show bitLen 2 ≤ 2 by decide)) (by omega), Nat.le_trans (mul_bits b2 (show bitLen 2 ≤ 2 by decide)) (by omega)⟩
theorem logY_bits {d : Dy} (hl : LgOk d) {s : Nat} (hs : s ≤ 9000) : bitLen ((ln2S s).lo * (nE d).natAbs) ≤ 9050 ∧ bitLen ((ln2S s).hi * (nE d).natAbs) ≤ 9050 := by
  have he := nE_range hl
  obtain ⟨b1, b2⟩ := ln2S_bits hs
  have b3 : bitLen (nE d).natAbs ≤ 21 := (bitLen_le _ _).2 (Nat.lt_of_le_of_lt (show (nE d).natAbs ≤ 1048577 by omega) (by decide))
  exact ⟨Nat.le_trans (mul_bits b1 b3) (by omega), Nat.le_trans (mul_bits b2 b3) (by omega)⟩
theorem logX_lim {d : Dy} (hl : LgOk d) {s : Nat} (hs : s ≤ 9000) : (logX d s).lim 18050 := by
  obtain ⟨b1, b2⟩ := logX_bits hl hs
  exact withinS_lim (n := 9050) (J := 9000) _ b1 b2 ⟨by omega, by omega⟩ (by decide)
theorem logY_lim {d : Dy} (hl : LgOk d) {s : Nat} (hs : s ≤ 9000) : (logY d s).lim 18050 := by
  obtain ⟨b1, b2⟩ := logY_bits hl hs
  exact withinS_lim (n := 9050) (J := 9000) _ b1 b2 ⟨by omega, by omega⟩ (by decide)
theorem logS_lim {d : Dy} (hl : LgOk d) {s : Nat} (hs : s ≤ 9000) : (logS d s).lim 18051 := (logX_lim hl hs).add (logY_lim hl hs) (by decide)
set_option maxHeartbeats 4000000 in
theorem g_Log {p : PV} {d : Dy} (h : RD p d) (hl : LgOk d) {s : Nat} (h8 : 8 ≤ s) (hs : s ≤ 9000) : PC E 58 [p, .int .i64 s] (.tuple [(logS d s).pv, .int .i64 0]) := by
  have k1 := g_Near h hl
  obtain ⟨h1, h2⟩ := near_facts hl.m0
  obtain ⟨c1, c2, c3⟩ := near_bits hl.m0 hl.bits
  have k2 := s_Atanh (num := nNum d.m) (den := nDen d.m) (by omega) (by omega) h1 h2 h8 hs
  obtain ⟨b1, b2⟩ := atanhS_bits (s := s) h1 h2 hs
  have k3 := g_times (lo := (atanhS (nNum d.m) (nDen d.m) s).lo) (hi := (atanhS (nNum d.m) (nDen d.m) s).hi) (by omega) (by omega) (n := 2) (by decide)
  have k4 := s_Ln2 h8 hs
  obtain ⟨b3, b4⟩ := ln2S_bits hs
  obtain ⟨x1, x2⟩ := logX_bits hl hs
  obtain ⟨y1, y2⟩ := logY_bits hl hs
  have he := nE_range hl
  have k5 := g_ends (n := 9050) (J := 9000) (s := s) (nNeg d.m) x1 x2 ⟨by omega, by omega⟩ (by decide)
  have k6 := g_times (lo := (ln2S s).lo) (hi := (ln2S s).hi) (by omega) (by omega) (n := nE d) (by omega)
  have k7 := g_ends (n := 9050) (J := 9000) (s := s) (decide (nE d < 0)) y1 y2 ⟨by omega, by omega⟩ (by decide)
  have lX := logX_lim hl hs
  have lY := logY_lim hl hs
  have k8 := r_Add (lX.1.RD (by decide)) (lY.1.RD (by decide))
  rw [addV_lim lX.1 lY.1 (by decide)] at k8
  have k9 := r_Add (lX.2.RD (by decide)) (lY.2.RD (by decide))
  rw [addV_lim lX.2 lY.2 (by decide)] at k9
  have e2 : (2 : Int).natAbs = 2 := rfl
  rw [e2, show decide ((2 : Int) < 0) = false from rfl] at k3
  have eX : withinS ((atanhS (nNum d.m) (nDen d.m) s).lo * 2) ((atanhS (nNum d.m) (nDen d.m) s).hi * 2) s (nNeg d.m) = logX d s := rfl
  have eY : withinS ((ln2S s).lo * (nE d).natAbs) ((ln2S s).hi * (nE d).natAbs) s (decide (nE d < 0)) = logY d s := rfl
  rw [eX] at k5
  rw [eY] at k7
  show PC E _ _ (.tuple [(Iv.mk (addS (logX d s).lo (logY d s).lo) (addS (logX d s).hi (logY d s).hi)).pv, .int .i64 0])
  clear eX eY lX lY x1 x2 y1 y2 b1 b2 b3 b4 c1 c2 c3
  generalize logX d s = X at *
  generalize logY d s = Y at *
  generalize addS X.lo Y.lo = L at *
  generalize addS X.hi Y.hi = H at *
  generalize decide (nE d < 0) = ng at *
  generalize (ln2S s).lo * (nE d).natAbs = A1 at *
  generalize (ln2S s).hi * (nE d).natAbs = A2 at *
  generalize (ln2S s).lo = A3 at *
  generalize (ln2S s).hi = A4 at *
  generalize (atanhS (nNum d.m) (nDen d.m) s).lo * 2 = A5 at *
  generalize (atanhS (nNum d.m) (nDen d.m) s).hi * 2 = A6 at *
  generalize (atanhS (nNum d.m) (nDen d.m) s).lo = A7 at *
  generalize (atanhS (nNum d.m) (nDen d.m) s).hi = A8 at *
  generalize nNum d.m = A9 at *
  generalize nDen d.m = A10 at *
  generalize nNeg d.m = A11 at *
  generalize nE d = A12 at *
  obtain ⟨s0, q, x, e, rfl, -⟩ := h
  simp only [partV, Iv.pv, Dy.pv, DP, NN, NL] at k1 k2 k3 k4 k5 k6 k7 k8 k9 ⊢
  refine PC.of_body follows Tryz.func58 (by decide +kernel) rfl (by kernel_rfl) (Nat.le_of_ble_eq_true rfl) (walk ?_)
  simp only [Tryz.f58, go_sem]
  refine qcall_i (k1) ?_; simp only [Tryz.f58, go_sem]
  refine qcall_i (k2) ?_; simp only [Tryz.f58, go_sem]
  refine qcall_i (k3) ?_; simp only [Tryz.f58, go_sem]
  refine qcall_i (k4) ?_; simp only [Tryz.f58, go_sem]
  refine qcall_i (k5) ?_; simp only [Tryz.f58, go_sem]
  refine qcall_i (k6) ?_; simp only [Tryz.f58, go_sem]
  refine qcall_i (k7) ?_; simp only [Tryz.f58, go_sem]
  refine qcall_i (k8) ?_; simp only [Tryz.f58, go_sem]
  refine qcall_i (k9) ?_; simp only [Tryz.f58, go_sem]
  try rfl
end
end Go.Proofs.YtfkgaldbcngliaaGreatDoor
