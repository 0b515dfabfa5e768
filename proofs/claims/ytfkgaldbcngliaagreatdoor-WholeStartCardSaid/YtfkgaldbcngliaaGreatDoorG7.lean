import Derived.Test.YtfkgaldbcngliaaGreatDoorGZ
import Derived.Test.YtfkgaldbcngliaaGreatDoorG6
open Go PG Go.Proofs
namespace Go.Proofs.YtfkgaldbcngliaaGreatDoor
attribute [local go_sem] Lay2 Lay3 Lay4 Lay5 Lay6 Lay7 Lay8 Lay9 Lay10 Lay11 Lay12 Lay13 Lay14 Lay15 Lay16 Lay17 Lay18 Lay19 Lay20 Lay21 Lay22 Lay26 Lay27 Lay28 Lay29 Lay31 Lay32 Lay33 Lay34 Lay35 Lay41 Lay42 Lay43 Lay47 Lay48 Lay60 Lay61 Lay62 Lay63 Lay64 Lay72 Lay73 Lay74 Lay83 Lay84 Lay86 Lay90 Lay91 Lay92 Lay93 Lay102 Lay103 Lay139 Lay143 Lay149 Lay158 Lay159 Lay160 Lay161 Lay162 Lay174 Lay175 Lay193 Lay207 Lay208 Lay209 Lay210 Lay228 Lay229 Lay237 Lay238 Lay265 Lay287 Lay295 Lay296 Lay297 Lay299 Lay301 Lay302 Lay303 Lay304 Lay305 Lay307 Lay308 Lay310 Lay311 Lay312 Lay315 Lay316 Lay317 qexec_seq qexec_skip qexec_exit qexec_ret qexec_block qexec_loop qexec_range qexec_cond qexec_region qexec_drawn qops_nil qops_none qops_some put_some put_none pblk_exit pblk_other newDsts_nil inlDsts_nil isInl sget_cons sget_nil qval_some qbool_some qgs_bool qgs_und qfree_some qgrd_true qgrd_false qif_true qif_false qval_ite qval_itn qand_true map_ite map_some' map_none' qdo_move qdo_assign qdo_binOp qdo_pick qdo_unOp qdo_convert qdo_extract qdo_makeInterface qdo_field qdo_fieldAddr qdo_alloc qdo_box qdo_build qdo_buildSlice qdo_load qdo_store qdo_nilCheck qdo_makeFunc qdo_makeSlice qdo_slice qdo_indexAddr qdo_call qcont_val qcont_new qcont_st qcont_app0 qcont_app qcont_inl qcont_call njSV_val njSV_nil njSV_row njSV_ptr njSV_sub binV_val binV_nil binV_nn binV_ptr bin_np bin_nnp nilCmp bin_add bin_sub bin_mul bin_quo bin_rem bin_and bin_or bin_xor bin_andNot bin_eql bin_neq bin_lss bin_leq bin_gtr bin_geq bin_shl bin_shr bin_seql bin_sneq bin_sadd bin_beql bin_aeql bin_aneq eqAnd_some eqCells_nil eqCells_cons fieldTypes isStruct eqCell bin_bneq un_not un_neg nj_ite Nat.beq stepA stepR isNew opSV constSV RV.sv allSome E_mu E_own qkeyIn_none qkeyIn_some qkeyAt_none qkeyAt_some Bool.or_false Bool.false_or Bool.or_true Bool.true_or cst setB res resSV pstart startL killL kill1 eraL frzL svPV rvPV rvInt rvSlice rvBytes frzOf close closeL pconv pbuiltin pmax2 partPV setCells fillPV zrow bound newSV PV.cells Bk.cells Bk.with SV.key pres presL_nil presL_tmp presL_cell presC2_some cellPV_ptr presC List.toList_toArray List.size_toArray List.getElem?_drop Nat.mul_one Int.toNat_natCast Nat.not_lt_zero Nat.lt_irrefl decide_true decide_false Nat.not_lt Option.some.injEq PV.lst.injEq PV.int.injEq PV.bool.injEq PV.tuple.injEq List.cons.injEq Option.map_some Option.map_none Option.bind_some Option.toList List.map_cons List.map_nil List.nil_append List.cons_append List.append_nil List.zip_cons_cons List.zip_nil_left List.zip_nil_right List.getElem?_cons_zero List.getElem?_cons_succ List.drop_zero List.drop_succ_cons List.take_succ_cons List.take_zero List.set_cons_zero List.set_cons_succ List.length_cons List.length_nil List.length_set List.replicate_one List.replicate_zero bne_self_eq_false beq_self_eq_true Nat.zero_add Nat.add_zero Nat.zero_mul Bool.false_eq_true Bool.true_eq_false Bool.not_true Bool.not_false and_true true_and false_and and_false or_false false_or or_true true_or not_true_eq_false not_false_eq_true ne_eq gt_iff_lt List.mem_cons List.not_mem_nil
attribute [local go_sem ↓] pseq_normal pseq_ret pseq_exit pblk_normal pblk_ret newDsts_cons inlDsts_cons gdst_zero gdst_succ retQ_normal retQ_ret qneed_nil qneed_cons retM_normal retM_ret endR_normal endR_ret endR_exit
attribute [local go_sem] Int.reduceToNat Int.reduceEq Int.reduceNe Int.reduceLT Int.reduceLE Int.reduceNeg Int.reduceAdd Nat.reduceEqDiff Nat.reduceAdd Nat.reduceSub Nat.reduceMul Nat.reduceLeDiff Nat.reduceLT
attribute [local go_sem ↓] reduceIte reduceCtorEq
section
open Go PG Go.Proofs Go.RowKit
set_option maxRecDepth 100000
set_option linter.unusedSimpArgs false
set_option linter.unusedVariables false
def qD (p : PV) : Prop := ∃ (s : Bool) (l : List Nat) (e : Int), p = DP s (NL l) e ∧ Ok W l ∧ -9223372036854775808 ≤ e ∧ e < 9223372036854775808
end
section
open Go PG Go.Proofs
set_option maxRecDepth 100000
set_option linter.unusedSimpArgs false
set_option linter.unusedVariables false
theorem mkD_self {d : Dy} (h : d.m % 2 = 1) (h1 : -2147483648 ≤ d.e) (h2 : d.e ≤ 2147483648) : mkD d.s d.m d.e = d := by
  have ht : tz d.m = 0 := tz_of (m := d.m / 2) (by rw [Nat.pow_zero, Nat.one_mul]; omega)
  unfold mkD
  rw [if_neg (by omega), ht, cut_id h1 h2]
  obtain ⟨s, m, e⟩ := d
  simp
end
section
open Go PG Go.Proofs
set_option maxRecDepth 100000
set_option linter.unusedSimpArgs false
set_option linter.unusedVariables false
theorem mkD_shift {s : Bool} {m j : Nat} {t : Int} (h : m % 2 = 1) (h1 : -2147483648 ≤ t) (h2 : t ≤ 2147483648) : mkD s (m * 2 ^ j) t = ⟨s, m, t + j⟩ := by
  have hp := Nat.two_pow_pos j
  have ht : tz (m * 2 ^ j) = j := tz_of (m := m / 2) (by rw [Nat.mul_comm, show 2 * (m / 2) + 1 = m by omega])
  have h0 : m * 2 ^ j ≠ 0 := Nat.mul_ne_zero (by omega) (by omega)
  unfold mkD
  rw [if_neg h0, ht, cut_id h1 h2, Nat.mul_div_cancel _ hp]
theorem withS_fields (s : Bool) {b : Nat} (hb : b < 9223372036854775808) : withS s b < W ∧ fs (withS s b) = s ∧ fe (withS s b) = fe b ∧ ff (withS s b) = ff b ∧ fsz (withS s b) = b := by
  show withS s b < 18446744073709551616 ∧ _
  unfold withS fs fe ff fsz
  cases s
  · simp only [Bool.false_eq_true, if_false]
    exact ⟨by omega, decide_eq_false (by omega), trivial, trivial, by omega⟩
  · simp only [if_true]
    exact ⟨by omega, decide_eq_true (by omega), by omega, by omega, by omega⟩
theorem unit_range {d : Dy} (h : d.top ≤ 1023) : -1074 ≤ unitOf d.top ∧ unitOf d.top ≤ 971 := by unfold unitOf; omega
theorem pack_fields {M : Nat} {t : Int} (hM : M < 9007199254740992) (h1 : -1074 ≤ t) (h2 : t ≤ 971) (hs : M < 4503599627370496 → t = -1074) :
    fe (packB M t) < 2047 ∧ fm (packB M t) = M ∧ max (fe (packB M t) : Int) 1 - 1075 = t := by
  unfold packB
  by_cases h : 4503599627370496 ≤ M
  · rw [if_pos h]
    have e1 : fe (M - 4503599627370496 + (t + 1075).toNat * 4503599627370496) = (t + 1075).toNat := by unfold fe; omega
    have e2 : ff (M - 4503599627370496 + (t + 1075).toNat * 4503599627370496) = M - 4503599627370496 := by unfold ff; omega
    unfold fm
    rw [e1, e2, if_neg (by omega)]
    omega
  · rw [if_neg h]
    have ht := hs (by omega)
    have e1 : fe M = 0 := by unfold fe; omega
    have e2 : ff M = M := by unfold ff; omega
    unfold fm
    rw [e1, e2, if_pos rfl]
    omega
theorem exact_fd {d : Dy} (h : d.m % 2 = 1) (h1 : d.top ≤ 1023) (h2 : unitOf d.top ≤ d.e) :
    ∃ b, exactS d = some b ∧ b < W ∧ fe b < 2047 ∧ fd b = d ∧ fs b = d.s := by
  have h0 : d.m ≠ 0 := by omega
  have hM := exact_bits h0 h2
  have hlt : d.m * 2 ^ (d.e - unitOf d.top).toNat < 9007199254740992 := (bitLen_le _ 53).1 hM
  have hr := unit_range h1
  have hbl := bitLen_shl d.m (d.e - unitOf d.top).toNat h0
  have htop : d.top = bitLen d.m - 1 + d.e := if_neg h0
  have hu : unitOf d.top = max (d.top - 52) (-1074) := rfl
  have hp := pack_fields hlt hr.1 hr.2 (fun hlt2 => by
    have := (bitLen_le (d.m * 2 ^ (d.e - unitOf d.top).toNat) 52).2 hlt2
    omega)
  have hpl := packB_lt hlt hr.1 hr.2
  have hw := withS_fields d.s hpl
  refine ⟨_, by unfold exactS; rw [if_neg h0, if_neg (by omega)], hw.1, by rw [hw.2.2.1]; exact hp.1, ?_, hw.2.1⟩
  unfold fd
  have hfm : fm (withS d.s (packB (d.m * 2 ^ (d.e - unitOf d.top).toNat) (unitOf d.top))) = d.m * 2 ^ (d.e - unitOf d.top).toNat := by
    unfold fm
    rw [hw.2.2.1, hw.2.2.2.1]
    exact hp.2.1
  rw [hfm, hw.2.1, hw.2.2.1, hp.2.2, mkD_shift h (by omega) (by omega)]
  obtain ⟨s, m, e⟩ := d
  simp only at *
  rw [show unitOf (Dy.top ⟨s, m, e⟩) + ((e - unitOf (Dy.top ⟨s, m, e⟩)).toNat : Int) = e by omega]
end
section
open Go PG Go.Proofs
set_option maxRecDepth 100000
set_option linter.unusedSimpArgs false
set_option linter.unusedVariables false
theorem qif_b {b : Bool} {X Y : PT} (h1 : b = true → X.p) (h2 : b = false → Y.p) : @qif b X Y := ⟨h1, h2⟩
def bNaN : Nat := 9221120237041090560
def bInf : Nat := 9218868437227405312
def bOne : Nat := 4607182418800017408
def bTop : Nat := 9223372036854775808
def bMinusOne : Nat := 13830554455654793216
def sgd (b x : Nat) (odd : Bool) : Nat := if odd = true ∧ fs x = true then b + 9223372036854775808 else b
def resPV (o : Option (Nat × Nat)) : PV := match o with
  | some (b, f) => .tuple [.agg [.int .u64 b, .int .u8 f, .int .i64 0], .bool true]
  | none => .tuple [.agg [.int .u64 0, .int .u8 0, .int .i64 0], .bool false]
def wh (b : Nat) : Bool := decide (fe b < 2047 ∧ 0 ≤ (fd b).e)
def od (b : Nat) : Bool := decide (fe b < 2047 ∧ (fd b).e = 0 ∧ (fd b).m % 2 = 1)
theorem kind_le (b : Nat) : kind b ≤ 5 := by unfold kind; repeat' split
                                             all_goals omega
theorem c_signals (x : Nat) (hx : x < W) : PC E 89 [u x] (.bool (decide (kind x = 5))) := by
  refine PC.of_body follows Tryz.func89 (by decide +kernel) rfl (by kernel_rfl) (Nat.le_of_ble_eq_true rfl) (walk ?_)
  simp only [Tryz.f89, go_sem]
  refine qcall_i (c_Kind x hx) ?_; simp only [Tryz.f89, go_sem]
  exact decide_eq_decide.2 (by omega)
theorem c_nought (x : Nat) (hx : x < W) : PC E 129 [u x] (.bool (decide (kind x = 0))) := by
  refine PC.of_body follows Tryz.func129 (by decide +kernel) rfl (by kernel_rfl) (Nat.le_of_ble_eq_true rfl) (walk ?_)
  simp only [Tryz.f129, go_sem]
  refine qcall_i (c_Kind x hx) ?_; simp only [Tryz.f129, go_sem]
  exact decide_eq_decide.2 (by omega)
theorem c_infinite (x : Nat) (hx : x < W) : PC E 130 [u x] (.bool (decide (kind x = 3))) := by
  refine PC.of_body follows Tryz.func130 (by decide +kernel) rfl (by kernel_rfl) (Nat.le_of_ble_eq_true rfl) (walk ?_)
  simp only [Tryz.f130, go_sem]
  refine qcall_i (c_Kind x hx) ?_; simp only [Tryz.f130, go_sem]
  exact decide_eq_decide.2 (by omega)
theorem c_nan (x : Nat) (hx : x < W) : PC E 92 [u x] (.bool (decide (kind x = 4 ∨ kind x = 5))) := by
  refine PC.of_body follows Tryz.func92 (by decide +kernel) rfl (by kernel_rfl) (Nat.le_of_ble_eq_true rfl) (walk ?_)
  simp only [Tryz.f92, go_sem]
  refine qcall_i (c_Kind x hx) ?_; simp only [Tryz.f92, go_sem]
  have := kind_le x
  exact decide_eq_decide.2 (by omega)
theorem c_is (b : Nat) : PC E 91 [u b] (resPV (some (b, 0))) := by
  refine PC.of_body follows Tryz.func91 (by decide +kernel) rfl (by kernel_rfl) (Nat.le_of_ble_eq_true rfl) (walk ?_)
  simp only [Tryz.f91, u, go_sem]
  rfl
theorem c_flagged (b f : Nat) : PC E 131 [u b, .int .u8 f] (resPV (some (b, f))) := by
  refine PC.of_body follows Tryz.func131 (by decide +kernel) rfl (by kernel_rfl) (Nat.le_of_ble_eq_true rfl) (walk ?_)
  simp only [Tryz.f131, u, go_sem]
  rfl
theorem c_invalid : PC E 90 [] (resPV (some (bNaN, 16))) := by
  refine PC.of_body follows Tryz.func90 (by decide +kernel) rfl (by kernel_rfl) (Nat.le_of_ble_eq_true rfl) (walk ?_)
  simp only [Tryz.f90, go_sem]
  refine qcall_i (c_flagged bNaN 16) ?_; simp only [Tryz.f90, resPV, go_sem]
theorem c_signed (b x : Nat) (hb : b < 9223372036854775808) (hx : x < W) (odd : Bool) : PC E 132 [u b, u x, .bool odd] (u (sgd b x odd)) := by
  refine PC.of_body follows Tryz.func132 (by decide +kernel) rfl (by kernel_rfl) (Nat.le_of_ble_eq_true rfl) (walk ?_)
  have e1 := a63 hx
  have e2 := o63 hb
  have e3 : bits .or .u64 (b : Int) ((0 : Nat) : Int) = (b : Int) := (b_or (b := 0) (Nat.lt_trans hb (by decide)) (by decide)).trans (by rw [Nat.or_zero])
  unfold sgd fs
  cases odd
  · simp only [Tryz.f132, u, go_sem]
  · by_cases h : 9223372036854775808 ≤ x
    · rw [if_pos h] at e1
      simp only [Tryz.f132, u, e1, Int.cast_ofNat_Int, e2, go_sem]
      simp [h]
    · rw [if_neg h] at e1
      simp only [Tryz.f132, u, e1, e3, go_sem]
      simp [h]
theorem c_below (x : Nat) (hx : x < W) : PC E 98 [u x] (.bool (fs x && !decide (kind x = 0))) := by
  refine PC.of_body follows Tryz.func98 (by decide +kernel) rfl (by kernel_rfl) (Nat.le_of_ble_eq_true rfl) (walk ?_)
  simp only [Tryz.f98, go_sem]
  refine qcall_i (c_Neg x hx) ?_; simp only [Tryz.f98, go_sem]
  cases hs : fs x
  · simp only [Tryz.f98, go_sem]
    rfl
  · simp only [Tryz.f98, go_sem]
    refine qcall_i (c_nought x hx) ?_; simp only [Tryz.f98, go_sem]
    rfl
def powS (x y : Nat) : Option (Nat × Nat) :=
  if kind x = 5 ∨ kind y = 5 then some (bNaN, 16)
  else if kind y = 0 ∨ x = 4607182418800017408 then some (bOne, 0)
  else if kind x = 4 ∨ kind y = 4 then some (bNaN, 0)
  else if kind x = 0 then
    if fs y = true then (if kind y = 3 then some (bInf, 0) else some (sgd bInf x (od y), 8))
    else some (sgd 0 x (od y), 0)
  else if kind y = 3 then
    if x = 13830554455654793216 then some (bOne, 0) else if (decide (4607182418800017408 < fsz x) != fs y) = true then some (bInf, 0) else some (0, 0)
  else if kind x = 3 then if fs y = true then some (sgd 0 x (od y), 0) else some (sgd bInf x (od y), 0)
  else if fs x = true ∧ wh y = false then some (bNaN, 16) else none
theorem c_Whole' (b : Nat) (hb : b < W) : PC E 72 [u b] (.tuple [.bool (wh b), .bool (od b)]) := c_Whole b hb
set_option maxHeartbeats 600000 in
theorem c_Pow (x y : Nat) (hx : x < W) (hy : y < W) : PC E 70 [u x, u y] (resPV (powS x y)) := by
  obtain ⟨R, hR⟩ : ∃ R, R = resPV (powS x y) := ⟨_, rfl⟩
  rw [← hR]
  refine PC.of_body follows Tryz.func70 (by decide +kernel) rfl (by kernel_rfl) (Nat.le_of_ble_eq_true rfl) (walk ?_)
  have e1 := n63 hx
  have q1 : ((x : Int) = 4607182418800017408) = (x = 4607182418800017408) := by rw [← Int.ofNat_inj]; rfl
  have q2 : ((x : Int) = 13830554455654793216) = (x = 13830554455654793216) := by rw [← Int.ofNat_inj]; rfl
  have q3 : ((fsz x : Int) > 4607182418800017408) = (4607182418800017408 < fsz x) := by rw [← Int.ofNat_lt]; rfl
  have k1 := c_signals x hx
  have k2 := c_signals y hy
  have k3 := c_nought x hx
  have k4 := c_nought y hy
  have k5 := c_nan x hx
  have k6 := c_nan y hy
  have k7 := c_infinite x hx
  have k8 := c_infinite y hy
  have k9 := c_Neg x hx
  have k10 := c_signed bInf x (by decide) hx (od y)
  have k11 := c_signed 0 x (by decide) hx (od y)
  have k12 := c_flagged (sgd bInf x (od y)) 8
  have k13 := c_is (sgd bInf x (od y))
  have k14 := c_is (sgd 0 x (od y))
  have k15 : PC E 91 [.int .u64 4607182418800017408] (resPV (some (bOne, 0))) := c_is bOne
  have k16 : PC E 91 [.int .u64 9221120237041090560] (resPV (some (bNaN, 0))) := c_is bNaN
  have k17 : PC E 91 [.int .u64 9218868437227405312] (resPV (some (bInf, 0))) := c_is bInf
  have k18 : PC E 91 [.int .u64 0] (resPV (some (0, 0))) := c_is 0
  have k19 := c_invalid
  replace k10 : PC E 132 [.int .u64 9218868437227405312, .int .u64 x, .bool (od y)] (.int .u64 (sgd bInf x (od y) : Nat)) := k10
  replace k11 : PC E 132 [.int .u64 0, .int .u64 x, .bool (od y)] (.int .u64 (sgd 0 x (od y) : Nat)) := k11
  replace k12 : PC E 131 [.int .u64 (sgd bInf x (od y) : Nat), .int .u8 8] (resPV (some (sgd bInf x (od y), 8))) := k12
  simp only [u] at k1 k2 k3 k4 k5 k6 k7 k8 k9 k13 k14
  simp only [Tryz.f70, u, go_sem]
  refine qcall_i (c_Whole' y hy) ?_; simp only [Tryz.f70, u, e1, go_sem]
  refine qcall_i (c_Neg y hy) ?_; simp only [Tryz.f70, u, go_sem]
  unfold powS at hR
  generalize kind x = a at *
  generalize kind y = b at *
  generalize wh y = w at *
  generalize od y = o at *
  generalize fs y = s at *
  generalize sgd bInf x o = g1 at *
  generalize sgd 0 x o = g2 at *
  clear e1
  clear hx hy
  repeat' first
    | (with_reducible refine qif_b (fun h => ?_) (fun h => ?_) <;> (try simp only [h] at k1 k2 k3 k4 k5 k6 k7 k8 k9) <;> simp only [Tryz.f70, h, u, resPV, q1, q2, q3, go_sem])
    | (with_reducible refine qcall_i k1 ?_; simp only [Tryz.f70, u, resPV, q1, q2, q3, go_sem])
    | (with_reducible refine qcall_i k2 ?_; simp only [Tryz.f70, u, resPV, q1, q2, q3, go_sem])
    | (with_reducible refine qcall_i k3 ?_; simp only [Tryz.f70, u, resPV, q1, q2, q3, go_sem])
    | (with_reducible refine qcall_i k4 ?_; simp only [Tryz.f70, u, resPV, q1, q2, q3, go_sem])
    | (with_reducible refine qcall_i k5 ?_; simp only [Tryz.f70, u, resPV, q1, q2, q3, go_sem])
    | (with_reducible refine qcall_i k6 ?_; simp only [Tryz.f70, u, resPV, q1, q2, q3, go_sem])
    | (with_reducible refine qcall_i k7 ?_; simp only [Tryz.f70, u, resPV, q1, q2, q3, go_sem])
    | (with_reducible refine qcall_i k8 ?_; simp only [Tryz.f70, u, resPV, q1, q2, q3, go_sem])
    | (with_reducible refine qcall_i k9 ?_; simp only [Tryz.f70, u, resPV, q1, q2, q3, go_sem])
    | (with_reducible refine qcall_i k10 ?_; simp only [Tryz.f70, u, resPV, q1, q2, q3, go_sem])
    | (with_reducible refine qcall_i k11 ?_; simp only [Tryz.f70, u, resPV, q1, q2, q3, go_sem])
    | (with_reducible refine qcall_i k12 ?_; simp only [Tryz.f70, u, resPV, q1, q2, q3, go_sem])
    | (with_reducible refine qcall_i k13 ?_; simp only [Tryz.f70, u, resPV, q1, q2, q3, go_sem])
    | (with_reducible refine qcall_i k14 ?_; simp only [Tryz.f70, u, resPV, q1, q2, q3, go_sem])
    | (with_reducible refine qcall_i k15 ?_; simp only [Tryz.f70, u, resPV, q1, q2, q3, go_sem])
    | (with_reducible refine qcall_i k16 ?_; simp only [Tryz.f70, u, resPV, q1, q2, q3, go_sem])
    | (with_reducible refine qcall_i k17 ?_; simp only [Tryz.f70, u, resPV, q1, q2, q3, go_sem])
    | (with_reducible refine qcall_i k18 ?_; simp only [Tryz.f70, u, resPV, q1, q2, q3, go_sem])
    | (with_reducible refine qcall_i k19 ?_; simp only [Tryz.f70, u, resPV, q1, q2, q3, go_sem])
    | (with_reducible refine Eq.trans ?_ hR.symm; clear k1 k2 k3 k4 k5 k6 k7 k8 k9 k10 k11 k12 k13 k14 k15 k16 k17 k18 k19 q1 q2 q3 hR; simp_all [resPV]; done)
end
section
open Go PG Go.Proofs
set_option maxRecDepth 100000
set_option linter.unusedSimpArgs false
set_option linter.unusedVariables false
def ansPV (o : Option (Nat × Nat)) : PV := match o with
  | some (b, f) => .agg [.int .u64 b, .int .i64 f, .bool true]
  | none => .agg [.int .u64 0, .int .i64 0, .bool false]
end
section
open Go PG Go.Proofs
set_option maxRecDepth 100000
set_option linter.unusedSimpArgs false
set_option linter.unusedVariables false
theorem mkD_ok (s : Bool) (x : Nat) (e : Int) : mkD s x e = .zero ∨ (mkD s x e).m % 2 = 1 := by
  by_cases hx : x = 0
  · left; subst hx; rfl
  · right
    rw [mkD, if_neg hx]
    obtain ⟨m, hm⟩ := tz_spec hx
    have : x / 2 ^ tz x = 2 * m + 1 := Nat.div_eq_of_eq_mul_right (Nat.two_pow_pos _) hm
    show x / 2 ^ tz x % 2 = 1
    omega
theorem fd_exact (b : Nat) (hf : fe b < 2047) (h : (fd b).m ≠ 0) : (fd b).top ≤ 1023 ∧ unitOf (fd b).top ≤ (fd b).e := by
  have hx : fm b ≠ 0 := fun hx => h (by unfold fd; rw [hx]; rfl)
  have ht : (fd b).top = bitLen (fd b).m - 1 + (fd b).e := if_neg h
  have hfm := fm_bits b
  obtain ⟨m, hm⟩ := tz_spec hx
  have hd : fm b / 2 ^ tz (fm b) = 2 * m + 1 := Nat.div_eq_of_eq_mul_right (Nat.two_pow_pos _) hm
  have hbl : bitLen (2 * m + 1) + tz (fm b) = bitLen (fm b) := by
    have := bitLen_shl (2 * m + 1) (tz (fm b)) (by omega)
    rw [Nat.mul_comm, ← hm] at this
    exact this.symm
  have hfd : fd b = ⟨fs b, 2 * m + 1, (max (fe b : Int) 1 - 1075) + tz (fm b)⟩ := by
    have := fe_lt b
    unfold fd
    rw [mkD, if_neg hx, hd, cut_id (by omega) (by omega)]
  have e1 : (fd b).m = 2 * m + 1 := by rw [hfd]
  have e2 : (fd b).e = (max (fe b : Int) 1 - 1075) + tz (fm b) := by rw [hfd]
  rw [e1, e2] at ht
  rw [e2]
  unfold unitOf
  rw [ht]
  have hbp : bitLen (fm b) = 0 ∨ 0 < bitLen (fm b) := by omega
  constructor <;> omega
theorem exact_cases {d : Dy} (hok : d = Dy.zero ∨ d.m % 2 = 1) :
    (∃ b, (if d.fits then exactS d else none) = some b ∧ b < W ∧ fe b < 2047 ∧ fd b = d) ∨ ((if d.fits then exactS d else none) = none ∧ ∀ n, fe n < 2047 → fd n ≠ d) := by
  rcases hok with rfl | h
  · exact .inl ⟨0, rfl, by decide, by decide, rfl⟩
  · have h0 : d.m ≠ 0 := by omega
    by_cases hx : d.top ≤ 1023 ∧ unitOf d.top ≤ d.e
    · obtain ⟨b, y1, y2, y3, y4, y5⟩ := exact_fd h hx.1 hx.2
      have hf : d.fits := by rw [← y4]; exact fd_fits b
      exact .inl ⟨b, by rw [if_pos hf]; exact y1, y2, y3, y4⟩
    · refine .inr ⟨?_, fun n hn hd => ?_⟩
      · by_cases hf : d.fits
        · rw [if_pos hf]; unfold exactS; rw [if_neg h0, if_pos (by omega)]
        · rw [if_neg hf]
      · subst hd
        exact hx (fd_exact n hn h0)
end
end Go.Proofs.YtfkgaldbcngliaaGreatDoor
