import Derived.Test.YtfkgaldbcngliaaGreatDoorG7
import Derived.Test.YtfkgaldbcngliaaGreatDoorGZ
open Go PG Go.Proofs
namespace Go.Proofs.YtfkgaldbcngliaaGreatDoor
attribute [local go_sem] Lay2 Lay3 Lay4 Lay5 Lay6 Lay7 Lay8 Lay9 Lay10 Lay11 Lay12 Lay13 Lay14 Lay15 Lay16 Lay17 Lay18 Lay19 Lay20 Lay21 Lay22 Lay26 Lay27 Lay28 Lay29 Lay31 Lay32 Lay33 Lay34 Lay35 Lay41 Lay42 Lay43 Lay47 Lay48 Lay60 Lay61 Lay62 Lay63 Lay64 Lay72 Lay73 Lay74 Lay83 Lay84 Lay86 Lay90 Lay91 Lay92 Lay93 Lay102 Lay103 Lay139 Lay143 Lay149 Lay158 Lay159 Lay160 Lay161 Lay162 Lay174 Lay175 Lay193 Lay207 Lay208 Lay209 Lay210 Lay228 Lay229 Lay237 Lay238 Lay265 Lay287 Lay295 Lay296 Lay297 Lay299 Lay301 Lay302 Lay303 Lay304 Lay305 Lay307 Lay308 Lay310 Lay311 Lay312 Lay315 Lay316 Lay317 qexec_seq qexec_skip qexec_exit qexec_ret qexec_block qexec_loop qexec_range qexec_cond qexec_region qexec_drawn qops_nil qops_none qops_some put_some put_none pblk_exit pblk_other newDsts_nil inlDsts_nil isInl sget_cons sget_nil qval_some qbool_some qgs_bool qgs_und qfree_some qgrd_true qgrd_false qif_true qif_false qval_ite qval_itn qand_true map_ite map_some' map_none' qdo_move qdo_assign qdo_binOp qdo_pick qdo_unOp qdo_convert qdo_extract qdo_makeInterface qdo_field qdo_fieldAddr qdo_alloc qdo_box qdo_build qdo_buildSlice qdo_load qdo_store qdo_nilCheck qdo_makeFunc qdo_makeSlice qdo_slice qdo_indexAddr qdo_call qcont_val qcont_new qcont_st qcont_app0 qcont_app qcont_inl qcont_call njSV_val njSV_nil njSV_row njSV_ptr njSV_sub binV_val binV_nil binV_nn binV_ptr bin_np bin_nnp nilCmp bin_add bin_sub bin_mul bin_quo bin_rem bin_and bin_or bin_xor bin_andNot bin_eql bin_neq bin_lss bin_leq bin_gtr bin_geq bin_shl bin_shr bin_seql bin_sneq bin_sadd bin_beql bin_aeql bin_aneq eqAnd_some eqCells_nil eqCells_cons fieldTypes isStruct eqCell bin_bneq un_not un_neg nj_ite Nat.beq stepA stepR isNew opSV constSV RV.sv allSome E_mu E_own qkeyIn_none qkeyIn_some qkeyAt_none qkeyAt_some Bool.or_false Bool.false_or Bool.or_true Bool.true_or cst setB res resSV pstart startL killL kill1 eraL frzL svPV rvPV rvInt rvSlice rvBytes frzOf close closeL pconv pbuiltin pmax2 partPV setCells fillPV zrow bound newSV PV.cells Bk.cells Bk.with SV.key pres presL_nil presL_tmp presL_cell presC2_some cellPV_ptr presC List.toList_toArray List.size_toArray List.getElem?_drop Nat.mul_one Int.toNat_natCast Nat.not_lt_zero Nat.lt_irrefl decide_true decide_false Nat.not_lt Option.some.injEq PV.lst.injEq PV.int.injEq PV.bool.injEq PV.tuple.injEq List.cons.injEq Option.map_some Option.map_none Option.bind_some Option.toList List.map_cons List.map_nil List.nil_append List.cons_append List.append_nil List.zip_cons_cons List.zip_nil_left List.zip_nil_right List.getElem?_cons_zero List.getElem?_cons_succ List.drop_zero List.drop_succ_cons List.take_succ_cons List.take_zero List.set_cons_zero List.set_cons_succ List.length_cons List.length_nil List.length_set List.replicate_one List.replicate_zero bne_self_eq_false beq_self_eq_true Nat.zero_add Nat.add_zero Nat.zero_mul Bool.false_eq_true Bool.true_eq_false Bool.not_true Bool.not_false and_true true_and false_and and_false or_false false_or or_true true_or not_true_eq_false not_false_eq_true ne_eq gt_iff_lt List.mem_cons List.not_mem_nil
attribute [local go_sem ↓] pseq_normal pseq_ret pseq_exit pblk_normal pblk_ret newDsts_cons inlDsts_cons gdst_zero gdst_succ retQ_normal retQ_ret qneed_nil qneed_cons retM_normal retM_ret endR_normal endR_ret endR_exit
attribute [local go_sem] Int.reduceToNat Int.reduceEq Int.reduceNe Int.reduceLT Int.reduceLE Int.reduceNeg Int.reduceAdd Nat.reduceEqDiff Nat.reduceAdd Nat.reduceSub Nat.reduceMul Nat.reduceLeDiff Nat.reduceLT
attribute [local go_sem ↓] reduceIte reduceCtorEq
section
open Go PG Go.Proofs
set_option maxRecDepth 100000
set_option linter.unusedSimpArgs false
set_option linter.unusedVariables false
def resA (o : Option (Nat × Nat)) : PV := match o with
  | some (b, f) => .agg [.int .u64 b, .int .u8 f, .int .i64 0]
  | none => .agg [.int .u64 0, .int .u8 0, .int .i64 0]
theorem resPV_eq (o : Option (Nat × Nat)) : resPV o = .tuple [resA o, .bool o.isSome] := by
  cases o <;> rfl
theorem resA_ex (o : Option (Nat × Nat)) : ∃ B F : Int, resA o = .agg [.int .u64 B, .int .u8 F, .int .i64 0] := by
  cases o with
  | none => exact ⟨0, 0, rfl⟩
  | some p => exact ⟨_, _, rfl⟩
end
section
open Go PG Go.Proofs
set_option maxRecDepth 100000
set_option linter.unusedSimpArgs false
set_option linter.unusedVariables false
theorem i64_and1 (n : Int) : bits .and .i64 n 1 = n % 2 := by
  have h1 : (BitVec.ofInt 64 1).toNat = 2 ^ 1 - 1 := by decide
  have key : (BitVec.ofInt 64 n &&& BitVec.ofInt 64 1).toNat = (n % ((2 ^ 64 : Nat) : Int)).toNat % 2 ^ 1 := by
    rw [BitVec.toNat_and, BitVec.toNat_ofInt, h1, Nat.and_two_pow_sub_one_eq_mod]
  show IntKind.i64.wrap ((BitVec.ofInt 64 n &&& BitVec.ofInt 64 1).toNat : Nat) = n % 2
  rw [key, IntKind.wrap_i64]
  omega
def podd (n : Int) : Bool := decide (n % 2 = 1)
theorem and2 (n : Int) : decide (n % 2 = 0) = !podd n := by
  unfold podd
  rw [← decide_not, decide_eq_decide]
  omega
def endsS (x : Nat) (n : Int) : Option (Nat × Nat) :=
  if kind x = 0 then (if n < 0 then some (sgd bInf x (podd n), 8) else some (sgd 0 x (podd n), 0))
  else if kind x = 3 then (if n < 0 then some (sgd 0 x (podd n), 0) else some (sgd bInf x (podd n), 0)) else none
def pownS (x : Nat) (n : Int) : Option (Nat × Nat) := if kind x = 5 then some (bNaN, 16) else if n = 0 then some (bOne, 0) else if kind x = 4 then some (bNaN, 0) else endsS x n
def rootnS (x : Nat) (n : Int) : Option (Nat × Nat) :=
  if kind x = 5 then some (bNaN, 16) else if kind x = 4 then some (bNaN, 0) else if n = 0 then some (bNaN, 16) else if fs x = true ∧ ¬ kind x = 0 ∧ podd n = false then some (bNaN, 16) else endsS x n
def compS (x : Nat) (n : Int) : Option (Nat × Nat) :=
  if kind x = 5 then some (bNaN, 16) else if ¬ kind x = 4 ∧ fs x = true ∧ 4607182418800017408 < fsz x then some (bNaN, 16)
  else if n = 0 then some (bOne, 0) else if kind x = 4 then some (bNaN, 0)
  else if fs x = true ∧ fsz x = 4607182418800017408 then (if n < 0 then some (bInf, 8) else some (0, 0))
  else if kind x = 0 then some (bOne, 0) else if kind x = 3 then (if n < 0 then some (0, 0) else some (bInf, 0)) else none
set_option maxHeartbeats 1000000 in
theorem c_ends (x : Nat) (hx : x < W) (n : Int) : PC E 93 [u x, .int .i64 n] (resPV (endsS x n)) := by
  obtain ⟨R, hR⟩ : ∃ R, R = resPV (endsS x n) := ⟨_, rfl⟩
  rw [← hR]
  refine PC.of_body follows Tryz.func93 (by decide +kernel) rfl (by kernel_rfl) (Nat.le_of_ble_eq_true rfl) (walk ?_)
  have q1 : decide (n % 2 = 1) = podd n := rfl
  have k1 := c_signals x hx
  have k2 := c_nought x hx
  have k3 := c_infinite x hx
  have k4 := c_nan x hx
  have k5 : PC E 132 [.int .u64 9218868437227405312, .int .u64 x, .bool (podd n)] (.int .u64 (sgd bInf x (podd n) : Nat)) := c_signed bInf x (by decide) hx _
  have k6 : PC E 132 [.int .u64 0, .int .u64 x, .bool (podd n)] (.int .u64 (sgd 0 x (podd n) : Nat)) := c_signed 0 x (by decide) hx _
  have k7 : PC E 131 [.int .u64 (sgd bInf x (podd n) : Nat), .int .u8 8] (resPV (some (sgd bInf x (podd n), 8))) := c_flagged _ 8
  have k8 : PC E 91 [.int .u64 (sgd bInf x (podd n) : Nat)] (resPV (some (sgd bInf x (podd n), 0))) := c_is _
  have k9 : PC E 91 [.int .u64 (sgd 0 x (podd n) : Nat)] (resPV (some (sgd 0 x (podd n), 0))) := c_is _
  simp only [u] at k1 k2 k3 k4
  simp only [Tryz.f93, u, i64_and1, q1, go_sem]
  unfold endsS at hR
  generalize podd n = o at *
  generalize sgd bInf x o = g1 at *
  generalize sgd 0 x o = g2 at *
  clear hx
  repeat' first
    | ((with_reducible refine qif_b (fun h => ?_) (fun h => ?_)) <;> (try simp only [h] at k2 k3) <;> simp only [Tryz.f93, h, u, ansPV, resPV, q1, go_sem])
    | ((with_reducible refine qcall_i k1 ?_); simp only [Tryz.f93, u, ansPV, resPV, q1, go_sem])
    | ((with_reducible refine qcall_i k2 ?_); simp only [Tryz.f93, u, ansPV, resPV, q1, go_sem])
    | ((with_reducible refine qcall_i k3 ?_); simp only [Tryz.f93, u, ansPV, resPV, q1, go_sem])
    | ((with_reducible refine qcall_i k4 ?_); simp only [Tryz.f93, u, ansPV, resPV, q1, go_sem])
    | ((with_reducible refine qcall_i k5 ?_); simp only [Tryz.f93, u, ansPV, resPV, q1, go_sem])
    | ((with_reducible refine qcall_i k6 ?_); simp only [Tryz.f93, u, ansPV, resPV, q1, go_sem])
    | ((with_reducible refine qcall_i k7 ?_); simp only [Tryz.f93, u, ansPV, resPV, q1, go_sem])
    | ((with_reducible refine qcall_i k8 ?_); simp only [Tryz.f93, u, ansPV, resPV, q1, go_sem])
    | ((with_reducible refine qcall_i k9 ?_); simp only [Tryz.f93, u, ansPV, resPV, q1, go_sem])
    | ((with_reducible refine Eq.trans ?_ hR.symm); clear k1 k2 k3 k4 k5 k6 k7 k8 k9 q1 hR; first | (simp_all [ansPV, resPV, bNaN, bInf, bOne]; done) | ((repeat' split) <;> first | rfl | exact hE.symm | (exfalso; simp_all; done) | (exfalso; simp_all; omega)))
set_option maxHeartbeats 1000000 in
theorem c_Pown (x : Nat) (hx : x < W) (n : Int) : PC E 40 [u x, .int .i64 n] (resPV (pownS x n)) := by
  obtain ⟨R, hR⟩ : ∃ R, R = resPV (pownS x n) := ⟨_, rfl⟩
  rw [← hR]
  refine PC.of_body follows Tryz.func40 (by decide +kernel) rfl (by kernel_rfl) (Nat.le_of_ble_eq_true rfl) (walk ?_)
  have k1 := c_signals x hx
  have k4 := c_nan x hx
  have k10 : PC E 91 [.int .u64 4607182418800017408] (resPV (some (bOne, 0))) := c_is bOne
  have k11 : PC E 91 [.int .u64 9221120237041090560] (resPV (some (bNaN, 0))) := c_is bNaN
  have k12 := c_invalid
  have k13 := c_ends x hx n
  unfold pownS at hR
  rw [resPV_eq] at k13
  have q9 : R = R := rfl
  have hE := resPV_eq (endsS x n)
  obtain ⟨rB, rF, hr⟩ := resA_ex (endsS x n)
  rw [hr] at k13 hE
  generalize endsS x n = z at *
  simp only [u] at k1 k4 k13
  simp only [Tryz.f40, u, go_sem]
  clear hx
  repeat' first
    | ((with_reducible refine qif_b (fun h => ?_) (fun h => ?_)) <;> (try simp only [h] at k4) <;> simp only [Tryz.f40, h, u, ansPV, resPV, q9, go_sem])
    | ((with_reducible refine qcall_i k1 ?_); simp only [Tryz.f40, u, ansPV, resPV, q9, go_sem])
    | ((with_reducible refine qcall_i k4 ?_); simp only [Tryz.f40, u, ansPV, resPV, q9, go_sem])
    | ((with_reducible refine qcall_i k10 ?_); simp only [Tryz.f40, u, ansPV, resPV, q9, go_sem])
    | ((with_reducible refine qcall_i k11 ?_); simp only [Tryz.f40, u, ansPV, resPV, q9, go_sem])
    | ((with_reducible refine qcall_i k12 ?_); simp only [Tryz.f40, u, ansPV, resPV, q9, go_sem])
    | ((with_reducible refine qcall_i k13 ?_); simp only [Tryz.f40, u, ansPV, resPV, q9, go_sem])
    | ((with_reducible refine Eq.trans ?_ hR.symm); clear k1 k4 k10 k11 k12 k13 q9 hR; first | (simp_all [ansPV, resPV, bNaN, bInf, bOne]; done) | ((repeat' split) <;> first | rfl | exact hE.symm | (exfalso; simp_all; done) | (exfalso; simp_all; omega)))
set_option maxHeartbeats 1000000 in
theorem c_Rootn (x : Nat) (hx : x < W) (n : Int) : PC E 46 [u x, .int .i64 n] (resPV (rootnS x n)) := by
  obtain ⟨R, hR⟩ : ∃ R, R = resPV (rootnS x n) := ⟨_, rfl⟩
  rw [← hR]
  refine PC.of_body follows Tryz.func46 (by decide +kernel) rfl (by kernel_rfl) (Nat.le_of_ble_eq_true rfl) (walk ?_)
  have q1 := and2 n
  have k1 := c_signals x hx
  have k4 := c_nan x hx
  have k5 := c_below x hx
  have k11 : PC E 91 [.int .u64 9221120237041090560] (resPV (some (bNaN, 0))) := c_is bNaN
  have k12 := c_invalid
  have k13 := c_ends x hx n
  unfold rootnS at hR
  rw [resPV_eq] at k13
  have hE := resPV_eq (endsS x n)
  obtain ⟨rB, rF, hr⟩ := resA_ex (endsS x n)
  rw [hr] at k13 hE
  generalize endsS x n = z at *
  simp only [u] at k1 k4 k5 k13
  simp only [Tryz.f46, u, go_sem]
  clear hx
  repeat' first
    | ((with_reducible refine qif_b (fun h => ?_) (fun h => ?_)) <;> (try simp only [h] at k4) <;> simp only [Tryz.f46, h, u, ansPV, resPV, i64_and1, q1, go_sem])
    | ((with_reducible refine qcall_i k1 ?_); simp only [Tryz.f46, u, ansPV, resPV, i64_and1, q1, go_sem])
    | ((with_reducible refine qcall_i k4 ?_); simp only [Tryz.f46, u, ansPV, resPV, i64_and1, q1, go_sem])
    | ((with_reducible refine qcall_i k5 ?_); simp only [Tryz.f46, u, ansPV, resPV, i64_and1, q1, go_sem])
    | ((with_reducible refine qcall_i k11 ?_); simp only [Tryz.f46, u, ansPV, resPV, i64_and1, q1, go_sem])
    | ((with_reducible refine qcall_i k12 ?_); simp only [Tryz.f46, u, ansPV, resPV, i64_and1, q1, go_sem])
    | ((with_reducible refine qcall_i k13 ?_); simp only [Tryz.f46, u, ansPV, resPV, i64_and1, q1, go_sem])
    | ((with_reducible refine Eq.trans ?_ hR.symm); clear k1 k4 k5 k11 k12 k13 q1 hR; first | (simp_all [ansPV, resPV, bNaN, bInf, bOne]; done) | ((repeat' split) <;> first | rfl | exact hE.symm | (exfalso; simp_all; done) | (exfalso; simp_all; omega)))
end
section
open Go PG Go.Proofs
set_option maxRecDepth 100000
set_option linter.unusedSimpArgs false
set_option linter.unusedVariables false
theorem kind3 (x : Nat) : kind x = 3 ↔ fsz x = 9218868437227405312 := by
  unfold kind fe ff fsz
  repeat' split
  all_goals omega
theorem kind0 (x : Nat) : kind x = 0 ↔ fsz x = 0 := by
  unfold kind fe ff fsz
  repeat' split
  all_goals omega
theorem x_of (x : Nat) (hx : x < W) : (fs x = true ∧ x = fsz x + 9223372036854775808) ∨ (fs x = false ∧ x = fsz x) := by
  have : x < 18446744073709551616 := hx
  unfold fs fsz
  by_cases h : 9223372036854775808 ≤ x
  · left; exact ⟨decide_eq_true h, by omega⟩
  · right; exact ⟨decide_eq_false h, by omega⟩
set_option maxHeartbeats 1000000 in
theorem c_Compound (x : Nat) (hx : x < W) (n : Int) : PC E 136 [u x, .int .i64 n] (resPV (compS x n)) := by
  obtain ⟨R, hR⟩ : ∃ R, R = resPV (compS x n) := ⟨_, rfl⟩
  rw [← hR]
  refine PC.of_body follows Tryz.func136 (by decide +kernel) rfl (by kernel_rfl) (Nat.le_of_ble_eq_true rfl) (walk ?_)
  have hl := fsz_lt x
  have q1 : ((x : Int) > 13830554455654793216) = (fs x = true ∧ 4607182418800017408 < fsz x) := propext (by
    rcases x_of x hx with ⟨h1, h2⟩ | ⟨h1, h2⟩
    · rw [h1]; exact ⟨fun h => ⟨rfl, by omega⟩, fun h => by have := h.2; omega⟩
    · rw [h1]; exact ⟨fun h => by omega, fun h => by cases h.1⟩)
  have q2 : ((x : Int) = 13830554455654793216) = (fs x = true ∧ fsz x = 4607182418800017408) := propext (by
    rcases x_of x hx with ⟨h1, h2⟩ | ⟨h1, h2⟩
    · rw [h1]; exact ⟨fun h => ⟨rfl, by omega⟩, fun h => by have := h.2; omega⟩
    · rw [h1]; exact ⟨fun h => by omega, fun h => by cases h.1⟩)
  have q3 : ((x : Int) = 9218868437227405312) = (fs x = false ∧ fsz x = 9218868437227405312) := propext (by
    rcases x_of x hx with ⟨h1, h2⟩ | ⟨h1, h2⟩
    · rw [h1]; exact ⟨fun h => by omega, fun h => by cases h.1⟩
    · rw [h1]; exact ⟨fun h => ⟨rfl, by omega⟩, fun h => by have := h.2; omega⟩)
  have f3 := kind3 x
  have f0 := kind0 x
  have f5 := kind_le x
  have k1 := c_signals x hx
  have k2 := c_nought x hx
  have k4 := c_nan x hx
  have k5 := c_below x hx
  have k8 : PC E 131 [.int .u64 9218868437227405312, .int .u8 8] (resPV (some (bInf, 8))) := c_flagged bInf 8
  have k9 : PC E 91 [.int .u64 9218868437227405312] (resPV (some (bInf, 0))) := c_is bInf
  have k10 : PC E 91 [.int .u64 4607182418800017408] (resPV (some (bOne, 0))) := c_is bOne
  have k11 : PC E 91 [.int .u64 9221120237041090560] (resPV (some (bNaN, 0))) := c_is bNaN
  have k12 : PC E 91 [.int .u64 0] (resPV (some (0, 0))) := c_is 0
  have k13 := c_invalid
  unfold compS at hR
  simp only [u] at k1 k2 k4 k5
  generalize fs x = t at *
  generalize fsz x = z at *
  generalize kind x = a at *
  simp only [Tryz.f136, u, go_sem]
  clear hx
  repeat' first
    | ((with_reducible refine qif_b (fun h => ?_) (fun h => ?_)) <;> (try simp only [h] at k2 k4) <;> simp only [Tryz.f136, h, u, ansPV, resPV, q1, q2, q3, go_sem])
    | ((with_reducible refine qcall_i k1 ?_); simp only [Tryz.f136, u, ansPV, resPV, q1, q2, q3, go_sem])
    | ((with_reducible refine qcall_i k2 ?_); simp only [Tryz.f136, u, ansPV, resPV, q1, q2, q3, go_sem])
    | ((with_reducible refine qcall_i k4 ?_); simp only [Tryz.f136, u, ansPV, resPV, q1, q2, q3, go_sem])
    | ((with_reducible refine qcall_i k5 ?_); simp only [Tryz.f136, u, ansPV, resPV, q1, q2, q3, go_sem])
    | ((with_reducible refine qcall_i k8 ?_); simp only [Tryz.f136, u, ansPV, resPV, q1, q2, q3, go_sem])
    | ((with_reducible refine qcall_i k9 ?_); simp only [Tryz.f136, u, ansPV, resPV, q1, q2, q3, go_sem])
    | ((with_reducible refine qcall_i k10 ?_); simp only [Tryz.f136, u, ansPV, resPV, q1, q2, q3, go_sem])
    | ((with_reducible refine qcall_i k11 ?_); simp only [Tryz.f136, u, ansPV, resPV, q1, q2, q3, go_sem])
    | ((with_reducible refine qcall_i k12 ?_); simp only [Tryz.f136, u, ansPV, resPV, q1, q2, q3, go_sem])
    | ((with_reducible refine qcall_i k13 ?_); simp only [Tryz.f136, u, ansPV, resPV, q1, q2, q3, go_sem])
    | ((with_reducible refine Eq.trans ?_ hR.symm); clear k1 k2 k4 k5 k8 k9 k10 k11 k12 k13 q1 q2 q3 hR; first | (simp_all [ansPV, resPV, bNaN, bInf, bOne]; done) | ((repeat' split) <;> first | rfl | exact hE.symm | (exfalso; simp_all; done) | (exfalso; simp_all; omega)))
end
end Go.Proofs.YtfkgaldbcngliaaGreatDoor
