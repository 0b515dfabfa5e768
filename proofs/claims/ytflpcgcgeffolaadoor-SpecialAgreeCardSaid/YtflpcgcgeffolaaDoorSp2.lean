/- What needs no reckoning: whole powers, roots, compound; the program's and the document's answers. -/
import Derived.Test.YtflpcgcgeffolaaDoorLSpA
open Go PG Go.Proofs
set_option maxRecDepth 100000
set_option linter.unusedSimpArgs false
set_option linter.unusedVariables false
namespace Go.Proofs.YtflpcgcgeffolaaDoor
attribute [local go_sem] Lay2 Lay3 Lay4 Lay5 Lay6 Lay7 Lay8 Lay9 Lay10 Lay11 Lay12 Lay13 Lay14 Lay21 Lay22 Lay24 Lay25 Lay26 Lay27 Lay36 Lay37 Lay38 Lay39 Lay40 Lay41 Lay43 Lay46 Lay47 Lay66 Lay103 Lay105 Lay159 Lay164 Lay165 Lay166 Lay168 Lay169 Lay172 Lay173 qexec_seq qexec_skip qexec_exit qexec_ret qexec_block qexec_loop qexec_range qexec_cond qexec_region qexec_drawn qops_nil qops_none qops_some put_some put_none pblk_exit pblk_other newDsts_nil sget_cons sget_nil qval_some qbool_some qgs_bool qgs_und qfree_some qgrd_true qgrd_false qif_true qif_false qval_ite qval_itn qand_true map_ite map_some' map_none' qdo_move qdo_assign qdo_binOp qdo_pick qdo_unOp qdo_convert qdo_extract qdo_field qdo_fieldAddr qdo_alloc qdo_box qdo_build qdo_buildSlice qdo_load qdo_store qdo_nilCheck qdo_makeFunc qdo_makeSlice qdo_slice qdo_indexAddr qdo_call qcont_val qcont_new qcont_st qcont_app0 qcont_app qcont_inl qcont_call njSV_val njSV_nil njSV_row njSV_ptr njSV_sub binV_val binV_nil binV_nn nilCmp bin_add bin_sub bin_mul bin_quo bin_rem bin_and bin_or bin_xor bin_andNot bin_eql bin_neq bin_lss bin_leq bin_gtr bin_geq bin_shl bin_shr bin_seql bin_sneq bin_sadd bin_beql bin_aeql bin_aneq eqAnd_some eqCells_nil eqCells_cons fieldTypes isStruct eqCell bin_bneq un_not un_neg nj_ite Nat.beq stepA stepR isNew opSV constSV RV.sv allSome E_mu E_own qkeyIn_none qkeyIn_some qkeyAt_none qkeyAt_some Bool.or_false Bool.false_or Bool.or_true Bool.true_or cst setB res resSV pstart startL killL kill1 eraL frzL svPV rvPV rvInt rvSlice frzOf close closeL pconv pbuiltin pmax2 partPV setCells fillPV zrow bound newSV PV.cells Bk.cells Bk.with SV.key pres presL_nil presL_tmp presL_cell presC2_some cellPV_ptr presC List.toList_toArray List.size_toArray List.getElem?_drop Nat.mul_one Int.toNat_natCast Nat.not_lt_zero Nat.lt_irrefl decide_true decide_false Nat.not_lt Option.some.injEq PV.lst.injEq PV.int.injEq PV.bool.injEq PV.tuple.injEq List.cons.injEq Option.map_some Option.map_none Option.bind_some Option.toList List.map_cons List.map_nil List.nil_append List.cons_append List.append_nil List.zip_cons_cons List.zip_nil_left List.zip_nil_right List.getElem?_cons_zero List.getElem?_cons_succ List.drop_zero List.drop_succ_cons List.take_succ_cons List.take_zero List.set_cons_zero List.set_cons_succ List.length_cons List.length_nil List.length_set List.replicate_one List.replicate_zero bne_self_eq_false beq_self_eq_true Nat.zero_add Nat.add_zero Nat.zero_mul Bool.false_eq_true Bool.true_eq_false Bool.not_true Bool.not_false and_true true_and false_and and_false or_false false_or or_true true_or not_true_eq_false not_false_eq_true ne_eq gt_iff_lt List.mem_cons List.not_mem_nil
attribute [local go_sem ↓] pseq_normal pseq_ret pseq_exit pblk_normal pblk_ret newDsts_cons gdst_zero gdst_succ retQ_normal retQ_ret qneed_nil qneed_cons retM_normal retM_ret endR_normal endR_ret endR_exit

theorem i64_and1 (n : Int) : bits .and .i64 n 1 = n % 2 := by
  have h1 : (BitVec.ofInt 64 1).toNat = 2 ^ 1 - 1 := by decide
  have key : (BitVec.ofInt 64 n &&& BitVec.ofInt 64 1).toNat = (n % ((2 ^ 64 : Nat) : Int)).toNat % 2 ^ 1 := by
    rw [BitVec.toNat_and, BitVec.toNat_ofInt, h1, Nat.and_two_pow_sub_one_eq_mod]
  show IntKind.i64.wrap ((BitVec.ofInt 64 n &&& BitVec.ofInt 64 1).toNat : Nat) = n % 2
  rw [key, IntKind.wrap_i64]
  omega

/-- Is it odd? -/
def podd (n : Int) : Bool := decide (n % 2 = 1)
theorem tmod2 (n : Int) : decide (¬ Int.tmod n 2 = 0) = podd n := decide_eq_decide.2 (by
  rw [← Int.dvd_iff_tmod_eq_zero, Int.dvd_iff_emod_eq_zero]
  omega)
theorem tmod2' (n : Int) : decide (Int.tmod n 2 = 0) = !podd n := by
  unfold podd
  rw [← decide_not, decide_eq_decide, ← Int.dvd_iff_tmod_eq_zero, Int.dvd_iff_emod_eq_zero]
  omega
theorem and2 (n : Int) : decide (n % 2 = 0) = !podd n := by
  unfold podd
  rw [← decide_not, decide_eq_decide]
  omega

/-- Of a nought or an infinity to a whole power. -/
def endsS (x : Nat) (n : Int) : Option (Nat × Nat) :=
  if kind x = 0 then (if n < 0 then some (sgd bInf x (podd n), 8) else some (sgd 0 x (podd n), 0))
  else if kind x = 3 then (if n < 0 then some (sgd 0 x (podd n), 0) else some (sgd bInf x (podd n), 0)) else none
def pownS (x : Nat) (n : Int) : Option (Nat × Nat) := if kind x = 5 then some (bNaN, 16) else if n = 0 then some (bOne, 0) else if kind x = 4 then some (bNaN, 0) else endsS x n
def rootnS (x : Nat) (n : Int) : Option (Nat × Nat) :=
  if kind x = 5 then some (bNaN, 16) else if kind x = 4 then some (bNaN, 0) else if n = 0 then some (bNaN, 16) else if fs x = true ∧ ¬ kind x = 0 ∧ podd n = false then some (bNaN, 16) else endsS x n
def compS (x : Nat) (n : Int) : Option (Nat × Nat) :=
  if kind x = 5 then some (bNaN, 16) else if ¬ kind x = 4 ∧ fs x = true ∧ 4607182418800017408 < fsz x then some (bNaN, 16)
  else if n = 0 then some (bOne, 0) else if kind x = 4 then some (bNaN, 0)
  else if fs x = true ∧ fsz x = 4607182418800017408 then (if n < 0 then some (bInf, 8) else some (0, 0))
  else if kind x = 0 then some (bOne, 0) else if kind x = 3 then (if n < 0 then some (0, 0) else some (bInf, 0)) else none

theorem ends_flags (x : Nat) (n : Int) : ∀ b f, endsS x n = some (b, f) → f < 256 := by
  intro b f
  unfold endsS
  repeat' split
  all_goals (intro h; first | (cases h; omega) | (cases h))
theorem pown_flags (x : Nat) (n : Int) : ∀ b f, pownS x n = some (b, f) → f < 256 := by
  intro b f
  unfold pownS
  repeat' split
  all_goals (intro h; first | exact ends_flags x n b f h | (cases h; omega) | (cases h))
theorem rootn_flags (x : Nat) (n : Int) : ∀ b f, rootnS x n = some (b, f) → f < 256 := by
  intro b f
  unfold rootnS
  repeat' split
  all_goals (intro h; first | exact ends_flags x n b f h | (cases h; omega) | (cases h))
theorem comp_flags (x : Nat) (n : Int) : ∀ b f, compS x n = some (b, f) → f < 256 := by
  intro b f
  unfold compS
  repeat' split
  all_goals (intro h; first | (cases h; omega) | (cases h))

set_option maxHeartbeats 1000000 in
theorem c_ends (x : Nat) (hx : x < W) (n : Int) : PC E 78 [u x, .int .i64 n] (resPV (endsS x n)) := by
  obtain ⟨R, hR⟩ : ∃ R, R = resPV (endsS x n) := ⟨_, rfl⟩
  rw [← hR]
  refine PC.of_body follows Tryd.func78 (by decide +kernel) rfl (by kernel_rfl) (Nat.le_of_ble_eq_true rfl) (walk ?_)
  have q1 : decide (n % 2 = 1) = podd n := rfl
  have k1 := c_signals x hx
  have k2 := c_nought x hx
  have k3 := c_infinite x hx
  have k4 := c_nan x hx
  have k5 : PC E 77 [.int .u64 9218868437227405312, .int .u64 x, .bool (podd n)] (.int .u64 (sgd bInf x (podd n) : Nat)) := c_signed bInf x (by decide) hx _
  have k6 : PC E 77 [.int .u64 0, .int .u64 x, .bool (podd n)] (.int .u64 (sgd 0 x (podd n) : Nat)) := c_signed 0 x (by decide) hx _
  have k7 : PC E 76 [.int .u64 (sgd bInf x (podd n) : Nat), .int .u8 8] (resPV (some (sgd bInf x (podd n), 8))) := c_flagged _ 8
  have k8 : PC E 73 [.int .u64 (sgd bInf x (podd n) : Nat)] (resPV (some (sgd bInf x (podd n), 0))) := c_is _
  have k9 : PC E 73 [.int .u64 (sgd 0 x (podd n) : Nat)] (resPV (some (sgd 0 x (podd n), 0))) := c_is _
  simp only [u] at k1 k2 k3 k4
  simp only [Tryd.f78, u, i64_and1, q1, go_sem, Int.reduceToNat, Int.reduceEq, Int.reduceNe, Int.reduceLT, Int.reduceLE, Int.reduceNeg, Int.reduceAdd, ↓reduceIte, ↓reduceCtorEq, Nat.reduceEqDiff, Nat.reduceAdd, Nat.reduceSub, Nat.reduceMul, Nat.reduceLeDiff, Nat.reduceLT]
  unfold endsS at hR
  generalize podd n = o at *
  generalize sgd bInf x o = g1 at *
  generalize sgd 0 x o = g2 at *
  clear hx
  repeat' first
    | ((with_reducible refine qif_b (fun h => ?_) (fun h => ?_)) <;> (try simp only [h] at k2 k3) <;> simp only [Tryd.f78, h, u, ansPV, resPV, q1, go_sem, Int.reduceToNat, Int.reduceEq, Int.reduceNe, Int.reduceLT, Int.reduceLE, Int.reduceNeg, Int.reduceAdd, ↓reduceIte, ↓reduceCtorEq, Nat.reduceEqDiff, Nat.reduceAdd, Nat.reduceSub, Nat.reduceMul, Nat.reduceLeDiff, Nat.reduceLT])
    | ((with_reducible refine qcall_i k1 ?_); simp only [Tryd.f78, u, ansPV, resPV, q1, go_sem, Int.reduceToNat, Int.reduceEq, Int.reduceNe, Int.reduceLT, Int.reduceLE, Int.reduceNeg, Int.reduceAdd, ↓reduceIte, ↓reduceCtorEq, Nat.reduceEqDiff, Nat.reduceAdd, Nat.reduceSub, Nat.reduceMul, Nat.reduceLeDiff, Nat.reduceLT])
    | ((with_reducible refine qcall_i k2 ?_); simp only [Tryd.f78, u, ansPV, resPV, q1, go_sem, Int.reduceToNat, Int.reduceEq, Int.reduceNe, Int.reduceLT, Int.reduceLE, Int.reduceNeg, Int.reduceAdd, ↓reduceIte, ↓reduceCtorEq, Nat.reduceEqDiff, Nat.reduceAdd, Nat.reduceSub, Nat.reduceMul, Nat.reduceLeDiff, Nat.reduceLT])
    | ((with_reducible refine qcall_i k3 ?_); simp only [Tryd.f78, u, ansPV, resPV, q1, go_sem, Int.reduceToNat, Int.reduceEq, Int.reduceNe, Int.reduceLT, Int.reduceLE, Int.reduceNeg, Int.reduceAdd, ↓reduceIte, ↓reduceCtorEq, Nat.reduceEqDiff, Nat.reduceAdd, Nat.reduceSub, Nat.reduceMul, Nat.reduceLeDiff, Nat.reduceLT])
    | ((with_reducible refine qcall_i k4 ?_); simp only [Tryd.f78, u, ansPV, resPV, q1, go_sem, Int.reduceToNat, Int.reduceEq, Int.reduceNe, Int.reduceLT, Int.reduceLE, Int.reduceNeg, Int.reduceAdd, ↓reduceIte, ↓reduceCtorEq, Nat.reduceEqDiff, Nat.reduceAdd, Nat.reduceSub, Nat.reduceMul, Nat.reduceLeDiff, Nat.reduceLT])
    | ((with_reducible refine qcall_i k5 ?_); simp only [Tryd.f78, u, ansPV, resPV, q1, go_sem, Int.reduceToNat, Int.reduceEq, Int.reduceNe, Int.reduceLT, Int.reduceLE, Int.reduceNeg, Int.reduceAdd, ↓reduceIte, ↓reduceCtorEq, Nat.reduceEqDiff, Nat.reduceAdd, Nat.reduceSub, Nat.reduceMul, Nat.reduceLeDiff, Nat.reduceLT])
    | ((with_reducible refine qcall_i k6 ?_); simp only [Tryd.f78, u, ansPV, resPV, q1, go_sem, Int.reduceToNat, Int.reduceEq, Int.reduceNe, Int.reduceLT, Int.reduceLE, Int.reduceNeg, Int.reduceAdd, ↓reduceIte, ↓reduceCtorEq, Nat.reduceEqDiff, Nat.reduceAdd, Nat.reduceSub, Nat.reduceMul, Nat.reduceLeDiff, Nat.reduceLT])
    | ((with_reducible refine qcall_i k7 ?_); simp only [Tryd.f78, u, ansPV, resPV, q1, go_sem, Int.reduceToNat, Int.reduceEq, Int.reduceNe, Int.reduceLT, Int.reduceLE, Int.reduceNeg, Int.reduceAdd, ↓reduceIte, ↓reduceCtorEq, Nat.reduceEqDiff, Nat.reduceAdd, Nat.reduceSub, Nat.reduceMul, Nat.reduceLeDiff, Nat.reduceLT])
    | ((with_reducible refine qcall_i k8 ?_); simp only [Tryd.f78, u, ansPV, resPV, q1, go_sem, Int.reduceToNat, Int.reduceEq, Int.reduceNe, Int.reduceLT, Int.reduceLE, Int.reduceNeg, Int.reduceAdd, ↓reduceIte, ↓reduceCtorEq, Nat.reduceEqDiff, Nat.reduceAdd, Nat.reduceSub, Nat.reduceMul, Nat.reduceLeDiff, Nat.reduceLT])
    | ((with_reducible refine qcall_i k9 ?_); simp only [Tryd.f78, u, ansPV, resPV, q1, go_sem, Int.reduceToNat, Int.reduceEq, Int.reduceNe, Int.reduceLT, Int.reduceLE, Int.reduceNeg, Int.reduceAdd, ↓reduceIte, ↓reduceCtorEq, Nat.reduceEqDiff, Nat.reduceAdd, Nat.reduceSub, Nat.reduceMul, Nat.reduceLeDiff, Nat.reduceLT])
    | ((with_reducible refine Eq.trans ?_ hR.symm); clear k1 k2 k3 k4 k5 k6 k7 k8 k9 q1 hR; first | (simp_all [ansPV, resPV, bNaN, bInf, bOne]; done) | ((repeat' split) <;> first | rfl | exact hE.symm | (exfalso; simp_all; done) | (exfalso; simp_all; omega)))

set_option maxHeartbeats 1000000 in
theorem c_Pown (x : Nat) (hx : x < W) (n : Int) : PC E 17 [u x, .int .i64 n] (resPV (pownS x n)) := by
  obtain ⟨R, hR⟩ : ∃ R, R = resPV (pownS x n) := ⟨_, rfl⟩
  rw [← hR]
  refine PC.of_body follows Tryd.func17 (by decide +kernel) rfl (by kernel_rfl) (Nat.le_of_ble_eq_true rfl) (walk ?_)
  have k1 := c_signals x hx
  have k4 := c_nan x hx
  have k10 : PC E 73 [.int .u64 4607182418800017408] (resPV (some (bOne, 0))) := c_is bOne
  have k11 : PC E 73 [.int .u64 9221120237041090560] (resPV (some (bNaN, 0))) := c_is bNaN
  have k12 := c_invalid
  have k13 := c_ends x hx n
  unfold pownS at hR
  rw [resPV_eq] at k13
  have q9 : R = R := rfl
  have hE := resPV_eq (endsS x n)
  obtain ⟨rB, rF, hr⟩ := resA_ex (endsS x n)
  rw [hr] at k13 hE
  generalize endsS x n = z at *
  simp only [u] at k1 k4 k13
  simp only [Tryd.f17, u, go_sem, Int.reduceToNat, Int.reduceEq, Int.reduceNe, Int.reduceLT, Int.reduceLE, Int.reduceNeg, Int.reduceAdd, ↓reduceIte, ↓reduceCtorEq, Nat.reduceEqDiff, Nat.reduceAdd, Nat.reduceSub, Nat.reduceMul, Nat.reduceLeDiff, Nat.reduceLT]
  clear hx
  repeat' first
    | ((with_reducible refine qif_b (fun h => ?_) (fun h => ?_)) <;> (try simp only [h] at k4) <;> simp only [Tryd.f17, h, u, ansPV, resPV, q9, go_sem, Int.reduceToNat, Int.reduceEq, Int.reduceNe, Int.reduceLT, Int.reduceLE, Int.reduceNeg, Int.reduceAdd, ↓reduceIte, ↓reduceCtorEq, Nat.reduceEqDiff, Nat.reduceAdd, Nat.reduceSub, Nat.reduceMul, Nat.reduceLeDiff, Nat.reduceLT])
    | ((with_reducible refine qcall_i k1 ?_); simp only [Tryd.f17, u, ansPV, resPV, q9, go_sem, Int.reduceToNat, Int.reduceEq, Int.reduceNe, Int.reduceLT, Int.reduceLE, Int.reduceNeg, Int.reduceAdd, ↓reduceIte, ↓reduceCtorEq, Nat.reduceEqDiff, Nat.reduceAdd, Nat.reduceSub, Nat.reduceMul, Nat.reduceLeDiff, Nat.reduceLT])
    | ((with_reducible refine qcall_i k4 ?_); simp only [Tryd.f17, u, ansPV, resPV, q9, go_sem, Int.reduceToNat, Int.reduceEq, Int.reduceNe, Int.reduceLT, Int.reduceLE, Int.reduceNeg, Int.reduceAdd, ↓reduceIte, ↓reduceCtorEq, Nat.reduceEqDiff, Nat.reduceAdd, Nat.reduceSub, Nat.reduceMul, Nat.reduceLeDiff, Nat.reduceLT])
    | ((with_reducible refine qcall_i k10 ?_); simp only [Tryd.f17, u, ansPV, resPV, q9, go_sem, Int.reduceToNat, Int.reduceEq, Int.reduceNe, Int.reduceLT, Int.reduceLE, Int.reduceNeg, Int.reduceAdd, ↓reduceIte, ↓reduceCtorEq, Nat.reduceEqDiff, Nat.reduceAdd, Nat.reduceSub, Nat.reduceMul, Nat.reduceLeDiff, Nat.reduceLT])
    | ((with_reducible refine qcall_i k11 ?_); simp only [Tryd.f17, u, ansPV, resPV, q9, go_sem, Int.reduceToNat, Int.reduceEq, Int.reduceNe, Int.reduceLT, Int.reduceLE, Int.reduceNeg, Int.reduceAdd, ↓reduceIte, ↓reduceCtorEq, Nat.reduceEqDiff, Nat.reduceAdd, Nat.reduceSub, Nat.reduceMul, Nat.reduceLeDiff, Nat.reduceLT])
    | ((with_reducible refine qcall_i k12 ?_); simp only [Tryd.f17, u, ansPV, resPV, q9, go_sem, Int.reduceToNat, Int.reduceEq, Int.reduceNe, Int.reduceLT, Int.reduceLE, Int.reduceNeg, Int.reduceAdd, ↓reduceIte, ↓reduceCtorEq, Nat.reduceEqDiff, Nat.reduceAdd, Nat.reduceSub, Nat.reduceMul, Nat.reduceLeDiff, Nat.reduceLT])
    | ((with_reducible refine qcall_i k13 ?_); simp only [Tryd.f17, u, ansPV, resPV, q9, go_sem, Int.reduceToNat, Int.reduceEq, Int.reduceNe, Int.reduceLT, Int.reduceLE, Int.reduceNeg, Int.reduceAdd, ↓reduceIte, ↓reduceCtorEq, Nat.reduceEqDiff, Nat.reduceAdd, Nat.reduceSub, Nat.reduceMul, Nat.reduceLeDiff, Nat.reduceLT])
    | ((with_reducible refine Eq.trans ?_ hR.symm); clear k1 k4 k10 k11 k12 k13 q9 hR; first | (simp_all [ansPV, resPV, bNaN, bInf, bOne]; done) | ((repeat' split) <;> first | rfl | exact hE.symm | (exfalso; simp_all; done) | (exfalso; simp_all; omega)))

end Go.Proofs.YtflpcgcgeffolaaDoor
