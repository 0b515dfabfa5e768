/- poly.Slope: what a polynomial grows by. -/
import Derived.Test.YtejmlngnpekagaaGreatDoorPol2
open Go PG Go.Proofs
set_option maxRecDepth 100000
set_option linter.unusedSimpArgs false
set_option linter.unusedVariables false
namespace Go.Proofs.YtejmlngnpekagaaGreatDoor
attribute [local go_sem] Lay2 Lay3 Lay4 Lay5 Lay6 Lay7 Lay8 Lay9 Lay10 Lay11 Lay12 Lay13 Lay14 Lay15 Lay16 Lay17 Lay18 Lay19 Lay21 Lay22 Lay23 Lay25 Lay26 Lay27 Lay30 Lay31 Lay32 Lay33 Lay36 Lay37 Lay41 Lay42 Lay43 Lay47 Lay56 Lay57 Lay59 Lay60 Lay65 Lay66 Lay74 Lay75 Lay105 Lay114 Lay145 Lay146 Lay149 Lay150 Lay151 Lay173 Lay185 Lay189 Lay204 Lay205 Lay208 Lay214 Lay215 Lay216 Lay217 Lay218 Lay220 Lay221 Lay223 Lay224 Lay225 Lay228 qexec_seq qexec_skip qexec_exit qexec_ret qexec_block qexec_loop qexec_range qexec_cond qexec_region qexec_drawn qops_nil qops_none qops_some put_some put_none pblk_exit pblk_other newDsts_nil sget_cons sget_nil qval_some qbool_some qgs_bool qgs_und qfree_some qgrd_true qgrd_false qif_true qif_false qval_ite qval_itn qand_true map_ite map_some' map_none' qdo_move qdo_assign qdo_binOp qdo_pick qdo_unOp qdo_convert qdo_extract qdo_field qdo_fieldAddr qdo_alloc qdo_box qdo_build qdo_buildSlice qdo_load qdo_store qdo_nilCheck qdo_makeFunc qdo_makeSlice qdo_slice qdo_indexAddr qdo_call qcont_val qcont_new qcont_st qcont_app0 qcont_app qcont_inl qcont_call njSV_val njSV_nil njSV_row njSV_ptr njSV_sub binV_val binV_nil binV_nn binV_ptr bin_np bin_nnp nilCmp bin_add bin_sub bin_mul bin_quo bin_rem bin_and bin_or bin_xor bin_andNot bin_eql bin_neq bin_lss bin_leq bin_gtr bin_geq bin_shl bin_shr bin_seql bin_sneq bin_sadd bin_beql bin_aeql bin_aneq eqAnd_some eqCells_nil eqCells_cons fieldTypes isStruct eqCell bin_bneq un_not un_neg nj_ite Nat.beq stepA stepR isNew opSV constSV RV.sv allSome E_mu E_own qkeyIn_none qkeyIn_some qkeyAt_none qkeyAt_some Bool.or_false Bool.false_or Bool.or_true Bool.true_or cst setB res resSV pstart startL killL kill1 eraL frzL svPV rvPV rvInt rvSlice frzOf close closeL pconv pbuiltin pmax2 partPV setCells fillPV zrow bound newSV PV.cells Bk.cells Bk.with SV.key pres presL_nil presL_tmp presL_cell presC2_some cellPV_ptr presC List.toList_toArray List.size_toArray List.getElem?_drop Nat.mul_one Int.toNat_natCast Nat.not_lt_zero Nat.lt_irrefl decide_true decide_false Nat.not_lt Option.some.injEq PV.lst.injEq PV.int.injEq PV.bool.injEq PV.tuple.injEq List.cons.injEq Option.map_some Option.map_none Option.bind_some Option.toList List.map_cons List.map_nil List.nil_append List.cons_append List.append_nil List.zip_cons_cons List.zip_nil_left List.zip_nil_right List.getElem?_cons_zero List.getElem?_cons_succ List.drop_zero List.drop_succ_cons List.take_succ_cons List.take_zero List.set_cons_zero List.set_cons_succ List.length_cons List.length_nil List.length_set List.replicate_one List.replicate_zero bne_self_eq_false beq_self_eq_true Nat.zero_add Nat.add_zero Nat.zero_mul Bool.false_eq_true Bool.true_eq_false Bool.not_true Bool.not_false and_true true_and false_and and_false or_false false_or or_true true_or not_true_eq_false not_false_eq_true ne_eq gt_iff_lt List.mem_cons List.not_mem_nil
attribute [local go_sem ↓] pseq_normal pseq_ret pseq_exit pblk_normal pblk_ret newDsts_cons gdst_zero gdst_succ retQ_normal retQ_ret qneed_nil qneed_cons retM_normal retM_ret endR_normal endR_ret endR_exit

/-- Dyads as a slice's cells. -/
def flatD (f : Nat → Dy) (n : Nat) : List PV := (List.range n).flatMap fun k => [.bool (f k).s, NN (f k).m, .int .i64 (f k).e]
theorem flatD_succ (f : Nat → Dy) (n : Nat) : flatD f (n + 1) = flatD f n ++ [.bool (f n).s, NN (f n).m, .int .i64 (f n).e] := by
  unfold flatD; rw [List.range_succ, List.flatMap_append]; simp
theorem flatD_len (f : Nat → Dy) : ∀ n, (flatD f n).length = n * 3 := by
  intro n
  induction n with
  | zero => rfl
  | succ n ih => rw [flatD_succ, List.length_append, ih]; simp; omega
theorem flatD_get (f : Nat → Dy) : ∀ {n k : Nat}, k < n → ∃ r, (flatD f n).drop (k * 3) = .bool (f k).s :: NN (f k).m :: .int .i64 (f k).e :: r := by
  intro n
  induction n with
  | zero => intro k h; omega
  | succ n ih =>
    intro k h
    rw [flatD_succ]
    by_cases hk : k < n
    · obtain ⟨r, hr⟩ := ih hk
      rw [List.drop_append_of_le_length (by rw [flatD_len]; omega), hr]
      exact ⟨_, rfl⟩
    · obtain rfl : k = n := by omega
      rw [List.drop_append_of_le_length (by rw [flatD_len]; omega), List.drop_of_length_le (by rw [flatD_len]; omega)]
      exact ⟨_, rfl⟩
def slopeD (l : List Nat) (k : Nat) : Dy := mulS (fd (l.getD (k + 1) 0)) (norm ((k + 1 : Nat) : Int) 0)
theorem slope_norm {k : Nat} (hk : k ≤ 16) : Lim 20 (norm ((k + 1 : Nat) : Int) 0) := Lim.norm (by rw [Int.natAbs_natCast]; omega) (by decide)
theorem slope_lim (l : List Nat) {k : Nat} (hk : k ≤ 16) : Lim 1173 (slopeD l k) := (fd_lim _).mul (slope_norm hk)
def slopePV (l : List Nat) : PV := if rightP l then .tuple [.lst (l.length - 1) (flatD (slopeD l) (l.length - 1)), .int .i64 0] else .tuple [.lst 0 [], .int .i64 1]
theorem p_Slope {l : List Nat} (ol : Ok W l) (hl : l.length ≤ 1000000) : PC E 13 [NL l] (slopePV l) := by
  have k1 := p_right ol hl
  unfold slopePV
  by_cases hr : rightP l
  case neg =>
    rw [if_neg hr]
    rw [decide_eq_false hr] at k1
    simp only [NL] at k1 ⊢
    refine PC.of_body follows Tryz.func13 (by decide +kernel) rfl (by kernel_rfl) (Nat.le_of_ble_eq_true rfl) (walk ?_)
    simp only [Tryz.f13, go_sem, Int.reduceToNat, Int.reduceEq, Int.reduceNe, Int.reduceLT, Int.reduceLE, Int.reduceNeg, Int.reduceAdd, ↓reduceIte, ↓reduceCtorEq, Nat.reduceEqDiff, Nat.reduceAdd, Nat.reduceSub, Nat.reduceMul, Nat.reduceLeDiff, Nat.reduceLT]
    refine qcall_i (k1) ?_; simp only [Tryz.f13, go_sem, Int.reduceToNat, Int.reduceEq, Int.reduceNe, Int.reduceLT, Int.reduceLE, Int.reduceNeg, Int.reduceAdd, ↓reduceIte, ↓reduceCtorEq, Nat.reduceEqDiff, Nat.reduceAdd, Nat.reduceSub, Nat.reduceMul, Nat.reduceLeDiff, Nat.reduceLT]
    try rfl
  rw [if_pos hr]
  rw [decide_eq_true hr] at k1
  have hn := hr.1
  have hg : ∀ i, i < l.length → (U l)[i]? = some (.int .u64 (l.getD i 0 : Nat)) := fun i hi => U_getD hi
  have hst : ∀ i, i + 1 < l.length → PC E 61 [.int .u64 (l.getD (i + 1) 0 : Nat)] (.tuple [(fd (l.getD (i + 1) 0)).pv, .bool true]) ∧ PC E 30 [.int .i64 ((i + 1 : Nat) : Int)] (norm ((i + 1 : Nat) : Int) 0).pv ∧
      PC E 29 [(fd (l.getD (i + 1) 0)).pv, (norm ((i + 1 : Nat) : Int) 0).pv] (.tuple [(slopeD l i).pv, .int .i64 0]) := fun i hi => by
    have hm : l.getD (i + 1) 0 ∈ l := by rw [List.getD_eq_getElem?_getD, List.getElem?_eq_getElem hi]; exact List.getElem_mem _
    have k2 := r_FDyad (ol _ hm)
    rw [if_pos (hr.2 _ hm), decide_eq_true (hr.2 _ hm)] at k2
    have k4 := r_Mul ((fd_lim (l.getD (i + 1) 0)).RD (by decide)) ((slope_norm (k := i) (by omega)).RD (by decide))
    rw [mulV_lim (fd_lim _) (slope_norm (by omega)) (by decide)] at k4
    exact ⟨k2, c_dOf _ (by omega) (by omega), k4⟩
  have hf := flatD_succ (slopeD l)
  have hfl := flatD_len (slopeD l)
  have hf0 : flatD (slopeD l) 0 = [] := rfl
  generalize slopeD l = S at *
  obtain ⟨Fd, hFd⟩ : ∃ Fd : Nat → Dy, ∀ i, fd (l.getD (i + 1) 0) = Fd i := ⟨_, fun _ => rfl⟩
  obtain ⟨Nm, hNm⟩ : ∃ Nm : Nat → Dy, ∀ i : Nat, norm ((i + 1 : Nat) : Int) 0 = Nm i := ⟨_, fun _ => rfl⟩
  simp only [hFd, hNm] at hst
  clear hFd hNm ol
  obtain ⟨L, hL⟩ : ∃ L : Nat → List PV, ∀ i, flatD S i = L i := ⟨_, fun _ => rfl⟩
  simp only [hL] at hf hf0 hfl ⊢
  simp only [NL, Dy.pv, DP] at k1 hst ⊢
  clear hL
  generalize U l = U1 at *
  refine PC.of_body follows Tryz.func13 (by decide +kernel) rfl (by kernel_rfl) (Nat.le_of_ble_eq_true rfl) (walk ?_)
  simp only [Tryz.f13, go_sem, Int.reduceToNat, Int.reduceEq, Int.reduceNe, Int.reduceLT, Int.reduceLE, Int.reduceNeg, Int.reduceAdd, ↓reduceIte, ↓reduceCtorEq, Nat.reduceEqDiff, Nat.reduceAdd, Nat.reduceSub, Nat.reduceMul, Nat.reduceLeDiff, Nat.reduceLT]
  refine qcall_i (k1) ?_; simp only [Tryz.f13, go_sem, Int.reduceToNat, Int.reduceEq, Int.reduceNe, Int.reduceLT, Int.reduceLE, Int.reduceNeg, Int.reduceAdd, ↓reduceIte, ↓reduceCtorEq, Nat.reduceEqDiff, Nat.reduceAdd, Nat.reduceSub, Nat.reduceMul, Nat.reduceLeDiff, Nat.reduceLT]
  refine PLoop.nilrow 4 37 (by decide) 26 3 rfl ?_
  refine PLoop.intro (fun i : Nat => ⟨[(0, .val (.lst l.length U1)), (4, .row 37), (5, .val (.int .i64 ((i + 1 : Nat) : Int)))], [(37, (.row 26 3 i (L i), false))]⟩) (fun i => i ≤ l.length - 1) (fun i => l.length - i) 0 (Nat.zero_le _) ?_ fun i hi => walk ?_
  · simp [Wk, sget, killL, kill1, SV.key, hf0]
  have wi : IntKind.wrap .i64 (((i + 1 : Nat) : Int) + 1) = ((i + 1 + 1 : Nat) : Int) := by rw [wrap64 (by omega) (by omega)]; omega
  simp only [Tryz.f13, go_sem, Int.reduceToNat, Int.reduceEq, Int.reduceNe, Int.reduceLT, Int.reduceLE, Int.reduceNeg, Int.reduceAdd, ↓reduceIte, ↓reduceCtorEq, Nat.reduceEqDiff, Nat.reduceAdd, Nat.reduceSub, Nat.reduceMul, Nat.reduceLeDiff, Nat.reduceLT]
  refine qif_d (fun h => ?_) (fun h => ?_)
  · have hin : i + 1 < l.length := by omega
    have x1 := hg (i + 1) hin
    obtain ⟨k2, k3, k4⟩ := hst i hin
    simp only [Tryz.f13, go_sem, Int.reduceToNat, Int.reduceEq, Int.reduceNe, Int.reduceLT, Int.reduceLE, Int.reduceNeg, Int.reduceAdd, ↓reduceIte, ↓reduceCtorEq, Nat.reduceEqDiff, Nat.reduceAdd, Nat.reduceSub, Nat.reduceMul, Nat.reduceLeDiff, Nat.reduceLT]
    refine qand_i (by first | omega | (simp [V_length, U_length, tab_length, maxLen]; done) | (simp [V_length, U_length, tab_length, maxLen]; omega) | (refine ⟨?_, ?_⟩ <;> first | omega | (simp [V_length, U_length, tab_length, maxLen]; done) | (simp [V_length, U_length, tab_length, maxLen]; omega))) ?_; simp only [Tryz.f13, go_sem, Int.reduceToNat, Int.reduceEq, Int.reduceNe, Int.reduceLT, Int.reduceLE, Int.reduceNeg, Int.reduceAdd, ↓reduceIte, ↓reduceCtorEq, Nat.reduceEqDiff, Nat.reduceAdd, Nat.reduceSub, Nat.reduceMul, Nat.reduceLeDiff, Nat.reduceLT]
    refine qval_i (congrArg (Option.map _) x1) ?_
    simp only [Tryz.f13, go_sem, Int.reduceToNat, Int.reduceEq, Int.reduceNe, Int.reduceLT, Int.reduceLE, Int.reduceNeg, Int.reduceAdd, ↓reduceIte, ↓reduceCtorEq, Nat.reduceEqDiff, Nat.reduceAdd, Nat.reduceSub, Nat.reduceMul, Nat.reduceLeDiff, Nat.reduceLT]
    refine qcall_i (k2) ?_; simp only [Tryz.f13, go_sem, Int.reduceToNat, Int.reduceEq, Int.reduceNe, Int.reduceLT, Int.reduceLE, Int.reduceNeg, Int.reduceAdd, ↓reduceIte, ↓reduceCtorEq, Nat.reduceEqDiff, Nat.reduceAdd, Nat.reduceSub, Nat.reduceMul, Nat.reduceLeDiff, Nat.reduceLT]
    refine qcall_i (k3) ?_; simp only [Tryz.f13, go_sem, Int.reduceToNat, Int.reduceEq, Int.reduceNe, Int.reduceLT, Int.reduceLE, Int.reduceNeg, Int.reduceAdd, ↓reduceIte, ↓reduceCtorEq, Nat.reduceEqDiff, Nat.reduceAdd, Nat.reduceSub, Nat.reduceMul, Nat.reduceLeDiff, Nat.reduceLT]
    refine qcall_i (k4) ?_; simp only [Tryz.f13, List.range_zero, List.getD_cons_zero, List.getD_cons_succ, Nat.reduceMod, wi, go_sem, Int.reduceToNat, Int.reduceEq, Int.reduceNe, Int.reduceLT, Int.reduceLE, Int.reduceNeg, Int.reduceAdd, ↓reduceIte, ↓reduceCtorEq, Nat.reduceEqDiff, Nat.reduceAdd, Nat.reduceSub, Nat.reduceMul, Nat.reduceLeDiff, Nat.reduceLT]
    refine qand_i (by simp [maxLen]; omega) ?_
    simp only [Tryz.f13, List.range_zero, List.getD_cons_zero, List.getD_cons_succ, Nat.reduceMod, wi, go_sem, Int.reduceToNat, Int.reduceEq, Int.reduceNe, Int.reduceLT, Int.reduceLE, Int.reduceNeg, Int.reduceAdd, ↓reduceIte, ↓reduceCtorEq, Nat.reduceEqDiff, Nat.reduceAdd, Nat.reduceSub, Nat.reduceMul, Nat.reduceLeDiff, Nat.reduceLT]
    refine ⟨i + 1, by omega, by omega, ?_⟩
    rw [hf]
    simp [Wk, sget, killL, kill1, SV.key, setCells]
  · have hil : i = l.length - 1 := by omega
    subst hil
    simp only [Tryz.f13, go_sem, Int.reduceToNat, Int.reduceEq, Int.reduceNe, Int.reduceLT, Int.reduceLE, Int.reduceNeg, Int.reduceAdd, ↓reduceIte, ↓reduceCtorEq, Nat.reduceEqDiff, Nat.reduceAdd, Nat.reduceSub, Nat.reduceMul, Nat.reduceLeDiff, Nat.reduceLT]
    try rfl
end Go.Proofs.YtejmlngnpekagaaGreatDoor
