import Derived.Test.YtfkgaldbcngliaaGreatDoorN5
import Derived.Test.YtfkgaldbcngliaaGreatDoorN6
import Derived.Test.YtfkgaldbcngliaaGreatDoorGZ
open Go PG Go.Proofs
namespace Go.Proofs.YtfkgaldbcngliaaGreatDoor
attribute [local go_sem] Lay2 Lay3 Lay4 Lay5 Lay6 Lay7 Lay8 Lay9 Lay10 Lay11 Lay12 Lay13 Lay14 Lay15 Lay16 Lay17 Lay18 Lay19 Lay20 Lay21 Lay22 Lay26 Lay27 Lay28 Lay29 Lay31 Lay32 Lay33 Lay34 Lay35 Lay41 Lay42 Lay43 Lay47 Lay48 Lay60 Lay61 Lay62 Lay63 Lay64 Lay72 Lay73 Lay74 Lay83 Lay84 Lay86 Lay90 Lay91 Lay92 Lay93 Lay102 Lay103 Lay139 Lay143 Lay149 Lay158 Lay159 Lay160 Lay161 Lay162 Lay174 Lay175 Lay193 Lay207 Lay208 Lay209 Lay210 Lay228 Lay229 Lay237 Lay238 Lay265 Lay287 Lay295 Lay296 Lay297 Lay299 Lay301 Lay302 Lay303 Lay304 Lay305 Lay307 Lay308 Lay310 Lay311 Lay312 Lay315 Lay316 Lay317 qexec_seq qexec_skip qexec_exit qexec_ret qexec_block qexec_loop qexec_range qexec_cond qexec_region qexec_drawn qops_nil qops_none qops_some put_some put_none pblk_exit pblk_other newDsts_nil inlDsts_nil isInl sget_cons sget_nil qval_some qbool_some qgs_bool qgs_und qfree_some qgrd_true qgrd_false qif_true qif_false qval_ite qval_itn qand_true map_ite map_some' map_none' qdo_move qdo_assign qdo_binOp qdo_pick qdo_unOp qdo_convert qdo_extract qdo_makeInterface qdo_field qdo_fieldAddr qdo_alloc qdo_box qdo_build qdo_buildSlice qdo_load qdo_store qdo_nilCheck qdo_makeFunc qdo_makeSlice qdo_slice qdo_indexAddr qdo_call qcont_val qcont_new qcont_st qcont_app0 qcont_app qcont_inl qcont_call njSV_val njSV_nil njSV_row njSV_ptr njSV_sub binV_val binV_nil binV_nn binV_ptr bin_np bin_nnp nilCmp bin_add bin_sub bin_mul bin_quo bin_rem bin_and bin_or bin_xor bin_andNot bin_eql bin_neq bin_lss bin_leq bin_gtr bin_geq bin_shl bin_shr bin_seql bin_sneq bin_sadd bin_beql bin_aeql bin_aneq eqAnd_some eqCells_nil eqCells_cons fieldTypes isStruct eqCell bin_bneq un_not un_neg nj_ite Nat.beq stepA stepR isNew opSV constSV RV.sv allSome E_mu E_own qkeyIn_none qkeyIn_some qkeyAt_none qkeyAt_some Bool.or_false Bool.false_or Bool.or_true Bool.true_or cst setB res resSV pstart startL killL kill1 eraL frzL svPV rvPV rvInt rvSlice rvBytes frzOf close closeL pconv pbuiltin pmax2 partPV setCells fillPV zrow bound newSV PV.cells Bk.cells Bk.with SV.key pres presL_nil presL_tmp presL_cell presC2_some cellPV_ptr presC List.toList_toArray List.size_toArray List.getElem?_drop Nat.mul_one Int.toNat_natCast Nat.not_lt_zero Nat.lt_irrefl decide_true decide_false Nat.not_lt Option.some.injEq PV.lst.injEq PV.int.injEq PV.bool.injEq PV.tuple.injEq List.cons.injEq Option.map_some Option.map_none Option.bind_some Option.toList List.map_cons List.map_nil List.nil_append List.cons_append List.append_nil List.zip_cons_cons List.zip_nil_left List.zip_nil_right List.getElem?_cons_zero List.getElem?_cons_succ List.drop_zero List.drop_succ_cons List.take_succ_cons List.take_zero List.set_cons_zero List.set_cons_succ List.length_cons List.length_nil List.length_set List.replicate_one List.replicate_zero bne_self_eq_false beq_self_eq_true Nat.zero_add Nat.add_zero Nat.zero_mul Bool.false_eq_true Bool.true_eq_false Bool.not_true Bool.not_false and_true true_and false_and and_false or_false false_or or_true true_or not_true_eq_false not_false_eq_true ne_eq gt_iff_lt List.mem_cons List.not_mem_nil
attribute [local go_sem ↓] pseq_normal pseq_ret pseq_exit pblk_normal pblk_ret newDsts_cons inlDsts_cons gdst_zero gdst_succ retQ_normal retQ_ret qneed_nil qneed_cons retM_normal retM_ret endR_normal endR_ret endR_exit
attribute [local go_sem] Int.reduceToNat Int.reduceEq Int.reduceNe Int.reduceLT Int.reduceLE Int.reduceNeg Int.reduceAdd Nat.reduceEqDiff Nat.reduceAdd Nat.reduceSub Nat.reduceMul Nat.reduceLeDiff Nat.reduceLT
attribute [local go_sem ↓] reduceIte reduceCtorEq
section
open Go PG Go.Proofs
set_option maxRecDepth 100000
set_option linter.unusedSimpArgs false
set_option linter.unusedVariables false
open XX
def hvv (dir f t : Int) : PV := .agg [.int .i64 dir, .int .i64 f, .int .i64 t, .np]
def hOk (dir f t : Int) : Prop := planOk f t ∧ 0 ≤ dir ∧ dir ≤ 3
instance (dir f t : Int) : Decidable (hOk dir f t) := inferInstanceAs (Decidable (_ ∧ _))
theorem w_Plain : PC E 13 [] (hvv 0 64 1024) := by
  unfold hvv
  refine PC.of_body follows Tryz.func13 (by decide +kernel) rfl (by kernel_rfl) (Nat.le_of_ble_eq_true rfl) (walk ?_)
  simp only [Tryz.f13, go_sem]
  try rfl
theorem w_right (dir f t : Int) : PC E 94 [hvv dir f t] (.bool (decide (hOk dir f t))) := by
  have k1 := c_Plan f t
  unfold hvv
  obtain ⟨R, hR⟩ : ∃ R, R = PV.bool (decide (hOk dir f t)) := ⟨_, rfl⟩
  rw [← hR]
  by_cases c1 : planOk f t
  case neg =>
    rw [if_neg c1] at k1
    rw [decide_eq_false (fun h : hOk dir f t => c1 h.1)] at hR
    refine PC.of_body follows Tryz.func94 (by decide +kernel) rfl (by kernel_rfl) (Nat.le_of_ble_eq_true rfl) (walk ?_)
    simp only [Tryz.f94, go_sem]
    refine qcall_i (k1) ?_; simp only [Tryz.f94, go_sem]
    first | (rw [hR]; done) | (rw [hR]; rfl)
  rw [if_pos c1] at k1
  have e : decide (hOk dir f t) = decide (0 ≤ dir ∧ dir ≤ 3) := decide_eq_decide.2 ⟨fun h => h.2, fun h => ⟨c1, h⟩⟩
  rw [e] at hR
  generalize IL (planS f t) = IP at *
  generalize (planS f t).length = LP at *
  refine PC.of_body follows Tryz.func94 (by decide +kernel) rfl (by kernel_rfl) (Nat.le_of_ble_eq_true rfl) (walk ?_)
  simp only [Tryz.f94, go_sem]
  refine qcall_i (k1) ?_; simp only [Tryz.f94, go_sem]
  refine qif_d (fun h => ?_) (fun h => ?_)
  · simp only [Tryz.f94, go_sem]
    rw [hR]
    congr 1
    exact decide_eq_decide.2 (by omega)
  · simp only [Tryz.f94, go_sem]
    rw [hR]
    congr 1
    exact (decide_eq_false (by omega)).symm
def resC (r : Nat × Nat) : PV := .agg [.int .u64 (r.1 : Nat), .int .u8 (r.2 : Nat), .int .i64 0]
theorem w_doesArg {dir f t : Int} (h : ¬ hOk dir f t) (r : Nat × Nat) (b : Bool) (g : FuncId) (cs : List PV) : PC E 41 [hvv dir f t, resC r, .bool b, .clo g cs] (.tuple [.agg [.int .u64 0, .int .u8 0, .int .i64 0], .int .i64 0, .int .i64 1]) := by
  have k1 := w_right dir f t
  rw [decide_eq_false h] at k1
  unfold hvv at *
  unfold resC
  refine PC.of_body follows Tryz.func41 (by decide +kernel) rfl (by kernel_rfl) (Nat.le_of_ble_eq_true rfl) (walk ?_)
  simp only [Tryz.f41, go_sem]
  refine qcall_i (k1) ?_; simp only [Tryz.f41, go_sem]
  try rfl
theorem w_doesIs {dir f t : Int} (h : hOk dir f t) (r : Nat × Nat) (g : FuncId) (cs : List PV) : PC E 41 [hvv dir f t, resC r, .bool true, .clo g cs] (.tuple [resC r, .int .i64 0, .int .i64 0]) := by
  have k1 := w_right dir f t
  rw [decide_eq_true h] at k1
  unfold hvv at *
  unfold resC
  refine PC.of_body follows Tryz.func41 (by decide +kernel) rfl (by kernel_rfl) (Nat.le_of_ble_eq_true rfl) (walk ?_)
  simp only [Tryz.f41, go_sem]
  refine qcall_i (k1) ?_; simp only [Tryz.f41, go_sem]
  try rfl
theorem w_does {dir f t : Int} (h : hOk dir f t) (r : Nat × Nat) {g : FuncId} (hmu : E.mu g = false) {cs : List PV} {p : PV} {a : Ask} (hp : RA p a) (ha : AskOk a) (hc : PC E g cs p) : PC E 41 [hvv dir f t, resC r, .bool false, .clo g cs] (doPV (doS a)) := by
  have k1 := w_right dir f t
  rw [decide_eq_true h] at k1
  have k2 := o_Do hp ha
  rw [E_mu] at hmu
  generalize doS a = D at *
  obtain ⟨d1, d2, d3, d4⟩ := D
  obtain ⟨s1, P1, e1, s2, P2, e2, rfl, h1, h2⟩ := hp
  unfold hvv at *
  unfold resC
  simp only [doPV] at k2 ⊢
  refine PC.of_body follows Tryz.func41 (by decide +kernel) rfl (by kernel_rfl) (Nat.le_of_ble_eq_true rfl) (walk ?_)
  simp only [Tryz.f41, hmu, go_sem]
  refine qcall_i (k1) ?_; simp only [Tryz.f41, hmu, go_sem]
  refine qcall_i (hc) ?_; simp only [Tryz.f41, hmu, go_sem]
  refine qcall_i (k2) ?_; simp only [Tryz.f41, go_sem]
  try rfl
theorem RD.lst {s : Bool} {P : PV} {e : Int} {d : Dy} (h : RD (DP s P e) d) : ∃ n cs, P = .lst n cs := by
  obtain ⟨s', q, x, e', hp, ⟨l, rfl, -⟩, -⟩ := h
  simp only [DP, PV.agg.injEq, List.cons.injEq] at hp
  exact ⟨_, _, hp.2.1⟩
theorem w_ask {s1 : Bool} {n1 : Nat} {c1 : List PV} {e1 : Int} {s2 : Bool} {n2 : Nat} {c2 : List PV} {e2 : Int} (n : Nat) (neg : Bool) (dir f t : Int) :
    PC E 96 [.agg [.bool s1, .lst n1 c1, .int .i64 e1], .agg [.bool s2, .lst n2 c2, .int .i64 e2], .int .u64 n, .bool neg, hvv dir f t] (.agg [.bool s1, .lst n1 c1, .int .i64 e1, .bool s2, .lst n2 c2, .int .i64 e2, .int .u64 n, .bool neg, .int .i64 dir, .int .i64 f, .int .i64 t]) := by
  unfold hvv
  refine PC.of_body follows Tryz.func96 (by decide +kernel) rfl (by kernel_rfl) (Nat.le_of_ble_eq_true rfl) (walk ?_)
  simp only [Tryz.f96, go_sem]
  try rfl
theorem w_size {n : Int} (h0 : -9223372036854775808 ≤ n) (h1 : n < 9223372036854775808) : PC E 48 [.int .i64 n] (.int .u64 (n.natAbs : Nat)) := by
  refine PC.of_body follows Tryz.func48 (by decide +kernel) rfl (by kernel_rfl) (Nat.le_of_ble_eq_true rfl) (walk ?_)
  simp only [Tryz.f48, go_sem]
  refine qif_d (fun h => ?_) (fun h => ?_)
  · have w := wrapN64 h0 h
    simp only [Tryz.f48, w, go_sem]
    try rfl
  · have w := wrapP64 (n := n) (by omega) h1
    simp only [Tryz.f48, w, go_sem]
    try rfl
def askA (x : Nat) (y : Dy) (n : Nat) (neg : Bool) (dir f t : Int) : Ask := ⟨fd (fsz x), y, n, neg, dir, f, t⟩
theorem fe_fsz (b : Nat) : fe (fsz b) = fe b := (fm_fsz b).2
theorem fsz2 (b : Nat) : fsz (fsz b) = fsz b := Nat.mod_eq_of_lt (fsz_lt b)
theorem w_Asked {x : Nat} (hx : x < W) (hf : fe x < 2047) {p : PV} {y : Dy} (hy : RD p y) (n : Nat) (neg : Bool) (dir f t : Int) :
    ∃ r, PC E 43 [u x, p, .int .u64 n, .bool neg, hvv dir f t] r ∧ RA r (askA x y n neg dir f t) := by
  have e1 := n63 hx
  have k1 := r_FDyad (b := fsz x) (Nat.lt_trans (fsz_lt x) (by decide))
  rw [fe_fsz, if_pos hf] at k1
  generalize decide (fe x < 2047) = bb at *
  have hR := RD.fd (fsz x)
  have hy' := hy
  obtain ⟨s2, P2, x2, e2, rfl, -⟩ := hy'
  obtain ⟨n2, c2, rfl⟩ := RD.lst hy
  have k2 := w_ask (s1 := (fd (fsz x)).s) (n1 := (dg W (fd (fsz x)).m).length) (c1 := U (dg W (fd (fsz x)).m)) (e1 := (fd (fsz x)).e) (s2 := s2) (n2 := n2) (c2 := c2) (e2 := e2) n neg dir f t
  refine ⟨_, ?_, (fd (fsz x)).s, NN (fd (fsz x)).m, (fd (fsz x)).e, s2, .lst n2 c2, e2, rfl, hR, hy⟩
  show PC E _ _ (.agg [.bool (fd (fsz x)).s, NN (fd (fsz x)).m, .int .i64 (fd (fsz x)).e, .bool s2, .lst n2 c2, .int .i64 e2, .int .u64 n, .bool neg, .int .i64 dir, .int .i64 f, .int .i64 t])
  generalize fd (fsz x) = D at *
  unfold hvv at *
  simp only [DP, Dy.pv, u, NN, NL] at k1 k2 ⊢
  refine PC.of_body follows Tryz.func43 (by decide +kernel) rfl (by kernel_rfl) (Nat.le_of_ble_eq_true rfl) (walk ?_)
  simp only [Tryz.f43, go_sem]
  simp only [Tryz.f43, e1, go_sem]
  refine qcall_i (k1) ?_; simp only [Tryz.f43, go_sem]
  refine qcall_i (k2) ?_; simp only [Tryz.f43, go_sem]
  try rfl
theorem fin_ask {x : Nat} (hf : fe x < 2047) (h0 : fsz x ≠ 0) : LgOk (fd (fsz x)) ∧ -1074 ≤ (fd (fsz x)).top ∧ (fd (fsz x)).top ≤ 1153 ∧ bitLen (fd (fsz x)).m ≤ 53 := by
  have hm : (fd (fsz x)).m ≠ 0 := fun h => h0 (by
    have := (fd_m0 (b := fsz x) (by rw [fe_fsz]; exact hf)).1 h
    rwa [fsz2] at this)
  have he := fd_e (fsz x)
  have hb := fd_bits (fsz x)
  have hl := (fd_lim (fsz x)).top_lt hm
  have hb0 := bitLen_pos hm
  have ht := top_eq hm
  have hs : (fd (fsz x)).s = false := by
    rw [fd_s hm]
    exact fs_small (fsz_lt x)
  exact ⟨⟨fd_ok' _, hs, hm, by omega, by omega, by omega⟩, by omega, by omega, hb⟩
theorem fin_y {y : Nat} (hf : fe y < 2047) (h0 : fsz y ≠ 0) : (fd y).m ≠ 0 ∧ bitLen (fd y).m ≤ 64 ∧ -1100 ≤ (fd y).top ∧ (fd y).top ≤ 1100 := by
  have hm : (fd y).m ≠ 0 := fun h => h0 ((fd_m0 hf).1 h)
  have he := fd_e y
  have hb := fd_bits y
  have hb0 := bitLen_pos hm
  have ht := top_eq hm
  exact ⟨hm, by omega, by omega, by omega⟩
theorem norm_facts {n : Int} (h0 : n ≠ 0) (h1 : -9223372036854775808 ≤ n) (h2 : n < 9223372036854775808) : (norm n 0).ok ∧ (norm n 0).m ≠ 0 ∧ bitLen (norm n 0).m ≤ 64 ∧ 0 ≤ (norm n 0).top ∧ (norm n 0).top ≤ 64 ∧ RD (norm n 0).pv (norm n 0) := by
  have hn : n.natAbs < 2 ^ 64 := Nat.lt_of_le_of_lt (show n.natAbs ≤ 9223372036854775808 by omega) (by decide)
  have hl : Lim 64 (norm n 0) := Lim.norm hn (by decide)
  have hm : (norm n 0).m ≠ 0 := fun h => by
    have := mkD_m0.1 h
    omega
  have ht := hl.top_lt hm
  have hb := norm_bits n 0
  have hbn : bitLen n.natAbs ≤ 64 := (bitLen_le _ _).2 hn
  have hg := (norm_ge n (k := 0) (by decide) (by decide)).resolve_left hm
  have hb0 := bitLen_pos hm
  have hte := top_eq hm
  exact ⟨norm_ok _ _, hm, by omega, by omega, by omega, hl.RD (by decide)⟩
theorem askOk_fin {x : Nat} (hf : fe x < 2047) (h0 : fsz x ≠ 0) {y : Dy} (hy : y.ok) (hy0 : y.m ≠ 0) (hyb : bitLen y.m ≤ 64) (hyt : -1100 ≤ y.top ∧ y.top ≤ 1100) {n : Nat} (hn1 : 1 ≤ n) (hn : n < W) {neg : Bool} {dir f t : Int} (h : hOk dir f t) : AskOk (askA x y n neg dir f t) := by
  obtain ⟨a1, a2, a3, a4⟩ := fin_ask hf h0
  exact ⟨a1, ⟨by show -2200 ≤ (fd (fsz x)).top; omega, by show (fd (fsz x)).top ≤ 2200; omega⟩, by show bitLen (fd (fsz x)).m ≤ _; omega, hy, hy0, hyb, hyt, hn1, hn, h.2, h.1⟩
end
section
open Go PG Go.Proofs
set_option maxRecDepth 100000
set_option linter.unusedSimpArgs false
set_option linter.unusedVariables false
open XX
theorem kind_fin {b : Nat} (h : kind b = 1 ∨ kind b = 2) : fe b < 2047 ∧ fsz b ≠ 0 := by
  have hk : kind b ≠ 0 ∧ kind b ≤ 2 := by omega
  constructor
  · refine Nat.not_le.1 fun h1 => ?_
    have h2 := hk.2
    unfold kind at h2
    rw [if_neg (by omega), if_neg (by omega), if_neg (by omega)] at h2
    split at h2
    · omega
    · split at h2 <;> omega
  · intro h0
    refine hk.1 ?_
    unfold kind
    have : fe b = 0 ∧ ff b = 0 := by
      unfold fsz at h0
      unfold fe ff
      omega
    rw [if_pos this]
theorem powS_none {x y : Nat} (h : powS x y = none) : (kind x = 1 ∨ kind x = 2) ∧ (kind y = 1 ∨ kind y = 2) := by
  have h1 := kind_le x
  have h2 := kind_le y
  unfold powS at h
  split at h
  · cases h
  split at h
  · cases h
  split at h
  · cases h
  split at h
  · split at h
    · split at h <;> cases h
    · cases h
  split at h
  · split at h
    · cases h
    · split at h <;> cases h
  split at h
  · split at h <;> cases h
  omega
theorem endsS_none {x : Nat} {n : Int} (h : endsS x n = none) : kind x ≠ 0 ∧ kind x ≠ 3 := by
  unfold endsS at h
  split at h
  · split at h <;> cases h
  · split at h
    · split at h <;> cases h
    · omega
theorem pownS_none {x : Nat} {n : Int} (h : pownS x n = none) : (kind x = 1 ∨ kind x = 2) ∧ n ≠ 0 := by
  have h1 := kind_le x
  unfold pownS at h
  split at h
  · cases h
  split at h
  · cases h
  split at h
  · cases h
  have := endsS_none h
  omega
theorem rootnS_none {x : Nat} {n : Int} (h : rootnS x n = none) : (kind x = 1 ∨ kind x = 2) ∧ n ≠ 0 := by
  have h1 := kind_le x
  unfold rootnS at h
  split at h
  · cases h
  split at h
  · cases h
  split at h
  · cases h
  split at h
  · cases h
  have := endsS_none h
  omega
theorem compS_none {x : Nat} {n : Int} (h : compS x n = none) : (kind x = 1 ∨ kind x = 2) ∧ n ≠ 0 ∧ (fs x = true → fsz x < 4607182418800017408) := by
  have h1 := kind_le x
  unfold compS at h
  split at h
  · cases h
  split at h
  · cases h
  split at h
  · cases h
  split at h
  · cases h
  split at h
  · split at h <;> cases h
  split at h
  · cases h
  split at h
  · split at h <;> cases h
  refine ⟨by omega, by omega, fun hs => ?_⟩
  rename_i c1 c2 c3 c4 c5 c6 c7
  have g2 : ¬ 4607182418800017408 < fsz x := fun hh => c2 ⟨c4, hs, hh⟩
  have g5 : ¬ fsz x = 4607182418800017408 := fun hh => c5 ⟨hs, hh⟩
  omega
def opPV (o : Option (Nat × Nat)) (dir f t : Int) (a : Ask) : PV :=
  if hOk dir f t then (match o with | some r => doPV (r.1, r.2, 0, 0) | none => doPV (doS a)) else .tuple [resC (0, 0), .int .i64 0, .int .i64 1]
def resD (o : Option (Nat × Nat)) : Nat × Nat := o.getD (0, 0)
theorem resPV_C (o : Option (Nat × Nat)) : resPV o = .tuple [resC (resD o), .bool o.isSome] := by cases o <;> rfl
theorem w_doesO {dir f t : Int} (o : Option (Nat × Nat)) {g : FuncId} (hmu : E.mu g = false) {cs : List PV} {a : Ask} (hc : o = none → hOk dir f t → ∃ p, RA p a ∧ AskOk a ∧ PC E g cs p) :
    PC E 41 [hvv dir f t, resC (resD o), .bool o.isSome, .clo g cs] (opPV o dir f t a) := by
  unfold opPV
  by_cases h : hOk dir f t
  · rw [if_pos h]
    cases o with
    | some r => exact w_doesIs h r g cs
    | none =>
      obtain ⟨p, h1, h2, h3⟩ := hc rfl h
      exact w_does h _ hmu h1 h2 h3
  · rw [if_neg h]
    exact w_doesArg h _ _ g cs
theorem w_Pow1 {x y : Nat} (hx : x < W) (hy : y < W) (fx : fe x < 2047) (fy : fe y < 2047) (dir f t : Int) :
    ∃ r, PC E 71 [.ref [u y], .ref [u x], .ref [.int .i64 dir, .int .i64 f, .int .i64 t, .np]] r ∧ RA r (askA x (fd y) 1 (fs x && od y) dir f t) := by
  obtain ⟨r, k4, hr⟩ := w_Asked hx fx (RD.fd y) 1 (fs x && od y) dir f t
  refine ⟨r, ?_, hr⟩
  have k1 := c_Whole' y hy
  have k2 := r_FDyad hy
  rw [if_pos fy, decide_eq_true fy] at k2
  have k3 := c_Neg x hx
  obtain ⟨s1, P1, e1, s2, P2, e2, rfl, h1, h2⟩ := hr
  have e1' : ((1 : Nat) : Int) = 1 := rfl
  generalize wh y = w1 at *
  generalize fd y = D at *
  unfold hvv at k4
  simp only [DP, Dy.pv, u, NN, NL, askA, e1'] at k1 k2 k3 k4 ⊢
  cases hs : fs x with
  | true =>
    rw [hs] at k3 k4
    rw [Bool.true_and] at k4 ⊢
    refine PC.of_body follows Tryz.func71 (by decide +kernel) rfl (by kernel_rfl) (Nat.le_of_ble_eq_true rfl) (walk ?_)
    simp only [Tryz.f71, go_sem]
    refine qcall_i (k1) ?_; simp only [Tryz.f71, go_sem]
    refine qcall_i (k2) ?_; simp only [Tryz.f71, go_sem]
    refine qcall_i (k3) ?_; simp only [Tryz.f71, go_sem]
    refine qcall_i (k4) ?_; simp only [Tryz.f71, go_sem]
    try rfl
  | false =>
    rw [hs] at k3 k4
    rw [Bool.false_and] at k4 ⊢
    refine PC.of_body follows Tryz.func71 (by decide +kernel) rfl (by kernel_rfl) (Nat.le_of_ble_eq_true rfl) (walk ?_)
    simp only [Tryz.f71, go_sem]
    refine qcall_i (k1) ?_; simp only [Tryz.f71, go_sem]
    refine qcall_i (k2) ?_; simp only [Tryz.f71, go_sem]
    refine qcall_i (k3) ?_; simp only [Tryz.f71, go_sem]
    refine qcall_i (k4) ?_; simp only [Tryz.f71, go_sem]
    try rfl
theorem w_Pow {x y : Nat} (hx : x < W) (hy : y < W) (dir f t : Int) : PC E 26 [u x, u y, hvv dir f t] (opPV (powS x y) dir f t (askA x (fd y) 1 (fs x && od y) dir f t)) := by
  have k1 := c_Pow x y hx hy
  rw [resPV_C] at k1
  have k2 := w_doesO (dir := dir) (f := f) (t := t) (powS x y) (g := 71) (by kernel_rfl) (cs := [.ref [u y], .ref [u x], .ref [.int .i64 dir, .int .i64 f, .int .i64 t, .np]]) (a := askA x (fd y) 1 (fs x && od y) dir f t) (fun ho hk => by
    obtain ⟨kx, ky⟩ := powS_none ho
    obtain ⟨fx, x0⟩ := kind_fin kx
    obtain ⟨fy, y0⟩ := kind_fin ky
    obtain ⟨r, q1, q2⟩ := w_Pow1 hx hy fx fy dir f t
    obtain ⟨g1, g2, g3⟩ := fin_y fy y0
    exact ⟨r, q2, askOk_fin fx x0 (fd_ok' y) g1 g2 g3 (Nat.le_refl 1) (by decide) hk, q1⟩)
  have ho : ∃ a b c d e, opPV (powS x y) dir f t (askA x (fd y) 1 (fs x && od y) dir f t) = .tuple [.agg [.int .u64 a, .int .u8 b, .int .i64 c], .int .i64 d, .int .i64 e] := by
    unfold opPV
    split
    · split <;> exact ⟨_, _, _, _, _, rfl⟩
    · exact ⟨_, _, _, _, _, rfl⟩
  obtain ⟨a1, a2, a3, a4, a5, ho⟩ := ho
  rw [ho] at k2 ⊢
  generalize resD (powS x y) = RR at *
  generalize (powS x y).isSome = bb at *
  simp only [resC, hvv, u] at k1 k2 ⊢
  refine PC.of_body follows Tryz.func26 (by decide +kernel) rfl (by kernel_rfl) (Nat.le_of_ble_eq_true rfl) (walk ?_)
  simp only [Tryz.f26, go_sem]
  refine qcall_i (k1) ?_; simp only [Tryz.f26, go_sem]
  refine qcall_i (k2) ?_; simp only [Tryz.f26, go_sem]
  try rfl
end
section
open Go PG Go.Proofs
set_option maxRecDepth 100000
set_option linter.unusedSimpArgs false
set_option linter.unusedVariables false
open XX
theorem opPV_ex (o : Option (Nat × Nat)) (dir f t : Int) (A : Ask) : ∃ a b c d e, opPV o dir f t A = .tuple [.agg [.int .u64 a, .int .u8 b, .int .i64 c], .int .i64 d, .int .i64 e] := by
  unfold opPV
  split
  · split <;> exact ⟨_, _, _, _, _, rfl⟩
  · exact ⟨_, _, _, _, _, rfl⟩
def pownA (x : Nat) (n : Int) (dir f t : Int) : Ask := askA x (norm n 0) 1 (fs x && podd n) dir f t
theorem w_Pown1 {x : Nat} (hx : x < W) (fx : fe x < 2047) {n : Int} (n0 : n ≠ 0) (n1 : -9223372036854775808 ≤ n) (n2 : n < 9223372036854775808) (dir f t : Int) :
    ∃ r, PC E 42 [.ref [u x], .ref [.int .i64 n], .ref [.int .i64 dir, .int .i64 f, .int .i64 t, .np]] r ∧ RA r (pownA x n dir f t) := by
  obtain ⟨g1, g2, g3, g4, g5, g6⟩ := norm_facts n0 n1 n2
  obtain ⟨r, k4, hr⟩ := w_Asked hx fx g6 1 (fs x && podd n) dir f t
  refine ⟨r, ?_, hr⟩
  have k1 := c_dOf n n1 n2
  have k3 := c_Neg x hx
  have hand := i64_and1 n
  have hpo : decide (n % 2 = 1) = podd n := rfl
  obtain ⟨s1, P1, e1, s2, P2, e2, rfl, h1, h2⟩ := hr
  have e1' : ((1 : Nat) : Int) = 1 := rfl
  generalize norm n 0 = D at *
  unfold hvv at k4
  simp only [DP, Dy.pv, u, NN, NL, askA, pownA, e1'] at k1 k3 k4 ⊢
  cases hs : fs x with
  | true =>
    rw [hs] at k3 k4
    rw [Bool.true_and] at k4 ⊢
    refine PC.of_body follows Tryz.func42 (by decide +kernel) rfl (by kernel_rfl) (Nat.le_of_ble_eq_true rfl) (walk ?_)
    simp only [Tryz.f42, go_sem]
    refine qcall_i (k1) ?_; simp only [Tryz.f42, go_sem]
    refine qcall_i (k3) ?_; simp only [Tryz.f42, hand, hpo, go_sem]
    refine qcall_i (k4) ?_; simp only [Tryz.f42, go_sem]
    try rfl
  | false =>
    rw [hs] at k3 k4
    rw [Bool.false_and] at k4 ⊢
    refine PC.of_body follows Tryz.func42 (by decide +kernel) rfl (by kernel_rfl) (Nat.le_of_ble_eq_true rfl) (walk ?_)
    simp only [Tryz.f42, go_sem]
    refine qcall_i (k1) ?_; simp only [Tryz.f42, go_sem]
    refine qcall_i (k3) ?_; simp only [Tryz.f42, go_sem]
    refine qcall_i (k4) ?_; simp only [Tryz.f42, go_sem]
    try rfl
theorem w_Pown {x : Nat} (hx : x < W) {n : Int} (n1 : -9223372036854775808 ≤ n) (n2 : n < 9223372036854775808) (dir f t : Int) : PC E 14 [u x, .int .i64 n, hvv dir f t] (opPV (pownS x n) dir f t (pownA x n dir f t)) := by
  have k1 := c_Pown x hx n
  rw [resPV_C] at k1
  have k2 := w_doesO (dir := dir) (f := f) (t := t) (pownS x n) (g := 42) (by kernel_rfl) (cs := [.ref [u x], .ref [.int .i64 n], .ref [.int .i64 dir, .int .i64 f, .int .i64 t, .np]]) (a := pownA x n dir f t) (fun ho hk => by
    obtain ⟨kx, n0⟩ := pownS_none ho
    obtain ⟨fx, x0⟩ := kind_fin kx
    obtain ⟨r, q1, q2⟩ := w_Pown1 hx fx n0 n1 n2 dir f t
    obtain ⟨g1, g2, g3, g4, g5, g6⟩ := norm_facts n0 n1 n2
    exact ⟨r, q2, askOk_fin fx x0 g1 g2 g3 ⟨by omega, by omega⟩ (Nat.le_refl 1) (by decide) hk, q1⟩)
  obtain ⟨a1, a2, a3, a4, a5, ho⟩ := opPV_ex (pownS x n) dir f t (pownA x n dir f t)
  rw [ho] at k2 ⊢
  generalize resD (pownS x n) = RR at *
  generalize (pownS x n).isSome = bb at *
  simp only [resC, hvv, u] at k1 k2 ⊢
  refine PC.of_body follows Tryz.func14 (by decide +kernel) rfl (by kernel_rfl) (Nat.le_of_ble_eq_true rfl) (walk ?_)
  simp only [Tryz.f14, go_sem]
  refine qcall_i (k1) ?_; simp only [Tryz.f14, go_sem]
  refine qcall_i (k2) ?_; simp only [Tryz.f14, go_sem]
  try rfl
def rootA (x : Nat) (n : Int) (dir f t : Int) : Ask := askA x (mkD (decide (n < 0)) 1 0) n.natAbs (fs x) dir f t
theorem one_facts (s : Bool) : (mkD s 1 0).ok ∧ (mkD s 1 0).m ≠ 0 ∧ bitLen (mkD s 1 0).m ≤ 64 ∧ (mkD s 1 0).top = 0 := by
  cases s
  · exact ⟨mkD_ok _ _ _, by decide, by decide, by decide⟩
  · exact ⟨mkD_ok _ _ _, by decide, by decide, by decide⟩
theorem w_Rootn1 {x : Nat} (hx : x < W) (fx : fe x < 2047) {n : Int} (n1 : -9223372036854775808 ≤ n) (n2 : n < 9223372036854775808) (dir f t : Int) :
    ∃ r, PC E 47 [.ref [.int .i64 n], .ref [u x], .ref [.int .i64 dir, .int .i64 f, .int .i64 t, .np]] r ∧ RA r (rootA x n dir f t) := by
  have hone : RD (DP (decide (n < 0)) (.lst 1 [.int .u64 1]) 0) (mkD (decide (n < 0)) 1 0) := RD.one (x := 1) (by decide)
  obtain ⟨r, k4, hr⟩ := w_Asked hx fx hone n.natAbs (fs x) dir f t
  refine ⟨r, ?_, hr⟩
  have k1 := w_size n1 n2
  have k3 := c_Neg x hx
  obtain ⟨s1, P1, e1, s2, P2, e2, rfl, h1, h2⟩ := hr
  unfold hvv at k4
  simp only [DP, Dy.pv, u, NN, NL, askA, rootA] at k1 k3 k4 ⊢
  refine PC.of_body follows Tryz.func47 (by decide +kernel) rfl (by kernel_rfl) (Nat.le_of_ble_eq_true rfl) (walk ?_)
  simp only [Tryz.f47, List.range_zero, List.getD_cons_zero, List.getD_cons_succ, Nat.reduceMod, go_sem]
  refine qcall_i (k1) ?_; simp only [Tryz.f47, List.range_zero, List.getD_cons_zero, List.getD_cons_succ, Nat.reduceMod, go_sem]
  refine qcall_i (k3) ?_; simp only [Tryz.f47, List.range_zero, List.getD_cons_zero, List.getD_cons_succ, Nat.reduceMod, go_sem]
  refine qcall_i (k4) ?_; simp only [Tryz.f47, go_sem]
  try rfl
theorem w_Rootn {x : Nat} (hx : x < W) {n : Int} (n1 : -9223372036854775808 ≤ n) (n2 : n < 9223372036854775808) (dir f t : Int) : PC E 15 [u x, .int .i64 n, hvv dir f t] (opPV (rootnS x n) dir f t (rootA x n dir f t)) := by
  have k1 := c_Rootn x hx n
  rw [resPV_C] at k1
  have k2 := w_doesO (dir := dir) (f := f) (t := t) (rootnS x n) (g := 47) (by kernel_rfl) (cs := [.ref [.int .i64 n], .ref [u x], .ref [.int .i64 dir, .int .i64 f, .int .i64 t, .np]]) (a := rootA x n dir f t) (fun ho hk => by
    obtain ⟨kx, n0⟩ := rootnS_none ho
    obtain ⟨fx, x0⟩ := kind_fin kx
    obtain ⟨r, q1, q2⟩ := w_Rootn1 hx fx n1 n2 dir f t
    obtain ⟨g1, g2, g3, g4⟩ := one_facts (decide (n < 0))
    exact ⟨r, q2, askOk_fin fx x0 g1 g2 g3 ⟨by omega, by omega⟩ (by omega) (natAbs_W n1 n2) hk, q1⟩)
  obtain ⟨a1, a2, a3, a4, a5, ho⟩ := opPV_ex (rootnS x n) dir f t (rootA x n dir f t)
  rw [ho] at k2 ⊢
  generalize resD (rootnS x n) = RR at *
  generalize (rootnS x n).isSome = bb at *
  simp only [resC, hvv, u] at k1 k2 ⊢
  refine PC.of_body follows Tryz.func15 (by decide +kernel) rfl (by kernel_rfl) (Nat.le_of_ble_eq_true rfl) (walk ?_)
  simp only [Tryz.f15, go_sem]
  refine qcall_i (k1) ?_; simp only [Tryz.f15, go_sem]
  refine qcall_i (k2) ?_; simp only [Tryz.f15, go_sem]
  try rfl
def onePlus (x : Nat) : Dy := addS (norm 1 0) (fd x)
def compA (x : Nat) (n : Int) (dir f t : Int) : Ask := ⟨onePlus x, norm n 0, 1, false, dir, f, t⟩
theorem one_lim : Lim 1153 (norm 1 0) := (Lim.norm (K := 20) (z := 1) (by decide) (by decide)).mono (by decide)
theorem one_val : (norm 1 0).val = 1 := by
  rw [val_norm 1 (by decide) (by decide), z2_zero, Rat.mul_one]; rfl
theorem onePlus_val (x : Nat) : (onePlus x).val = 1 + (fd x).val := by
  unfold onePlus
  rw [one_lim.val_add (fd_lim x) (by decide), one_val]
theorem fd_gt {x : Nat} (hf : fe x < 2047) (hs : fs x = true → fsz x < 4607182418800017408) : -1 < (fd x).val := by
  have h1 : (fd 4607182418800017408).val = 1 := by
    rw [fd_one]
    have : (⟨false, 1, 0⟩ : Dy) = norm 1 0 := by decide
    rw [this, one_val]
  by_cases h : (fd x).val < 0
  · have hv := val_abs (fd x)
    rw [if_pos h, fd_abs] at hv
    have hm : (fd x).m ≠ 0 := fun h0 => by
      rw [val_eq_zero.2 h0] at h
      exact absurd h (by decide)
    have hsx : fs x = true := by
      rw [← fd_s hm]
      cases hb : (fd x).s with
      | true => rfl
      | false =>
        exfalso
        have h2 := sg_val (d := fd x)
        have h3 : 0 < (fd x).sg := by unfold Dy.sg; rw [if_neg hm, hb]; decide
        have := h2.2.2.1 h3
        grind
    have h2 := fd_cmp (fsz_lt x) (b := 4607182418800017408) (by decide)
    have h3 := (sgn_neg ((fsz x : Nat) : Int) 4607182418800017408).2 (by have := hs hsx; omega)
    have h4 : cmpD (fd (fsz x)) (fd 4607182418800017408) < 0 := by rw [h2]; exact h3
    have h5 := cmp_val_lt.1 h4
    rw [h1, hv] at h5
    grind
  · have : 0 ≤ (fd x).val := Rat.not_lt.1 h
    grind
theorem onePlus_ok {x : Nat} (hf : fe x < 2047) (hs : fs x = true → fsz x < 4607182418800017408) : LgOk (onePlus x) ∧ -2200 ≤ (onePlus x).top ∧ (onePlus x).top ≤ 2200 ∧ bitLen (onePlus x).m ≤ 2400 ∧ Lim 1154 (onePlus x) := by
  have hl : Lim 1154 (onePlus x) := one_lim.add (fd_lim x) (by decide)
  have hv := onePlus_val x
  have hg := fd_gt hf hs
  have hp : 0 < (onePlus x).val := by rw [hv]; grind
  have hsg := sg_val.2.2.2 hp
  have hm := sg_m0 hsg
  have hss : (onePlus x).s = false := by
    unfold Dy.sg at hsg
    rw [if_neg hm] at hsg
    cases hb : (onePlus x).s with
    | false => rfl
    | true => rw [hb] at hsg; exact absurd hsg (by decide)
  have hb := hl.bits
  have ht := hl.top_lt hm
  have he := hl.e_ge hm
  have hte := top_eq hm
  have hb0 := bitLen_pos hm
  exact ⟨⟨hl.ok, hss, hm, by omega, by omega, by omega⟩, by omega, by omega, by omega, hl⟩
theorem w_Compound1 {x : Nat} (hx : x < W) (fx : fe x < 2047) {n : Int} (n0 : n ≠ 0) (n1 : -9223372036854775808 ≤ n) (n2 : n < 9223372036854775808) (dir f t : Int) :
    ∃ r, PC E 137 [.ref [u x], .ref [.int .i64 n], .ref [.int .i64 dir, .int .i64 f, .int .i64 t, .np]] r ∧ RA r (compA x n dir f t) := by
  obtain ⟨g1, g2, g3, g4, g5, g6⟩ := norm_facts n0 n1 n2
  have k1 := r_FDyad hx
  rw [if_pos fx, decide_eq_true fx] at k1
  have k2 := c_dOf 1 (by decide) (by decide)
  have hl1 := one_lim
  have k3 := r_Add (hl1.RD (by decide)) (RD.fd x)
  rw [addV_lim hl1 (fd_lim x) (by decide)] at k3
  have k4 := c_dOf n n1 n2
  have hlS : Lim 1154 (onePlus x) := one_lim.add (fd_lim x) (by decide)
  have hRS := hlS.RD (by decide)
  have eS : addS (norm 1 0) (fd x) = onePlus x := rfl
  rw [eS] at k3
  have k5 := w_ask (s1 := (onePlus x).s) (n1 := (dg W (onePlus x).m).length) (c1 := U (dg W (onePlus x).m)) (e1 := (onePlus x).e) (s2 := (norm n 0).s) (n2 := (dg W (norm n 0).m).length) (c2 := U (dg W (norm n 0).m)) (e2 := (norm n 0).e) 1 false dir f t
  refine ⟨_, ?_, (onePlus x).s, NN (onePlus x).m, (onePlus x).e, (norm n 0).s, NN (norm n 0).m, (norm n 0).e, rfl, hRS, g6⟩
  show PC E _ _ (.agg [.bool (onePlus x).s, NN (onePlus x).m, .int .i64 (onePlus x).e, .bool (norm n 0).s, NN (norm n 0).m, .int .i64 (norm n 0).e, .int .u64 ((1 : Nat) : Int), .bool false, .int .i64 dir, .int .i64 f, .int .i64 t])
  have e1' : ((1 : Nat) : Int) = 1 := rfl
  generalize onePlus x = SS at *
  generalize norm n 0 = D at *
  generalize norm 1 0 = D1 at *
  generalize fd x = D2 at *
  unfold hvv at k5
  simp only [DP, Dy.pv, u, NN, NL, e1'] at k1 k2 k3 k4 k5 ⊢
  refine PC.of_body follows Tryz.func137 (by decide +kernel) rfl (by kernel_rfl) (Nat.le_of_ble_eq_true rfl) (walk ?_)
  simp only [Tryz.f137, go_sem]
  refine qcall_i (k1) ?_; simp only [Tryz.f137, go_sem]
  refine qcall_i (k2) ?_; simp only [Tryz.f137, go_sem]
  refine qcall_i (k3) ?_; simp only [Tryz.f137, go_sem]
  refine qcall_i (k4) ?_; simp only [Tryz.f137, go_sem]
  refine qcall_i (k5) ?_; simp only [Tryz.f137, go_sem]
  try rfl
theorem w_Compound {x : Nat} (hx : x < W) {n : Int} (n1 : -9223372036854775808 ≤ n) (n2 : n < 9223372036854775808) (dir f t : Int) : PC E 74 [u x, .int .i64 n, hvv dir f t] (opPV (compS x n) dir f t (compA x n dir f t)) := by
  have k1 := c_Compound x hx n
  rw [resPV_C] at k1
  have k2 := w_doesO (dir := dir) (f := f) (t := t) (compS x n) (g := 137) (by kernel_rfl) (cs := [.ref [u x], .ref [.int .i64 n], .ref [.int .i64 dir, .int .i64 f, .int .i64 t, .np]]) (a := compA x n dir f t) (fun ho hk => by
    obtain ⟨kx, n0, hsx⟩ := compS_none ho
    obtain ⟨fx, x0⟩ := kind_fin kx
    obtain ⟨r, q1, q2⟩ := w_Compound1 hx fx n0 n1 n2 dir f t
    obtain ⟨g1, g2, g3, g4, g5, g6⟩ := norm_facts n0 n1 n2
    obtain ⟨a1, a2, a3, a4, a5⟩ := onePlus_ok fx hsx
    exact ⟨r, q2, ⟨a1, ⟨a2, a3⟩, a4, g1, g2, g3, ⟨by show -1100 ≤ (norm n 0).top; omega, by show (norm n 0).top ≤ 1100; omega⟩, Nat.le_refl 1, (by show 1 < W; decide), hk.2, hk.1⟩, q1⟩)
  obtain ⟨a1, a2, a3, a4, a5, ho⟩ := opPV_ex (compS x n) dir f t (compA x n dir f t)
  rw [ho] at k2 ⊢
  generalize resD (compS x n) = RR at *
  generalize (compS x n).isSome = bb at *
  simp only [resC, hvv, u] at k1 k2 ⊢
  refine PC.of_body follows Tryz.func74 (by decide +kernel) rfl (by kernel_rfl) (Nat.le_of_ble_eq_true rfl) (walk ?_)
  simp only [Tryz.f74, go_sem]
  refine qcall_i (k1) ?_; simp only [Tryz.f74, go_sem]
  refine qcall_i (k2) ?_; simp only [Tryz.f74, go_sem]
  try rfl
end
section
open Go PG Go.Proofs
set_option maxRecDepth 100000
set_option linter.unusedSimpArgs false
set_option linter.unusedVariables false
open XX
theorem alive_val : doS (askA 4611686018427387904 (fd 4602678819172646912) 1 (fs 4611686018427387904 && od 4602678819172646912) 0 64 1024) = (4609047870845172685, 1, 0, 1) := by decide +kernel
theorem alive_none : powS 4611686018427387904 4602678819172646912 = none := by decide +kernel
theorem l_alive : PC E 10 [] (.bool true) := by
  have k1 := w_Plain
  have k2 := w_Pow (x := 4611686018427387904) (y := 4602678819172646912) (by decide) (by decide) 0 64 1024
  have hh : hOk 0 64 1024 := by decide
  unfold opPV at k2
  rw [if_pos hh, alive_none] at k2
  dsimp only at k2
  rw [alive_val] at k2
  unfold hvv at k1 k2
  simp only [doPV, u, Int.cast_ofNat_Int] at k2
  refine PC.of_body follows Tryz.func10 (by decide +kernel) rfl (by kernel_rfl) (Nat.le_of_ble_eq_true rfl) (walk ?_)
  simp only [Tryz.f10, go_sem]
  refine qcall_i (k1) ?_; simp only [Tryz.f10, go_sem]
  refine qcall_i (k2) ?_; simp only [Tryz.f10, go_sem]
  try rfl
def opv (k : Int) (x y : Nat) (n : Int) : PV := .agg [.int .i64 k, .int .u64 (x : Nat), .int .u64 (y : Nat), .int .i64 n]
def wayv (dir f t : Int) : PV := .agg [.int .i64 dir, .int .i64 f, .int .i64 t]
def farW (t : Int) : Prop := 1024 < t ∧ t ≤ 8192
instance (t : Int) : Decidable (farW t) := inferInstanceAs (Decidable (_ ∧ _))
theorem l_How (dir f t : Int) : PC E 32 [wayv dir f t] (hvv dir f t) := by
  unfold wayv hvv
  refine PC.of_body follows Tryz.func32 (by decide +kernel) rfl (by kernel_rfl) (Nat.le_of_ble_eq_true rfl) (walk ?_)
  simp only [Tryz.f32, go_sem]
  try rfl
theorem l_Far (dir f t : Int) : PC E 30 [wayv dir f t] (.bool (decide (farW t))) := by
  unfold wayv
  obtain ⟨R, hR⟩ : ∃ R, R = PV.bool (decide (farW t)) := ⟨_, rfl⟩
  rw [← hR]
  unfold farW at hR
  refine PC.of_body follows Tryz.func30 (by decide +kernel) rfl (by kernel_rfl) (Nat.le_of_ble_eq_true rfl) (walk ?_)
  simp only [Tryz.f30, go_sem]
  refine qif_d (fun h => ?_) (fun h => ?_)
  · simp only [Tryz.f30, go_sem]
    rw [hR]
    congr 1
    exact decide_eq_decide.2 (by omega)
  · simp only [Tryz.f30, go_sem]
    rw [hR]
    congr 1
    exact (decide_eq_false (by omega)).symm
theorem l_22Right (f t : Int) : PC E 75 [.int .i64 f, .int .i64 t] (.bool (decide (planOk f t))) := by
  obtain ⟨R, hR⟩ : ∃ R, R = PV.bool (decide (planOk f t)) := ⟨_, rfl⟩
  rw [← hR]
  unfold planOk at hR
  refine PC.of_body follows Tryz.func75 (by decide +kernel) rfl (by kernel_rfl) (Nat.le_of_ble_eq_true rfl) (walk ?_)
  simp only [Tryz.f75, go_sem]
  refine qif_d (fun h => ?_) (fun h => ?_)
  · simp only [Tryz.f75, go_sem]
    refine qif_d (fun h2 => ?_) (fun h2 => ?_)
    · simp only [Tryz.f75, go_sem]
      refine qif_d (fun h3 => ?_) (fun h3 => ?_)
      · simp only [Tryz.f75, go_sem]
        rw [hR]
        congr 1
        exact decide_eq_decide.2 (by omega)
      · simp only [Tryz.f75, go_sem]
        rw [hR]
        congr 1
        exact (decide_eq_false (by omega)).symm
    · simp only [Tryz.f75, go_sem]
      rw [hR]
      congr 1
      exact (decide_eq_false (by omega)).symm
  · simp only [Tryz.f75, go_sem]
    rw [hR]
    congr 1
    exact (decide_eq_false (by omega)).symm
theorem l_Right24 (dir f t : Int) : PC E 33 [wayv dir f t] (.bool (decide (hOk dir f t))) := by
  have k1 := l_22Right f t
  unfold wayv
  obtain ⟨R, hR⟩ : ∃ R, R = PV.bool (decide (hOk dir f t)) := ⟨_, rfl⟩
  rw [← hR]
  unfold hOk at hR
  refine PC.of_body follows Tryz.func33 (by decide +kernel) rfl (by kernel_rfl) (Nat.le_of_ble_eq_true rfl) (walk ?_)
  simp only [Tryz.f33, go_sem]
  refine qif_d (fun h => ?_) (fun h => ?_)
  · simp only [Tryz.f33, go_sem]
    refine qif_d (fun h2 => ?_) (fun h2 => ?_)
    · simp only [Tryz.f33, go_sem]
      refine qcall_i (k1) ?_; simp only [Tryz.f33, go_sem]
      rw [hR]
      congr 1
      exact decide_eq_decide.2 ⟨fun h3 => ⟨h3, by omega, by omega⟩, fun h3 => h3.1⟩
    · simp only [Tryz.f33, go_sem]
      rw [hR]
      congr 1
      exact (decide_eq_false (by omega)).symm
  · simp only [Tryz.f33, go_sem]
    rw [hR]
    congr 1
    exact (decide_eq_false (by omega)).symm
def opO (k : Int) (x y : Nat) (n : Int) : Option (Nat × Nat) := if k = 0 then powS x y else if k = 1 then pownS x n else if k = 2 then rootnS x n else compS x n
def opA (k : Int) (x y : Nat) (n : Int) (dir f t : Int) : Ask :=
  if k = 0 then askA x (fd y) 1 (fs x && od y) dir f t else if k = 1 then pownA x n dir f t else if k = 2 then rootA x n dir f t else compA x n dir f t
theorem opA_ok {k : Int} {x y : Nat} {n : Int} {dir f t : Int} (hx : x < W) (hy : y < W) (n1 : -9223372036854775808 ≤ n) (n2 : n < 9223372036854775808) (ho : opO k x y n = none) (hk : hOk dir f t) : AskOk (opA k x y n dir f t) := by
  unfold opO at ho
  unfold opA
  split at ho
  · rename_i c
    rw [if_pos c]
    obtain ⟨kx, ky⟩ := powS_none ho
    obtain ⟨fx, x0⟩ := kind_fin kx
    obtain ⟨fy, y0⟩ := kind_fin ky
    obtain ⟨g1, g2, g3⟩ := fin_y fy y0
    exact askOk_fin fx x0 (fd_ok' y) g1 g2 g3 (Nat.le_refl 1) (by decide) hk
  rename_i c
  rw [if_neg c]
  split at ho
  · rename_i c
    rw [if_pos c]
    obtain ⟨kx, n0⟩ := pownS_none ho
    obtain ⟨fx, x0⟩ := kind_fin kx
    obtain ⟨g1, g2, g3, g4, g5, g6⟩ := norm_facts n0 n1 n2
    exact askOk_fin fx x0 g1 g2 g3 ⟨by omega, by omega⟩ (Nat.le_refl 1) (by decide) hk
  rename_i c
  rw [if_neg c]
  split at ho
  · rename_i c
    rw [if_pos c]
    obtain ⟨kx, n0⟩ := rootnS_none ho
    obtain ⟨fx, x0⟩ := kind_fin kx
    obtain ⟨g1, g2, g3, g4⟩ := one_facts (decide (n < 0))
    exact askOk_fin fx x0 g1 g2 g3 ⟨by omega, by omega⟩ (by omega) (natAbs_W n1 n2) hk
  rename_i c
  rw [if_neg c]
  obtain ⟨kx, n0, hsx⟩ := compS_none ho
  obtain ⟨fx, x0⟩ := kind_fin kx
  obtain ⟨g1, g2, g3, g4, g5, g6⟩ := norm_facts n0 n1 n2
  obtain ⟨a1, a2, a3, a4, a5⟩ := onePlus_ok fx hsx
  exact ⟨a1, ⟨a2, a3⟩, a4, g1, g2, g3, ⟨by show -1100 ≤ (norm n 0).top; omega, by show (norm n 0).top ≤ 1100; omega⟩, Nat.le_refl 1, (by show 1 < W; decide), hk.2, hk.1⟩
theorem l_Do24 {x y : Nat} (hx : x < W) (hy : y < W) {n : Int} (n1 : -9223372036854775808 ≤ n) (n2 : n < 9223372036854775808) (k dir f t : Int) : PC E 31 [opv k x y n, hvv dir f t] (opPV (opO k x y n) dir f t (opA k x y n dir f t)) := by
  have k1 := w_Pow hx hy dir f t
  have k2 := w_Pown hx n1 n2 dir f t
  have k3 := w_Rootn hx n1 n2 dir f t
  have k4 := w_Compound hx n1 n2 dir f t
  obtain ⟨R, hR⟩ : ∃ R, R = opPV (opO k x y n) dir f t (opA k x y n dir f t) := ⟨_, rfl⟩
  rw [← hR]
  unfold opO opA at hR
  unfold opv
  by_cases c0 : k = 0
  · rw [if_pos c0, if_pos c0] at hR
    obtain ⟨a1, a2, a3, a4, a5, ho⟩ := opPV_ex (powS x y) dir f t (askA x (fd y) 1 (fs x && od y) dir f t)
    rw [ho] at k1 hR
    subst hR
    simp only [hvv, u] at k1 ⊢
    refine PC.of_body follows Tryz.func31 (by decide +kernel) rfl (by kernel_rfl) (Nat.le_of_ble_eq_true rfl) (walk ?_)
    simp only [Tryz.f31, go_sem]
    refine qif_dt c0 ?_
    simp only [Tryz.f31, go_sem]
    refine qcall_i (k1) ?_; simp only [Tryz.f31, go_sem]
    try rfl
  rw [if_neg c0, if_neg c0] at hR
  by_cases c1 : k = 1
  · rw [if_pos c1, if_pos c1] at hR
    obtain ⟨a1, a2, a3, a4, a5, ho⟩ := opPV_ex (pownS x n) dir f t (pownA x n dir f t)
    rw [ho] at k2 hR
    subst hR
    simp only [hvv, u] at k2 ⊢
    refine PC.of_body follows Tryz.func31 (by decide +kernel) rfl (by kernel_rfl) (Nat.le_of_ble_eq_true rfl) (walk ?_)
    simp only [Tryz.f31, go_sem]
    refine qif_df c0 ?_
    simp only [Tryz.f31, go_sem]
    refine qif_dt c1 ?_
    simp only [Tryz.f31, go_sem]
    refine qcall_i (k2) ?_; simp only [Tryz.f31, go_sem]
    try rfl
  rw [if_neg c1, if_neg c1] at hR
  by_cases c2 : k = 2
  · rw [if_pos c2, if_pos c2] at hR
    obtain ⟨a1, a2, a3, a4, a5, ho⟩ := opPV_ex (rootnS x n) dir f t (rootA x n dir f t)
    rw [ho] at k3 hR
    subst hR
    simp only [hvv, u] at k3 ⊢
    refine PC.of_body follows Tryz.func31 (by decide +kernel) rfl (by kernel_rfl) (Nat.le_of_ble_eq_true rfl) (walk ?_)
    simp only [Tryz.f31, go_sem]
    refine qif_df c0 ?_
    simp only [Tryz.f31, go_sem]
    refine qif_df c1 ?_
    simp only [Tryz.f31, go_sem]
    refine qif_dt c2 ?_
    simp only [Tryz.f31, go_sem]
    refine qcall_i (k3) ?_; simp only [Tryz.f31, go_sem]
    try rfl
  rw [if_neg c2, if_neg c2] at hR
  obtain ⟨a1, a2, a3, a4, a5, ho⟩ := opPV_ex (compS x n) dir f t (compA x n dir f t)
  rw [ho] at k4 hR
  subst hR
  simp only [hvv, u] at k4 ⊢
  refine PC.of_body follows Tryz.func31 (by decide +kernel) rfl (by kernel_rfl) (Nat.le_of_ble_eq_true rfl) (walk ?_)
  simp only [Tryz.f31, go_sem]
  refine qif_df c0 ?_
  simp only [Tryz.f31, go_sem]
  refine qif_df c1 ?_
  simp only [Tryz.f31, go_sem]
  refine qif_df c2 ?_
  simp only [Tryz.f31, go_sem]
  refine qcall_i (k4) ?_; simp only [Tryz.f31, go_sem]
  try rfl
end
section
open Go PG Go.Proofs Go.RowKit
set_option maxRecDepth 100000
set_option linter.unusedSimpArgs false
set_option linter.unusedVariables false
theorem fields4w {P : Program} {w : World} {l : List Field} {a b c d : TypeId} {A B C D : List PV → Prop} (h : l.map (fun f => (f.type, f.offset)) = [(a, 0), (b, 1), (c, 2), (d, 3)])
    (ca : P.cellsOf a = 1) (cb : P.cellsOf b = 1) (cc : P.cellsOf c = 1) (ra : Rd P w a A) (rb : Rd P w b B) (rc : Rd P w c C) (rd' : Rd P w d D) : FieldsRd P w 0 l [A, B, C, D] := by
  rcases l with _ | ⟨f1, _ | ⟨f2, _ | ⟨f3, _ | ⟨f4, _ | ⟨x, l⟩⟩⟩⟩⟩
  · cases h
  · simp at h
  · simp at h
  · simp at h
  · simp only [List.map_cons, List.map_nil, List.cons.injEq, Prod.mk.injEq, and_true] at h
    obtain ⟨⟨h1, h2⟩, ⟨h3, h4⟩, ⟨h5, h6⟩, h7, h8⟩ := h
    refine ⟨h2, h1 ▸ ra, by rw [h1, ca]; exact h4, h3 ▸ rb, by rw [h1, ca, h3, cb]; exact h6, h5 ▸ rc, by rw [h1, ca, h3, cb, h5, cc]; exact h8, h7 ▸ rd', trivial⟩
  · simp at h
theorem fields3w {P : Program} {w : World} {l : List Field} {a b c : TypeId} {A B C : List PV → Prop} (h : l.map (fun f => (f.type, f.offset)) = [(a, 0), (b, 1), (c, 2)])
    (ca : P.cellsOf a = 1) (cb : P.cellsOf b = 1) (ra : Rd P w a A) (rb : Rd P w b B) (rc : Rd P w c C) : FieldsRd P w 0 l [A, B, C] := by
  rcases l with _ | ⟨f1, _ | ⟨f2, _ | ⟨f3, _ | ⟨x, l⟩⟩⟩⟩
  · cases h
  · simp at h
  · simp at h
  · simp only [List.map_cons, List.map_nil, List.cons.injEq, Prod.mk.injEq, and_true] at h
    obtain ⟨⟨h1, h2⟩, ⟨h3, h4⟩, h5, h6⟩ := h
    refine ⟨h2, h1 ▸ ra, by rw [h1, ca]; exact h4, h3 ▸ rb, by rw [h1, ca, h3, cb]; exact h6, h5 ▸ rc, trivial⟩
  · simp at h
def pI64 (l : List PV) : Prop := ∃ n : Int, l = [.int .i64 n] ∧ IntKind.min .i64 ≤ n ∧ n ≤ IntKind.max .i64
def pU64 (l : List PV) : Prop := ∃ n : Int, l = [.int .u64 n] ∧ IntKind.min .u64 ≤ n ∧ n ≤ IntKind.max .u64
def in64 (n : Int) : Prop := -9223372036854775808 ≤ n ∧ n < 9223372036854775808
def qOp (p : PV) : Prop := ∃ (k : Int) (x y : Nat) (n : Int), p = opv k x y n ∧ in64 k ∧ x < W ∧ y < W ∧ in64 n
def qWay (p : PV) : Prop := ∃ (d f t : Int), p = wayv d f t ∧ in64 d ∧ in64 f ∧ in64 t
theorem a_op {t ti tu tn : TypeId} (w : World) (hd : E.P.underlying t = some (.struct (E.P.fieldsOf t))) (hdf : (E.P.fieldsOf t).toList.map (fun f => (f.type, f.offset)) = [(ti, 0), (tu, 1), (tu, 2), (tn, 3)])
    (hdw : widths E.P 0 (E.P.fieldsOf t).toList = E.P.cellsOf t) (ci : E.P.cellsOf ti = 1) (cu : E.P.cellsOf tu = 1) (hi : E.P.underlying ti = some (.int .i64)) (hu : E.P.underlying tu = some (.int .u64)) (hn : E.P.underlying tn = some (.int .i64)) : ArgRd E.P w t qOp :=
  arg_imp (ArgRd.struct (w := w) hd (fields4w hdf ci cu cu (Rd.int hi) (Rd.int hu) (Rd.int hu) (Rd.int hn)) hdw) fun p ⟨l, h, h1⟩ => by
    obtain ⟨v1, r1, rfl, ⟨k, rfl, o1, o2⟩, v2, r2, rfl, ⟨x, rfl, x1, x2⟩, v3, r3, rfl, ⟨y, rfl, y1, y2⟩, v4, r4, rfl, ⟨n, rfl, n1, n2⟩, rfl⟩ := h1
    have e1 : IntKind.u64.min = 0 := by decide
    have e2 : IntKind.u64.max = 18446744073709551615 := by decide
    have e3 : IntKind.i64.min = -9223372036854775808 := by decide
    have e4 : IntKind.i64.max = 9223372036854775807 := by decide
    have eW : W = 18446744073709551616 := by decide
    rw [e1] at x1 y1
    rw [e2] at x2 y2
    rw [e3] at o1 n1
    rw [e4] at o2 n2
    refine ⟨k, x.toNat, y.toNat, n, ?_, ⟨o1, by omega⟩, by rw [eW]; omega, by rw [eW]; omega, n1, by omega⟩
    rw [h]
    unfold opv
    rw [Int.toNat_of_nonneg x1, Int.toNat_of_nonneg y1]
    rfl
theorem a_way {t ti : TypeId} (w : World) (hd : E.P.underlying t = some (.struct (E.P.fieldsOf t))) (hdf : (E.P.fieldsOf t).toList.map (fun f => (f.type, f.offset)) = [(ti, 0), (ti, 1), (ti, 2)])
    (hdw : widths E.P 0 (E.P.fieldsOf t).toList = E.P.cellsOf t) (ci : E.P.cellsOf ti = 1) (hi : E.P.underlying ti = some (.int .i64)) : ArgRd E.P w t qWay :=
  arg_imp (ArgRd.struct (w := w) hd (fields3w hdf ci ci (Rd.int hi) (Rd.int hi) (Rd.int hi)) hdw) fun p ⟨l, h, h1⟩ => by
    obtain ⟨v1, r1, rfl, ⟨k, rfl, o1, o2⟩, v2, r2, rfl, ⟨f, rfl, f1, f2⟩, v3, r3, rfl, ⟨n, rfl, n1, n2⟩, rfl⟩ := h1
    have e3 : IntKind.i64.min = -9223372036854775808 := by decide
    have e4 : IntKind.i64.max = 9223372036854775807 := by decide
    rw [e3] at o1 n1 f1
    rw [e4] at o2 n2 f2
    exact ⟨k, f, n, by rw [h]; rfl, ⟨o1, by omega⟩, ⟨f1, by omega⟩, n1, by omega⟩
end
end Go.Proofs.YtfkgaldbcngliaaGreatDoor
