/- job: hex digits, names, checks; the document's lines. -/
import Derived.Test.YtmnojbkakgfinaaDoorDg25
import Derived.Test.YtmnojbkakgfinaaDoorStr4
open Go PG Go.Proofs
set_option maxRecDepth 100000
set_option linter.unusedSimpArgs false
set_option linter.unusedVariables false
namespace Go.Proofs.YtmnojbkakgfinaaDoor
attribute [local go_sem] Lay2 Lay3 Lay4 Lay5 Lay6 Lay7 Lay8 Lay9 Lay10 Lay11 Lay12 Lay13 Lay14 Lay15 Lay16 Lay17 Lay18 Lay19 Lay21 Lay23 Lay24 Lay30 Lay31 Lay32 Lay33 Lay34 Lay36 Lay37 Lay49 Lay50 Lay51 Lay52 Lay59 Lay75 Lay77 Lay85 Lay87 Lay89 Lay96 Lay101 Lay112 Lay113 Lay118 Lay119 Lay120 Lay122 Lay123 Lay124 Lay125 Lay126 Lay127 Lay128 Lay129 Lay130 Lay132 Lay133 qexec_seq qexec_skip qexec_exit qexec_ret qexec_block qexec_loop qexec_range qexec_cond qexec_region qexec_drawn qops_nil qops_none qops_some put_some put_none pblk_exit pblk_other newDsts_nil inlDsts_nil isInl sget_cons sget_nil qval_some qbool_some qgs_bool qgs_und qfree_some qgrd_true qgrd_false qif_true qif_false qval_ite qval_itn qand_true map_ite map_some' map_none' qdo_move qdo_assign qdo_binOp qdo_pick qdo_unOp qdo_convert qdo_extract qdo_makeInterface qdo_field qdo_fieldAddr qdo_alloc qdo_box qdo_build qdo_buildSlice qdo_load qdo_store qdo_nilCheck qdo_makeFunc qdo_makeSlice qdo_slice qdo_indexAddr qdo_call qcont_val qcont_new qcont_st qcont_app0 qcont_app qcont_inl qcont_call njSV_val njSV_nil njSV_row njSV_ptr njSV_sub binV_val binV_nil binV_nn binV_ptr bin_np bin_nnp nilCmp bin_add bin_sub bin_mul bin_quo bin_rem bin_and bin_or bin_xor bin_andNot bin_eql bin_neq bin_lss bin_leq bin_gtr bin_geq bin_shl bin_shr bin_seql bin_sneq bin_sadd bin_beql bin_aeql bin_aneq eqAnd_some eqCells_nil eqCells_cons fieldTypes isStruct eqCell bin_bneq un_not un_neg nj_ite Nat.beq stepA stepR isNew opSV constSV RV.sv allSome E_mu E_own qkeyIn_none qkeyIn_some qkeyAt_none qkeyAt_some Bool.or_false Bool.false_or Bool.or_true Bool.true_or cst setB res resSV pstart startL killL kill1 eraL frzL svPV rvPV rvInt rvSlice rvBytes frzOf close closeL pconv pbuiltin pmax2 partPV setCells fillPV zrow bound newSV PV.cells Bk.cells Bk.with SV.key pres presL_nil presL_tmp presL_cell presC2_some cellPV_ptr presC List.toList_toArray List.size_toArray List.getElem?_drop Nat.mul_one Int.toNat_natCast Nat.not_lt_zero Nat.lt_irrefl decide_true decide_false Nat.not_lt Option.some.injEq PV.lst.injEq PV.int.injEq PV.bool.injEq PV.tuple.injEq List.cons.injEq Option.map_some Option.map_none Option.bind_some Option.toList List.map_cons List.map_nil List.nil_append List.cons_append List.append_nil List.zip_cons_cons List.zip_nil_left List.zip_nil_right List.getElem?_cons_zero List.getElem?_cons_succ List.drop_zero List.drop_succ_cons List.take_succ_cons List.take_zero List.set_cons_zero List.set_cons_succ List.length_cons List.length_nil List.length_set List.replicate_one List.replicate_zero bne_self_eq_false beq_self_eq_true Nat.zero_add Nat.add_zero Nat.zero_mul Bool.false_eq_true Bool.true_eq_false Bool.not_true Bool.not_false and_true true_and false_and and_false or_false false_or or_true true_or not_true_eq_false not_false_eq_true ne_eq gt_iff_lt List.mem_cons List.not_mem_nil
attribute [local go_sem ↓] pseq_normal pseq_ret pseq_exit pblk_normal pblk_ret newDsts_cons inlDsts_cons gdst_zero gdst_succ retQ_normal retQ_ret qneed_nil qneed_cons retM_normal retM_ret endR_normal endR_ret endR_exit
attribute [local go_sem] Int.reduceToNat Int.reduceEq Int.reduceNe Int.reduceLT Int.reduceLE Int.reduceNeg Int.reduceAdd Nat.reduceEqDiff Nat.reduceAdd Nat.reduceSub Nat.reduceMul Nat.reduceLeDiff Nat.reduceLT
attribute [local go_sem ↓] reduceIte reduceCtorEq

/-- So many hex digits. -/
def hz : Nat → Nat → List UInt8
  | 0, _ => []
  | k + 1, b => hxd (b / 16 ^ k % 16) :: hz k b
theorem hz_len : ∀ k b, (hz k b).length = k
  | 0, _ => rfl
  | k + 1, b => by rw [hz, List.length_cons, hz_len k b]
theorem hz_snoc : ∀ k b, hz (k + 1) b = hz k (b / 16) ++ [hxd (b % 16)]
  | 0, b => by rw [hz, hz, hz, Nat.pow_zero, Nat.div_one]; rfl
  | k + 1, b => by
    rw [hz, hz_snoc k b, hz, Nat.div_div_eq_div_mul, ← Nat.pow_succ']
    rfl
theorem hz_hexL : ∀ k b, b < 16 ^ (k + 1) → (hexL b).length ≤ k + 1 ∧ hz (k + 1) b = List.replicate (k + 1 - (hexL b).length) 48 ++ hexL b
  | 0, b, h => by
    have h1 : b < 16 := by omega
    rw [hexL_lt h1, hz, hz, Nat.pow_zero, Nat.div_one, Nat.mod_eq_of_lt h1]
    exact ⟨Nat.le_refl _, rfl⟩
  | k + 1, b, h => by
    rw [hz_snoc]
    by_cases h1 : b < 16
    · obtain ⟨-, h3⟩ := hz_hexL k 0 (Nat.pow_pos (by decide))
      rw [hexL_lt (by decide)] at h3
      rw [hexL_lt h1, show b / 16 = 0 by omega, h3, Nat.mod_eq_of_lt h1]
      refine ⟨by simp, ?_⟩
      have : ([hxd 0] : List UInt8) = [48] := rfl
      rw [this, List.length_singleton, List.length_singleton, Nat.add_sub_cancel, Nat.add_sub_cancel, ← List.replicate_succ']
    · obtain ⟨h2, h3⟩ := hz_hexL k (b / 16) (by rw [Nat.div_lt_iff_lt_mul (by decide), ← Nat.pow_succ]; exact h)
      rw [hexL_ge h1, h3, List.length_append, List.length_singleton, List.append_assoc]
      refine ⟨by omega, ?_⟩
      rw [show k + 1 + 1 - ((hexL (b / 16)).length + 1) = k + 1 - (hexL (b / 16)).length by omega]
theorem two_siJ {g : Addr → Option Value} {s : ByteArray} {a : Int} {vs : Array Value} (hs : vs.size = 2) (h : ∀ (j : Nat) p x, [PV.str s, PV.int .i64 a][j]? = some p → vs[j]? = some x → Rep g p x) : vs = #[.string s, .int .i64 a] := by
  have h0 := (h 0 _ _ rfl (Array.getElem?_eq_getElem (by omega)) : Rep g (.str s) vs[0]).str_inv
  have h1 := (h 1 _ _ rfl (Array.getElem?_eq_getElem (by omega)) : Rep g (.int .i64 a) vs[1]).int_inv
  refine Array.ext (by simp [hs]) fun i hi hj => ?_
  have : i = 0 ∨ i = 1 := by omega
  rcases this with rfl | rfl <;> simp [h0, h1]
theorem s_RepeatJ (c : UInt8) (n : Nat) (hn : n ≤ 100000) : PC E 44 [TX [c], .int .i64 n] (TX (List.replicate n c)) := by
  refine PC.of_calls (fun g vs hs h => two_siJ hs h) (enters_of Tryd.func44 (by kernel_rfl) rfl) fun w Pr hG => ?_
  have hsz : (B8 [c]).size = 1 := rfl
  have e : Lib.repeatL (B8 [c]).data.toList n = List.replicate n c := by
    rw [B8_data]
    induction n with
    | zero => rfl
    | succ n ih =>
      have := ih (by omega)
      rw [List.replicate_succ, ← this]
      rfl
  refine (Tryd.strings_Repeat (B8 [c]) n w (by omega) (by rw [hsz]; omega)).mono ?_
  rintro e2 w' ⟨rfl, hb⟩
  refine ⟨_, rfl, fun g => ?_, hb⟩
  rw [e]
  exact .str _
theorem j_hex {b : Nat} (hb : b < W) : PC E 33 [u b] (TX (hz 16 b)) := by
  have hW : W = 16 ^ 16 := rfl
  have k1 := s_FormatUint hb
  obtain ⟨h1, h2⟩ := hz_hexL 15 b (by rw [hW] at hb; exact hb)
  have h3 : 1 ≤ (hexL b).length := by
    by_cases h : b < 16
    · rw [hexL_lt h]; simp
    · rw [hexL_ge h]; simp
  have k2 := s_RepeatJ 48 (16 - (hexL b).length) (by omega)
  rw [h2]
  have hmx : maxLen = 9223372036854775807 := rfl
  have w1 : IntKind.wrap .i64 (16 - ((hexL b).length : Int)) = ((16 - (hexL b).length : Nat) : Int) := by rw [wrap64 (by omega) (by omega)]; omega
  have hl : (List.replicate (16 - (hexL b).length) (48 : UInt8)).length = 16 - (hexL b).length := List.length_replicate
  clear h2
  generalize List.replicate (16 - (hexL b).length) (48 : UInt8) = zs at *
  generalize hexL b = hs at *
  simp only [TX, u] at k1 k2 ⊢
  refine PC.of_body follows Tryd.func33 (by decide +kernel) rfl (by kernel_rfl) (Nat.le_of_ble_eq_true rfl) (walk ?_)
  simp only [Tryd.f33, B8_size, B8_cut, B8_eq, B8_mk, B8_app, Int.toNat_natCast, go_sem]
  refine qcall_i (k1) ?_; simp only [Tryd.f33, B8_size, B8_cut, B8_eq, B8_mk, B8_app, Int.toNat_natCast, w1, go_sem]
  refine qcall_i (k2) ?_; simp only [Tryd.f33, B8_size, B8_cut, B8_eq, B8_mk, B8_app, Int.toNat_natCast, go_sem]
  refine qand_i (by rw [hmx, hl]; omega) ?_
  simp only [Tryd.f33, B8_size, B8_cut, B8_eq, B8_mk, B8_app, Int.toNat_natCast, go_sem]
  try rfl
/-- The first digits stand in the row's end. -/
def arrH (t : List UInt8) : List PV := List.replicate (16 - t.length) (.int .u8 0) ++ BL t
theorem arrH_set {t : List UInt8} (c : UInt8) (h : t.length < 16) : (arrH t).set (16 - t.length - 1) (.int .u8 (c.toNat : Nat)) = arrH (c :: t) := by
  unfold arrH
  rw [rep_set _ _ _ _ (by omega), List.length_cons, show 16 - (t.length + 1) = 16 - t.length - 1 by omega]
  rfl
theorem arrH_len {t : List UInt8} (h : t.length ≤ 16) : (arrH t).length = 16 := by
  unfold arrH; rw [List.length_append, List.length_replicate, BL_length]; omega
def HXJ : List UInt8 := [48, 49, 50, 51, 52, 53, 54, 55, 56, 57, 97, 98, 99, 100, 101, 102]
theorem idx_HXJ {n : Nat} (h : n < 16) : idxS (B8 HXJ) (n : Int) = some (.val (.int .u8 ((hxd n).toNat : Nat))) := by
  have e : ∀ k : Fin 16, HXJ.getD k.val 0 = hxd k.val := by decide +kernel
  rw [idxS_B8 (by omega) (by rw [Int.toNat_natCast]; exact h), Int.toNat_natCast, e ⟨n, h⟩]
set_option maxHeartbeats 1000000 in
theorem c_25Hex {b : Nat} (hb : b < W) : PC E 21 [u b] (TX (hz 16 b)) := by
  simp only [TX, u]
  refine PC.of_body follows Tryd.func21 (by decide +kernel) rfl (by kernel_rfl) (Nat.le_of_ble_eq_true rfl) (walk ?_)
  simp only [Tryd.f21, B8_size, B8_cut, B8_eq, B8_mk, B8_app, Int.toNat_natCast, go_sem]
  refine qand_i (by decide) ?_
  simp only [Tryd.f21, B8_size, B8_cut, B8_eq, B8_mk, B8_app, Int.toNat_natCast, go_sem]
  refine PLoop.intro (fun k : Nat => ⟨[(0, .val (.int .u64 ((b / 16 ^ k : Nat) : Int))), (3, .val (.str (B8 HXJ))), (4, .row 6), (5, .val (.int .i64 (15 - (k : Int))))], [(6, (.row 5 1 16 (arrH (hz k b)), false))]⟩)
    (fun k => k ≤ 16) (fun k => 16 - k) 0 (by omega) ?_ fun k hk => walk ?_
  · simp [Wk, sget, killL, kill1, SV.key, arrH, BL, hz, HXJ]
    try decide
  have hl := hz_len k b
  by_cases hlt : k < 16
  · have hm : (((b / 16 ^ k : Nat) : Int)).tmod 16 = ((b / 16 ^ k % 16 : Nat) : Int) := by rw [Int.tmod_eq_emod_of_nonneg (Int.natCast_nonneg _)]; rfl
    have h16 : b / 16 ^ k % 16 < 16 := Nat.mod_lt _ (by decide)
    have hw : IntKind.wrap .u64 ((b / 16 ^ k % 16 : Nat) : Int) = ((b / 16 ^ k % 16 : Nat) : Int) := by
      generalize b / 16 ^ k % 16 = q at *
      rw [IntKind.wrap_u64]; omega
    have hq : (((b / 16 ^ k : Nat) : Int)).tdiv 16 = ((b / 16 ^ (k + 1) : Nat) : Int) := by
      rw [Int.tdiv_eq_ediv_of_nonneg (Int.natCast_nonneg _), Nat.pow_succ, ← Nat.div_div_eq_div_mul]
      rfl
    have hqb : b / 16 ^ (k + 1) < W := Nat.lt_of_le_of_lt (Nat.div_le_self _ _) hb
    have hqw : IntKind.wrap .u64 ((b / 16 ^ (k + 1) : Nat) : Int) = ((b / 16 ^ (k + 1) : Nat) : Int) := by
      have h2 : b / 16 ^ (k + 1) < 18446744073709551616 := hqb
      generalize b / 16 ^ (k + 1) = q at *
      rw [IntKind.wrap_u64]; omega
    have hix := idx_HXJ h16
    have hst := arrH_set (t := hz k b) (hxd (b / 16 ^ k % 16)) (by omega)
    rw [hl] at hst
    have hsn : arrH (hxd (b / 16 ^ k % 16) :: hz k b) = arrH (hz (k + 1) b) := rfl
    rw [hsn] at hst
    have hal := arrH_len (t := hz k b) (by omega)
    have wi : IntKind.wrap .i64 (15 - (k : Int) - 1) = 15 - ((k + 1 : Nat) : Int) := by rw [wrap64 (by omega) (by omega)]; omega
    have ti : (15 - (k : Int)).toNat = 16 - k - 1 := by omega
    have hb16 : ((b / 16 ^ k % 16 : Nat) : Int) < 16 := by omega
    clear hsn hqb
    generalize b / 16 ^ k % 16 = r at *
    generalize b / 16 ^ k = q1 at *
    simp only [Tryd.f21, B8_size, B8_cut, B8_eq, B8_mk, B8_app, Int.toNat_natCast, go_sem]
    refine qif_dt (by omega) ?_
    simp only [Tryd.f21, B8_size, B8_cut, B8_eq, B8_mk, B8_app, Int.toNat_natCast, hm, hw, go_sem]
    refine qdo_indexS Lay9.1 rfl rfl ?_
    rw [hix]
    simp only [Tryd.f21, B8_size, B8_cut, B8_eq, B8_mk, B8_app, Int.toNat_natCast, hm, hw, go_sem]
    repeat' first
      | ((refine qand_i (by omega) ?_); simp only [Tryd.f21, B8_size, B8_cut, B8_eq, B8_mk, B8_app, Int.toNat_natCast, hm, hw, go_sem])
    rw [hq, hqw, wi, ti, hst]
    refine ⟨k + 1, by omega, by omega, ?_⟩
    simp [Wk, sget, killL, kill1, SV.key]
  · have : k = 16 := by omega
    subst this
    simp only [Tryd.f21, B8_size, B8_cut, B8_eq, B8_mk, B8_app, Int.toNat_natCast, go_sem]
    refine qif_df (by omega) ?_
    simp only [Tryd.f21, B8_size, B8_cut, B8_eq, B8_mk, B8_app, Int.toNat_natCast, go_sem]
    have hbc := bconv_BL (P := E.P) (e := 5) (d := 9) (l := hz 16 b) (n := 16) Lay5.1 Lay9.1 hl
    rw [show arrH (hz 16 b) = BL (hz 16 b) by unfold arrH; rw [hl]; rfl]
    refine qval_i (congrArg (Option.map _) hbc) ?_
    simp only [Tryd.f21, TX, B8_size, B8_cut, B8_eq, B8_mk, B8_app, Int.toNat_natCast, go_sem]
    try rfl
/-- A job, told by its parts. -/
structure Jb where
  op : Int
  x : Nat
  y : Nat
  n : Int
  dir : Int
  urg : Bool
deriving DecidableEq
def Jb.pv (j : Jb) : PV := .agg [.int .i64 j.op, .int .u64 (j.x : Nat), .int .u64 (j.y : Nat), .int .i64 j.n, .int .i64 j.dir, .bool j.urg]
/-- What its parts' types allow. -/
structure Jb.wf (j : Jb) : Prop where
  op1 : -9223372036854775808 ≤ j.op
  op2 : j.op ≤ 9223372036854775807
  x : j.x < W
  y : j.y < W
  n1 : -9223372036854775808 ≤ j.n
  n2 : j.n ≤ 9223372036854775807
  d1 : -9223372036854775808 ≤ j.dir
  d2 : j.dir ≤ 9223372036854775807
def Jb.ok (j : Jb) : Bool := decide (0 ≤ j.op ∧ j.op ≤ 3 ∧ 0 ≤ j.dir ∧ j.dir ≤ 3 ∧ (j.op = 0 → j.n = 0) ∧ (j.op ≠ 0 → j.y = 0))
def nmJ (op : Int) : List UInt8 := if op = 0 then [112, 111, 119] else if op = 1 then [112, 111, 119, 110] else if op = 2 then [114, 111, 111, 116, 110] else [99, 111, 109, 112, 111, 117, 110, 100]
def wyJ (dir : Int) : List UInt8 := if dir = 0 then [110, 101, 97, 114] else if dir = 1 then [122, 101, 114, 111] else if dir = 2 then [117, 112] else [100, 111, 119, 110]
/-- A job's line, without its end. -/
def Jb.row (j : Jb) : List UInt8 := (if j.urg = true then [33, 32] else []) ++ (nmJ j.op ++ (32 :: (hz 16 j.x ++ (32 :: ((if j.op = 0 then hz 16 j.y else Lib.itoa j.n) ++ (32 :: wyJ j.dir))))))
def Jb.line (j : Jb) : List UInt8 := j.row ++ [10]
theorem j_names : PC E 20 [] (.lst 4 [TX [112, 111, 119], TX [112, 111, 119, 110], TX [114, 111, 111, 116, 110], TX [99, 111, 109, 112, 111, 117, 110, 100]]) := by
  simp only [TX]
  refine PC.of_body follows Tryd.func20 (by decide +kernel) rfl (by kernel_rfl) (Nat.le_of_ble_eq_true rfl) (walk ?_)
  simp only [Tryd.f20, B8_size, B8_cut, B8_eq, B8_mk, B8_app, Int.toNat_natCast, List.range_zero, List.getD_cons_zero, List.getD_cons_succ, Nat.reduceMod, go_sem]
  try rfl
theorem j_ways : PC E 29 [] (.lst 4 [TX [110, 101, 97, 114], TX [122, 101, 114, 111], TX [117, 112], TX [100, 111, 119, 110]]) := by
  simp only [TX]
  refine PC.of_body follows Tryd.func29 (by decide +kernel) rfl (by kernel_rfl) (Nat.le_of_ble_eq_true rfl) (walk ?_)
  simp only [Tryd.f29, B8_size, B8_cut, B8_eq, B8_mk, B8_app, Int.toNat_natCast, List.range_zero, List.getD_cons_zero, List.getD_cons_succ, Nat.reduceMod, go_sem]
  try rfl
theorem c_25Right (j : Jb) : PC E 10 [j.pv] (.bool j.ok) := by
  obtain ⟨op, x, y, n, dir, urg⟩ := j
  unfold Jb.pv Jb.ok
  dsimp only
  obtain ⟨R, hR⟩ : ∃ R : Bool, R = decide (0 ≤ op ∧ op ≤ 3 ∧ 0 ≤ dir ∧ dir ≤ 3 ∧ (op = 0 → n = 0) ∧ (op ≠ 0 → y = 0)) := ⟨_, rfl⟩
  rw [← hR]
  refine PC.of_body follows Tryd.func10 (by decide +kernel) rfl (by kernel_rfl) (Nat.le_of_ble_eq_true rfl) (walk ?_)
  simp only [Tryd.f10, go_sem]
  repeat' first
    | ((with_reducible refine qif_d (fun h => ?_) (fun h => ?_)) <;> first | (exfalso; omega) | simp only [Tryd.f10, go_sem])
    | (rw [hR]; exact (decide_eq_true (by omega)).symm)
    | (rw [hR]; exact (decide_eq_false (by omega)).symm)
    | (rw [hR]; exact decide_eq_decide.2 (by omega))
theorem j_Check (j : Jb) : PC E 11 [j.pv] (.int .i64 (if j.ok = true then 0 else 1)) := by
  obtain ⟨op, x, y, n, dir, urg⟩ := j
  unfold Jb.pv Jb.ok
  dsimp only
  obtain ⟨R, hR⟩ : ∃ R : Int, R = if decide (0 ≤ op ∧ op ≤ 3 ∧ 0 ≤ dir ∧ dir ≤ 3 ∧ (op = 0 → n = 0) ∧ (op ≠ 0 → y = 0)) = true then 0 else 1 := ⟨_, rfl⟩
  rw [← hR]
  have k1 := j_names
  simp only [TX] at k1
  refine PC.of_body follows Tryd.func11 (by decide +kernel) rfl (by kernel_rfl) (Nat.le_of_ble_eq_true rfl) (walk ?_)
  simp only [Tryd.f11, go_sem]
  repeat' first
    | ((with_reducible refine qif_d (fun h => ?_) (fun h => ?_)) <;> first | (exfalso; omega) | simp only [Tryd.f11, go_sem])
    | ((with_reducible refine qcall_i k1 ?_); simp only [Tryd.f11, go_sem])
    | (rw [hR, if_pos (decide_eq_true (by omega))])
    | (rw [hR, if_neg (by rw [decide_eq_true_eq]; omega)])
theorem j_Bare (j : Jb) : PC E 13 [j.pv] ({ j with urg := false } : Jb).pv := by
  obtain ⟨op, x, y, n, dir, urg⟩ := j
  unfold Jb.pv
  dsimp only
  refine PC.of_body follows Tryd.func13 (by decide +kernel) rfl (by kernel_rfl) (Nat.le_of_ble_eq_true rfl) (walk ?_)
  simp only [Tryd.f13, go_sem]
  try rfl
theorem l_25Of (j : Jb) : PC E 9 [j.pv] j.pv := by
  obtain ⟨op, x, y, n, dir, urg⟩ := j
  unfold Jb.pv
  dsimp only
  refine PC.of_body follows Tryd.func9 (by decide +kernel) rfl (by kernel_rfl) (Nat.le_of_ble_eq_true rfl) (walk ?_)
  simp only [Tryd.f9, go_sem]
  try rfl
end Go.Proofs.YtmnojbkakgfinaaDoor
