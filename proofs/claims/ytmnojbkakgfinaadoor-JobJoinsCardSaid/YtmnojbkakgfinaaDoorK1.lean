/- Several parts in one text. -/
import Derived.Test.YtmnojbkakgfinaaDoorPgN
import Derived.Test.YtmnojbkakgfinaaDoorG4
import Derived.Lib.Bytealg
open Go PG Go.Proofs
namespace Go.Proofs.YtmnojbkakgfinaaDoor
attribute [local go_sem] Lay2 Lay3 Lay4 Lay5 Lay6 Lay7 Lay8 Lay9 Lay10 Lay11 Lay12 Lay13 Lay14 Lay15 Lay16 Lay17 Lay18 Lay19 Lay21 Lay23 Lay24 Lay30 Lay31 Lay32 Lay33 Lay34 Lay36 Lay37 Lay49 Lay50 Lay51 Lay52 Lay59 Lay75 Lay77 Lay85 Lay87 Lay89 Lay96 Lay101 Lay112 Lay113 Lay118 Lay119 Lay120 Lay122 Lay123 Lay124 Lay125 Lay126 Lay127 Lay128 Lay129 Lay130 Lay132 Lay133 qexec_seq qexec_skip qexec_exit qexec_ret qexec_block qexec_loop qexec_range qexec_cond qexec_region qexec_drawn qops_nil qops_none qops_some put_some put_none pblk_exit pblk_other newDsts_nil inlDsts_nil isInl sget_cons sget_nil qval_some qbool_some qgs_bool qgs_und qfree_some qgrd_true qgrd_false qif_true qif_false qval_ite qval_itn qand_true map_ite map_some' map_none' qdo_move qdo_assign qdo_binOp qdo_pick qdo_unOp qdo_convert qdo_extract qdo_makeInterface qdo_field qdo_fieldAddr qdo_alloc qdo_box qdo_build qdo_buildSlice qdo_load qdo_store qdo_nilCheck qdo_makeFunc qdo_makeSlice qdo_slice qdo_indexAddr qdo_call qcont_val qcont_new qcont_st qcont_app0 qcont_app qcont_inl qcont_call njSV_val njSV_nil njSV_row njSV_ptr njSV_sub binV_val binV_nil binV_nn binV_ptr bin_np bin_nnp nilCmp bin_add bin_sub bin_mul bin_quo bin_rem bin_and bin_or bin_xor bin_andNot bin_eql bin_neq bin_lss bin_leq bin_gtr bin_geq bin_shl bin_shr bin_seql bin_sneq bin_sadd bin_beql bin_aeql bin_aneq eqAnd_some eqCells_nil eqCells_cons fieldTypes isStruct eqCell bin_bneq un_not un_neg nj_ite Nat.beq stepA stepR isNew opSV constSV RV.sv allSome E_mu E_own qkeyIn_none qkeyIn_some qkeyAt_none qkeyAt_some Bool.or_false Bool.false_or Bool.or_true Bool.true_or cst setB res resSV pstart startL killL kill1 eraL frzL svPV rvPV rvInt rvSlice rvBytes frzOf close closeL pconv pbuiltin pmax2 partPV setCells fillPV zrow bound newSV PV.cells Bk.cells Bk.with SV.key pres presL_nil presL_tmp presL_cell presC2_some cellPV_ptr presC List.toList_toArray List.size_toArray List.getElem?_drop Nat.mul_one Int.toNat_natCast Nat.not_lt_zero Nat.lt_irrefl decide_true decide_false Nat.not_lt Option.some.injEq PV.lst.injEq PV.int.injEq PV.bool.injEq PV.tuple.injEq List.cons.injEq Option.map_some Option.map_none Option.bind_some Option.toList List.map_cons List.map_nil List.nil_append List.cons_append List.append_nil List.zip_cons_cons List.zip_nil_left List.zip_nil_right List.getElem?_cons_zero List.getElem?_cons_succ List.drop_zero List.drop_succ_cons List.take_succ_cons List.take_zero List.set_cons_zero List.set_cons_succ List.length_cons List.length_nil List.length_set List.replicate_one List.replicate_zero bne_self_eq_false beq_self_eq_true Nat.zero_add Nat.add_zero Nat.zero_mul Bool.false_eq_true Bool.true_eq_false Bool.not_true Bool.not_false and_true true_and false_and and_false or_false false_or or_true true_or not_true_eq_false not_false_eq_true ne_eq gt_iff_lt List.mem_cons List.not_mem_nil
attribute [local go_sem ↓] pseq_normal pseq_ret pseq_exit pblk_normal pblk_ret newDsts_cons inlDsts_cons gdst_zero gdst_succ retQ_normal retQ_ret qneed_nil qneed_cons retM_normal retM_ret endR_normal endR_ret endR_exit
attribute [local go_sem] Int.reduceToNat Int.reduceEq Int.reduceNe Int.reduceLT Int.reduceLE Int.reduceNeg Int.reduceAdd Nat.reduceEqDiff Nat.reduceAdd Nat.reduceSub Nat.reduceMul Nat.reduceLeDiff Nat.reduceLT
attribute [local go_sem ↓] reduceIte reduceCtorEq
/- Texts as lists of bytes; what strings' small functions return. -/
section
open Go PG Go.Proofs
set_option maxRecDepth 100000
set_option linter.unusedSimpArgs false
set_option linter.unusedVariables false

/-- A text of these bytes. -/
def B8 (l : List UInt8) : ByteArray := ⟨l.toArray⟩
def TX (l : List UInt8) : PV := .str (B8 l)
theorem B8_mk (l : List UInt8) : ByteArray.mk l.toArray = B8 l := (rfl)
theorem B8_of (s : ByteArray) : B8 s.data.toList = s := by cases s; rfl
theorem B8_data (l : List UInt8) : (B8 l).data.toList = l := by simp [B8]
theorem B8_size (l : List UInt8) : (B8 l).size = l.length := by simp [B8, ByteArray.size]
theorem B8_inj {a b : List UInt8} : B8 a = B8 b ↔ a = b :=
  ⟨fun h => by have := congrArg (fun s : ByteArray => s.data.toList) h; simpa [B8_data] using this, fun h => by rw [h]⟩
theorem B8_eq {a b : List UInt8} : (B8 a = B8 b) = (a = b) := propext B8_inj
theorem B8_app (a b : List UInt8) : B8 a ++ B8 b = B8 (a ++ b) := by
  refine ByteArray.ext ?_
  rw [ByteArray.data_append]
  simp [B8]
theorem B8_cut (l : List UInt8) (i j : Nat) : (B8 l).extract i j = B8 ((l.take j).drop i) := by
  refine ByteArray.ext ?_
  rw [ByteArray.data_extract]
  simp only [B8, List.extract_toArray, List.extract_eq_take_drop, List.drop_take]
theorem idxS_B8 {l : List UInt8} {n : Int} (h0 : 0 ≤ n) (h1 : n.toNat < l.length) : idxS (B8 l) n = some (.val (.int .u8 ((l.getD n.toNat 0).toNat : Nat))) := by
  unfold idxS
  rw [dif_pos ⟨h0, by rw [B8_size]; exact h1⟩]
  congr 3
  have : (B8 l)[n.toNat]'(by rw [B8_size]; exact h1) = l[n.toNat] := by
    show (B8 l).data[n.toNat]'_ = _
    simp [B8]
  rw [this, List.getD_eq_getElem?_getD, List.getElem?_eq_getElem h1]
  rfl
/-- Does it begin so? -/
def hasP (l p : List UInt8) : Bool := decide (l.take p.length = p)
theorem s_HasPrefix (l p : List UInt8) : PC E 53 [TX l, TX p] (.bool (hasP l p)) := by
  unfold hasP
  simp only [TX]
  refine PC.of_body follows Tryd.func53 (by decide +kernel) rfl (by kernel_rfl) (Nat.le_of_ble_eq_true rfl) (walk ?_)
  simp only [Tryd.f53, B8_size, B8_cut, B8_eq, B8_mk, B8_app, Int.toNat_natCast, go_sem]
  refine qif_d (fun h => ?_) (fun h => ?_)
  · simp only [Tryd.f53, B8_size, B8_cut, B8_eq, B8_mk, B8_app, Int.toNat_natCast, go_sem]
    refine qand_i (by omega) ?_
    simp only [Tryd.f53, B8_size, B8_cut, B8_eq, B8_mk, B8_app, Int.toNat_natCast, go_sem]
    try rfl
  · simp only [Tryd.f53, B8_size, B8_cut, B8_eq, B8_mk, B8_app, Int.toNat_natCast, go_sem]
    refine (decide_eq_false fun e => ?_).symm
    have := congrArg List.length e
    rw [List.length_take] at this
    omega
theorem s_CutPrefixI (l p : List UInt8) : PC E 38 [TX l, TX p] (.tuple [TX (if hasP l p = true then l.drop p.length else l), .bool (hasP l p)]) := by
  have k1 := s_HasPrefix l p
  have hh : hasP l p = true → p.length ≤ l.length := fun h => by
    have := congrArg List.length (of_decide_eq_true h)
    rw [List.length_take] at this
    omega
  generalize hasP l p = b at *
  simp only [TX] at k1 ⊢
  refine PC.of_body follows Tryd.func38 (by decide +kernel) rfl (by kernel_rfl) (Nat.le_of_ble_eq_true rfl) (walk ?_)
  simp only [Tryd.f38, B8_size, B8_cut, B8_eq, B8_mk, B8_app, Int.toNat_natCast, go_sem]
  refine qcall_i (k1) ?_; simp only [Tryd.f38, B8_size, B8_cut, B8_eq, B8_mk, B8_app, Int.toNat_natCast, go_sem]
  cases b
  · simp only [Tryd.f38, B8_size, B8_cut, B8_eq, B8_mk, B8_app, Int.toNat_natCast, go_sem]
    try rfl
  · have hl := hh rfl
    simp only [Tryd.f38, B8_size, B8_cut, B8_eq, B8_mk, B8_app, Int.toNat_natCast, go_sem]
    refine qand_i (by omega) ?_
    simp only [Tryd.f38, B8_size, B8_cut, B8_eq, B8_mk, B8_app, Int.toNat_natCast, List.take_length, go_sem]
    try rfl
theorem s_CutPrefix (l p : List UInt8) : PC E 27 [TX l, TX p] (.tuple [TX (if hasP l p = true then l.drop p.length else l), .bool (hasP l p)]) := by
  have k1 := s_CutPrefixI l p
  generalize (if hasP l p = true then l.drop p.length else l) = q at *
  generalize hasP l p = b at *
  simp only [TX] at k1 ⊢
  refine PC.of_body follows Tryd.func27 (by decide +kernel) rfl (by kernel_rfl) (Nat.le_of_ble_eq_true rfl) (walk ?_)
  simp only [Tryd.f27, B8_size, B8_cut, B8_eq, B8_mk, B8_app, Int.toNat_natCast, go_sem]
  refine qcall_i (k1) ?_; simp only [Tryd.f27, B8_size, B8_cut, B8_eq, B8_mk, B8_app, Int.toNat_natCast, go_sem]
  try rfl
/-- Where a byte first stands; the length: nowhere. -/
def pos (c : UInt8) (l : List UInt8) : Nat := (l.takeWhile (· != c)).length
theorem pos_le (c : UInt8) (l : List UInt8) : pos c l ≤ l.length := by
  unfold pos
  exact (List.takeWhile_prefix _).length_le
theorem idx_pos (c : UInt8) (l : List UInt8) : Lib.indexByte l c = if pos c l < l.length then (pos c l : Int) else -1 := by
  induction l with
  | nil => rfl
  | cons b l ih =>
    unfold pos at *
    by_cases h : b = c
    · subst h; simp [Lib.indexByte]
    · have e1 : (b == c) = false := by simpa using h
      have e2 : (b != c) = true := by simpa using h
      show (if (b == c) = true then (0 : Int) else if (Lib.indexByte l c == -1) = true then -1 else Lib.indexByte l c + 1) = _
      rw [e1, List.takeWhile_cons, e2, if_pos rfl]
      simp only [Bool.false_eq_true, if_false, List.length_cons]
      by_cases h1 : (l.takeWhile (· != c)).length < l.length
      · rw [if_pos h1] at ih
        rw [ih, if_neg (by rw [beq_iff_eq]; omega), if_pos (by omega)]
        simp
      · rw [if_neg h1] at ih
        rw [ih, if_pos (by decide), if_neg (by omega)]
/-- Ahead of a byte; behind it. -/
def cutA (c : UInt8) (l : List UInt8) : List UInt8 := l.takeWhile (· != c)
def cutB (c : UInt8) (l : List UInt8) : List UInt8 := (l.dropWhile (· != c)).drop 1
def hasC (c : UInt8) (l : List UInt8) : Bool := decide (pos c l < l.length)
theorem take_pos (c : UInt8) (l : List UInt8) : l.take (pos c l) = cutA c l := by
  have h := List.takeWhile_append_dropWhile (p := (· != c)) (l := l)
  unfold pos cutA
  generalize List.takeWhile (fun x => x != c) l = a at *
  generalize List.dropWhile (fun x => x != c) l = b at *
  rw [← h]; simp
theorem drop_pos (c : UInt8) (l : List UInt8) : l.drop (pos c l + 1) = cutB c l := by
  have h := List.takeWhile_append_dropWhile (p := (· != c)) (l := l)
  unfold pos cutB
  generalize List.takeWhile (fun x => x != c) l = a at *
  generalize List.dropWhile (fun x => x != c) l = b at *
  rw [← h, ← List.drop_drop]; simp
theorem cut_none {c : UInt8} {l : List UInt8} (h : ¬ pos c l < l.length) : cutA c l = l ∧ cutB c l = [] := by
  have := pos_le c l
  rw [← take_pos, ← drop_pos]
  exact ⟨List.take_of_length_le (by omega), List.drop_of_length_le (by omega)⟩
theorem two_strB {g : Addr → Option Value} {s : ByteArray} {n : Int} {vs : Array Value} (hs : vs.size = 2) (h : ∀ (j : Nat) p x, [PV.str s, PV.int .u8 n][j]? = some p → vs[j]? = some x → Rep g p x) : vs = #[.string s, .int .u8 n] := by
  have h0 := (h 0 _ _ rfl (Array.getElem?_eq_getElem (by omega)) : Rep g (.str s) vs[0]).str_inv
  have h1 := (h 1 _ _ rfl (Array.getElem?_eq_getElem (by omega)) : Rep g (.int .u8 n) vs[1]).int_inv
  refine Array.ext (by simp [hs]) fun i hi hj => ?_
  have : i = 0 ∨ i = 1 := by omega
  rcases this with rfl | rfl <;> simp [h0, h1]
theorem u8_back (c : UInt8) : ((c.toNat : Nat) : Int).toNat.toUInt8 = c := by
  rw [Int.toNat_natCast]
  exact UInt8.ofNat_toNat
theorem s_IndexByteString (l : List UInt8) (c : UInt8) : PC E 70 [TX l, .int .u8 (c.toNat : Nat)] (.int .i64 (if pos c l < l.length then (pos c l : Int) else -1)) := by
  refine PC.of_value (xs := #[.string (B8 l), .int .u8 (c.toNat : Nat)]) (v := .int .i64 (if pos c l < l.length then (pos c l : Int) else -1)) (fun g vs hs h => two_strB hs h) (fun w => ?_) (fun g => .int _ _)
  rw [run_callFunc_extern (P := E.P) Tryd.func70 (by kernel_rfl) (by kernel_rfl) (by kernel_rfl) (e := Extern.BytealgIndexByte.indexByte) (by kernel_rfl), Lib.run_indexByteString, B8_data, u8_back, idx_pos]
  rfl
theorem s_IndexByte (l : List UInt8) (c : UInt8) : PC E 49 [TX l, .int .u8 (c.toNat : Nat)] (.int .i64 (if pos c l < l.length then (pos c l : Int) else -1)) := by
  have k1 := s_IndexByteString l c
  generalize (if pos c l < l.length then (pos c l : Int) else -1) = r at *
  simp only [TX] at k1 ⊢
  refine PC.of_body follows Tryd.func49 (by decide +kernel) rfl (by kernel_rfl) (Nat.le_of_ble_eq_true rfl) (walk ?_)
  simp only [Tryd.f49, B8_size, B8_cut, B8_eq, B8_mk, B8_app, Int.toNat_natCast, go_sem]
  refine qcall_i (k1) ?_; simp only [Tryd.f49, B8_size, B8_cut, B8_eq, B8_mk, B8_app, Int.toNat_natCast, go_sem]
  try rfl
theorem pos_one (c : UInt8) : pos c [c] = 0 := by simp [pos]
theorem s_Index1 (l : List UInt8) (c : UInt8) : PC E 37 [TX l, TX [c]] (.int .i64 (if pos c l < l.length then (pos c l : Int) else -1)) := by
  have k1 := s_IndexByte l c
  have hr : [c] = l → (if pos c l < l.length then (pos c l : Int) else -1) = 0 := by rintro rfl; rw [pos_one]; rfl
  generalize (if pos c l < l.length then (pos c l : Int) else -1) = r at *
  have hi : idxS (B8 [c]) 0 = some (.val (.int .u8 (c.toNat : Nat))) := idxS_B8 (l := [c]) (by decide) (by simp)
  simp only [TX] at k1 ⊢
  refine PC.of_body follows Tryd.func37 (by decide +kernel) rfl (by kernel_rfl) (Nat.le_of_ble_eq_true rfl) (walk ?_)
  simp only [Tryd.f37, B8_size, B8_cut, B8_eq, B8_mk, B8_app, Int.toNat_natCast, List.length_cons, List.length_nil, Nat.reduceAdd, go_sem]
  refine qif_df (by omega) ?_
  simp only [Tryd.f37, B8_size, B8_cut, B8_eq, B8_mk, B8_app, Int.toNat_natCast, List.length_cons, List.length_nil, Nat.reduceAdd, go_sem]
  refine qif_d (fun h => ?_) (fun h => ?_)
  · simp only [Tryd.f37, B8_size, B8_cut, B8_eq, B8_mk, B8_app, Int.toNat_natCast, go_sem]
    rw [hr h]
  simp only [Tryd.f37, B8_size, B8_cut, B8_eq, B8_mk, B8_app, Int.toNat_natCast, List.length_cons, List.length_nil, Nat.reduceAdd, go_sem]
  refine qif_dt (by omega) ?_
  simp only [Tryd.f37, B8_size, B8_cut, B8_eq, B8_mk, B8_app, Int.toNat_natCast, List.length_cons, List.length_nil, Nat.reduceAdd, go_sem]
  refine qdo_indexS Lay9.1 rfl rfl ?_
  simp only [Tryd.f37, B8_size, B8_cut, B8_eq, B8_mk, B8_app, Int.toNat_natCast, hi, go_sem]
  refine qcall_i (k1) ?_; simp only [Tryd.f37, B8_size, B8_cut, B8_eq, B8_mk, B8_app, Int.toNat_natCast, go_sem]
  try rfl
theorem s_CutI (l : List UInt8) (c : UInt8) (hl : l.length < 9223372036854775807) : PC E 26 [TX l, TX [c]] (.tuple [TX (cutA c l), TX (cutB c l), .bool (hasC c l)]) := by
  have k1 := s_Index1 l c
  have hp := pos_le c l
  unfold hasC
  by_cases h : pos c l < l.length
  · rw [if_pos h] at k1
    rw [decide_eq_true h, ← take_pos, ← drop_pos]
    generalize pos c l = q at *
    have w1 : IntKind.wrap .i64 ((q : Int) + 1) = ((q + 1 : Nat) : Int) := by rw [wrap64 (by omega) (by omega)]; omega
    simp only [TX] at k1 ⊢
    refine PC.of_body follows Tryd.func26 (by decide +kernel) rfl (by kernel_rfl) (Nat.le_of_ble_eq_true rfl) (walk ?_)
    simp only [Tryd.f26, B8_size, B8_cut, B8_eq, B8_mk, B8_app, Int.toNat_natCast, List.length_cons, List.length_nil, Nat.reduceAdd, go_sem]
    refine qcall_i (k1) ?_; simp only [Tryd.f26, B8_size, B8_cut, B8_eq, B8_mk, B8_app, Int.toNat_natCast, List.length_cons, List.length_nil, Nat.reduceAdd, go_sem]
    refine qif_dt (by omega) ?_
    simp only [Tryd.f26, B8_size, B8_cut, B8_eq, B8_mk, B8_app, Int.toNat_natCast, List.length_cons, List.length_nil, Nat.reduceAdd, Int.cast_ofNat_Int, w1, go_sem]
    refine qand_i (by omega) ?_
    simp only [Tryd.f26, B8_size, B8_cut, B8_eq, B8_mk, B8_app, Int.toNat_natCast, List.length_cons, List.length_nil, Nat.reduceAdd, Int.cast_ofNat_Int, w1, go_sem]
    refine qand_i (by omega) ?_
    simp only [Tryd.f26, B8_size, B8_cut, B8_eq, B8_mk, B8_app, Int.toNat_natCast, List.length_cons, List.length_nil, Nat.reduceAdd, Int.cast_ofNat_Int, w1, List.take_length, List.drop_zero, go_sem]
    try rfl
  · rw [if_neg h] at k1
    obtain ⟨e1, e2⟩ := cut_none h
    rw [decide_eq_false h, e1, e2]
    simp only [TX] at k1 ⊢
    refine PC.of_body follows Tryd.func26 (by decide +kernel) rfl (by kernel_rfl) (Nat.le_of_ble_eq_true rfl) (walk ?_)
    simp only [Tryd.f26, B8_size, B8_cut, B8_eq, B8_mk, B8_app, Int.toNat_natCast, go_sem]
    refine qcall_i (k1) ?_; simp only [Tryd.f26, B8_size, B8_cut, B8_eq, B8_mk, B8_app, Int.toNat_natCast, go_sem]
    refine qif_df (by omega) ?_
    simp only [Tryd.f26, B8_size, B8_cut, B8_eq, B8_mk, B8_app, Int.toNat_natCast, go_sem]
    try rfl
theorem s_Cut (l : List UInt8) (c : UInt8) (hl : l.length < 9223372036854775807) : PC E 15 [TX l, TX [c]] (.tuple [TX (cutA c l), TX (cutB c l), .bool (hasC c l)]) := by
  have k1 := s_CutI l c hl
  simp only [TX] at k1 ⊢
  refine PC.of_body follows Tryd.func15 (by decide +kernel) rfl (by kernel_rfl) (Nat.le_of_ble_eq_true rfl) (walk ?_)
  simp only [Tryd.f15, B8_size, B8_cut, B8_eq, B8_mk, B8_app, Int.toNat_natCast, go_sem]
  refine qcall_i (k1) ?_; simp only [Tryd.f15, B8_size, B8_cut, B8_eq, B8_mk, B8_app, Int.toNat_natCast, go_sem]
  try rfl
end

/- strings.Trim, TrimRight. -/
section
open Go PG Go.Proofs
set_option maxRecDepth 100000
set_option linter.unusedSimpArgs false
set_option linter.unusedVariables false

/-- Without those at the end, at the front, of which p holds. -/
def trimR (p : UInt8 → Bool) (l : List UInt8) : List UInt8 := (l.reverse.dropWhile p).reverse
def trimL (p : UInt8 → Bool) (l : List UInt8) : List UInt8 := l.dropWhile p
theorem trimR_nil (p : UInt8 → Bool) : trimR p [] = [] := rfl
theorem trimR_snoc (p : UInt8 → Bool) (t : List UInt8) (d : UInt8) : trimR p (t ++ [d]) = if p d = true then trimR p t else t ++ [d] := by
  unfold trimR
  rw [List.reverse_append]
  show (List.dropWhile p (d :: t.reverse)).reverse = _
  rw [List.dropWhile_cons]
  split
  · rfl
  · simp
theorem snoc_cases (s : List UInt8) : s = [] ∨ ∃ t d, s = t ++ [d] := by
  rcases List.eq_nil_or_concat s with h | ⟨t, d, h⟩
  · exact .inl h
  · exact .inr ⟨t, d, by rw [h, List.concat_eq_append]⟩
theorem getD_snoc (t : List UInt8) (d : UInt8) : (t ++ [d]).getD t.length 0 = d := by simp
theorem take_snoc (t : List UInt8) (d : UInt8) : (t ++ [d]).take t.length = t := by simp
theorem u8_eq {a b : UInt8} : ((a.toNat : Nat) : Int) = (b.toNat : Nat) ↔ a = b :=
  ⟨fun h => UInt8.toNat_inj.1 (by omega), fun h => by rw [h]⟩
end

/- strings.Trim at a set of ASCII signs. -/
section
open Go PG Go.Proofs
set_option maxRecDepth 100000
set_option linter.unusedSimpArgs false
set_option linter.unusedVariables false

/-- Which of 256 signs are in it. -/
def asc (cs : List UInt8) : List PV := (List.range 256).map fun j => .bool (cs.any fun c => decide (c.toNat = j))
theorem asc_length (cs : List UInt8) : (asc cs).length = 256 := by simp [asc]
theorem asc_get (cs : List UInt8) {j : Nat} (h : j < 256) : (asc cs)[j]? = some (.bool (cs.any fun c => decide (c.toNat = j))) := by
  unfold asc
  rw [List.getElem?_map, List.getElem?_range h]
  rfl
theorem asc_set (cs : List UInt8) (c : UInt8) : (asc cs).set c.toNat (.bool true) = asc (cs ++ [c]) := by
  refine List.ext_getElem? fun j => ?_
  by_cases hj : j < 256
  · rw [asc_get _ hj, List.getElem?_set]
    split
    · rename_i h
      subst h
      rw [if_pos (by rw [asc_length]; exact hj)]
      simp
    · rename_i h
      rw [asc_get _ hj, List.any_append]
      simp [h]
  · rw [List.getElem?_eq_none (by rw [List.length_set, asc_length]; omega), List.getElem?_eq_none (by rw [asc_length]; omega)]
theorem setCells_self : ∀ (vs pre : List PV), setCells (pre ++ vs) pre.length vs = pre ++ vs
  | [], pre => rfl
  | v :: vs, pre => by
    rw [setCells]
    have e : (pre ++ v :: vs).set pre.length v = (pre ++ [v]) ++ vs := by simp
    rw [e, show pre.length + 1 = (pre ++ [v]).length by simp, setCells_self vs (pre ++ [v])]
    simp
theorem setCells_all (vs : List PV) : setCells vs 0 vs = vs := setCells_self vs []
theorem setCells_over : ∀ (vs pre xs : List PV), xs.length = vs.length → setCells (pre ++ xs) pre.length vs = pre ++ vs
  | [], pre, xs, h => by
    rw [List.eq_nil_of_length_eq_zero h]; rfl
  | v :: vs, pre, [], h => by simp at h
  | v :: vs, pre, x :: xs, h => by
    rw [setCells]
    have e : (pre ++ x :: xs).set pre.length v = (pre ++ [v]) ++ xs := by simp
    rw [e, show pre.length + 1 = (pre ++ [v]).length by simp, setCells_over vs (pre ++ [v]) xs (by simpa using h)]
    simp
theorem getD_mem {l : List UInt8} {i : Nat} (h : i < l.length) : l.getD i 0 ∈ l := by
  rw [List.getD_eq_getElem?_getD, List.getElem?_eq_getElem h]; exact List.getElem_mem h
theorem take_getD {l : List UInt8} {i : Nat} (h : i < l.length) : l.take i ++ [l.getD i 0] = l.take (i + 1) := by
  rw [List.getD_eq_getElem?_getD, List.getElem?_eq_getElem h, Option.getD_some, List.take_succ_eq_append_getElem h]
/-- Is it one of them? -/
def inS (cs : List UInt8) (c : UInt8) : Bool := cs.any fun d => decide (d.toNat = c.toNat)
theorem trimR_le (p : UInt8 → Bool) (l : List UInt8) : (trimR p l).length ≤ l.length := by
  unfold trimR
  rw [List.length_reverse]
  have := (List.dropWhile_suffix p (l := l.reverse)).length_le
  simpa using this
theorem mem_tw {p : UInt8 → Bool} {l : List UInt8} {c : UInt8} (h : c ∈ l.takeWhile p) : p c = true := by
  have := List.all_takeWhile (p := p) (l := l)
  exact List.all_eq_true.1 this c h
theorem dw_all {p : UInt8 → Bool} : ∀ {l : List UInt8}, (∀ c ∈ l, p c = true) → l.dropWhile p = []
  | [], _ => rfl
  | c :: l, h => by
    rw [List.dropWhile_cons, if_pos (h c (by simp))]
    exact dw_all fun d hd => h d (by simp [hd])
theorem trim_nil (p : UInt8 → Bool) (l : List UInt8) : trimL p (trimR p l) = [] ↔ l.all p = true := by
  constructor
  · intro h
    unfold trimL at h
    have h1 : ∀ c ∈ trimR p l, p c = true := by
      intro c hc
      have := List.takeWhile_append_dropWhile (p := p) (l := trimR p l)
      rw [h, List.append_nil] at this
      rw [← this] at hc
      exact mem_tw hc
    unfold trimR at h1
    have h2 : l.reverse.dropWhile p = [] := by
      cases hd : l.reverse.dropWhile p with
      | nil => rfl
      | cons x r =>
        exfalso
        have hx := h1 x (by rw [hd]; simp)
        have := List.head?_dropWhile_not p l.reverse
        rw [hd] at this
        simp [hx] at this
    rw [List.all_eq_true]
    intro c hc
    have := List.takeWhile_append_dropWhile (p := p) (l := l.reverse)
    rw [h2, List.append_nil] at this
    have hc' : c ∈ l.reverse := by simpa using hc
    rw [← this] at hc'
    exact mem_tw hc'
  · intro h
    have hall : ∀ c ∈ l, p c = true := List.all_eq_true.1 h
    have e : trimR p l = [] := by
      unfold trimR
      rw [dw_all (fun c hc => hall c (by simpa using hc))]
      rfl
    rw [e]; rfl
end

/- Texts that are cut, scanned: plain laws. No program stands here. -/
section
open Go PG Go.Proofs
set_option maxRecDepth 100000
set_option linter.unusedSimpArgs false
set_option linter.unusedVariables false

def expS (l : List UInt8) : List UInt8 := if hasP l [45] = true then l.drop [(45 : UInt8)].length else l
theorem expS_le (l : List UInt8) : (expS l).length ≤ l.length := by
  unfold expS; split
  · rw [List.length_drop]; omega
  · exact Nat.le_refl _
theorem cut_len (c : UInt8) (l : List UInt8) : (cutA c l).length ≤ l.length ∧ (cutB c l).length ≤ l.length := by
  rw [← take_pos, ← drop_pos, List.length_take, List.length_drop]
  omega
theorem cut_sum (c : UInt8) (l : List UInt8) : (cutA c l).length + (cutB c l).length ≤ l.length := by
  have := pos_le c l
  rw [← take_pos, ← drop_pos, List.length_take, List.length_drop]
  omega
/-- The three words. -/
def wNaN : List UInt8 := [110, 97, 110]
def wInf : List UInt8 := [105, 110, 102]
def wNeg : List UInt8 := [45, 105, 110, 102]
def isW (l : List UInt8) : Bool := decide (l = wNaN) || (decide (l = wInf) || decide (l = wNeg))
def wordV (l : List UInt8) : Nat := if l = wNaN then 9221120237041090560 else if l = wInf then 9218868437227405312 else if l = wNeg then 18442240474082181120 else 0
def resH (r : (Nat × Nat) × Int) : PV := .tuple [.agg [.int .u64 (r.1.1 : Nat), .int .u8 (r.1.2 : Nat), .int .i64 0], .int .i64 r.2]
theorem cutA_cons (c d : UInt8) (l : List UInt8) : cutA c (d :: l) = if d = c then [] else d :: cutA c l := by
  unfold cutA
  rw [List.takeWhile_cons]
  by_cases h : d = c
  · subst h; simp
  · rw [if_neg h, if_pos (by simpa using h)]
theorem cutB_cons (c d : UInt8) (l : List UInt8) : cutB c (d :: l) = if d = c then l else cutB c l := by
  unfold cutB
  rw [List.dropWhile_cons]
  by_cases h : d = c
  · subst h; simp
  · rw [if_neg h, if_pos (by simpa using h)]
theorem hasC_cons (c d : UInt8) (l : List UInt8) : hasC c (d :: l) = if d = c then true else hasC c l := by
  unfold hasC pos
  rw [List.takeWhile_cons]
  by_cases h : d = c
  · subst h; simp
  · rw [if_neg h, if_pos (by simpa using h)]
    simp
theorem hasC_nil (c : UInt8) : hasC c [] = false := rfl
theorem cut_in {c : UInt8} : ∀ {x : List UInt8} (y : List UInt8), hasC c x = true → cutA c (x ++ y) = cutA c x ∧ cutB c (x ++ y) = cutB c x ++ y ∧ hasC c (x ++ y) = true := by
  intro x
  induction x with
  | nil => intro y h; cases h
  | cons d x ih =>
    intro y h
    rw [List.cons_append, cutA_cons, cutA_cons, cutB_cons, cutB_cons, hasC_cons]
    rw [hasC_cons] at h
    by_cases e : d = c
    · simp only [if_pos e]; exact ⟨trivial, trivial, trivial⟩
    · simp only [if_neg e] at h ⊢
      obtain ⟨h1, h2, h3⟩ := ih y h
      exact ⟨by rw [h1], h2, h3⟩
theorem cut_out {c : UInt8} : ∀ {x : List UInt8} (y : List UInt8), hasC c x = false → cutA c (x ++ y) = x ++ cutA c y ∧ cutB c (x ++ y) = cutB c y ∧ hasC c (x ++ y) = hasC c y := by
  intro x
  induction x with
  | nil => intro y h; exact ⟨rfl, rfl, rfl⟩
  | cons d x ih =>
    intro y h
    rw [List.cons_append, cutA_cons, cutB_cons, hasC_cons]
    rw [hasC_cons] at h
    by_cases e : d = c
    · rw [if_pos e] at h; cases h
    · rw [if_neg e] at h
      simp only [if_neg e]
      obtain ⟨h1, h2, h3⟩ := ih y h
      exact ⟨by rw [h1]; rfl, h2, h3⟩
theorem cut_no {c : UInt8} {x : List UInt8} (h : hasC c x = false) : cutA c x = x ∧ cutB c x = [] := cut_none (of_decide_eq_false h)
theorem cut_yes {c : UInt8} {x : List UInt8} : hasC c x = true → x.length = (cutA c x).length + 1 + (cutB c x).length := by
  induction x with
  | nil => intro h; cases h
  | cons d x ih =>
    intro h
    rw [cutA_cons, cutB_cons]
    rw [hasC_cons] at h
    by_cases e : d = c
    · simp only [if_pos e]; simp; omega
    · rw [if_neg e] at h
      simp only [if_neg e, List.length_cons]
      have := ih h
      omega
/-- The digits, without the point; where it stands; how many stand behind it. -/
def WF (q : List UInt8) : List UInt8 := cutA 46 q ++ cutB 46 q
def ptO (o : Nat) (q : List UInt8) : Int := if hasC 46 q = true then ((o + (cutA 46 q).length : Nat) : Int) else -1
def fr (q : List UInt8) : Nat := (cutB 46 q).length
theorem wf_pt {q : List UInt8} (h : hasC 46 q = false) (o : Nat) : WF (q ++ [46]) = WF q ∧ ptO o (q ++ [46]) = ((o + q.length : Nat) : Int) ∧ fr (q ++ [46]) = fr q := by
  obtain ⟨h1, h2, h3⟩ := cut_out [46] h
  obtain ⟨g1, g2⟩ := cut_no h
  have e1 : cutA 46 [46] = [] := rfl
  have e2 : cutB 46 [46] = [] := rfl
  have e3 : hasC 46 [46] = true := rfl
  rw [e1, List.append_nil] at h1
  rw [e2] at h2
  rw [e3] at h3
  unfold WF ptO fr
  rw [h1, h2, h3, g1, g2, if_pos rfl]
  exact ⟨rfl, rfl, rfl⟩
theorem wf_dig {q : List UInt8} {c : UInt8} (h : c ≠ 46 ∨ hasC 46 q = true) (o : Nat) : WF (q ++ [c]) = WF q ++ [c] ∧ ptO o (q ++ [c]) = ptO o q ∧ (fr (q ++ [c]) : Int) = if 0 ≤ ptO o q then (fr q : Int) + 1 else fr q := by
  unfold WF ptO fr
  by_cases hc : hasC 46 q = true
  · obtain ⟨h1, h2, h3⟩ := cut_in [c] hc
    rw [h1, h2, h3, hc]
    simp only [if_true, List.append_assoc, List.length_append, List.length_singleton]
    rw [if_pos (by omega)]
    exact ⟨trivial, trivial, by omega⟩
  · have hc' : hasC 46 q = false := by simpa using hc
    obtain ⟨h1, h2, h3⟩ := cut_out [c] hc'
    obtain ⟨g1, g2⟩ := cut_no hc'
    have h4 : c ≠ 46 := by rcases h with h | h; exact h; exact absurd h hc
    have e1 : cutA 46 [c] = [c] := by rw [cutA_cons, if_neg h4]; rfl
    have e2 : cutB 46 [c] = [] := by rw [cutB_cons, if_neg h4]; rfl
    have e3 : hasC 46 [c] = false := by rw [hasC_cons, if_neg h4]; rfl
    rw [e1] at h1
    rw [e2] at h2
    rw [e3] at h3
    rw [h1, h2, h3, hc', g1, g2]
    simp
theorem wf_pre (x y : List UInt8) : ∃ z, WF (x ++ y) = WF x ++ z := by
  unfold WF
  by_cases hc : hasC 46 x = true
  · obtain ⟨h1, h2, -⟩ := cut_in y hc
    exact ⟨y, by rw [h1, h2, List.append_assoc]⟩
  · have hc' : hasC 46 x = false := by simpa using hc
    obtain ⟨h1, h2, -⟩ := cut_out y hc'
    obtain ⟨g1, g2⟩ := cut_no hc'
    exact ⟨cutA 46 y ++ cutB 46 y, by rw [h1, h2, g1, g2, List.append_nil, List.append_assoc]⟩
theorem pt_neg {o : Nat} {q : List UInt8} : ptO o q < 0 ↔ hasC 46 q = false := by
  unfold ptO
  split
  · rename_i h; rw [h]; simp; omega
  · rename_i h; simpa using h
theorem wf_len (q : List UInt8) : (WF q).length ≤ q.length ∧ fr q ≤ q.length := by
  have h := cut_sum 46 q
  unfold WF fr
  rw [List.length_append]
  exact ⟨h, by omega⟩
theorem drop_getD {r : List UInt8} {k : Nat} (h : k < r.length) : r.drop k = r.getD k 0 :: r.drop (k + 1) := by
  rw [List.drop_eq_getElem_cons h, List.getD_eq_getElem?_getD, List.getElem?_eq_getElem h]
  rfl
theorem hasP1 (E : List UInt8) (c : UInt8) : hasP E [c] = true ↔ 0 < E.length ∧ E.getD 0 0 = c := by
  unfold hasP
  rw [decide_eq_true_eq]
  cases E with
  | nil => simp
  | cons d E => simp
theorem drop_get (l : List UInt8) (i j : Nat) : (l.drop i).getD j 0 = l.getD (i + j) 0 := by
  rw [List.getD_eq_getElem?_getD, List.getD_eq_getElem?_getD, List.getElem?_drop]
end
end Go.Proofs.YtmnojbkakgfinaaDoor
