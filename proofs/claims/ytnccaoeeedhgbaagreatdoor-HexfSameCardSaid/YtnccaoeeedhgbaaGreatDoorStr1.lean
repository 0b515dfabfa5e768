/- Texts as lists of bytes; what strings' small functions return. -/
import Derived.Test.YtnccaoeeedhgbaaGreatDoorPgN
import Derived.Test.YtnccaoeeedhgbaaGreatDoorG4
import Derived.Lib.Bytealg
open Go PG Go.Proofs
set_option maxRecDepth 100000
set_option linter.unusedSimpArgs false
set_option linter.unusedVariables false
namespace Go.Proofs.YtnccaoeeedhgbaaGreatDoor
attribute [local go_sem] Lay2 Lay3 Lay4 Lay5 Lay6 Lay7 Lay8 Lay9 Lay10 Lay11 Lay12 Lay13 Lay14 Lay15 Lay16 Lay17 Lay18 Lay19 Lay21 Lay23 Lay24 Lay25 Lay26 Lay27 Lay28 Lay31 Lay32 Lay33 Lay34 Lay37 Lay38 Lay39 Lay42 Lay46 Lay47 Lay54 Lay65 Lay66 Lay96 Lay97 Lay106 Lay136 Lay147 Lay148 Lay152 Lay160 Lay161 Lay187 Lay201 Lay202 Lay203 Lay204 Lay212 Lay215 Lay220 Lay221 Lay234 Lay244 Lay247 Lay248 Lay249 Lay250 Lay251 Lay252 Lay253 Lay254 Lay255 Lay256 Lay257 Lay258 Lay259 Lay260 Lay261 Lay262 Lay264 Lay265 qexec_seq qexec_skip qexec_exit qexec_ret qexec_block qexec_loop qexec_range qexec_cond qexec_region qexec_drawn qops_nil qops_none qops_some put_some put_none pblk_exit pblk_other newDsts_nil inlDsts_nil isInl sget_cons sget_nil qval_some qbool_some qgs_bool qgs_und qfree_some qgrd_true qgrd_false qif_true qif_false qval_ite qval_itn qand_true map_ite map_some' map_none' qdo_move qdo_assign qdo_binOp qdo_pick qdo_unOp qdo_convert qdo_extract qdo_field qdo_fieldAddr qdo_alloc qdo_box qdo_build qdo_buildSlice qdo_load qdo_store qdo_nilCheck qdo_makeFunc qdo_makeSlice qdo_slice qdo_indexAddr qdo_call qcont_val qcont_new qcont_st qcont_app0 qcont_app qcont_inl qcont_call njSV_val njSV_nil njSV_row njSV_ptr njSV_sub binV_val binV_nil binV_nn binV_ptr bin_np bin_nnp nilCmp bin_add bin_sub bin_mul bin_quo bin_rem bin_and bin_or bin_xor bin_andNot bin_eql bin_neq bin_lss bin_leq bin_gtr bin_geq bin_shl bin_shr bin_seql bin_sneq bin_sadd bin_beql bin_aeql bin_aneq eqAnd_some eqCells_nil eqCells_cons fieldTypes isStruct eqCell bin_bneq un_not un_neg nj_ite Nat.beq stepA stepR isNew opSV constSV RV.sv allSome E_mu E_own qkeyIn_none qkeyIn_some qkeyAt_none qkeyAt_some Bool.or_false Bool.false_or Bool.or_true Bool.true_or cst setB res resSV pstart startL killL kill1 eraL frzL svPV rvPV rvInt rvSlice rvBytes frzOf close closeL pconv pbuiltin pmax2 partPV setCells fillPV zrow bound newSV PV.cells Bk.cells Bk.with SV.key pres presL_nil presL_tmp presL_cell presC2_some cellPV_ptr presC List.toList_toArray List.size_toArray List.getElem?_drop Nat.mul_one Int.toNat_natCast Nat.not_lt_zero Nat.lt_irrefl decide_true decide_false Nat.not_lt Option.some.injEq PV.lst.injEq PV.int.injEq PV.bool.injEq PV.tuple.injEq List.cons.injEq Option.map_some Option.map_none Option.bind_some Option.toList List.map_cons List.map_nil List.nil_append List.cons_append List.append_nil List.zip_cons_cons List.zip_nil_left List.zip_nil_right List.getElem?_cons_zero List.getElem?_cons_succ List.drop_zero List.drop_succ_cons List.take_succ_cons List.take_zero List.set_cons_zero List.set_cons_succ List.length_cons List.length_nil List.length_set List.replicate_one List.replicate_zero bne_self_eq_false beq_self_eq_true Nat.zero_add Nat.add_zero Nat.zero_mul Bool.false_eq_true Bool.true_eq_false Bool.not_true Bool.not_false and_true true_and false_and and_false or_false false_or or_true true_or not_true_eq_false not_false_eq_true ne_eq gt_iff_lt List.mem_cons List.not_mem_nil
attribute [local go_sem ↓] pseq_normal pseq_ret pseq_exit pblk_normal pblk_ret newDsts_cons inlDsts_cons gdst_zero gdst_succ retQ_normal retQ_ret qneed_nil qneed_cons retM_normal retM_ret endR_normal endR_ret endR_exit
attribute [local go_sem] Int.reduceToNat Int.reduceEq Int.reduceNe Int.reduceLT Int.reduceLE Int.reduceNeg Int.reduceAdd Nat.reduceEqDiff Nat.reduceAdd Nat.reduceSub Nat.reduceMul Nat.reduceLeDiff Nat.reduceLT
attribute [local go_sem ↓] reduceIte reduceCtorEq

/-- A text of these bytes. -/
def B8 (l : List UInt8) : ByteArray := ⟨l.toArray⟩
def TX (l : List UInt8) : PV := .str (B8 l)
theorem B8_mk (l : List UInt8) : ByteArray.mk l.toArray = B8 l := (rfl)
theorem B8_of (s : ByteArray) : B8 s.data.toList = s := by cases s; rfl
theorem B8_data (l : List UInt8) : (B8 l).data.toList = l := by simp [B8]
theorem B8_size (l : List UInt8) : (B8 l).size = l.length := by simp [B8, ByteArray.size]
theorem B8_inj {a b : List UInt8} : B8 a = B8 b ↔ a = b :=
  ⟨fun h => by have := congrArg (fun s : ByteArray => s.data.toList) h; simpa [B8_data] using this, fun h => by rw [h]⟩
theorem B8_eq {a b : List UInt8} : (B8 a = B8 b) = (a = b) := propext B8_inj
theorem B8_app (a b : List UInt8) : B8 a ++ B8 b = B8 (a ++ b) := by
  refine ByteArray.ext ?_
  rw [ByteArray.data_append]
  simp [B8]
theorem B8_cut (l : List UInt8) (i j : Nat) : (B8 l).extract i j = B8 ((l.take j).drop i) := by
  refine ByteArray.ext ?_
  rw [ByteArray.data_extract]
  simp only [B8, List.extract_toArray, List.extract_eq_take_drop, List.drop_take]
theorem idxS_B8 {l : List UInt8} {n : Int} (h0 : 0 ≤ n) (h1 : n.toNat < l.length) : idxS (B8 l) n = some (.val (.int .u8 ((l.getD n.toNat 0).toNat : Nat))) := by
  unfold idxS
  rw [dif_pos ⟨h0, by rw [B8_size]; exact h1⟩]
  congr 3
  have : (B8 l)[n.toNat]'(by rw [B8_size]; exact h1) = l[n.toNat] := by
    show (B8 l).data[n.toNat]'_ = _
    simp [B8]
  rw [this, List.getD_eq_getElem?_getD, List.getElem?_eq_getElem h1]
  rfl
/-- Does it begin so? -/
def hasP (l p : List UInt8) : Bool := decide (l.take p.length = p)
theorem s_HasPrefix (l p : List UInt8) : PC E 125 [TX l, TX p] (.bool (hasP l p)) := by
  unfold hasP
  simp only [TX]
  refine PC.of_body follows Tryz.func125 (by decide +kernel) rfl (by kernel_rfl) (Nat.le_of_ble_eq_true rfl) (walk ?_)
  simp only [Tryz.f125, B8_size, B8_cut, B8_eq, B8_mk, B8_app, Int.toNat_natCast, go_sem]
  refine qif_d (fun h => ?_) (fun h => ?_)
  · simp only [Tryz.f125, B8_size, B8_cut, B8_eq, B8_mk, B8_app, Int.toNat_natCast, go_sem]
    refine qand_i (by omega) ?_
    simp only [Tryz.f125, B8_size, B8_cut, B8_eq, B8_mk, B8_app, Int.toNat_natCast, go_sem]
    try rfl
  · simp only [Tryz.f125, B8_size, B8_cut, B8_eq, B8_mk, B8_app, Int.toNat_natCast, go_sem]
    refine (decide_eq_false fun e => ?_).symm
    have := congrArg List.length e
    rw [List.length_take] at this
    omega
theorem s_CutPrefixI (l p : List UInt8) : PC E 77 [TX l, TX p] (.tuple [TX (if hasP l p = true then l.drop p.length else l), .bool (hasP l p)]) := by
  have k1 := s_HasPrefix l p
  have hh : hasP l p = true → p.length ≤ l.length := fun h => by
    have := congrArg List.length (of_decide_eq_true h)
    rw [List.length_take] at this
    omega
  generalize hasP l p = b at *
  simp only [TX] at k1 ⊢
  refine PC.of_body follows Tryz.func77 (by decide +kernel) rfl (by kernel_rfl) (Nat.le_of_ble_eq_true rfl) (walk ?_)
  simp only [Tryz.f77, B8_size, B8_cut, B8_eq, B8_mk, B8_app, Int.toNat_natCast, go_sem]
  refine qcall_i (k1) ?_; simp only [Tryz.f77, B8_size, B8_cut, B8_eq, B8_mk, B8_app, Int.toNat_natCast, go_sem]
  cases b
  · simp only [Tryz.f77, B8_size, B8_cut, B8_eq, B8_mk, B8_app, Int.toNat_natCast, go_sem]
    try rfl
  · have hl := hh rfl
    simp only [Tryz.f77, B8_size, B8_cut, B8_eq, B8_mk, B8_app, Int.toNat_natCast, go_sem]
    refine qand_i (by omega) ?_
    simp only [Tryz.f77, B8_size, B8_cut, B8_eq, B8_mk, B8_app, Int.toNat_natCast, List.take_length, go_sem]
    try rfl
theorem s_CutPrefix (l p : List UInt8) : PC E 33 [TX l, TX p] (.tuple [TX (if hasP l p = true then l.drop p.length else l), .bool (hasP l p)]) := by
  have k1 := s_CutPrefixI l p
  generalize (if hasP l p = true then l.drop p.length else l) = q at *
  generalize hasP l p = b at *
  simp only [TX] at k1 ⊢
  refine PC.of_body follows Tryz.func33 (by decide +kernel) rfl (by kernel_rfl) (Nat.le_of_ble_eq_true rfl) (walk ?_)
  simp only [Tryz.f33, B8_size, B8_cut, B8_eq, B8_mk, B8_app, Int.toNat_natCast, go_sem]
  refine qcall_i (k1) ?_; simp only [Tryz.f33, B8_size, B8_cut, B8_eq, B8_mk, B8_app, Int.toNat_natCast, go_sem]
  try rfl
/-- Where a byte first stands; the length: nowhere. -/
def pos (c : UInt8) (l : List UInt8) : Nat := (l.takeWhile (· != c)).length
theorem pos_le (c : UInt8) (l : List UInt8) : pos c l ≤ l.length := by
  unfold pos
  exact (List.takeWhile_prefix _).length_le
theorem idx_pos (c : UInt8) (l : List UInt8) : Lib.indexByte l c = if pos c l < l.length then (pos c l : Int) else -1 := by
  induction l with
  | nil => rfl
  | cons b l ih =>
    unfold pos at *
    by_cases h : b = c
    · subst h; simp [Lib.indexByte]
    · have e1 : (b == c) = false := by simpa using h
      have e2 : (b != c) = true := by simpa using h
      show (if (b == c) = true then (0 : Int) else if (Lib.indexByte l c == -1) = true then -1 else Lib.indexByte l c + 1) = _
      rw [e1, List.takeWhile_cons, e2, if_pos rfl]
      simp only [Bool.false_eq_true, if_false, List.length_cons]
      by_cases h1 : (l.takeWhile (· != c)).length < l.length
      · rw [if_pos h1] at ih
        rw [ih, if_neg (by rw [beq_iff_eq]; omega), if_pos (by omega)]
        simp
      · rw [if_neg h1] at ih
        rw [ih, if_pos (by decide), if_neg (by omega)]
/-- Ahead of a byte; behind it. -/
def cutA (c : UInt8) (l : List UInt8) : List UInt8 := l.takeWhile (· != c)
def cutB (c : UInt8) (l : List UInt8) : List UInt8 := (l.dropWhile (· != c)).drop 1
def hasC (c : UInt8) (l : List UInt8) : Bool := decide (pos c l < l.length)
theorem take_pos (c : UInt8) (l : List UInt8) : l.take (pos c l) = cutA c l := by
  have h := List.takeWhile_append_dropWhile (p := (· != c)) (l := l)
  unfold pos cutA
  generalize List.takeWhile (fun x => x != c) l = a at *
  generalize List.dropWhile (fun x => x != c) l = b at *
  rw [← h]; simp
theorem drop_pos (c : UInt8) (l : List UInt8) : l.drop (pos c l + 1) = cutB c l := by
  have h := List.takeWhile_append_dropWhile (p := (· != c)) (l := l)
  unfold pos cutB
  generalize List.takeWhile (fun x => x != c) l = a at *
  generalize List.dropWhile (fun x => x != c) l = b at *
  rw [← h, ← List.drop_drop]; simp
theorem cut_none {c : UInt8} {l : List UInt8} (h : ¬ pos c l < l.length) : cutA c l = l ∧ cutB c l = [] := by
  have := pos_le c l
  rw [← take_pos, ← drop_pos]
  exact ⟨List.take_of_length_le (by omega), List.drop_of_length_le (by omega)⟩
theorem two_strB {g : Addr → Option Value} {s : ByteArray} {n : Int} {vs : Array Value} (hs : vs.size = 2) (h : ∀ (j : Nat) p x, [PV.str s, PV.int .u8 n][j]? = some p → vs[j]? = some x → Rep g p x) : vs = #[.string s, .int .u8 n] := by
  have h0 := (h 0 _ _ rfl (Array.getElem?_eq_getElem (by omega)) : Rep g (.str s) vs[0]).str_inv
  have h1 := (h 1 _ _ rfl (Array.getElem?_eq_getElem (by omega)) : Rep g (.int .u8 n) vs[1]).int_inv
  refine Array.ext (by simp [hs]) fun i hi hj => ?_
  have : i = 0 ∨ i = 1 := by omega
  rcases this with rfl | rfl <;> simp [h0, h1]
theorem u8_back (c : UInt8) : ((c.toNat : Nat) : Int).toNat.toUInt8 = c := by
  rw [Int.toNat_natCast]
  exact UInt8.ofNat_toNat
theorem s_IndexByteString (l : List UInt8) (c : UInt8) : PC E 199 [TX l, .int .u8 (c.toNat : Nat)] (.int .i64 (if pos c l < l.length then (pos c l : Int) else -1)) := by
  refine PC.of_value (xs := #[.string (B8 l), .int .u8 (c.toNat : Nat)]) (v := .int .i64 (if pos c l < l.length then (pos c l : Int) else -1)) (fun g vs hs h => two_strB hs h) (fun w => ?_) (fun g => .int _ _)
  rw [run_callFunc_extern (P := E.P) Tryz.func199 (by kernel_rfl) (by kernel_rfl) (by kernel_rfl) (e := Extern.BytealgIndexByte.indexByte) (by kernel_rfl), Lib.run_indexByteString, B8_data, u8_back, idx_pos]
  rfl
theorem s_IndexByte (l : List UInt8) (c : UInt8) : PC E 166 [TX l, .int .u8 (c.toNat : Nat)] (.int .i64 (if pos c l < l.length then (pos c l : Int) else -1)) := by
  have k1 := s_IndexByteString l c
  generalize (if pos c l < l.length then (pos c l : Int) else -1) = r at *
  simp only [TX] at k1 ⊢
  refine PC.of_body follows Tryz.func166 (by decide +kernel) rfl (by kernel_rfl) (Nat.le_of_ble_eq_true rfl) (walk ?_)
  simp only [Tryz.f166, B8_size, B8_cut, B8_eq, B8_mk, B8_app, Int.toNat_natCast, go_sem]
  refine qcall_i (k1) ?_; simp only [Tryz.f166, B8_size, B8_cut, B8_eq, B8_mk, B8_app, Int.toNat_natCast, go_sem]
  try rfl
theorem pos_one (c : UInt8) : pos c [c] = 0 := by simp [pos]
theorem s_Index1 (l : List UInt8) (c : UInt8) : PC E 126 [TX l, TX [c]] (.int .i64 (if pos c l < l.length then (pos c l : Int) else -1)) := by
  have k1 := s_IndexByte l c
  have hr : [c] = l → (if pos c l < l.length then (pos c l : Int) else -1) = 0 := by rintro rfl; rw [pos_one]; rfl
  generalize (if pos c l < l.length then (pos c l : Int) else -1) = r at *
  have hi : idxS (B8 [c]) 0 = some (.val (.int .u8 (c.toNat : Nat))) := idxS_B8 (l := [c]) (by decide) (by simp)
  simp only [TX] at k1 ⊢
  refine PC.of_body follows Tryz.func126 (by decide +kernel) rfl (by kernel_rfl) (Nat.le_of_ble_eq_true rfl) (walk ?_)
  simp only [Tryz.f126, B8_size, B8_cut, B8_eq, B8_mk, B8_app, Int.toNat_natCast, List.length_cons, List.length_nil, Nat.reduceAdd, go_sem]
  refine qif_df (by omega) ?_
  simp only [Tryz.f126, B8_size, B8_cut, B8_eq, B8_mk, B8_app, Int.toNat_natCast, List.length_cons, List.length_nil, Nat.reduceAdd, go_sem]
  refine qif_d (fun h => ?_) (fun h => ?_)
  · simp only [Tryz.f126, B8_size, B8_cut, B8_eq, B8_mk, B8_app, Int.toNat_natCast, go_sem]
    rw [hr h]
  simp only [Tryz.f126, B8_size, B8_cut, B8_eq, B8_mk, B8_app, Int.toNat_natCast, List.length_cons, List.length_nil, Nat.reduceAdd, go_sem]
  refine qif_dt (by omega) ?_
  simp only [Tryz.f126, B8_size, B8_cut, B8_eq, B8_mk, B8_app, Int.toNat_natCast, List.length_cons, List.length_nil, Nat.reduceAdd, go_sem]
  refine qdo_indexS Lay9.1 rfl rfl ?_
  simp only [Tryz.f126, B8_size, B8_cut, B8_eq, B8_mk, B8_app, Int.toNat_natCast, hi, go_sem]
  refine qcall_i (k1) ?_; simp only [Tryz.f126, B8_size, B8_cut, B8_eq, B8_mk, B8_app, Int.toNat_natCast, go_sem]
  try rfl
theorem s_CutI (l : List UInt8) (c : UInt8) (hl : l.length < 9223372036854775807) : PC E 78 [TX l, TX [c]] (.tuple [TX (cutA c l), TX (cutB c l), .bool (hasC c l)]) := by
  have k1 := s_Index1 l c
  have hp := pos_le c l
  unfold hasC
  by_cases h : pos c l < l.length
  · rw [if_pos h] at k1
    rw [decide_eq_true h, ← take_pos, ← drop_pos]
    generalize pos c l = q at *
    have w1 : IntKind.wrap .i64 ((q : Int) + 1) = ((q + 1 : Nat) : Int) := by rw [wrap64 (by omega) (by omega)]; omega
    simp only [TX] at k1 ⊢
    refine PC.of_body follows Tryz.func78 (by decide +kernel) rfl (by kernel_rfl) (Nat.le_of_ble_eq_true rfl) (walk ?_)
    simp only [Tryz.f78, B8_size, B8_cut, B8_eq, B8_mk, B8_app, Int.toNat_natCast, List.length_cons, List.length_nil, Nat.reduceAdd, go_sem]
    refine qcall_i (k1) ?_; simp only [Tryz.f78, B8_size, B8_cut, B8_eq, B8_mk, B8_app, Int.toNat_natCast, List.length_cons, List.length_nil, Nat.reduceAdd, go_sem]
    refine qif_dt (by omega) ?_
    simp only [Tryz.f78, B8_size, B8_cut, B8_eq, B8_mk, B8_app, Int.toNat_natCast, List.length_cons, List.length_nil, Nat.reduceAdd, Int.cast_ofNat_Int, w1, go_sem]
    refine qand_i (by omega) ?_
    simp only [Tryz.f78, B8_size, B8_cut, B8_eq, B8_mk, B8_app, Int.toNat_natCast, List.length_cons, List.length_nil, Nat.reduceAdd, Int.cast_ofNat_Int, w1, go_sem]
    refine qand_i (by omega) ?_
    simp only [Tryz.f78, B8_size, B8_cut, B8_eq, B8_mk, B8_app, Int.toNat_natCast, List.length_cons, List.length_nil, Nat.reduceAdd, Int.cast_ofNat_Int, w1, List.take_length, List.drop_zero, go_sem]
    try rfl
  · rw [if_neg h] at k1
    obtain ⟨e1, e2⟩ := cut_none h
    rw [decide_eq_false h, e1, e2]
    simp only [TX] at k1 ⊢
    refine PC.of_body follows Tryz.func78 (by decide +kernel) rfl (by kernel_rfl) (Nat.le_of_ble_eq_true rfl) (walk ?_)
    simp only [Tryz.f78, B8_size, B8_cut, B8_eq, B8_mk, B8_app, Int.toNat_natCast, go_sem]
    refine qcall_i (k1) ?_; simp only [Tryz.f78, B8_size, B8_cut, B8_eq, B8_mk, B8_app, Int.toNat_natCast, go_sem]
    refine qif_df (by omega) ?_
    simp only [Tryz.f78, B8_size, B8_cut, B8_eq, B8_mk, B8_app, Int.toNat_natCast, go_sem]
    try rfl
theorem s_Cut (l : List UInt8) (c : UInt8) (hl : l.length < 9223372036854775807) : PC E 34 [TX l, TX [c]] (.tuple [TX (cutA c l), TX (cutB c l), .bool (hasC c l)]) := by
  have k1 := s_CutI l c hl
  simp only [TX] at k1 ⊢
  refine PC.of_body follows Tryz.func34 (by decide +kernel) rfl (by kernel_rfl) (Nat.le_of_ble_eq_true rfl) (walk ?_)
  simp only [Tryz.f34, B8_size, B8_cut, B8_eq, B8_mk, B8_app, Int.toNat_natCast, go_sem]
  refine qcall_i (k1) ?_; simp only [Tryz.f34, B8_size, B8_cut, B8_eq, B8_mk, B8_app, Int.toNat_natCast, go_sem]
  try rfl
end Go.Proofs.YtnccaoeeedhgbaaGreatDoor
