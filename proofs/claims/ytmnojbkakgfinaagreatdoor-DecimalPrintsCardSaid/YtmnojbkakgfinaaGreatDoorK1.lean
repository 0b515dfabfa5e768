/- Several parts in one text. -/
import Derived.Test.YtmnojbkakgfinaaGreatDoorPgN
import Derived.Test.YtmnojbkakgfinaaGreatDoorG4
import Derived.Lib.Bytealg
open Go PG Go.Proofs
namespace Go.Proofs.YtmnojbkakgfinaaGreatDoor
attribute [local go_sem] Lay2 Lay3 Lay4 Lay5 Lay6 Lay7 Lay8 Lay9 Lay10 Lay11 Lay12 Lay13 Lay14 Lay15 Lay16 Lay17 Lay18 Lay19 Lay21 Lay23 Lay24 Lay25 Lay26 Lay27 Lay28 Lay31 Lay32 Lay33 Lay40 Lay43 Lay44 Lay49 Lay50 Lay57 Lay58 Lay61 Lay68 Lay69 Lay72 Lay77 Lay125 Lay133 Lay134 Lay150 Lay167 Lay168 Lay169 Lay170 Lay180 Lay181 Lay185 Lay186 Lay189 Lay205 Lay208 Lay223 Lay227 Lay228 Lay231 Lay232 Lay233 Lay234 Lay235 Lay236 Lay237 Lay238 Lay240 Lay241 Lay242 Lay243 Lay244 Lay245 Lay246 Lay247 Lay249 Lay250 qexec_seq qexec_skip qexec_exit qexec_ret qexec_block qexec_loop qexec_range qexec_cond qexec_region qexec_drawn qops_nil qops_none qops_some put_some put_none pblk_exit pblk_other newDsts_nil inlDsts_nil isInl sget_cons sget_nil qval_some qbool_some qgs_bool qgs_und qfree_some qgrd_true qgrd_false qif_true qif_false qval_ite qval_itn qand_true map_ite map_some' map_none' qdo_move qdo_assign qdo_binOp qdo_pick qdo_unOp qdo_convert qdo_extract qdo_field qdo_fieldAddr qdo_alloc qdo_box qdo_build qdo_buildSlice qdo_load qdo_store qdo_nilCheck qdo_makeFunc qdo_makeSlice qdo_slice qdo_indexAddr qdo_call qcont_val qcont_new qcont_st qcont_app0 qcont_app qcont_inl qcont_call njSV_val njSV_nil njSV_row njSV_ptr njSV_sub binV_val binV_nil binV_nn binV_ptr bin_np bin_nnp nilCmp bin_add bin_sub bin_mul bin_quo bin_rem bin_and bin_or bin_xor bin_andNot bin_eql bin_neq bin_lss bin_leq bin_gtr bin_geq bin_shl bin_shr bin_seql bin_sneq bin_sadd bin_beql bin_aeql bin_aneq eqAnd_some eqCells_nil eqCells_cons fieldTypes isStruct eqCell bin_bneq un_not un_neg nj_ite Nat.beq stepA stepR isNew opSV constSV RV.sv allSome E_mu E_own qkeyIn_none qkeyIn_some qkeyAt_none qkeyAt_some Bool.or_false Bool.false_or Bool.or_true Bool.true_or cst setB res resSV pstart startL killL kill1 eraL frzL svPV rvPV rvInt rvSlice rvBytes frzOf close closeL pconv pbuiltin pmax2 partPV setCells fillPV zrow bound newSV PV.cells Bk.cells Bk.with SV.key pres presL_nil presL_tmp presL_cell presC2_some cellPV_ptr presC List.toList_toArray List.size_toArray List.getElem?_drop Nat.mul_one Int.toNat_natCast Nat.not_lt_zero Nat.lt_irrefl decide_true decide_false Nat.not_lt Option.some.injEq PV.lst.injEq PV.int.injEq PV.bool.injEq PV.tuple.injEq List.cons.injEq Option.map_some Option.map_none Option.bind_some Option.toList List.map_cons List.map_nil List.nil_append List.cons_append List.append_nil List.zip_cons_cons List.zip_nil_left List.zip_nil_right List.getElem?_cons_zero List.getElem?_cons_succ List.drop_zero List.drop_succ_cons List.take_succ_cons List.take_zero List.set_cons_zero List.set_cons_succ List.length_cons List.length_nil List.length_set List.replicate_one List.replicate_zero bne_self_eq_false beq_self_eq_true Nat.zero_add Nat.add_zero Nat.zero_mul Bool.false_eq_true Bool.true_eq_false Bool.not_true Bool.not_false and_true true_and false_and and_false or_false false_or or_true true_or not_true_eq_false not_false_eq_true ne_eq gt_iff_lt List.mem_cons List.not_mem_nil
attribute [local go_sem ↓] pseq_normal pseq_ret pseq_exit pblk_normal pblk_ret newDsts_cons inlDsts_cons gdst_zero gdst_succ retQ_normal retQ_ret qneed_nil qneed_cons retM_normal retM_ret endR_normal endR_ret endR_exit
attribute [local go_sem] Int.reduceToNat Int.reduceEq Int.reduceNe Int.reduceLT Int.reduceLE Int.reduceNeg Int.reduceAdd Nat.reduceEqDiff Nat.reduceAdd Nat.reduceSub Nat.reduceMul Nat.reduceLeDiff Nat.reduceLT
attribute [local go_sem ↓] reduceIte reduceCtorEq
/- Texts as lists of bytes; what strings' small functions return. -/
section
open Go PG Go.Proofs
set_option maxRecDepth 100000
set_option linter.unusedSimpArgs false
set_option linter.unusedVariables false

/-- A text of these bytes. -/
def B8 (l : List UInt8) : ByteArray := ⟨l.toArray⟩
def TX (l : List UInt8) : PV := .str (B8 l)
theorem B8_mk (l : List UInt8) : ByteArray.mk l.toArray = B8 l := (rfl)
theorem B8_of (s : ByteArray) : B8 s.data.toList = s := by cases s; rfl
theorem B8_data (l : List UInt8) : (B8 l).data.toList = l := by simp [B8]
theorem B8_size (l : List UInt8) : (B8 l).size = l.length := by simp [B8, ByteArray.size]
theorem B8_inj {a b : List UInt8} : B8 a = B8 b ↔ a = b :=
  ⟨fun h => by have := congrArg (fun s : ByteArray => s.data.toList) h; simpa [B8_data] using this, fun h => by rw [h]⟩
theorem B8_eq {a b : List UInt8} : (B8 a = B8 b) = (a = b) := propext B8_inj
theorem B8_app (a b : List UInt8) : B8 a ++ B8 b = B8 (a ++ b) := by
  refine ByteArray.ext ?_
  rw [ByteArray.data_append]
  simp [B8]
theorem B8_cut (l : List UInt8) (i j : Nat) : (B8 l).extract i j = B8 ((l.take j).drop i) := by
  refine ByteArray.ext ?_
  rw [ByteArray.data_extract]
  simp only [B8, List.extract_toArray, List.extract_eq_take_drop, List.drop_take]
theorem idxS_B8 {l : List UInt8} {n : Int} (h0 : 0 ≤ n) (h1 : n.toNat < l.length) : idxS (B8 l) n = some (.val (.int .u8 ((l.getD n.toNat 0).toNat : Nat))) := by
  unfold idxS
  rw [dif_pos ⟨h0, by rw [B8_size]; exact h1⟩]
  congr 3
  have : (B8 l)[n.toNat]'(by rw [B8_size]; exact h1) = l[n.toNat] := by
    show (B8 l).data[n.toNat]'_ = _
    simp [B8]
  rw [this, List.getD_eq_getElem?_getD, List.getElem?_eq_getElem h1]
  rfl
/-- Does it begin so? -/
def hasP (l p : List UInt8) : Bool := decide (l.take p.length = p)
theorem s_HasPrefix (l p : List UInt8) : PC E 125 [TX l, TX p] (.bool (hasP l p)) := by
  unfold hasP
  simp only [TX]
  refine PC.of_body follows Tryz.func125 (by decide +kernel) rfl (by kernel_rfl) (Nat.le_of_ble_eq_true rfl) (walk ?_)
  simp only [Tryz.f125, B8_size, B8_cut, B8_eq, B8_mk, B8_app, Int.toNat_natCast, go_sem]
  refine qif_d (fun h => ?_) (fun h => ?_)
  · simp only [Tryz.f125, B8_size, B8_cut, B8_eq, B8_mk, B8_app, Int.toNat_natCast, go_sem]
    refine qand_i (by omega) ?_
    simp only [Tryz.f125, B8_size, B8_cut, B8_eq, B8_mk, B8_app, Int.toNat_natCast, go_sem]
    try rfl
  · simp only [Tryz.f125, B8_size, B8_cut, B8_eq, B8_mk, B8_app, Int.toNat_natCast, go_sem]
    refine (decide_eq_false fun e => ?_).symm
    have := congrArg List.length e
    rw [List.length_take] at this
    omega
theorem s_CutPrefixI (l p : List UInt8) : PC E 88 [TX l, TX p] (.tuple [TX (if hasP l p = true then l.drop p.length else l), .bool (hasP l p)]) := by
  have k1 := s_HasPrefix l p
  have hh : hasP l p = true → p.length ≤ l.length := fun h => by
    have := congrArg List.length (of_decide_eq_true h)
    rw [List.length_take] at this
    omega
  generalize hasP l p = b at *
  simp only [TX] at k1 ⊢
  refine PC.of_body follows Tryz.func88 (by decide +kernel) rfl (by kernel_rfl) (Nat.le_of_ble_eq_true rfl) (walk ?_)
  simp only [Tryz.f88, B8_size, B8_cut, B8_eq, B8_mk, B8_app, Int.toNat_natCast, go_sem]
  refine qcall_i (k1) ?_; simp only [Tryz.f88, B8_size, B8_cut, B8_eq, B8_mk, B8_app, Int.toNat_natCast, go_sem]
  cases b
  · simp only [Tryz.f88, B8_size, B8_cut, B8_eq, B8_mk, B8_app, Int.toNat_natCast, go_sem]
    try rfl
  · have hl := hh rfl
    simp only [Tryz.f88, B8_size, B8_cut, B8_eq, B8_mk, B8_app, Int.toNat_natCast, go_sem]
    refine qand_i (by omega) ?_
    simp only [Tryz.f88, B8_size, B8_cut, B8_eq, B8_mk, B8_app, Int.toNat_natCast, List.take_length, go_sem]
    try rfl
theorem s_CutPrefix (l p : List UInt8) : PC E 46 [TX l, TX p] (.tuple [TX (if hasP l p = true then l.drop p.length else l), .bool (hasP l p)]) := by
  have k1 := s_CutPrefixI l p
  generalize (if hasP l p = true then l.drop p.length else l) = q at *
  generalize hasP l p = b at *
  simp only [TX] at k1 ⊢
  refine PC.of_body follows Tryz.func46 (by decide +kernel) rfl (by kernel_rfl) (Nat.le_of_ble_eq_true rfl) (walk ?_)
  simp only [Tryz.f46, B8_size, B8_cut, B8_eq, B8_mk, B8_app, Int.toNat_natCast, go_sem]
  refine qcall_i (k1) ?_; simp only [Tryz.f46, B8_size, B8_cut, B8_eq, B8_mk, B8_app, Int.toNat_natCast, go_sem]
  try rfl
/-- Where a byte first stands; the length: nowhere. -/
def pos (c : UInt8) (l : List UInt8) : Nat := (l.takeWhile (· != c)).length
theorem pos_le (c : UInt8) (l : List UInt8) : pos c l ≤ l.length := by
  unfold pos
  exact (List.takeWhile_prefix _).length_le
theorem idx_pos (c : UInt8) (l : List UInt8) : Lib.indexByte l c = if pos c l < l.length then (pos c l : Int) else -1 := by
  induction l with
  | nil => rfl
  | cons b l ih =>
    unfold pos at *
    by_cases h : b = c
    · subst h; simp [Lib.indexByte]
    · have e1 : (b == c) = false := by simpa using h
      have e2 : (b != c) = true := by simpa using h
      show (if (b == c) = true then (0 : Int) else if (Lib.indexByte l c == -1) = true then -1 else Lib.indexByte l c + 1) = _
      rw [e1, List.takeWhile_cons, e2, if_pos rfl]
      simp only [Bool.false_eq_true, if_false, List.length_cons]
      by_cases h1 : (l.takeWhile (· != c)).length < l.length
      · rw [if_pos h1] at ih
        rw [ih, if_neg (by rw [beq_iff_eq]; omega), if_pos (by omega)]
        simp
      · rw [if_neg h1] at ih
        rw [ih, if_pos (by decide), if_neg (by omega)]
/-- Ahead of a byte; behind it. -/
def cutA (c : UInt8) (l : List UInt8) : List UInt8 := l.takeWhile (· != c)
def cutB (c : UInt8) (l : List UInt8) : List UInt8 := (l.dropWhile (· != c)).drop 1
def hasC (c : UInt8) (l : List UInt8) : Bool := decide (pos c l < l.length)
theorem take_pos (c : UInt8) (l : List UInt8) : l.take (pos c l) = cutA c l := by
  have h := List.takeWhile_append_dropWhile (p := (· != c)) (l := l)
  unfold pos cutA
  generalize List.takeWhile (fun x => x != c) l = a at *
  generalize List.dropWhile (fun x => x != c) l = b at *
  rw [← h]; simp
theorem drop_pos (c : UInt8) (l : List UInt8) : l.drop (pos c l + 1) = cutB c l := by
  have h := List.takeWhile_append_dropWhile (p := (· != c)) (l := l)
  unfold pos cutB
  generalize List.takeWhile (fun x => x != c) l = a at *
  generalize List.dropWhile (fun x => x != c) l = b at *
  rw [← h, ← List.drop_drop]; simp
theorem cut_none {c : UInt8} {l : List UInt8} (h : ¬ pos c l < l.length) : cutA c l = l ∧ cutB c l = [] := by
  have := pos_le c l
  rw [← take_pos, ← drop_pos]
  exact ⟨List.take_of_length_le (by omega), List.drop_of_length_le (by omega)⟩
theorem two_strB {g : Addr → Option Value} {s : ByteArray} {n : Int} {vs : Array Value} (hs : vs.size = 2) (h : ∀ (j : Nat) p x, [PV.str s, PV.int .u8 n][j]? = some p → vs[j]? = some x → Rep g p x) : vs = #[.string s, .int .u8 n] := by
  have h0 := (h 0 _ _ rfl (Array.getElem?_eq_getElem (by omega)) : Rep g (.str s) vs[0]).str_inv
  have h1 := (h 1 _ _ rfl (Array.getElem?_eq_getElem (by omega)) : Rep g (.int .u8 n) vs[1]).int_inv
  refine Array.ext (by simp [hs]) fun i hi hj => ?_
  have : i = 0 ∨ i = 1 := by omega
  rcases this with rfl | rfl <;> simp [h0, h1]
theorem u8_back (c : UInt8) : ((c.toNat : Nat) : Int).toNat.toUInt8 = c := by
  rw [Int.toNat_natCast]
  exact UInt8.ofNat_toNat
theorem s_IndexByteString (l : List UInt8) (c : UInt8) : PC E 183 [TX l, .int .u8 (c.toNat : Nat)] (.int .i64 (if pos c l < l.length then (pos c l : Int) else -1)) := by
  refine PC.of_value (xs := #[.string (B8 l), .int .u8 (c.toNat : Nat)]) (v := .int .i64 (if pos c l < l.length then (pos c l : Int) else -1)) (fun g vs hs h => two_strB hs h) (fun w => ?_) (fun g => .int _ _)
  rw [run_callFunc_extern (P := E.P) Tryz.func183 (by kernel_rfl) (by kernel_rfl) (by kernel_rfl) (e := Extern.BytealgIndexByte.indexByte) (by kernel_rfl), Lib.run_indexByteString, B8_data, u8_back, idx_pos]
  rfl
theorem s_IndexByte (l : List UInt8) (c : UInt8) : PC E 162 [TX l, .int .u8 (c.toNat : Nat)] (.int .i64 (if pos c l < l.length then (pos c l : Int) else -1)) := by
  have k1 := s_IndexByteString l c
  generalize (if pos c l < l.length then (pos c l : Int) else -1) = r at *
  simp only [TX] at k1 ⊢
  refine PC.of_body follows Tryz.func162 (by decide +kernel) rfl (by kernel_rfl) (Nat.le_of_ble_eq_true rfl) (walk ?_)
  simp only [Tryz.f162, B8_size, B8_cut, B8_eq, B8_mk, B8_app, Int.toNat_natCast, go_sem]
  refine qcall_i (k1) ?_; simp only [Tryz.f162, B8_size, B8_cut, B8_eq, B8_mk, B8_app, Int.toNat_natCast, go_sem]
  try rfl
theorem pos_one (c : UInt8) : pos c [c] = 0 := by simp [pos]
theorem s_Index1 (l : List UInt8) (c : UInt8) : PC E 126 [TX l, TX [c]] (.int .i64 (if pos c l < l.length then (pos c l : Int) else -1)) := by
  have k1 := s_IndexByte l c
  have hr : [c] = l → (if pos c l < l.length then (pos c l : Int) else -1) = 0 := by rintro rfl; rw [pos_one]; rfl
  generalize (if pos c l < l.length then (pos c l : Int) else -1) = r at *
  have hi : idxS (B8 [c]) 0 = some (.val (.int .u8 (c.toNat : Nat))) := idxS_B8 (l := [c]) (by decide) (by simp)
  simp only [TX] at k1 ⊢
  refine PC.of_body follows Tryz.func126 (by decide +kernel) rfl (by kernel_rfl) (Nat.le_of_ble_eq_true rfl) (walk ?_)
  simp only [Tryz.f126, B8_size, B8_cut, B8_eq, B8_mk, B8_app, Int.toNat_natCast, List.length_cons, List.length_nil, Nat.reduceAdd, go_sem]
  refine qif_df (by omega) ?_
  simp only [Tryz.f126, B8_size, B8_cut, B8_eq, B8_mk, B8_app, Int.toNat_natCast, List.length_cons, List.length_nil, Nat.reduceAdd, go_sem]
  refine qif_d (fun h => ?_) (fun h => ?_)
  · simp only [Tryz.f126, B8_size, B8_cut, B8_eq, B8_mk, B8_app, Int.toNat_natCast, go_sem]
    rw [hr h]
  simp only [Tryz.f126, B8_size, B8_cut, B8_eq, B8_mk, B8_app, Int.toNat_natCast, List.length_cons, List.length_nil, Nat.reduceAdd, go_sem]
  refine qif_dt (by omega) ?_
  simp only [Tryz.f126, B8_size, B8_cut, B8_eq, B8_mk, B8_app, Int.toNat_natCast, List.length_cons, List.length_nil, Nat.reduceAdd, go_sem]
  refine qdo_indexS Lay9.1 rfl rfl ?_
  simp only [Tryz.f126, B8_size, B8_cut, B8_eq, B8_mk, B8_app, Int.toNat_natCast, hi, go_sem]
  refine qcall_i (k1) ?_; simp only [Tryz.f126, B8_size, B8_cut, B8_eq, B8_mk, B8_app, Int.toNat_natCast, go_sem]
  try rfl
theorem s_CutI (l : List UInt8) (c : UInt8) (hl : l.length < 9223372036854775807) : PC E 89 [TX l, TX [c]] (.tuple [TX (cutA c l), TX (cutB c l), .bool (hasC c l)]) := by
  have k1 := s_Index1 l c
  have hp := pos_le c l
  unfold hasC
  by_cases h : pos c l < l.length
  · rw [if_pos h] at k1
    rw [decide_eq_true h, ← take_pos, ← drop_pos]
    generalize pos c l = q at *
    have w1 : IntKind.wrap .i64 ((q : Int) + 1) = ((q + 1 : Nat) : Int) := by rw [wrap64 (by omega) (by omega)]; omega
    simp only [TX] at k1 ⊢
    refine PC.of_body follows Tryz.func89 (by decide +kernel) rfl (by kernel_rfl) (Nat.le_of_ble_eq_true rfl) (walk ?_)
    simp only [Tryz.f89, B8_size, B8_cut, B8_eq, B8_mk, B8_app, Int.toNat_natCast, List.length_cons, List.length_nil, Nat.reduceAdd, go_sem]
    refine qcall_i (k1) ?_; simp only [Tryz.f89, B8_size, B8_cut, B8_eq, B8_mk, B8_app, Int.toNat_natCast, List.length_cons, List.length_nil, Nat.reduceAdd, go_sem]
    refine qif_dt (by omega) ?_
    simp only [Tryz.f89, B8_size, B8_cut, B8_eq, B8_mk, B8_app, Int.toNat_natCast, List.length_cons, List.length_nil, Nat.reduceAdd, Int.cast_ofNat_Int, w1, go_sem]
    refine qand_i (by omega) ?_
    simp only [Tryz.f89, B8_size, B8_cut, B8_eq, B8_mk, B8_app, Int.toNat_natCast, List.length_cons, List.length_nil, Nat.reduceAdd, Int.cast_ofNat_Int, w1, go_sem]
    refine qand_i (by omega) ?_
    simp only [Tryz.f89, B8_size, B8_cut, B8_eq, B8_mk, B8_app, Int.toNat_natCast, List.length_cons, List.length_nil, Nat.reduceAdd, Int.cast_ofNat_Int, w1, List.take_length, List.drop_zero, go_sem]
    try rfl
  · rw [if_neg h] at k1
    obtain ⟨e1, e2⟩ := cut_none h
    rw [decide_eq_false h, e1, e2]
    simp only [TX] at k1 ⊢
    refine PC.of_body follows Tryz.func89 (by decide +kernel) rfl (by kernel_rfl) (Nat.le_of_ble_eq_true rfl) (walk ?_)
    simp only [Tryz.f89, B8_size, B8_cut, B8_eq, B8_mk, B8_app, Int.toNat_natCast, go_sem]
    refine qcall_i (k1) ?_; simp only [Tryz.f89, B8_size, B8_cut, B8_eq, B8_mk, B8_app, Int.toNat_natCast, go_sem]
    refine qif_df (by omega) ?_
    simp only [Tryz.f89, B8_size, B8_cut, B8_eq, B8_mk, B8_app, Int.toNat_natCast, go_sem]
    try rfl
theorem s_Cut (l : List UInt8) (c : UInt8) (hl : l.length < 9223372036854775807) : PC E 47 [TX l, TX [c]] (.tuple [TX (cutA c l), TX (cutB c l), .bool (hasC c l)]) := by
  have k1 := s_CutI l c hl
  simp only [TX] at k1 ⊢
  refine PC.of_body follows Tryz.func47 (by decide +kernel) rfl (by kernel_rfl) (Nat.le_of_ble_eq_true rfl) (walk ?_)
  simp only [Tryz.f47, B8_size, B8_cut, B8_eq, B8_mk, B8_app, Int.toNat_natCast, go_sem]
  refine qcall_i (k1) ?_; simp only [Tryz.f47, B8_size, B8_cut, B8_eq, B8_mk, B8_app, Int.toNat_natCast, go_sem]
  try rfl
end

/- strings.Trim, TrimRight. -/
section
open Go PG Go.Proofs
set_option maxRecDepth 100000
set_option linter.unusedSimpArgs false
set_option linter.unusedVariables false

/-- Without those at the end, at the front, of which p holds. -/
def trimR (p : UInt8 → Bool) (l : List UInt8) : List UInt8 := (l.reverse.dropWhile p).reverse
def trimL (p : UInt8 → Bool) (l : List UInt8) : List UInt8 := l.dropWhile p
theorem trimR_nil (p : UInt8 → Bool) : trimR p [] = [] := rfl
theorem trimR_snoc (p : UInt8 → Bool) (t : List UInt8) (d : UInt8) : trimR p (t ++ [d]) = if p d = true then trimR p t else t ++ [d] := by
  unfold trimR
  rw [List.reverse_append]
  show (List.dropWhile p (d :: t.reverse)).reverse = _
  rw [List.dropWhile_cons]
  split
  · rfl
  · simp
theorem snoc_cases (s : List UInt8) : s = [] ∨ ∃ t d, s = t ++ [d] := by
  rcases List.eq_nil_or_concat s with h | ⟨t, d, h⟩
  · exact .inl h
  · exact .inr ⟨t, d, by rw [h, List.concat_eq_append]⟩
theorem getD_snoc (t : List UInt8) (d : UInt8) : (t ++ [d]).getD t.length 0 = d := by simp
theorem take_snoc (t : List UInt8) (d : UInt8) : (t ++ [d]).take t.length = t := by simp
theorem u8_eq {a b : UInt8} : ((a.toNat : Nat) : Int) = (b.toNat : Nat) ↔ a = b :=
  ⟨fun h => UInt8.toNat_inj.1 (by omega), fun h => by rw [h]⟩
theorem s_trimRightByte (l : List UInt8) (c : UInt8) (hl : l.length < 9223372036854775807) : PC E 128 [TX l, .int .u8 (c.toNat : Nat)] (TX (trimR (· == c) l)) := by
  simp only [TX]
  refine PC.of_body follows Tryz.func128 (by decide +kernel) rfl (by kernel_rfl) (Nat.le_of_ble_eq_true rfl) (walk ?_)
  simp only [Tryz.f128, B8_size, B8_cut, B8_eq, B8_mk, B8_app, Int.toNat_natCast, go_sem]
  refine PLoop.intro (fun s : List UInt8 => ⟨[(0, .val (.str (B8 s))), (1, .val (.int .u8 (c.toNat : Nat)))], []⟩) (fun s => trimR (· == c) s = trimR (· == c) l ∧ s.length ≤ l.length) (fun s => s.length) l ⟨rfl, Nat.le_refl _⟩ ?_ fun s hs => walk ?_
  · simp [Wk, sget, killL, kill1, SV.key]
  obtain ⟨hs, hsl⟩ := hs
  rcases snoc_cases s with rfl | ⟨t, d, rfl⟩
  · simp only [Tryz.f128, B8_size, B8_cut, B8_eq, B8_mk, B8_app, Int.toNat_natCast, List.length_nil, go_sem]
    refine qif_df (by omega) ?_
    simp only [Tryz.f128, B8_size, B8_cut, B8_eq, B8_mk, B8_app, Int.toNat_natCast, go_sem]
    rw [← hs, trimR_nil]
  · rw [List.length_append, List.length_singleton] at hsl
    have w1 : IntKind.wrap .i64 (((t.length + 1 : Nat) : Int) - 1) = t.length := by rw [wrap64 (by omega) (by omega)]; omega
    have hi := idxS_B8 (l := t ++ [d]) (n := (t.length : Int)) (by omega) (by simp)
    rw [Int.toNat_natCast, getD_snoc] at hi
    simp only [Tryz.f128, B8_size, B8_cut, B8_eq, B8_mk, B8_app, Int.toNat_natCast, List.length_append, List.length_cons, List.length_nil, Nat.zero_add, go_sem]
    refine qif_dt (by omega) ?_
    simp only [Tryz.f128, B8_size, B8_cut, B8_eq, B8_mk, B8_app, Int.toNat_natCast, List.length_append, List.length_cons, List.length_nil, Nat.zero_add, w1, go_sem]
    refine qdo_indexS Lay9.1 rfl rfl ?_
    simp only [Tryz.f128, B8_size, B8_cut, B8_eq, B8_mk, B8_app, Int.toNat_natCast, hi, u8_eq, go_sem]
    refine qif_d (fun h => ?_) (fun h => ?_)
    · simp only [Tryz.f128, B8_size, B8_cut, B8_eq, B8_mk, B8_app, Int.toNat_natCast, List.length_append, List.length_cons, List.length_nil, Nat.zero_add, w1, go_sem]
      refine qand_i (by omega) ?_
      simp only [Tryz.f128, B8_size, B8_cut, B8_eq, B8_mk, B8_app, Int.toNat_natCast, take_snoc, List.drop_zero, go_sem]
      rw [trimR_snoc, if_pos (by simpa using h)] at hs
      refine ⟨t, ⟨hs, by omega⟩, by simp, ?_⟩
      simp [Wk, sget, killL, kill1, SV.key]
    · simp only [Tryz.f128, B8_size, B8_cut, B8_eq, B8_mk, B8_app, Int.toNat_natCast, go_sem]
      rw [trimR_snoc, if_neg (by simpa using h)] at hs
      rw [hs]
end

/- strings.Trim at a set of ASCII signs. -/
section
open Go PG Go.Proofs
set_option maxRecDepth 100000
set_option linter.unusedSimpArgs false
set_option linter.unusedVariables false

/-- Which of 256 signs are in it. -/
def asc (cs : List UInt8) : List PV := (List.range 256).map fun j => .bool (cs.any fun c => decide (c.toNat = j))
theorem asc_length (cs : List UInt8) : (asc cs).length = 256 := by simp [asc]
theorem asc_get (cs : List UInt8) {j : Nat} (h : j < 256) : (asc cs)[j]? = some (.bool (cs.any fun c => decide (c.toNat = j))) := by
  unfold asc
  rw [List.getElem?_map, List.getElem?_range h]
  rfl
theorem asc_set (cs : List UInt8) (c : UInt8) : (asc cs).set c.toNat (.bool true) = asc (cs ++ [c]) := by
  refine List.ext_getElem? fun j => ?_
  by_cases hj : j < 256
  · rw [asc_get _ hj, List.getElem?_set]
    split
    · rename_i h
      subst h
      rw [if_pos (by rw [asc_length]; exact hj)]
      simp
    · rename_i h
      rw [asc_get _ hj, List.any_append]
      simp [h]
  · rw [List.getElem?_eq_none (by rw [List.length_set, asc_length]; omega), List.getElem?_eq_none (by rw [asc_length]; omega)]
theorem setCells_self : ∀ (vs pre : List PV), setCells (pre ++ vs) pre.length vs = pre ++ vs
  | [], pre => rfl
  | v :: vs, pre => by
    rw [setCells]
    have e : (pre ++ v :: vs).set pre.length v = (pre ++ [v]) ++ vs := by simp
    rw [e, show pre.length + 1 = (pre ++ [v]).length by simp, setCells_self vs (pre ++ [v])]
    simp
theorem setCells_all (vs : List PV) : setCells vs 0 vs = vs := setCells_self vs []
theorem setCells_over : ∀ (vs pre xs : List PV), xs.length = vs.length → setCells (pre ++ xs) pre.length vs = pre ++ vs
  | [], pre, xs, h => by
    rw [List.eq_nil_of_length_eq_zero h]; rfl
  | v :: vs, pre, [], h => by simp at h
  | v :: vs, pre, x :: xs, h => by
    rw [setCells]
    have e : (pre ++ x :: xs).set pre.length v = (pre ++ [v]) ++ xs := by simp
    rw [e, show pre.length + 1 = (pre ++ [v]).length by simp, setCells_over vs (pre ++ [v]) xs (by simpa using h)]
    simp
theorem getD_mem {l : List UInt8} {i : Nat} (h : i < l.length) : l.getD i 0 ∈ l := by
  rw [List.getD_eq_getElem?_getD, List.getElem?_eq_getElem h]; exact List.getElem_mem h
theorem take_getD {l : List UInt8} {i : Nat} (h : i < l.length) : l.take i ++ [l.getD i 0] = l.take (i + 1) := by
  rw [List.getD_eq_getElem?_getD, List.getElem?_eq_getElem h, Option.getD_some, List.take_succ_eq_append_getElem h]
theorem s_makeASCIISet (cs : List UInt8) (hcs : ∀ c ∈ cs, c.toNat < 128) (hl : cs.length < 9223372036854775807) : PC E 129 [TX cs] (.tuple [.agg (asc cs), .bool true]) := by
  have hall : asc (cs.take cs.length) = asc cs := by rw [List.take_length]
  simp only [TX]
  refine PC.of_body follows Tryz.func129 (by decide +kernel) rfl (by kernel_rfl) (Nat.le_of_ble_eq_true rfl) (walk ?_)
  simp only [Tryz.f129, B8_size, B8_cut, B8_eq, B8_mk, B8_app, Int.toNat_natCast, go_sem]
  refine PLoop.intro (fun i : Nat => ⟨[(0, .val (.str (B8 cs))), (2, .ptr 2 0), (3, .val (.bool false)), (4, .val (.int .i64 i))], [(2, (.box (asc (cs.take i)), false))]⟩) (fun i => i ≤ cs.length) (fun i => cs.length - i) 0 (Nat.zero_le _) ?_ fun i hi => walk ?_
  · simp [Wk, sget, killL, kill1, SV.key]
    try exact ⟨rfl, rfl⟩
    try rfl
  have wi : IntKind.wrap .i64 ((i : Int) + 1) = ((i + 1 : Nat) : Int) := by rw [wrap64 (by omega) (by omega)]; omega
  have hal := asc_length (cs.take i)
  simp only [Tryz.f129, B8_size, B8_cut, B8_eq, B8_mk, B8_app, Int.toNat_natCast, go_sem]
  refine qif_d (fun h => ?_) (fun h => ?_)
  · have hin : i < cs.length := by omega
    have hix := idxS_B8 (l := cs) (n := (i : Int)) (by omega) (by omega)
    rw [Int.toNat_natCast] at hix
    have hc := hcs _ (getD_mem hin)
    have hst := asc_set (cs.take i) (cs.getD i 0)
    rw [take_getD hin] at hst
    generalize cs.getD i 0 = c at *
    simp only [Tryz.f129, B8_size, B8_cut, B8_eq, B8_mk, B8_app, Int.toNat_natCast, go_sem]
    refine qdo_indexS Lay9.1 rfl rfl ?_
    simp only [Tryz.f129, B8_size, B8_cut, B8_eq, B8_mk, B8_app, Int.toNat_natCast, hix, go_sem]
    refine qif_df (by omega) ?_
    simp only [Tryz.f129, B8_size, B8_cut, B8_eq, B8_mk, B8_app, Int.toNat_natCast, go_sem]
    refine qand_i (by omega) ?_
    simp only [Tryz.f129, B8_size, B8_cut, B8_eq, B8_mk, B8_app, Int.toNat_natCast, hal, go_sem]
    refine qand_i (by omega) ?_
    simp only [Tryz.f129, B8_size, B8_cut, B8_eq, B8_mk, B8_app, Int.toNat_natCast, hal, wi, go_sem]
    refine ⟨i + 1, by omega, by omega, ?_⟩
    simp [Wk, sget, killL, kill1, SV.key, hst]
  · have hin : i = cs.length := by omega
    subst hin
    rw [hall] at hal ⊢
    have ht : List.take 256 (asc cs) = asc cs := List.take_of_length_le (by omega)
    have hs := setCells_all (asc cs)
    simp only [Tryz.f129, B8_size, B8_cut, B8_eq, B8_mk, B8_app, Int.toNat_natCast, hal, ht, hs, go_sem]
    try rfl
/-- Is it one of them? -/
def inS (cs : List UInt8) (c : UInt8) : Bool := cs.any fun d => decide (d.toNat = c.toNat)
theorem s_contains (cs : List UInt8) (c : UInt8) : PC E 166 [.ref (asc cs), .int .u8 (c.toNat : Nat)] (.bool (inS cs c)) := by
  have hc : c.toNat < 256 := UInt8.toNat_lt c
  have hg : (asc cs)[c.toNat]? = some (.bool (inS cs c)) := asc_get cs hc
  generalize inS cs c = b at *
  generalize c.toNat = n at *
  refine PC.of_body follows Tryz.func166 (by decide +kernel) rfl (by kernel_rfl) (Nat.le_of_ble_eq_true rfl) (walk ?_)
  simp only [Tryz.f166, go_sem]
  refine qand_i (by omega) ?_
  simp only [Tryz.f166, hg, go_sem]
  try rfl
theorem s_trimRightASCII (l cs : List UInt8) (hl : l.length < 9223372036854775807) : PC E 131 [TX l, .ref (asc cs)] (TX (trimR (inS cs) l)) := by
  have hk := s_contains cs
  simp only [TX]
  refine PC.of_body follows Tryz.func131 (by decide +kernel) rfl (by kernel_rfl) (Nat.le_of_ble_eq_true rfl) (walk ?_)
  simp only [Tryz.f131, B8_size, B8_cut, B8_eq, B8_mk, B8_app, Int.toNat_natCast, go_sem]
  refine PLoop.intro (fun s : List UInt8 => ⟨[(0, .val (.str (B8 s))), (1, .val (.ref (asc cs)))], []⟩) (fun s => trimR (inS cs) s = trimR (inS cs) l ∧ s.length ≤ l.length) (fun s => s.length) l ⟨rfl, Nat.le_refl _⟩ ?_ fun s hs => walk ?_
  · simp [Wk, sget, killL, kill1, SV.key]
  obtain ⟨hs, hsl⟩ := hs
  rcases snoc_cases s with rfl | ⟨t, d, rfl⟩
  · simp only [Tryz.f131, B8_size, B8_cut, B8_eq, B8_mk, B8_app, Int.toNat_natCast, List.length_nil, go_sem]
    refine qif_df (by omega) ?_
    simp only [Tryz.f131, B8_size, B8_cut, B8_eq, B8_mk, B8_app, Int.toNat_natCast, go_sem]
    rw [← hs, trimR_nil]
  · rw [List.length_append, List.length_singleton] at hsl
    have w1 : IntKind.wrap .i64 (((t.length + 1 : Nat) : Int) - 1) = t.length := by rw [wrap64 (by omega) (by omega)]; omega
    have hi := idxS_B8 (l := t ++ [d]) (n := (t.length : Int)) (by omega) (by simp)
    rw [Int.toNat_natCast, getD_snoc] at hi
    have k1 := hk d
    simp only [Tryz.f131, B8_size, B8_cut, B8_eq, B8_mk, B8_app, Int.toNat_natCast, List.length_append, List.length_cons, List.length_nil, Nat.zero_add, go_sem]
    refine qif_dt (by omega) ?_
    simp only [Tryz.f131, B8_size, B8_cut, B8_eq, B8_mk, B8_app, Int.toNat_natCast, List.length_append, List.length_cons, List.length_nil, Nat.zero_add, w1, go_sem]
    refine qdo_indexS Lay9.1 rfl rfl ?_
    simp only [Tryz.f131, B8_size, B8_cut, B8_eq, B8_mk, B8_app, Int.toNat_natCast, hi, go_sem]
    refine qcall_i (k1) ?_; simp only [Tryz.f131, B8_size, B8_cut, B8_eq, B8_mk, B8_app, Int.toNat_natCast, go_sem]
    cases hb : inS cs d
    · simp only [Tryz.f131, B8_size, B8_cut, B8_eq, B8_mk, B8_app, Int.toNat_natCast, go_sem]
      rw [trimR_snoc, if_neg (by rw [hb]; decide)] at hs
      rw [hs]
    · simp only [Tryz.f131, B8_size, B8_cut, B8_eq, B8_mk, B8_app, Int.toNat_natCast, List.length_append, List.length_cons, List.length_nil, Nat.zero_add, w1, go_sem]
      refine qand_i (by omega) ?_
      simp only [Tryz.f131, B8_size, B8_cut, B8_eq, B8_mk, B8_app, Int.toNat_natCast, take_snoc, List.drop_zero, go_sem]
      rw [trimR_snoc, if_pos hb] at hs
      refine ⟨t, ⟨hs, by omega⟩, by simp, ?_⟩
      simp [Wk, sget, killL, kill1, SV.key]
theorem s_trimLeftASCII (l cs : List UInt8) (hl : l.length < 9223372036854775807) : PC E 130 [TX l, .ref (asc cs)] (TX (trimL (inS cs) l)) := by
  have hk := s_contains cs
  simp only [TX]
  refine PC.of_body follows Tryz.func130 (by decide +kernel) rfl (by kernel_rfl) (Nat.le_of_ble_eq_true rfl) (walk ?_)
  simp only [Tryz.f130, B8_size, B8_cut, B8_eq, B8_mk, B8_app, Int.toNat_natCast, go_sem]
  refine PLoop.intro (fun s : List UInt8 => ⟨[(0, .val (.str (B8 s))), (1, .val (.ref (asc cs)))], []⟩) (fun s => trimL (inS cs) s = trimL (inS cs) l ∧ s.length ≤ l.length) (fun s => s.length) l ⟨rfl, Nat.le_refl _⟩ ?_ fun s hs => walk ?_
  · simp [Wk, sget, killL, kill1, SV.key]
  obtain ⟨hs, hsl⟩ := hs
  cases s with
  | nil =>
    simp only [Tryz.f130, B8_size, B8_cut, B8_eq, B8_mk, B8_app, Int.toNat_natCast, List.length_nil, go_sem]
    refine qif_df (by omega) ?_
    simp only [Tryz.f130, B8_size, B8_cut, B8_eq, B8_mk, B8_app, Int.toNat_natCast, go_sem]
    rw [← hs]; rfl
  | cons d t =>
    rw [List.length_cons] at hsl
    have hi : idxS (B8 (d :: t)) 0 = some (.val (.int .u8 (d.toNat : Nat))) := idxS_B8 (l := d :: t) (by decide) (by simp)
    have k1 := hk d
    have ht : List.take (t.length + 1) (d :: t) = d :: t := List.take_of_length_le (by simp)
    simp only [Tryz.f130, B8_size, B8_cut, B8_eq, B8_mk, B8_app, Int.toNat_natCast, List.length_cons, go_sem]
    refine qif_dt (by omega) ?_
    simp only [Tryz.f130, B8_size, B8_cut, B8_eq, B8_mk, B8_app, Int.toNat_natCast, go_sem]
    refine qdo_indexS Lay9.1 rfl rfl ?_
    simp only [Tryz.f130, B8_size, B8_cut, B8_eq, B8_mk, B8_app, Int.toNat_natCast, hi, go_sem]
    refine qcall_i (k1) ?_; simp only [Tryz.f130, B8_size, B8_cut, B8_eq, B8_mk, B8_app, Int.toNat_natCast, go_sem]
    cases hb : inS cs d
    · simp only [Tryz.f130, B8_size, B8_cut, B8_eq, B8_mk, B8_app, Int.toNat_natCast, go_sem]
      unfold trimL at hs
      rw [List.dropWhile_cons, hb, if_neg (by decide)] at hs
      unfold trimL
      rw [hs]
    · simp only [Tryz.f130, B8_size, B8_cut, B8_eq, B8_mk, B8_app, Int.toNat_natCast, List.length_cons, go_sem]
      refine qand_i (by omega) ?_
      simp only [Tryz.f130, B8_size, B8_cut, B8_eq, B8_mk, B8_app, Int.toNat_natCast, ht, List.drop_succ_cons, List.drop_zero, go_sem]
      unfold trimL at hs
      rw [List.dropWhile_cons, hb, if_pos rfl] at hs
      refine ⟨t, ⟨hs, by omega⟩, by simp, ?_⟩
      simp [Wk, sget, killL, kill1, SV.key]
theorem trimR_le (p : UInt8 → Bool) (l : List UInt8) : (trimR p l).length ≤ l.length := by
  unfold trimR
  rw [List.length_reverse]
  have := (List.dropWhile_suffix p (l := l.reverse)).length_le
  simpa using this
/-- At a set of two signs or more. -/
theorem s_Trim (l cs : List UInt8) (hcs : ∀ c ∈ cs, c.toNat < 128) (h2 : 2 ≤ cs.length) (hc : cs.length < 9223372036854775807) (hl : l.length < 9223372036854775807) : PC E 90 [TX l, TX cs] (TX (trimL (inS cs) (trimR (inS cs) l))) := by
  have k1 := s_makeASCIISet cs hcs hc
  have k2 := s_trimRightASCII l cs hl
  have k3 := s_trimLeftASCII (trimR (inS cs) l) cs (by have := trimR_le (inS cs) l; omega)
  have h0 : l = [] → trimL (inS cs) (trimR (inS cs) l) = l := by rintro rfl; rfl
  have hne : (cs = []) = False := eq_false (by rintro rfl; simp at h2)
  have hal := asc_length cs
  have hlen := asc_length cs
  generalize trimL (inS cs) (trimR (inS cs) l) = r3 at *
  generalize trimR (inS cs) l = r2 at *
  generalize asc cs = A at *
  simp only [TX] at k1 k2 k3 ⊢
  have hs : ∀ x : List PV, x.length = 256 → setCells x 0 A = A := fun x hx => setCells_over A [] x (by rw [hx, hal])
  clear hal
  refine PC.of_body follows Tryz.func90 (by decide +kernel) rfl (by kernel_rfl) (Nat.le_of_ble_eq_true rfl) (walk ?_)
  simp only [Tryz.f90, B8_size, B8_cut, B8_eq, B8_mk, B8_app, Int.toNat_natCast, hne, go_sem]
  refine qif_d (fun h => ?_) (fun h => ?_)
  · simp only [Tryz.f90, B8_size, B8_cut, B8_eq, B8_mk, B8_app, Int.toNat_natCast, hne, go_sem]
    rw [h0 h]
  simp only [Tryz.f90, B8_size, B8_cut, B8_eq, B8_mk, B8_app, Int.toNat_natCast, hne, go_sem]
  refine qif_df (by omega) ?_
  simp only [Tryz.f90, B8_size, B8_cut, B8_eq, B8_mk, B8_app, Int.toNat_natCast, go_sem]
  refine qcall_i (k1) ?_; simp only [Tryz.f90, B8_size, B8_cut, B8_eq, B8_mk, B8_app, Int.toNat_natCast, go_sem]
  refine qand_i (fun h => h hlen) ?_
  simp only [Tryz.f90, B8_size, B8_cut, B8_eq, B8_mk, B8_app, Int.toNat_natCast, go_sem]
  rw [hs _ rfl]
  refine qcall_i (k2) ?_; simp only [Tryz.f90, B8_size, B8_cut, B8_eq, B8_mk, B8_app, Int.toNat_natCast, go_sem]
  try rw [hs _ rfl]
  refine qcall_i (k3) ?_; simp only [Tryz.f90, B8_size, B8_cut, B8_eq, B8_mk, B8_app, Int.toNat_natCast, go_sem]
  try rfl
theorem mem_tw {p : UInt8 → Bool} {l : List UInt8} {c : UInt8} (h : c ∈ l.takeWhile p) : p c = true := by
  have := List.all_takeWhile (p := p) (l := l)
  exact List.all_eq_true.1 this c h
theorem dw_all {p : UInt8 → Bool} : ∀ {l : List UInt8}, (∀ c ∈ l, p c = true) → l.dropWhile p = []
  | [], _ => rfl
  | c :: l, h => by
    rw [List.dropWhile_cons, if_pos (h c (by simp))]
    exact dw_all fun d hd => h d (by simp [hd])
theorem trim_nil (p : UInt8 → Bool) (l : List UInt8) : trimL p (trimR p l) = [] ↔ l.all p = true := by
  constructor
  · intro h
    unfold trimL at h
    have h1 : ∀ c ∈ trimR p l, p c = true := by
      intro c hc
      have := List.takeWhile_append_dropWhile (p := p) (l := trimR p l)
      rw [h, List.append_nil] at this
      rw [← this] at hc
      exact mem_tw hc
    unfold trimR at h1
    have h2 : l.reverse.dropWhile p = [] := by
      cases hd : l.reverse.dropWhile p with
      | nil => rfl
      | cons x r =>
        exfalso
        have hx := h1 x (by rw [hd]; simp)
        have := List.head?_dropWhile_not p l.reverse
        rw [hd] at this
        simp [hx] at this
    rw [List.all_eq_true]
    intro c hc
    have := List.takeWhile_append_dropWhile (p := p) (l := l.reverse)
    rw [h2, List.append_nil] at this
    have hc' : c ∈ l.reverse := by simpa using hc
    rw [← this] at hc'
    exact mem_tw hc'
  · intro h
    have hall : ∀ c ∈ l, p c = true := List.all_eq_true.1 h
    have e : trimR p l = [] := by
      unfold trimR
      rw [dw_all (fun c hc => hall c (by simpa using hc))]
      rfl
    rw [e]; rfl
end

/- Texts that are cut, scanned: plain laws. No program stands here. -/
section
open Go PG Go.Proofs
set_option maxRecDepth 100000
set_option linter.unusedSimpArgs false
set_option linter.unusedVariables false

def expS (l : List UInt8) : List UInt8 := if hasP l [45] = true then l.drop [(45 : UInt8)].length else l
theorem expS_le (l : List UInt8) : (expS l).length ≤ l.length := by
  unfold expS; split
  · rw [List.length_drop]; omega
  · exact Nat.le_refl _
theorem cut_len (c : UInt8) (l : List UInt8) : (cutA c l).length ≤ l.length ∧ (cutB c l).length ≤ l.length := by
  rw [← take_pos, ← drop_pos, List.length_take, List.length_drop]
  omega
theorem cut_sum (c : UInt8) (l : List UInt8) : (cutA c l).length + (cutB c l).length ≤ l.length := by
  have := pos_le c l
  rw [← take_pos, ← drop_pos, List.length_take, List.length_drop]
  omega
/-- The three words. -/
def wNaN : List UInt8 := [110, 97, 110]
def wInf : List UInt8 := [105, 110, 102]
def wNeg : List UInt8 := [45, 105, 110, 102]
def isW (l : List UInt8) : Bool := decide (l = wNaN) || (decide (l = wInf) || decide (l = wNeg))
def wordV (l : List UInt8) : Nat := if l = wNaN then 9221120237041090560 else if l = wInf then 9218868437227405312 else if l = wNeg then 18442240474082181120 else 0
def resH (r : (Nat × Nat) × Int) : PV := .tuple [.agg [.int .u64 (r.1.1 : Nat), .int .u8 (r.1.2 : Nat), .int .i64 0], .int .i64 r.2]
theorem cutA_cons (c d : UInt8) (l : List UInt8) : cutA c (d :: l) = if d = c then [] else d :: cutA c l := by
  unfold cutA
  rw [List.takeWhile_cons]
  by_cases h : d = c
  · subst h; simp
  · rw [if_neg h, if_pos (by simpa using h)]
theorem cutB_cons (c d : UInt8) (l : List UInt8) : cutB c (d :: l) = if d = c then l else cutB c l := by
  unfold cutB
  rw [List.dropWhile_cons]
  by_cases h : d = c
  · subst h; simp
  · rw [if_neg h, if_pos (by simpa using h)]
theorem hasC_cons (c d : UInt8) (l : List UInt8) : hasC c (d :: l) = if d = c then true else hasC c l := by
  unfold hasC pos
  rw [List.takeWhile_cons]
  by_cases h : d = c
  · subst h; simp
  · rw [if_neg h, if_pos (by simpa using h)]
    simp
theorem hasC_nil (c : UInt8) : hasC c [] = false := rfl
theorem cut_in {c : UInt8} : ∀ {x : List UInt8} (y : List UInt8), hasC c x = true → cutA c (x ++ y) = cutA c x ∧ cutB c (x ++ y) = cutB c x ++ y ∧ hasC c (x ++ y) = true := by
  intro x
  induction x with
  | nil => intro y h; cases h
  | cons d x ih =>
    intro y h
    rw [List.cons_append, cutA_cons, cutA_cons, cutB_cons, cutB_cons, hasC_cons]
    rw [hasC_cons] at h
    by_cases e : d = c
    · simp only [if_pos e]; exact ⟨trivial, trivial, trivial⟩
    · simp only [if_neg e] at h ⊢
      obtain ⟨h1, h2, h3⟩ := ih y h
      exact ⟨by rw [h1], h2, h3⟩
theorem cut_out {c : UInt8} : ∀ {x : List UInt8} (y : List UInt8), hasC c x = false → cutA c (x ++ y) = x ++ cutA c y ∧ cutB c (x ++ y) = cutB c y ∧ hasC c (x ++ y) = hasC c y := by
  intro x
  induction x with
  | nil => intro y h; exact ⟨rfl, rfl, rfl⟩
  | cons d x ih =>
    intro y h
    rw [List.cons_append, cutA_cons, cutB_cons, hasC_cons]
    rw [hasC_cons] at h
    by_cases e : d = c
    · rw [if_pos e] at h; cases h
    · rw [if_neg e] at h
      simp only [if_neg e]
      obtain ⟨h1, h2, h3⟩ := ih y h
      exact ⟨by rw [h1]; rfl, h2, h3⟩
theorem cut_no {c : UInt8} {x : List UInt8} (h : hasC c x = false) : cutA c x = x ∧ cutB c x = [] := cut_none (of_decide_eq_false h)
theorem cut_yes {c : UInt8} {x : List UInt8} : hasC c x = true → x.length = (cutA c x).length + 1 + (cutB c x).length := by
  induction x with
  | nil => intro h; cases h
  | cons d x ih =>
    intro h
    rw [cutA_cons, cutB_cons]
    rw [hasC_cons] at h
    by_cases e : d = c
    · simp only [if_pos e]; simp; omega
    · rw [if_neg e] at h
      simp only [if_neg e, List.length_cons]
      have := ih h
      omega
/-- The digits, without the point; where it stands; how many stand behind it. -/
def WF (q : List UInt8) : List UInt8 := cutA 46 q ++ cutB 46 q
def ptO (o : Nat) (q : List UInt8) : Int := if hasC 46 q = true then ((o + (cutA 46 q).length : Nat) : Int) else -1
def fr (q : List UInt8) : Nat := (cutB 46 q).length
theorem wf_pt {q : List UInt8} (h : hasC 46 q = false) (o : Nat) : WF (q ++ [46]) = WF q ∧ ptO o (q ++ [46]) = ((o + q.length : Nat) : Int) ∧ fr (q ++ [46]) = fr q := by
  obtain ⟨h1, h2, h3⟩ := cut_out [46] h
  obtain ⟨g1, g2⟩ := cut_no h
  have e1 : cutA 46 [46] = [] := rfl
  have e2 : cutB 46 [46] = [] := rfl
  have e3 : hasC 46 [46] = true := rfl
  rw [e1, List.append_nil] at h1
  rw [e2] at h2
  rw [e3] at h3
  unfold WF ptO fr
  rw [h1, h2, h3, g1, g2, if_pos rfl]
  exact ⟨rfl, rfl, rfl⟩
theorem wf_dig {q : List UInt8} {c : UInt8} (h : c ≠ 46 ∨ hasC 46 q = true) (o : Nat) : WF (q ++ [c]) = WF q ++ [c] ∧ ptO o (q ++ [c]) = ptO o q ∧ (fr (q ++ [c]) : Int) = if 0 ≤ ptO o q then (fr q : Int) + 1 else fr q := by
  unfold WF ptO fr
  by_cases hc : hasC 46 q = true
  · obtain ⟨h1, h2, h3⟩ := cut_in [c] hc
    rw [h1, h2, h3, hc]
    simp only [if_true, List.append_assoc, List.length_append, List.length_singleton]
    rw [if_pos (by omega)]
    exact ⟨trivial, trivial, by omega⟩
  · have hc' : hasC 46 q = false := by simpa using hc
    obtain ⟨h1, h2, h3⟩ := cut_out [c] hc'
    obtain ⟨g1, g2⟩ := cut_no hc'
    have h4 : c ≠ 46 := by rcases h with h | h; exact h; exact absurd h hc
    have e1 : cutA 46 [c] = [c] := by rw [cutA_cons, if_neg h4]; rfl
    have e2 : cutB 46 [c] = [] := by rw [cutB_cons, if_neg h4]; rfl
    have e3 : hasC 46 [c] = false := by rw [hasC_cons, if_neg h4]; rfl
    rw [e1] at h1
    rw [e2] at h2
    rw [e3] at h3
    rw [h1, h2, h3, hc', g1, g2]
    simp
theorem wf_pre (x y : List UInt8) : ∃ z, WF (x ++ y) = WF x ++ z := by
  unfold WF
  by_cases hc : hasC 46 x = true
  · obtain ⟨h1, h2, -⟩ := cut_in y hc
    exact ⟨y, by rw [h1, h2, List.append_assoc]⟩
  · have hc' : hasC 46 x = false := by simpa using hc
    obtain ⟨h1, h2, -⟩ := cut_out y hc'
    obtain ⟨g1, g2⟩ := cut_no hc'
    exact ⟨cutA 46 y ++ cutB 46 y, by rw [h1, h2, g1, g2, List.append_nil, List.append_assoc]⟩
theorem pt_neg {o : Nat} {q : List UInt8} : ptO o q < 0 ↔ hasC 46 q = false := by
  unfold ptO
  split
  · rename_i h; rw [h]; simp; omega
  · rename_i h; simpa using h
theorem wf_len (q : List UInt8) : (WF q).length ≤ q.length ∧ fr q ≤ q.length := by
  have h := cut_sum 46 q
  unfold WF fr
  rw [List.length_append]
  exact ⟨h, by omega⟩
theorem drop_getD {r : List UInt8} {k : Nat} (h : k < r.length) : r.drop k = r.getD k 0 :: r.drop (k + 1) := by
  rw [List.drop_eq_getElem_cons h, List.getD_eq_getElem?_getD, List.getElem?_eq_getElem h]
  rfl
theorem hasP1 (E : List UInt8) (c : UInt8) : hasP E [c] = true ↔ 0 < E.length ∧ E.getD 0 0 = c := by
  unfold hasP
  rw [decide_eq_true_eq]
  cases E with
  | nil => simp
  | cons d E => simp
theorem drop_get (l : List UInt8) (i j : Nat) : (l.drop i).getD j 0 = l.getD (i + j) 0 := by
  rw [List.getD_eq_getElem?_getD, List.getD_eq_getElem?_getD, List.getElem?_drop]
end
end Go.Proofs.YtmnojbkakgfinaaGreatDoor
