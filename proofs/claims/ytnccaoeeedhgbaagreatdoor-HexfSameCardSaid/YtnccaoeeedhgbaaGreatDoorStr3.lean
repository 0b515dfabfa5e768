/- strings.Trim at a set of ASCII signs. -/
import Derived.Test.YtnccaoeeedhgbaaGreatDoorStr2
open Go PG Go.Proofs
set_option maxRecDepth 100000
set_option linter.unusedSimpArgs false
set_option linter.unusedVariables false
namespace Go.Proofs.YtnccaoeeedhgbaaGreatDoor
attribute [local go_sem] Lay2 Lay3 Lay4 Lay5 Lay6 Lay7 Lay8 Lay9 Lay10 Lay11 Lay12 Lay13 Lay14 Lay15 Lay16 Lay17 Lay18 Lay19 Lay21 Lay23 Lay24 Lay25 Lay26 Lay27 Lay28 Lay31 Lay32 Lay33 Lay34 Lay37 Lay38 Lay39 Lay42 Lay46 Lay47 Lay54 Lay65 Lay66 Lay96 Lay97 Lay106 Lay136 Lay147 Lay148 Lay152 Lay160 Lay161 Lay187 Lay201 Lay202 Lay203 Lay204 Lay212 Lay215 Lay220 Lay221 Lay234 Lay244 Lay247 Lay248 Lay249 Lay250 Lay251 Lay252 Lay253 Lay254 Lay255 Lay256 Lay257 Lay258 Lay259 Lay260 Lay261 Lay262 Lay264 Lay265 qexec_seq qexec_skip qexec_exit qexec_ret qexec_block qexec_loop qexec_range qexec_cond qexec_region qexec_drawn qops_nil qops_none qops_some put_some put_none pblk_exit pblk_other newDsts_nil inlDsts_nil isInl sget_cons sget_nil qval_some qbool_some qgs_bool qgs_und qfree_some qgrd_true qgrd_false qif_true qif_false qval_ite qval_itn qand_true map_ite map_some' map_none' qdo_move qdo_assign qdo_binOp qdo_pick qdo_unOp qdo_convert qdo_extract qdo_field qdo_fieldAddr qdo_alloc qdo_box qdo_build qdo_buildSlice qdo_load qdo_store qdo_nilCheck qdo_makeFunc qdo_makeSlice qdo_slice qdo_indexAddr qdo_call qcont_val qcont_new qcont_st qcont_app0 qcont_app qcont_inl qcont_call njSV_val njSV_nil njSV_row njSV_ptr njSV_sub binV_val binV_nil binV_nn binV_ptr bin_np bin_nnp nilCmp bin_add bin_sub bin_mul bin_quo bin_rem bin_and bin_or bin_xor bin_andNot bin_eql bin_neq bin_lss bin_leq bin_gtr bin_geq bin_shl bin_shr bin_seql bin_sneq bin_sadd bin_beql bin_aeql bin_aneq eqAnd_some eqCells_nil eqCells_cons fieldTypes isStruct eqCell bin_bneq un_not un_neg nj_ite Nat.beq stepA stepR isNew opSV constSV RV.sv allSome E_mu E_own qkeyIn_none qkeyIn_some qkeyAt_none qkeyAt_some Bool.or_false Bool.false_or Bool.or_true Bool.true_or cst setB res resSV pstart startL killL kill1 eraL frzL svPV rvPV rvInt rvSlice rvBytes frzOf close closeL pconv pbuiltin pmax2 partPV setCells fillPV zrow bound newSV PV.cells Bk.cells Bk.with SV.key pres presL_nil presL_tmp presL_cell presC2_some cellPV_ptr presC List.toList_toArray List.size_toArray List.getElem?_drop Nat.mul_one Int.toNat_natCast Nat.not_lt_zero Nat.lt_irrefl decide_true decide_false Nat.not_lt Option.some.injEq PV.lst.injEq PV.int.injEq PV.bool.injEq PV.tuple.injEq List.cons.injEq Option.map_some Option.map_none Option.bind_some Option.toList List.map_cons List.map_nil List.nil_append List.cons_append List.append_nil List.zip_cons_cons List.zip_nil_left List.zip_nil_right List.getElem?_cons_zero List.getElem?_cons_succ List.drop_zero List.drop_succ_cons List.take_succ_cons List.take_zero List.set_cons_zero List.set_cons_succ List.length_cons List.length_nil List.length_set List.replicate_one List.replicate_zero bne_self_eq_false beq_self_eq_true Nat.zero_add Nat.add_zero Nat.zero_mul Bool.false_eq_true Bool.true_eq_false Bool.not_true Bool.not_false and_true true_and false_and and_false or_false false_or or_true true_or not_true_eq_false not_false_eq_true ne_eq gt_iff_lt List.mem_cons List.not_mem_nil
attribute [local go_sem ↓] pseq_normal pseq_ret pseq_exit pblk_normal pblk_ret newDsts_cons inlDsts_cons gdst_zero gdst_succ retQ_normal retQ_ret qneed_nil qneed_cons retM_normal retM_ret endR_normal endR_ret endR_exit
attribute [local go_sem] Int.reduceToNat Int.reduceEq Int.reduceNe Int.reduceLT Int.reduceLE Int.reduceNeg Int.reduceAdd Nat.reduceEqDiff Nat.reduceAdd Nat.reduceSub Nat.reduceMul Nat.reduceLeDiff Nat.reduceLT
attribute [local go_sem ↓] reduceIte reduceCtorEq

/-- Which of 256 signs are in it. -/
def asc (cs : List UInt8) : List PV := (List.range 256).map fun j => .bool (cs.any fun c => decide (c.toNat = j))
theorem asc_length (cs : List UInt8) : (asc cs).length = 256 := by simp [asc]
theorem asc_get (cs : List UInt8) {j : Nat} (h : j < 256) : (asc cs)[j]? = some (.bool (cs.any fun c => decide (c.toNat = j))) := by
  unfold asc
  rw [List.getElem?_map, List.getElem?_range h]
  rfl
theorem asc_set (cs : List UInt8) (c : UInt8) : (asc cs).set c.toNat (.bool true) = asc (cs ++ [c]) := by
  refine List.ext_getElem? fun j => ?_
  by_cases hj : j < 256
  · rw [asc_get _ hj, List.getElem?_set]
    split
    · rename_i h
      subst h
      rw [if_pos (by rw [asc_length]; exact hj)]
      simp
    · rename_i h
      rw [asc_get _ hj, List.any_append]
      simp [h]
  · rw [List.getElem?_eq_none (by rw [List.length_set, asc_length]; omega), List.getElem?_eq_none (by rw [asc_length]; omega)]
theorem setCells_self : ∀ (vs pre : List PV), setCells (pre ++ vs) pre.length vs = pre ++ vs
  | [], pre => rfl
  | v :: vs, pre => by
    rw [setCells]
    have e : (pre ++ v :: vs).set pre.length v = (pre ++ [v]) ++ vs := by simp
    rw [e, show pre.length + 1 = (pre ++ [v]).length by simp, setCells_self vs (pre ++ [v])]
    simp
theorem setCells_all (vs : List PV) : setCells vs 0 vs = vs := setCells_self vs []
theorem setCells_over : ∀ (vs pre xs : List PV), xs.length = vs.length → setCells (pre ++ xs) pre.length vs = pre ++ vs
  | [], pre, xs, h => by
    rw [List.eq_nil_of_length_eq_zero h]; rfl
  | v :: vs, pre, [], h => by simp at h
  | v :: vs, pre, x :: xs, h => by
    rw [setCells]
    have e : (pre ++ x :: xs).set pre.length v = (pre ++ [v]) ++ xs := by simp
    rw [e, show pre.length + 1 = (pre ++ [v]).length by simp, setCells_over vs (pre ++ [v]) xs (by simpa using h)]
    simp
theorem getD_mem {l : List UInt8} {i : Nat} (h : i < l.length) : l.getD i 0 ∈ l := by
  rw [List.getD_eq_getElem?_getD, List.getElem?_eq_getElem h]; exact List.getElem_mem h
theorem take_getD {l : List UInt8} {i : Nat} (h : i < l.length) : l.take i ++ [l.getD i 0] = l.take (i + 1) := by
  rw [List.getD_eq_getElem?_getD, List.getElem?_eq_getElem h, Option.getD_some, List.take_succ_eq_append_getElem h]
theorem s_makeASCIISet (cs : List UInt8) (hcs : ∀ c ∈ cs, c.toNat < 128) (hl : cs.length < 9223372036854775807) : PC E 99 [TX cs] (.tuple [.agg (asc cs), .bool true]) := by
  have hall : asc (cs.take cs.length) = asc cs := by rw [List.take_length]
  simp only [TX]
  refine PC.of_body follows Tryz.func99 (by decide +kernel) rfl (by kernel_rfl) (Nat.le_of_ble_eq_true rfl) (walk ?_)
  simp only [Tryz.f99, B8_size, B8_cut, B8_eq, B8_mk, B8_app, Int.toNat_natCast, go_sem]
  refine PLoop.intro (fun i : Nat => ⟨[(0, .val (.str (B8 cs))), (2, .ptr 2 0), (3, .val (.bool false)), (4, .val (.int .i64 i))], [(2, (.box (asc (cs.take i)), false))]⟩) (fun i => i ≤ cs.length) (fun i => cs.length - i) 0 (Nat.zero_le _) ?_ fun i hi => walk ?_
  · simp [Wk, sget, killL, kill1, SV.key]
    try exact ⟨rfl, rfl⟩
    try rfl
  have wi : IntKind.wrap .i64 ((i : Int) + 1) = ((i + 1 : Nat) : Int) := by rw [wrap64 (by omega) (by omega)]; omega
  have hal := asc_length (cs.take i)
  simp only [Tryz.f99, B8_size, B8_cut, B8_eq, B8_mk, B8_app, Int.toNat_natCast, go_sem]
  refine qif_d (fun h => ?_) (fun h => ?_)
  · have hin : i < cs.length := by omega
    have hix := idxS_B8 (l := cs) (n := (i : Int)) (by omega) (by omega)
    rw [Int.toNat_natCast] at hix
    have hc := hcs _ (getD_mem hin)
    have hst := asc_set (cs.take i) (cs.getD i 0)
    rw [take_getD hin] at hst
    generalize cs.getD i 0 = c at *
    simp only [Tryz.f99, B8_size, B8_cut, B8_eq, B8_mk, B8_app, Int.toNat_natCast, go_sem]
    refine qdo_indexS Lay9.1 rfl rfl ?_
    simp only [Tryz.f99, B8_size, B8_cut, B8_eq, B8_mk, B8_app, Int.toNat_natCast, hix, go_sem]
    refine qif_df (by omega) ?_
    simp only [Tryz.f99, B8_size, B8_cut, B8_eq, B8_mk, B8_app, Int.toNat_natCast, go_sem]
    refine qand_i (by omega) ?_
    simp only [Tryz.f99, B8_size, B8_cut, B8_eq, B8_mk, B8_app, Int.toNat_natCast, hal, go_sem]
    refine qand_i (by omega) ?_
    simp only [Tryz.f99, B8_size, B8_cut, B8_eq, B8_mk, B8_app, Int.toNat_natCast, hal, wi, go_sem]
    refine ⟨i + 1, by omega, by omega, ?_⟩
    simp [Wk, sget, killL, kill1, SV.key, hst]
  · have hin : i = cs.length := by omega
    subst hin
    rw [hall] at hal ⊢
    have ht : List.take 256 (asc cs) = asc cs := List.take_of_length_le (by omega)
    have hs := setCells_all (asc cs)
    simp only [Tryz.f99, B8_size, B8_cut, B8_eq, B8_mk, B8_app, Int.toNat_natCast, hal, ht, hs, go_sem]
    try rfl
/-- Is it one of them? -/
def inS (cs : List UInt8) (c : UInt8) : Bool := cs.any fun d => decide (d.toNat = c.toNat)
theorem s_contains (cs : List UInt8) (c : UInt8) : PC E 139 [.ref (asc cs), .int .u8 (c.toNat : Nat)] (.bool (inS cs c)) := by
  have hc : c.toNat < 256 := UInt8.toNat_lt c
  have hg : (asc cs)[c.toNat]? = some (.bool (inS cs c)) := asc_get cs hc
  generalize inS cs c = b at *
  generalize c.toNat = n at *
  refine PC.of_body follows Tryz.func139 (by decide +kernel) rfl (by kernel_rfl) (Nat.le_of_ble_eq_true rfl) (walk ?_)
  simp only [Tryz.f139, go_sem]
  refine qand_i (by omega) ?_
  simp only [Tryz.f139, hg, go_sem]
  try rfl
theorem s_trimRightASCII (l cs : List UInt8) (hl : l.length < 9223372036854775807) : PC E 100 [TX l, .ref (asc cs)] (TX (trimR (inS cs) l)) := by
  have hk := s_contains cs
  simp only [TX]
  refine PC.of_body follows Tryz.func100 (by decide +kernel) rfl (by kernel_rfl) (Nat.le_of_ble_eq_true rfl) (walk ?_)
  simp only [Tryz.f100, B8_size, B8_cut, B8_eq, B8_mk, B8_app, Int.toNat_natCast, go_sem]
  refine PLoop.intro (fun s : List UInt8 => ⟨[(0, .val (.str (B8 s))), (1, .val (.ref (asc cs)))], []⟩) (fun s => trimR (inS cs) s = trimR (inS cs) l ∧ s.length ≤ l.length) (fun s => s.length) l ⟨rfl, Nat.le_refl _⟩ ?_ fun s hs => walk ?_
  · simp [Wk, sget, killL, kill1, SV.key]
  obtain ⟨hs, hsl⟩ := hs
  rcases snoc_cases s with rfl | ⟨t, d, rfl⟩
  · simp only [Tryz.f100, B8_size, B8_cut, B8_eq, B8_mk, B8_app, Int.toNat_natCast, List.length_nil, go_sem]
    refine qif_df (by omega) ?_
    simp only [Tryz.f100, B8_size, B8_cut, B8_eq, B8_mk, B8_app, Int.toNat_natCast, go_sem]
    rw [← hs, trimR_nil]
  · rw [List.length_append, List.length_singleton] at hsl
    have w1 : IntKind.wrap .i64 (((t.length + 1 : Nat) : Int) - 1) = t.length := by rw [wrap64 (by omega) (by omega)]; omega
    have hi := idxS_B8 (l := t ++ [d]) (n := (t.length : Int)) (by omega) (by simp)
    rw [Int.toNat_natCast, getD_snoc] at hi
    have k1 := hk d
    simp only [Tryz.f100, B8_size, B8_cut, B8_eq, B8_mk, B8_app, Int.toNat_natCast, List.length_append, List.length_cons, List.length_nil, Nat.zero_add, go_sem]
    refine qif_dt (by omega) ?_
    simp only [Tryz.f100, B8_size, B8_cut, B8_eq, B8_mk, B8_app, Int.toNat_natCast, List.length_append, List.length_cons, List.length_nil, Nat.zero_add, w1, go_sem]
    refine qdo_indexS Lay9.1 rfl rfl ?_
    simp only [Tryz.f100, B8_size, B8_cut, B8_eq, B8_mk, B8_app, Int.toNat_natCast, hi, go_sem]
    refine qcall_i (k1) ?_; simp only [Tryz.f100, B8_size, B8_cut, B8_eq, B8_mk, B8_app, Int.toNat_natCast, go_sem]
    cases hb : inS cs d
    · simp only [Tryz.f100, B8_size, B8_cut, B8_eq, B8_mk, B8_app, Int.toNat_natCast, go_sem]
      rw [trimR_snoc, if_neg (by rw [hb]; decide)] at hs
      rw [hs]
    · simp only [Tryz.f100, B8_size, B8_cut, B8_eq, B8_mk, B8_app, Int.toNat_natCast, List.length_append, List.length_cons, List.length_nil, Nat.zero_add, w1, go_sem]
      refine qand_i (by omega) ?_
      simp only [Tryz.f100, B8_size, B8_cut, B8_eq, B8_mk, B8_app, Int.toNat_natCast, take_snoc, List.drop_zero, go_sem]
      rw [trimR_snoc, if_pos hb] at hs
      refine ⟨t, ⟨hs, by omega⟩, by simp, ?_⟩
      simp [Wk, sget, killL, kill1, SV.key]
theorem s_trimLeftASCII (l cs : List UInt8) (hl : l.length < 9223372036854775807) : PC E 130 [TX l, .ref (asc cs)] (TX (trimL (inS cs) l)) := by
  have hk := s_contains cs
  simp only [TX]
  refine PC.of_body follows Tryz.func130 (by decide +kernel) rfl (by kernel_rfl) (Nat.le_of_ble_eq_true rfl) (walk ?_)
  simp only [Tryz.f130, B8_size, B8_cut, B8_eq, B8_mk, B8_app, Int.toNat_natCast, go_sem]
  refine PLoop.intro (fun s : List UInt8 => ⟨[(0, .val (.str (B8 s))), (1, .val (.ref (asc cs)))], []⟩) (fun s => trimL (inS cs) s = trimL (inS cs) l ∧ s.length ≤ l.length) (fun s => s.length) l ⟨rfl, Nat.le_refl _⟩ ?_ fun s hs => walk ?_
  · simp [Wk, sget, killL, kill1, SV.key]
  obtain ⟨hs, hsl⟩ := hs
  cases s with
  | nil =>
    simp only [Tryz.f130, B8_size, B8_cut, B8_eq, B8_mk, B8_app, Int.toNat_natCast, List.length_nil, go_sem]
    refine qif_df (by omega) ?_
    simp only [Tryz.f130, B8_size, B8_cut, B8_eq, B8_mk, B8_app, Int.toNat_natCast, go_sem]
    rw [← hs]; rfl
  | cons d t =>
    rw [List.length_cons] at hsl
    have hi : idxS (B8 (d :: t)) 0 = some (.val (.int .u8 (d.toNat : Nat))) := idxS_B8 (l := d :: t) (by decide) (by simp)
    have k1 := hk d
    have ht : List.take (t.length + 1) (d :: t) = d :: t := List.take_of_length_le (by simp)
    simp only [Tryz.f130, B8_size, B8_cut, B8_eq, B8_mk, B8_app, Int.toNat_natCast, List.length_cons, go_sem]
    refine qif_dt (by omega) ?_
    simp only [Tryz.f130, B8_size, B8_cut, B8_eq, B8_mk, B8_app, Int.toNat_natCast, go_sem]
    refine qdo_indexS Lay9.1 rfl rfl ?_
    simp only [Tryz.f130, B8_size, B8_cut, B8_eq, B8_mk, B8_app, Int.toNat_natCast, hi, go_sem]
    refine qcall_i (k1) ?_; simp only [Tryz.f130, B8_size, B8_cut, B8_eq, B8_mk, B8_app, Int.toNat_natCast, go_sem]
    cases hb : inS cs d
    · simp only [Tryz.f130, B8_size, B8_cut, B8_eq, B8_mk, B8_app, Int.toNat_natCast, go_sem]
      unfold trimL at hs
      rw [List.dropWhile_cons, hb, if_neg (by decide)] at hs
      unfold trimL
      rw [hs]
    · simp only [Tryz.f130, B8_size, B8_cut, B8_eq, B8_mk, B8_app, Int.toNat_natCast, List.length_cons, go_sem]
      refine qand_i (by omega) ?_
      simp only [Tryz.f130, B8_size, B8_cut, B8_eq, B8_mk, B8_app, Int.toNat_natCast, ht, List.drop_succ_cons, List.drop_zero, go_sem]
      unfold trimL at hs
      rw [List.dropWhile_cons, hb, if_pos rfl] at hs
      refine ⟨t, ⟨hs, by omega⟩, by simp, ?_⟩
      simp [Wk, sget, killL, kill1, SV.key]
theorem trimR_le (p : UInt8 → Bool) (l : List UInt8) : (trimR p l).length ≤ l.length := by
  unfold trimR
  rw [List.length_reverse]
  have := (List.dropWhile_suffix p (l := l.reverse)).length_le
  simpa using this
/-- At a set of two signs or more. -/
theorem s_Trim (l cs : List UInt8) (hcs : ∀ c ∈ cs, c.toNat < 128) (h2 : 2 ≤ cs.length) (hc : cs.length < 9223372036854775807) (hl : l.length < 9223372036854775807) : PC E 83 [TX l, TX cs] (TX (trimL (inS cs) (trimR (inS cs) l))) := by
  have k1 := s_makeASCIISet cs hcs hc
  have k2 := s_trimRightASCII l cs hl
  have k3 := s_trimLeftASCII (trimR (inS cs) l) cs (by have := trimR_le (inS cs) l; omega)
  have h0 : l = [] → trimL (inS cs) (trimR (inS cs) l) = l := by rintro rfl; rfl
  have hne : (cs = []) = False := eq_false (by rintro rfl; simp at h2)
  have hal := asc_length cs
  have hlen := asc_length cs
  generalize trimL (inS cs) (trimR (inS cs) l) = r3 at *
  generalize trimR (inS cs) l = r2 at *
  generalize asc cs = A at *
  simp only [TX] at k1 k2 k3 ⊢
  have hs : ∀ x : List PV, x.length = 256 → setCells x 0 A = A := fun x hx => setCells_over A [] x (by rw [hx, hal])
  clear hal
  refine PC.of_body follows Tryz.func83 (by decide +kernel) rfl (by kernel_rfl) (Nat.le_of_ble_eq_true rfl) (walk ?_)
  simp only [Tryz.f83, B8_size, B8_cut, B8_eq, B8_mk, B8_app, Int.toNat_natCast, hne, go_sem]
  refine qif_d (fun h => ?_) (fun h => ?_)
  · simp only [Tryz.f83, B8_size, B8_cut, B8_eq, B8_mk, B8_app, Int.toNat_natCast, hne, go_sem]
    rw [h0 h]
  simp only [Tryz.f83, B8_size, B8_cut, B8_eq, B8_mk, B8_app, Int.toNat_natCast, hne, go_sem]
  refine qif_df (by omega) ?_
  simp only [Tryz.f83, B8_size, B8_cut, B8_eq, B8_mk, B8_app, Int.toNat_natCast, go_sem]
  refine qcall_i (k1) ?_; simp only [Tryz.f83, B8_size, B8_cut, B8_eq, B8_mk, B8_app, Int.toNat_natCast, go_sem]
  refine qand_i (fun h => h hlen) ?_
  simp only [Tryz.f83, B8_size, B8_cut, B8_eq, B8_mk, B8_app, Int.toNat_natCast, go_sem]
  rw [hs _ rfl]
  refine qcall_i (k2) ?_; simp only [Tryz.f83, B8_size, B8_cut, B8_eq, B8_mk, B8_app, Int.toNat_natCast, go_sem]
  try rw [hs _ rfl]
  refine qcall_i (k3) ?_; simp only [Tryz.f83, B8_size, B8_cut, B8_eq, B8_mk, B8_app, Int.toNat_natCast, go_sem]
  try rfl
theorem mem_tw {p : UInt8 → Bool} {l : List UInt8} {c : UInt8} (h : c ∈ l.takeWhile p) : p c = true := by
  have := List.all_takeWhile (p := p) (l := l)
  exact List.all_eq_true.1 this c h
theorem dw_all {p : UInt8 → Bool} : ∀ {l : List UInt8}, (∀ c ∈ l, p c = true) → l.dropWhile p = []
  | [], _ => rfl
  | c :: l, h => by
    rw [List.dropWhile_cons, if_pos (h c (by simp))]
    exact dw_all fun d hd => h d (by simp [hd])
theorem trim_nil (p : UInt8 → Bool) (l : List UInt8) : trimL p (trimR p l) = [] ↔ l.all p = true := by
  constructor
  · intro h
    unfold trimL at h
    have h1 : ∀ c ∈ trimR p l, p c = true := by
      intro c hc
      have := List.takeWhile_append_dropWhile (p := p) (l := trimR p l)
      rw [h, List.append_nil] at this
      rw [← this] at hc
      exact mem_tw hc
    unfold trimR at h1
    have h2 : l.reverse.dropWhile p = [] := by
      cases hd : l.reverse.dropWhile p with
      | nil => rfl
      | cons x r =>
        exfalso
        have hx := h1 x (by rw [hd]; simp)
        have := List.head?_dropWhile_not p l.reverse
        rw [hd] at this
        simp [hx] at this
    rw [List.all_eq_true]
    intro c hc
    have := List.takeWhile_append_dropWhile (p := p) (l := l.reverse)
    rw [h2, List.append_nil] at this
    have hc' : c ∈ l.reverse := by simpa using hc
    rw [← this] at hc'
    exact mem_tw hc'
  · intro h
    have hall : ∀ c ∈ l, p c = true := List.all_eq_true.1 h
    have e : trimR p l = [] := by
      unfold trimR
      rw [dw_all (fun c hc => hall c (by simpa using hc))]
      rfl
    rw [e]; rfl
end Go.Proofs.YtnccaoeeedhgbaaGreatDoor
