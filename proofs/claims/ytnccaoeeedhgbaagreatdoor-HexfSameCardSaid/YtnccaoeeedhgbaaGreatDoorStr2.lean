/- strings.Trim, TrimRight. -/
import Derived.Test.YtnccaoeeedhgbaaGreatDoorStr1
open Go PG Go.Proofs
set_option maxRecDepth 100000
set_option linter.unusedSimpArgs false
set_option linter.unusedVariables false
namespace Go.Proofs.YtnccaoeeedhgbaaGreatDoor
attribute [local go_sem] Lay2 Lay3 Lay4 Lay5 Lay6 Lay7 Lay8 Lay9 Lay10 Lay11 Lay12 Lay13 Lay14 Lay15 Lay16 Lay17 Lay18 Lay19 Lay21 Lay23 Lay24 Lay25 Lay26 Lay27 Lay28 Lay31 Lay32 Lay33 Lay34 Lay37 Lay38 Lay39 Lay42 Lay46 Lay47 Lay54 Lay65 Lay66 Lay96 Lay97 Lay106 Lay136 Lay147 Lay148 Lay152 Lay160 Lay161 Lay187 Lay201 Lay202 Lay203 Lay204 Lay212 Lay215 Lay220 Lay221 Lay234 Lay244 Lay247 Lay248 Lay249 Lay250 Lay251 Lay252 Lay253 Lay254 Lay255 Lay256 Lay257 Lay258 Lay259 Lay260 Lay261 Lay262 Lay264 Lay265 qexec_seq qexec_skip qexec_exit qexec_ret qexec_block qexec_loop qexec_range qexec_cond qexec_region qexec_drawn qops_nil qops_none qops_some put_some put_none pblk_exit pblk_other newDsts_nil inlDsts_nil isInl sget_cons sget_nil qval_some qbool_some qgs_bool qgs_und qfree_some qgrd_true qgrd_false qif_true qif_false qval_ite qval_itn qand_true map_ite map_some' map_none' qdo_move qdo_assign qdo_binOp qdo_pick qdo_unOp qdo_convert qdo_extract qdo_field qdo_fieldAddr qdo_alloc qdo_box qdo_build qdo_buildSlice qdo_load qdo_store qdo_nilCheck qdo_makeFunc qdo_makeSlice qdo_slice qdo_indexAddr qdo_call qcont_val qcont_new qcont_st qcont_app0 qcont_app qcont_inl qcont_call njSV_val njSV_nil njSV_row njSV_ptr njSV_sub binV_val binV_nil binV_nn binV_ptr bin_np bin_nnp nilCmp bin_add bin_sub bin_mul bin_quo bin_rem bin_and bin_or bin_xor bin_andNot bin_eql bin_neq bin_lss bin_leq bin_gtr bin_geq bin_shl bin_shr bin_seql bin_sneq bin_sadd bin_beql bin_aeql bin_aneq eqAnd_some eqCells_nil eqCells_cons fieldTypes isStruct eqCell bin_bneq un_not un_neg nj_ite Nat.beq stepA stepR isNew opSV constSV RV.sv allSome E_mu E_own qkeyIn_none qkeyIn_some qkeyAt_none qkeyAt_some Bool.or_false Bool.false_or Bool.or_true Bool.true_or cst setB res resSV pstart startL killL kill1 eraL frzL svPV rvPV rvInt rvSlice rvBytes frzOf close closeL pconv pbuiltin pmax2 partPV setCells fillPV zrow bound newSV PV.cells Bk.cells Bk.with SV.key pres presL_nil presL_tmp presL_cell presC2_some cellPV_ptr presC List.toList_toArray List.size_toArray List.getElem?_drop Nat.mul_one Int.toNat_natCast Nat.not_lt_zero Nat.lt_irrefl decide_true decide_false Nat.not_lt Option.some.injEq PV.lst.injEq PV.int.injEq PV.bool.injEq PV.tuple.injEq List.cons.injEq Option.map_some Option.map_none Option.bind_some Option.toList List.map_cons List.map_nil List.nil_append List.cons_append List.append_nil List.zip_cons_cons List.zip_nil_left List.zip_nil_right List.getElem?_cons_zero List.getElem?_cons_succ List.drop_zero List.drop_succ_cons List.take_succ_cons List.take_zero List.set_cons_zero List.set_cons_succ List.length_cons List.length_nil List.length_set List.replicate_one List.replicate_zero bne_self_eq_false beq_self_eq_true Nat.zero_add Nat.add_zero Nat.zero_mul Bool.false_eq_true Bool.true_eq_false Bool.not_true Bool.not_false and_true true_and false_and and_false or_false false_or or_true true_or not_true_eq_false not_false_eq_true ne_eq gt_iff_lt List.mem_cons List.not_mem_nil
attribute [local go_sem ↓] pseq_normal pseq_ret pseq_exit pblk_normal pblk_ret newDsts_cons inlDsts_cons gdst_zero gdst_succ retQ_normal retQ_ret qneed_nil qneed_cons retM_normal retM_ret endR_normal endR_ret endR_exit
attribute [local go_sem] Int.reduceToNat Int.reduceEq Int.reduceNe Int.reduceLT Int.reduceLE Int.reduceNeg Int.reduceAdd Nat.reduceEqDiff Nat.reduceAdd Nat.reduceSub Nat.reduceMul Nat.reduceLeDiff Nat.reduceLT
attribute [local go_sem ↓] reduceIte reduceCtorEq

/-- Without those at the end, at the front, of which p holds. -/
def trimR (p : UInt8 → Bool) (l : List UInt8) : List UInt8 := (l.reverse.dropWhile p).reverse
def trimL (p : UInt8 → Bool) (l : List UInt8) : List UInt8 := l.dropWhile p
theorem trimR_nil (p : UInt8 → Bool) : trimR p [] = [] := rfl
theorem trimR_snoc (p : UInt8 → Bool) (t : List UInt8) (d : UInt8) : trimR p (t ++ [d]) = if p d = true then trimR p t else t ++ [d] := by
  unfold trimR
  rw [List.reverse_append]
  show (List.dropWhile p (d :: t.reverse)).reverse = _
  rw [List.dropWhile_cons]
  split
  · rfl
  · simp
theorem snoc_cases (s : List UInt8) : s = [] ∨ ∃ t d, s = t ++ [d] := by
  rcases List.eq_nil_or_concat s with h | ⟨t, d, h⟩
  · exact .inl h
  · exact .inr ⟨t, d, by rw [h, List.concat_eq_append]⟩
theorem getD_snoc (t : List UInt8) (d : UInt8) : (t ++ [d]).getD t.length 0 = d := by simp
theorem take_snoc (t : List UInt8) (d : UInt8) : (t ++ [d]).take t.length = t := by simp
theorem u8_eq {a b : UInt8} : ((a.toNat : Nat) : Int) = (b.toNat : Nat) ↔ a = b :=
  ⟨fun h => UInt8.toNat_inj.1 (by omega), fun h => by rw [h]⟩
theorem s_trimRightByte (l : List UInt8) (c : UInt8) (hl : l.length < 9223372036854775807) : PC E 98 [TX l, .int .u8 (c.toNat : Nat)] (TX (trimR (· == c) l)) := by
  simp only [TX]
  refine PC.of_body follows Tryz.func98 (by decide +kernel) rfl (by kernel_rfl) (Nat.le_of_ble_eq_true rfl) (walk ?_)
  simp only [Tryz.f98, B8_size, B8_cut, B8_eq, B8_mk, B8_app, Int.toNat_natCast, go_sem]
  refine PLoop.intro (fun s : List UInt8 => ⟨[(0, .val (.str (B8 s))), (1, .val (.int .u8 (c.toNat : Nat)))], []⟩) (fun s => trimR (· == c) s = trimR (· == c) l ∧ s.length ≤ l.length) (fun s => s.length) l ⟨rfl, Nat.le_refl _⟩ ?_ fun s hs => walk ?_
  · simp [Wk, sget, killL, kill1, SV.key]
  obtain ⟨hs, hsl⟩ := hs
  rcases snoc_cases s with rfl | ⟨t, d, rfl⟩
  · simp only [Tryz.f98, B8_size, B8_cut, B8_eq, B8_mk, B8_app, Int.toNat_natCast, List.length_nil, go_sem]
    refine qif_df (by omega) ?_
    simp only [Tryz.f98, B8_size, B8_cut, B8_eq, B8_mk, B8_app, Int.toNat_natCast, go_sem]
    rw [← hs, trimR_nil]
  · rw [List.length_append, List.length_singleton] at hsl
    have w1 : IntKind.wrap .i64 (((t.length + 1 : Nat) : Int) - 1) = t.length := by rw [wrap64 (by omega) (by omega)]; omega
    have hi := idxS_B8 (l := t ++ [d]) (n := (t.length : Int)) (by omega) (by simp)
    rw [Int.toNat_natCast, getD_snoc] at hi
    simp only [Tryz.f98, B8_size, B8_cut, B8_eq, B8_mk, B8_app, Int.toNat_natCast, List.length_append, List.length_cons, List.length_nil, Nat.zero_add, go_sem]
    refine qif_dt (by omega) ?_
    simp only [Tryz.f98, B8_size, B8_cut, B8_eq, B8_mk, B8_app, Int.toNat_natCast, List.length_append, List.length_cons, List.length_nil, Nat.zero_add, w1, go_sem]
    refine qdo_indexS Lay9.1 rfl rfl ?_
    simp only [Tryz.f98, B8_size, B8_cut, B8_eq, B8_mk, B8_app, Int.toNat_natCast, hi, u8_eq, go_sem]
    refine qif_d (fun h => ?_) (fun h => ?_)
    · simp only [Tryz.f98, B8_size, B8_cut, B8_eq, B8_mk, B8_app, Int.toNat_natCast, List.length_append, List.length_cons, List.length_nil, Nat.zero_add, w1, go_sem]
      refine qand_i (by omega) ?_
      simp only [Tryz.f98, B8_size, B8_cut, B8_eq, B8_mk, B8_app, Int.toNat_natCast, take_snoc, List.drop_zero, go_sem]
      rw [trimR_snoc, if_pos (by simpa using h)] at hs
      refine ⟨t, ⟨hs, by omega⟩, by simp, ?_⟩
      simp [Wk, sget, killL, kill1, SV.key]
    · simp only [Tryz.f98, B8_size, B8_cut, B8_eq, B8_mk, B8_app, Int.toNat_natCast, go_sem]
      rw [trimR_snoc, if_neg (by simpa using h)] at hs
      rw [hs]
theorem s_TrimRight1 (l : List UInt8) (c : UInt8) (hc : c.toNat < 128) (hl : l.length < 9223372036854775807) : PC E 50 [TX l, TX [c]] (TX (trimR (· == c) l)) := by
  have k1 := s_trimRightByte l c hl
  have hi : idxS (B8 [c]) 0 = some (.val (.int .u8 (c.toNat : Nat))) := idxS_B8 (l := [c]) (by decide) (by simp)
  have h0 : l = [] → trimR (· == c) l = l := by rintro rfl; rfl
  have hne : ([c] = []) = False := by simp
  generalize trimR (· == c) l = r at *
  simp only [TX] at k1 ⊢
  refine PC.of_body follows Tryz.func50 (by decide +kernel) rfl (by kernel_rfl) (Nat.le_of_ble_eq_true rfl) (walk ?_)
  simp only [Tryz.f50, B8_size, B8_cut, B8_eq, B8_mk, B8_app, Int.toNat_natCast, hne, go_sem]
  refine qif_d (fun h => ?_) (fun h => ?_)
  · simp only [Tryz.f50, B8_size, B8_cut, B8_eq, B8_mk, B8_app, Int.toNat_natCast, hne, go_sem]
    rw [h0 h]
  simp only [Tryz.f50, B8_size, B8_cut, B8_eq, B8_mk, B8_app, Int.toNat_natCast, hne, List.length_cons, List.length_nil, Nat.reduceAdd, go_sem]
  refine qif_dt (by omega) ?_
  simp only [Tryz.f50, B8_size, B8_cut, B8_eq, B8_mk, B8_app, Int.toNat_natCast, hne, List.length_cons, List.length_nil, Nat.reduceAdd, go_sem]
  refine qdo_indexS Lay9.1 rfl rfl ?_
  simp only [Tryz.f50, B8_size, B8_cut, B8_eq, B8_mk, B8_app, Int.toNat_natCast, hi, go_sem]
  refine qif_dt (by omega) ?_
  simp only [Tryz.f50, B8_size, B8_cut, B8_eq, B8_mk, B8_app, Int.toNat_natCast, hi, go_sem]
  refine qdo_indexS Lay9.1 rfl rfl ?_
  simp only [Tryz.f50, B8_size, B8_cut, B8_eq, B8_mk, B8_app, Int.toNat_natCast, hi, go_sem]
  refine qcall_i (k1) ?_; simp only [Tryz.f50, B8_size, B8_cut, B8_eq, B8_mk, B8_app, Int.toNat_natCast, go_sem]
  try rfl
end Go.Proofs.YtnccaoeeedhgbaaGreatDoor
