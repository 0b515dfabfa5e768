/- The contract of the law HexfSame: at whatever reads as its arguments it returns true. -/
import Derived.Test.YtnccaoeeedhgbaaGreatDoorHxS
import Derived.Test.YtnccaoeeedhgbaaGreatDoorHxT
import Derived.Test.YtnccaoeeedhgbaaGreatDoorHx8
import Derived.Test.YtnccaoeeedhgbaaGreatDoorG7
open Go PG Go.Proofs
set_option maxRecDepth 100000
set_option linter.unusedSimpArgs false
set_option linter.unusedVariables false
namespace Go.Proofs.YtnccaoeeedhgbaaGreatDoor
attribute [local go_sem] Lay2 Lay3 Lay4 Lay5 Lay6 Lay7 Lay8 Lay9 Lay10 Lay11 Lay12 Lay13 Lay14 Lay15 Lay16 Lay17 Lay18 Lay19 Lay21 Lay23 Lay24 Lay25 Lay26 Lay27 Lay28 Lay31 Lay32 Lay33 Lay34 Lay37 Lay38 Lay39 Lay42 Lay46 Lay47 Lay54 Lay65 Lay66 Lay96 Lay97 Lay106 Lay136 Lay147 Lay148 Lay152 Lay160 Lay161 Lay187 Lay201 Lay202 Lay203 Lay204 Lay212 Lay215 Lay220 Lay221 Lay234 Lay244 Lay247 Lay248 Lay249 Lay250 Lay251 Lay252 Lay253 Lay254 Lay255 Lay256 Lay257 Lay258 Lay259 Lay260 Lay261 Lay262 Lay264 Lay265 qexec_seq qexec_skip qexec_exit qexec_ret qexec_block qexec_loop qexec_range qexec_cond qexec_region qexec_drawn qops_nil qops_none qops_some put_some put_none pblk_exit pblk_other newDsts_nil inlDsts_nil isInl sget_cons sget_nil qval_some qbool_some qgs_bool qgs_und qfree_some qgrd_true qgrd_false qif_true qif_false qval_ite qval_itn qand_true map_ite map_some' map_none' qdo_move qdo_assign qdo_binOp qdo_pick qdo_unOp qdo_convert qdo_extract qdo_field qdo_fieldAddr qdo_alloc qdo_box qdo_build qdo_buildSlice qdo_load qdo_store qdo_nilCheck qdo_makeFunc qdo_makeSlice qdo_slice qdo_indexAddr qdo_call qcont_val qcont_new qcont_st qcont_app0 qcont_app qcont_inl qcont_call njSV_val njSV_nil njSV_row njSV_ptr njSV_sub binV_val binV_nil binV_nn binV_ptr bin_np bin_nnp nilCmp bin_add bin_sub bin_mul bin_quo bin_rem bin_and bin_or bin_xor bin_andNot bin_eql bin_neq bin_lss bin_leq bin_gtr bin_geq bin_shl bin_shr bin_seql bin_sneq bin_sadd bin_beql bin_aeql bin_aneq eqAnd_some eqCells_nil eqCells_cons fieldTypes isStruct eqCell bin_bneq un_not un_neg nj_ite Nat.beq stepA stepR isNew opSV constSV RV.sv allSome E_mu E_own qkeyIn_none qkeyIn_some qkeyAt_none qkeyAt_some Bool.or_false Bool.false_or Bool.or_true Bool.true_or cst setB res resSV pstart startL killL kill1 eraL frzL svPV rvPV rvInt rvSlice rvBytes frzOf close closeL pconv pbuiltin pmax2 partPV setCells fillPV zrow bound newSV PV.cells Bk.cells Bk.with SV.key pres presL_nil presL_tmp presL_cell presC2_some cellPV_ptr presC List.toList_toArray List.size_toArray List.getElem?_drop Nat.mul_one Int.toNat_natCast Nat.not_lt_zero Nat.lt_irrefl decide_true decide_false Nat.not_lt Option.some.injEq PV.lst.injEq PV.int.injEq PV.bool.injEq PV.tuple.injEq List.cons.injEq Option.map_some Option.map_none Option.bind_some Option.toList List.map_cons List.map_nil List.nil_append List.cons_append List.append_nil List.zip_cons_cons List.zip_nil_left List.zip_nil_right List.getElem?_cons_zero List.getElem?_cons_succ List.drop_zero List.drop_succ_cons List.take_succ_cons List.take_zero List.set_cons_zero List.set_cons_succ List.length_cons List.length_nil List.length_set List.replicate_one List.replicate_zero bne_self_eq_false beq_self_eq_true Nat.zero_add Nat.add_zero Nat.zero_mul Bool.false_eq_true Bool.true_eq_false Bool.not_true Bool.not_false and_true true_and false_and and_false or_false false_or or_true true_or not_true_eq_false not_false_eq_true ne_eq gt_iff_lt List.mem_cons List.not_mem_nil
attribute [local go_sem ↓] pseq_normal pseq_ret pseq_exit pblk_normal pblk_ret newDsts_cons inlDsts_cons gdst_zero gdst_succ retQ_normal retQ_ret qneed_nil qneed_cons retM_normal retM_ret endR_normal endR_ret endR_exit
attribute [local go_sem] Int.reduceToNat Int.reduceEq Int.reduceNe Int.reduceLT Int.reduceLE Int.reduceNeg Int.reduceAdd Nat.reduceEqDiff Nat.reduceAdd Nat.reduceSub Nat.reduceMul Nat.reduceLeDiff Nat.reduceLT
attribute [local go_sem ↓] reduceIte reduceCtorEq

theorem wrapU8c {i : Int} (h0 : 0 ≤ i) (h1 : i < 256) : IntKind.wrap .u8 i = i := by
  unfold IntKind.wrap
  simp [IntKind.bits, IntKind.signed]
  omega
/-- The three texts. -/
def sm1 (S ia : List UInt8) : List UInt8 := [48, 120] ++ S ++ [112] ++ ia
def sm2 (S ia : List UInt8) : List UInt8 := [48, 120] ++ S ++ [48, 112] ++ ia
def sm3 (S ia : List UInt8) : List UInt8 := [48, 120, 48, 48] ++ S.take 8 ++ [46] ++ S.drop 8 ++ [48, 48, 48, 112] ++ ia
theorem same3 {S : List UInt8} (hS : S.all hx = true) (hl : S.length = 16) {k : Int} (h0 : -1000 < k) (h1 : k < 1000) (dir : Int) :
    ∃ P, hexP (sm1 S (Lib.itoa k)) dir = (P, 0) ∧ hexP (sm2 S (Lib.itoa (k - 4))) dir = (P, 0) ∧ hexP (sm3 S (Lib.itoa (k + 32))) dir = (P, 0) := by
  obtain ⟨a1, a2, -⟩ := itoa_exp (n := k) (by omega) (by omega)
  obtain ⟨b1, b2, -⟩ := itoa_exp (n := k - 4) (by omega) (by omega)
  obtain ⟨c1, c2, -⟩ := itoa_exp (n := k + 32) (by omega) (by omega)
  have a3 := itoa_len (n := k) (by omega) (by omega)
  have b3 := itoa_len (n := k - 4) (by omega) (by omega)
  have c3 := itoa_len (n := k + 32) (by omega) (by omega)
  have hne : S ≠ [] := fun e => by rw [e] at hl; cases hl
  have htd := List.take_append_drop 8 S
  have hall : (S.take 8).all hx = true ∧ (S.drop 8).all hx = true := by
    rw [← htd, List.all_append, Bool.and_eq_true] at hS
    exact hS
  have hdl : (S.drop 8).length = 8 := by rw [List.length_drop]; omega
  obtain ⟨m1, m2⟩ := hexP_move (A := S) (D := []) (ia := Lib.itoa k) (A' := S ++ [48]) (D' := []) (ia' := Lib.itoa (k - 4)) false false hS rfl hne (by simp) (by simp) a1 (by simp; omega)
    (by rw [List.all_append, hS]; rfl) rfl (by simp) (by simp) (by simp) b1 (by simp; omega) 1 (by
      rw [List.append_nil, List.append_nil, hn_snoc]; rfl) (by omega) (by rw [a2, b2]; simp) dir
  obtain ⟨n1, -⟩ := hexP_move (A := S) (D := []) (ia := Lib.itoa k) (A' := [48, 48] ++ S.take 8) (D' := S.drop 8 ++ [48, 48, 48]) (ia' := Lib.itoa (k + 32)) false true hS rfl hne (by simp) (by simp) a1 (by simp; omega)
    (by rw [List.all_append, hall.1]; rfl) (by rw [List.all_append, hall.2]; rfl) (by simp) (by simp) (by simp) c1 (by simp; omega) 3 (by
      have e1 := hn_front (S ++ [48, 48, 48]) 2
      have e2 := hn_zeros S 3
      rw [List.append_nil, show (2 : Nat) ^ (4 * 3) = 16 ^ 3 by decide, ← e2, show List.replicate 3 (48 : UInt8) = [48, 48, 48] from rfl, ← e1, show List.replicate 2 (48 : UInt8) = [48, 48] from rfl]
      congr 1
      rw [List.append_assoc, ← List.append_assoc (S.take 8), htd]) (by omega) (by rw [a2, c2, List.length_append, hdl]; simp; omega) dir
  refine ⟨(hexP (sm1 S (Lib.itoa k)) dir).1, ?_⟩
  have f1 : sm1 S (Lib.itoa k) = [48, 120] ++ ((S ++ (if false = true then 46 :: ([] : List UInt8) else [])) ++ 112 :: Lib.itoa k) := by unfold sm1; simp
  have f2 : sm2 S (Lib.itoa (k - 4)) = [48, 120] ++ (((S ++ [48]) ++ (if false = true then 46 :: ([] : List UInt8) else [])) ++ 112 :: Lib.itoa (k - 4)) := by unfold sm2; simp
  have f3 : sm3 S (Lib.itoa (k + 32)) = [48, 120] ++ ((([48, 48] ++ S.take 8) ++ (if true = true then 46 :: (S.drop 8 ++ [48, 48, 48]) else [])) ++ 112 :: Lib.itoa (k + 32)) := by unfold sm3; simp
  rw [f2, f3, ← m1, ← n1, ← f1]
  rw [← f1] at m2
  have : hexP (sm1 S (Lib.itoa k)) dir = ((hexP (sm1 S (Lib.itoa k)) dir).1, 0) := by rw [← m2]
  exact ⟨this, this, this⟩
set_option maxHeartbeats 1000000 in
theorem law_HexfSame (pvs : List PV) (h : Fits [qU64, qU8, qU8] pvs) : PC E 5 pvs (.bool true) := by
  obtain ⟨_, _, _, rfl, ⟨b, rfl, hb⟩, ⟨ex, rfl, hex⟩, ⟨dr, rfl, hdr⟩⟩ := fits3 h
  have k0 := c_alive33
  have hmx : maxLen = 9223372036854775807 := rfl
  have hdm : ((dr : Int)).tmod 4 = ((dr % 4 : Nat) : Int) := n_tmod dr 4
  have hdw : IntKind.wrap .i64 ((dr % 4 : Nat) : Int) = ((dr % 4 : Nat) : Int) := wrap64 (by omega) (by omega)
  have hdu : IntKind.wrap .u8 ((dr % 4 : Nat) : Int) = ((dr % 4 : Nat) : Int) := wrapU8c (by omega) (by omega)
  have hk4 : dr % 4 < 4 := Nat.mod_lt _ (by decide)
  generalize dr % 4 = dk at *
  obtain ⟨P, hP1, hP2, hP3⟩ := same3 (dig16_all b 16) (dig16_len b 16) (k := (ex : Int) - 128) (by omega) (by omega) (dk : Int)
  have i1 := itoa_len (n := (ex : Int) - 128) (by omega) (by omega)
  have i2 := itoa_len (n := (ex : Int) - 128 - 4) (by omega) (by omega)
  have i3 := itoa_len (n := (ex : Int) - 128 + 32) (by omega) (by omega)
  have t1 := h_text (n := (ex : Int) - 128) (by omega) (by omega)
  have t2 := h_text (n := (ex : Int) - 128 - 4) (by omega) (by omega)
  have t3 := h_text (n := (ex : Int) - 128 + 32) (by omega) (by omega)
  have hl16 := dig16_len b 16
  have k1 := h_Parse (l := sm1 (dig16 b 16) (Lib.itoa ((ex : Int) - 128))) (by unfold sm1; simp; omega) (dir := (dk : Int)) (by omega)
  have k2 := h_Parse (l := sm2 (dig16 b 16) (Lib.itoa ((ex : Int) - 128 - 4))) (by unfold sm2; simp; omega) (dir := (dk : Int)) (by omega)
  have k3 := h_Parse (l := sm3 (dig16 b 16) (Lib.itoa ((ex : Int) - 128 + 32))) (by unfold sm3; simp; omega) (dir := (dk : Int)) (by omega)
  rw [hP1] at k1
  rw [hP2] at k2
  rw [hP3] at k3
  have w1 : IntKind.wrap .i64 ((ex : Int) - 128) = (ex : Int) - 128 := wrap64 (by omega) (by omega)
  have w2 : IntKind.wrap .i64 ((ex : Int) - 128 - 4) = (ex : Int) - 128 - 4 := wrap64 (by omega) (by omega)
  have w3 : IntKind.wrap .i64 ((ex : Int) - 128 + 32) = (ex : Int) - 128 + 32 := wrap64 (by omega) (by omega)
  have we : IntKind.wrap .i64 (ex : Int) = ex := wrap64 (by omega) (by omega)
  have z0 : ((0 : Nat) : Int) = 0 := rfl
  unfold sm1 at k1
  unfold sm2 at k2
  unfold sm3 at k3
  clear hP1 hP2 hP3
  obtain ⟨pb, pf⟩ := P
  simp only [TX, resH, u, z0] at k1 k2 k3 t1 t2 t3 ⊢
  refine PC.of_body follows Tryz.func5 (by decide +kernel) rfl (by kernel_rfl) (Nat.le_of_ble_eq_true rfl) (walk ?_)
  simp only [Tryz.f5, B8_size, B8_cut, B8_eq, B8_mk, B8_app, Int.toNat_natCast, go_sem]
  refine qcall_i (k0) ?_; simp only [Tryz.f5, B8_size, B8_cut, B8_eq, B8_mk, B8_app, Int.toNat_natCast, hdm, hdw, hdu, go_sem]
  refine PLoop.intro (fun i : Nat => ⟨[(0, .val (.int .u64 b)), (1, .val (.int .u8 ex)), (7, .val (.int .i64 dk)), (8, .val (.str (B8 HXT))), (9, .val (.str (B8 (dig16 b i)))), (10, .val (.int .i64 i))], []⟩) (fun i => i ≤ 16) (fun i => 16 - i) 0 (Nat.zero_le _) ?_ fun i hi => walk ?_
  · simp [Wk, sget, killL, kill1, SV.key, dig16, HXT]
  by_cases hlt : i < 16
  · simp only [Tryz.f5, B8_size, B8_cut, B8_eq, B8_mk, B8_app, Int.toNat_natCast, go_sem]
    refine qif_dt (by omega) ?_
    simp only [Tryz.f5, B8_size, B8_cut, B8_eq, B8_mk, B8_app, Int.toNat_natCast, go_sem]
    have s1 : IntKind.wrap .u64 (i : Int) = i := by rw [IntKind.wrap_u64]; omega
    have s2 : IntKind.wrap .u64 (4 * (i : Int)) = ((4 * i : Nat) : Int) := by rw [IntKind.wrap_u64]; omega
    have s3 : IntKind.wrap .u64 (60 - ((4 * i : Nat) : Int)) = ((60 - 4 * i : Nat) : Int) := by rw [IntKind.wrap_u64]; omega
    have s4 := b_shr hb (60 - 4 * i)
    have s5 : bits .and .u64 ((b / 2 ^ (60 - 4 * i) : Nat) : Int) 15 = ((b / 2 ^ (60 - 4 * i) % 16 : Nat) : Int) := by
      rw [show (15 : Int) = ((15 : Nat) : Int) from rfl, b_and (Nat.lt_of_le_of_lt (Nat.div_le_self _ _) hb) (by decide), show (15 : Nat) = 2 ^ 4 - 1 from rfl, Nat.and_two_pow_sub_one_eq_mod]
    have s6 : dig16 b (i + 1) = dig16 b i ++ [hxd (b / 2 ^ (60 - 4 * i) % 16)] := by
      show dig16 b i ++ [hxd (b / 16 ^ (15 - i) % 16)] = _
      rw [show (16 : Nat) ^ (15 - i) = 2 ^ (60 - 4 * i) by rw [show (16 : Nat) = 2 ^ 4 from rfl, ← Nat.pow_mul, show 4 * (15 - i) = 60 - 4 * i by omega]]
    have s7 : b / 2 ^ (60 - 4 * i) % 16 < 16 := Nat.mod_lt _ (by decide)
    have hl := dig16_len b i
    generalize b / 2 ^ (60 - 4 * i) % 16 = dv at *
    have hcut := hxt_cut s7
    have wi : IntKind.wrap .i64 ((i : Int) + 1) = ((i + 1 : Nat) : Int) := by rw [wrap64 (by omega) (by omega)]; omega
    have hxl : HXT.length = 16 := rfl
    rw [s1, s2, s3]
    refine qand_i (by omega) ?_
    simp only [Tryz.f5, B8_size, B8_cut, B8_eq, B8_mk, B8_app, Int.toNat_natCast, s1, s2, s3, s4, s5, hxl, go_sem]
    refine qand_i (by omega) ?_
    simp only [Tryz.f5, B8_size, B8_cut, B8_eq, B8_mk, B8_app, Int.toNat_natCast, s1, s2, s3, s4, s5, hxl, go_sem]
    refine qand_i (by rw [List.take_of_length_le (by rw [hxl]; omega), hcut, List.length_cons]; omega) ?_
    have hc3 : List.take 1 (List.drop dv (List.take 16 HXT)) = [hxd dv] := by rw [show List.take 16 HXT = HXT from rfl, hcut]; rfl
    simp only [Tryz.f5, B8_size, B8_cut, B8_eq, B8_mk, B8_app, Int.toNat_natCast, hxl, hc3, go_sem]
    refine qand_i (by rw [hmx]; (try simp only [List.length_cons, List.length_nil]); omega) ?_
    simp only [Tryz.f5, B8_size, B8_cut, B8_eq, B8_mk, B8_app, Int.toNat_natCast, wi, go_sem]
    refine ⟨i + 1, by omega, by omega, ?_⟩
    rw [s6]
    simp [Wk, sget, killL, kill1, SV.key]
  · have : i = 16 := by omega
    subst this
    generalize Lib.itoa ((ex : Int) - 128) = ia1 at *
    generalize Lib.itoa ((ex : Int) - 128 - 4) = ia2 at *
    generalize Lib.itoa ((ex : Int) - 128 + 32) = ia3 at *
    generalize dig16 b 16 = S at *
    simp only [List.cons_append, List.nil_append] at k1 k2 k3
    simp only [Tryz.f5, B8_size, B8_cut, B8_eq, B8_mk, B8_app, Int.toNat_natCast, go_sem]
    try (refine qif_df (by omega) ?_; simp only [Tryz.f5, B8_size, B8_cut, B8_eq, B8_mk, B8_app, Int.toNat_natCast, we, w1, w2, w3, List.take_length, go_sem])
    repeat' first
      | ((with_reducible refine qcall_i t1 ?_); simp only [Tryz.f5, B8_size, B8_cut, B8_eq, B8_mk, B8_app, Int.toNat_natCast, we, w1, w2, w3, List.take_length, go_sem])
      | ((with_reducible refine qcall_i t2 ?_); simp only [Tryz.f5, B8_size, B8_cut, B8_eq, B8_mk, B8_app, Int.toNat_natCast, we, w1, w2, w3, List.take_length, go_sem])
      | ((with_reducible refine qcall_i t3 ?_); simp only [Tryz.f5, B8_size, B8_cut, B8_eq, B8_mk, B8_app, Int.toNat_natCast, we, w1, w2, w3, List.take_length, go_sem])
      | ((with_reducible refine qcall_i k1 ?_); simp only [Tryz.f5, B8_size, B8_cut, B8_eq, B8_mk, B8_app, Int.toNat_natCast, we, w1, w2, w3, List.take_length, go_sem])
      | ((with_reducible refine qcall_i k2 ?_); simp only [Tryz.f5, B8_size, B8_cut, B8_eq, B8_mk, B8_app, Int.toNat_natCast, we, w1, w2, w3, List.take_length, go_sem])
      | ((with_reducible refine qcall_i k3 ?_); simp only [Tryz.f5, B8_size, B8_cut, B8_eq, B8_mk, B8_app, Int.toNat_natCast, we, w1, w2, w3, List.take_length, go_sem])
      | ((refine qand_i (by (try rw [hmx]); (try simp only [List.length_append, List.length_cons, List.length_nil, List.length_take, List.length_drop]); omega) ?_); simp only [Tryz.f5, B8_size, B8_cut, B8_eq, B8_mk, B8_app, Int.toNat_natCast, we, w1, w2, w3, List.take_length, go_sem])
    simp only [Tryz.f5, B8_size, B8_cut, B8_eq, B8_mk, B8_app, Int.toNat_natCast, Bool.and_self, go_sem]
    try rfl
end Go.Proofs.YtnccaoeeedhgbaaGreatDoor
