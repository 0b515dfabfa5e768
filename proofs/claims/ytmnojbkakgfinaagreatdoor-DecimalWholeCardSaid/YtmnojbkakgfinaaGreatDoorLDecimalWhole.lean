/- The contract of the law DecimalWhole: at whatever reads as its arguments it returns true. -/
import Derived.Test.YtmnojbkakgfinaaGreatDoorDw1
import Derived.Test.YtmnojbkakgfinaaGreatDoorK6
import Derived.Test.YtmnojbkakgfinaaGreatDoorK3
import Derived.Test.YtmnojbkakgfinaaGreatDoorG7
open Go PG Go.Proofs
set_option maxRecDepth 100000
set_option linter.unusedSimpArgs false
set_option linter.unusedVariables false
namespace Go.Proofs.YtmnojbkakgfinaaGreatDoor
attribute [local go_sem] Lay2 Lay3 Lay4 Lay5 Lay6 Lay7 Lay8 Lay9 Lay10 Lay11 Lay12 Lay13 Lay14 Lay15 Lay16 Lay17 Lay18 Lay19 Lay21 Lay23 Lay24 Lay25 Lay26 Lay27 Lay28 Lay31 Lay32 Lay33 Lay40 Lay43 Lay44 Lay49 Lay50 Lay57 Lay58 Lay61 Lay68 Lay69 Lay72 Lay77 Lay125 Lay133 Lay134 Lay150 Lay167 Lay168 Lay169 Lay170 Lay180 Lay181 Lay185 Lay186 Lay189 Lay205 Lay208 Lay223 Lay227 Lay228 Lay231 Lay232 Lay233 Lay234 Lay235 Lay236 Lay237 Lay238 Lay240 Lay241 Lay242 Lay243 Lay244 Lay245 Lay246 Lay247 Lay249 Lay250 qexec_seq qexec_skip qexec_exit qexec_ret qexec_block qexec_loop qexec_range qexec_cond qexec_region qexec_drawn qops_nil qops_none qops_some put_some put_none pblk_exit pblk_other newDsts_nil inlDsts_nil isInl sget_cons sget_nil qval_some qbool_some qgs_bool qgs_und qfree_some qgrd_true qgrd_false qif_true qif_false qval_ite qval_itn qand_true map_ite map_some' map_none' qdo_move qdo_assign qdo_binOp qdo_pick qdo_unOp qdo_convert qdo_extract qdo_field qdo_fieldAddr qdo_alloc qdo_box qdo_build qdo_buildSlice qdo_load qdo_store qdo_nilCheck qdo_makeFunc qdo_makeSlice qdo_slice qdo_indexAddr qdo_call qcont_val qcont_new qcont_st qcont_app0 qcont_app qcont_inl qcont_call njSV_val njSV_nil njSV_row njSV_ptr njSV_sub binV_val binV_nil binV_nn binV_ptr bin_np bin_nnp nilCmp bin_add bin_sub bin_mul bin_quo bin_rem bin_and bin_or bin_xor bin_andNot bin_eql bin_neq bin_lss bin_leq bin_gtr bin_geq bin_shl bin_shr bin_seql bin_sneq bin_sadd bin_beql bin_aeql bin_aneq eqAnd_some eqCells_nil eqCells_cons fieldTypes isStruct eqCell bin_bneq un_not un_neg nj_ite Nat.beq stepA stepR isNew opSV constSV RV.sv allSome E_mu E_own qkeyIn_none qkeyIn_some qkeyAt_none qkeyAt_some Bool.or_false Bool.false_or Bool.or_true Bool.true_or cst setB res resSV pstart startL killL kill1 eraL frzL svPV rvPV rvInt rvSlice rvBytes frzOf close closeL pconv pbuiltin pmax2 partPV setCells fillPV zrow bound newSV PV.cells Bk.cells Bk.with SV.key pres presL_nil presL_tmp presL_cell presC2_some cellPV_ptr presC List.toList_toArray List.size_toArray List.getElem?_drop Nat.mul_one Int.toNat_natCast Nat.not_lt_zero Nat.lt_irrefl decide_true decide_false Nat.not_lt Option.some.injEq PV.lst.injEq PV.int.injEq PV.bool.injEq PV.tuple.injEq List.cons.injEq Option.map_some Option.map_none Option.bind_some Option.toList List.map_cons List.map_nil List.nil_append List.cons_append List.append_nil List.zip_cons_cons List.zip_nil_left List.zip_nil_right List.getElem?_cons_zero List.getElem?_cons_succ List.drop_zero List.drop_succ_cons List.take_succ_cons List.take_zero List.set_cons_zero List.set_cons_succ List.length_cons List.length_nil List.length_set List.replicate_one List.replicate_zero bne_self_eq_false beq_self_eq_true Nat.zero_add Nat.add_zero Nat.zero_mul Bool.false_eq_true Bool.true_eq_false Bool.not_true Bool.not_false and_true true_and false_and and_false or_false false_or or_true true_or not_true_eq_false not_false_eq_true ne_eq gt_iff_lt List.mem_cons List.not_mem_nil
attribute [local go_sem ↓] pseq_normal pseq_ret pseq_exit pblk_normal pblk_ret newDsts_cons inlDsts_cons gdst_zero gdst_succ retQ_normal retQ_ret qneed_nil qneed_cons retM_normal retM_ret endR_normal endR_ret endR_exit
attribute [local go_sem] Int.reduceToNat Int.reduceEq Int.reduceNe Int.reduceLT Int.reduceLE Int.reduceNeg Int.reduceAdd Nat.reduceEqDiff Nat.reduceAdd Nat.reduceSub Nat.reduceMul Nat.reduceLeDiff Nat.reduceLT
attribute [local go_sem ↓] reduceIte reduceCtorEq

theorem wrapU8w {i : Int} (h0 : 0 ≤ i) (h1 : i < 256) : IntKind.wrap .u8 i = i := by
  unfold IntKind.wrap
  simp [IntKind.bits, IntKind.signed]
  omega
theorem dig_u8w {k : Nat} (h : k < 10) : (((UInt8.ofNat (48 + k)).toNat : Nat) : Int) = 48 + (k : Int) := by
  have e : ∀ k : Fin 10, (((UInt8.ofNat (48 + k.val)).toNat : Nat) : Int) = 48 + (k.val : Int) := by decide +kernel
  exact e ⟨k, h⟩
/-- Two digits. -/
def two (z : Nat) : List UInt8 := [UInt8.ofNat (48 + z / 10), UInt8.ofNat (48 + z % 10)]
theorem two_ok {z : Nat} (h : z < 100) : (two z).all dgt = true ∧ dn (two z) = z := by
  have e : ∀ z : Fin 100, (two z.val).all dgt = true ∧ dn (two z.val) = z.val := by decide +kernel
  exact e ⟨z, h⟩
theorem zeros_ok (z : Nat) : (List.replicate z (48 : UInt8)).all dgt = true ∧ dn (List.replicate z (48 : UInt8)) = 0 := by
  induction z with
  | zero => exact ⟨rfl, rfl⟩
  | succ z ih =>
    rw [List.replicate_succ']
    refine ⟨by rw [List.all_append, ih.1]; rfl, ?_⟩
    rw [dn_snoc, ih.2]; rfl
theorem text_p (m z : Nat) (hz : z < 30) (hm : m < 9007199254740992) (dir : Int) : decP (Lib.decDigits m ++ (List.replicate z 48 ++ (101 :: 45 :: two z))) dir = ((wn m, 0), 0) := by
  obtain ⟨h1, h2, h3, -⟩ := dec_dn m
  obtain ⟨z1, z2⟩ := zeros_ok z
  obtain ⟨t1, t2⟩ := two_ok (z := z) (by omega)
  have hl := dec_len 15 m (by omega)
  have hok : DecOk (Lib.decDigits m ++ List.replicate z 48) false [] true (two z) := ⟨by rw [List.all_append, h2, z1]; rfl, by simp [h3], rfl, by simp, fun _ => rfl, fun _ => ⟨t1, by simp [two], by simp [two], by rw [t2]; omega⟩⟩
  have e : Lib.decDigits m ++ (List.replicate z 48 ++ (101 :: 45 :: two z)) = decT false (Lib.decDigits m ++ List.replicate z 48) false [] true true (two z) := by
    unfold decT sgT; simp
  rw [e, decP_T hok (by rw [← e]; simp [two]; omega)]
  rw [if_pos rfl, if_pos rfl, t2, List.append_nil, dn_app, z2, h1, List.length_replicate, Nat.add_zero]
  have := whole_R hm z (by omega) dir
  rw [show -(z : Int) - (([] : List UInt8).length : Nat) = -(z : Int) by simp, this]
theorem text_s (m : Nat) (hm : m < 9007199254740992) (dir : Int) : decP (Lib.decDigits m) dir = ((wn m, 0), 0) := by
  obtain ⟨h1, h2, h3, -⟩ := dec_dn m
  have hl := dec_len 15 m (by omega)
  have hok : DecOk (Lib.decDigits m) false [] false [] := ⟨h2, h3, rfl, by simp, fun _ => rfl, by simp⟩
  have e : Lib.decDigits m = decT false (Lib.decDigits m) false [] false false [] := by
    unfold decT sgT; simp
  have hp := decP_T (sg := false) (neg := false) hok (by rw [← e]; omega) dir
  rw [← e, List.append_nil, h1] at hp
  rw [hp]
  have := whole_R hm 0 (by omega) dir
  rw [Nat.pow_zero, Nat.mul_one] at this
  rw [if_neg (by decide)]
  exact congrArg (fun x => (x, (0 : Int))) this
/-- A point moved, and the exponent the other way. -/
theorem text_q (m z : Nat) (hz : z < 30) (hm : m < 9007199254740992) (dir : Int) : decP (48 :: 46 :: (List.replicate z 48 ++ (Lib.decDigits m ++ (101 :: two z)))) dir = decP (48 :: 46 :: Lib.decDigits m) dir := by
  obtain ⟨h1, h2, h3, -⟩ := dec_dn m
  obtain ⟨z1, z2⟩ := zeros_ok z
  obtain ⟨t1, t2⟩ := two_ok (z := z) (by omega)
  have hl := dec_len 15 m (by omega)
  have hok1 : DecOk [48] true (List.replicate z 48 ++ Lib.decDigits m) true (two z) := ⟨rfl, by simp, by rw [List.all_append, h2, z1]; rfl, fun _ => by simp [h3], by simp, fun _ => ⟨t1, by simp [two], by simp [two], by rw [t2]; omega⟩⟩
  have hok2 : DecOk [48] true (Lib.decDigits m) false [] := ⟨rfl, by simp, h2, fun _ => h3, by simp, by simp⟩
  have e1 : 48 :: 46 :: (List.replicate z 48 ++ (Lib.decDigits m ++ (101 :: two z))) = decT false [48] true (List.replicate z 48 ++ Lib.decDigits m) true false (two z) := by
    unfold decT sgT; simp
  have e2 : 48 :: 46 :: Lib.decDigits m = decT false [48] true (Lib.decDigits m) false false [] := by
    unfold decT sgT; simp
  rw [e1, e2, decP_T hok1 (by rw [← e1]; simp [two]; omega), decP_T hok2 (by rw [← e2]; simp; omega)]
  have d0 : dn [48] = 0 := rfl
  have d1 : dn ([48] ++ (List.replicate z 48 ++ Lib.decDigits m)) = m := by rw [dn_app, d0, dn_app, z2, h1, Nat.zero_mul, Nat.zero_mul, Nat.zero_add, Nat.zero_add]
  have d2 : dn ([48] ++ Lib.decDigits m) = m := by rw [dn_app, d0, h1, Nat.zero_mul, Nat.zero_add]
  rw [d1, d2, t2, if_pos rfl, if_neg (by decide), if_neg (by decide), List.length_append, List.length_replicate]
  congr 2
  omega
set_option maxHeartbeats 4000000 in
theorem law_DecimalWhole (pvs : List PV) (h : Fits [qU64, qU8, qU8] pvs) : PC E 5 pvs (.bool true) := by
  obtain ⟨_, _, _, rfl, ⟨n, rfl, hn⟩, ⟨k, rfl, hk⟩, ⟨dr, rfl, hdr⟩⟩ := fits3 h
  have kA : ∀ s : List UInt8, s.length ≤ 1000 → PC E 49 [TX s] (.tuple [.int .i64 (atoiV s), .any]) := fun s hs => s_AtoiAny hs
  have k0 := c_alive32 kA
  have hmx : maxLen = 9223372036854775807 := rfl
  have hdm : ((dr : Int)).tmod 4 = ((dr % 4 : Nat) : Int) := by rw [Int.tmod_eq_emod_of_nonneg (by omega)]; omega
  have hdw : IntKind.wrap .i64 ((dr % 4 : Nat) : Int) = ((dr % 4 : Nat) : Int) := wrap64 (by omega) (by omega)
  have hdu : IntKind.wrap .u8 ((dr % 4 : Nat) : Int) = ((dr % 4 : Nat) : Int) := wrapU8w (by omega) (by omega)
  have hk4 : dr % 4 < 4 := Nat.mod_lt _ (by decide)
  generalize dr % 4 = dk at *
  have hnm : ((n : Int)).tmod 9007199254740992 = ((n % 9007199254740992 : Nat) : Int) := by rw [Int.tmod_eq_emod_of_nonneg (by omega)]; omega
  have hnw : IntKind.wrap .u64 ((n % 9007199254740992 : Nat) : Int) = ((n % 9007199254740992 : Nat) : Int) := by rw [IntKind.wrap_u64]; omega
  have hm : n % 9007199254740992 < 9007199254740992 := Nat.mod_lt _ (by decide)
  generalize n % 9007199254740992 = m at *
  have hkw : IntKind.wrap .i64 (k : Int) = k := wrap64 (by omega) (by omega)
  have hkm : ((k : Int)).tmod 30 = ((k % 30 : Nat) : Int) := by rw [Int.tmod_eq_emod_of_nonneg (by omega)]; omega
  have hkw2 : IntKind.wrap .i64 ((k % 30 : Nat) : Int) = ((k % 30 : Nat) : Int) := wrap64 (by omega) (by omega)
  have hz : k % 30 < 30 := Nat.mod_lt _ (by decide)
  generalize k % 30 = z at *
  have hll := dec_len 15 m (by omega)
  have k1 := d_Parse kA (l := Lib.decDigits m) (dir := (dk : Int)) (by omega)
  have k2 := d_Parse kA (l := Lib.decDigits m ++ (List.replicate z 48 ++ (101 :: 45 :: two z))) (dir := (dk : Int)) (by omega)
  have k3 := d_Parse kA (l := 48 :: 46 :: (List.replicate z 48 ++ (Lib.decDigits m ++ (101 :: two z)))) (dir := (dk : Int)) (by omega)
  have k4 := d_Parse kA (l := 48 :: 46 :: Lib.decDigits m) (dir := (dk : Int)) (by omega)
  rw [text_s m hm] at k1
  rw [text_p m z hz hm] at k2
  rw [text_q m z hz hm] at k3
  have k5 := s_frombits (wn m)
  have k6 := fconv_num hm (P := E.P) (t := 23) Lay23.1
  have hP4 : ∃ b f e, decP (48 :: 46 :: Lib.decDigits m) (dk : Int) = ((b, f), e) ∧ e = 0 := by
    obtain ⟨h1, h2, h3, -⟩ := dec_dn m
    have hok2 : DecOk [48] true (Lib.decDigits m) false [] := ⟨rfl, by simp, h2, fun _ => h3, by simp, by simp⟩
    have e2 : 48 :: 46 :: Lib.decDigits m = decT false [48] true (Lib.decDigits m) false false [] := by
      unfold decT sgT; simp
    rw [e2, decP_T hok2 (by rw [← e2]; simp; omega)]
    exact ⟨_, _, _, rfl, rfl⟩
  obtain ⟨b4, f4, e4, hP4, he4⟩ := hP4
  subst he4
  rw [hP4] at k3 k4
  clear hP4
  obtain ⟨N, hN⟩ : ∃ N, N = m := ⟨_, rfl⟩
  have hNl : (Lib.decDigits N).length ≤ 16 := by rw [hN]; exact hll
  dsimp only [resH] at k1 k2 k3 k4
  have z0 : ((0 : Nat) : Int) = 0 := rfl
  rw [z0] at k1 k2
  simp only [TX, u] at k1 k2 k3 k4 ⊢
  refine PC.of_body follows Tryz.func5 (by decide +kernel) rfl (by kernel_rfl) (Nat.le_of_ble_eq_true rfl) (walk ?_)
  simp only [Tryz.f5, B8_size, B8_cut, B8_eq, B8_mk, B8_app, Int.toNat_natCast, go_sem]
  refine qcall_i (k0) ?_; simp only [Tryz.f5, B8_size, B8_cut, B8_eq, B8_mk, B8_app, Int.toNat_natCast, hdm, hdw, hdu, hnm, hnw, go_sem]
  refine PLoop.intro (fun p : List UInt8 × Nat => ⟨[(0, .val (.int .u64 n)), (1, .val (.int .u8 k)), (7, .val (.int .i64 dk)), (8, .val (.int .u64 m)), (9, .val (.str (B8 p.1))), (10, .val (.int .u64 p.2))], []⟩)
    (fun p => behind N p.2 p.1 ∧ p.2 ≤ N) (fun p => p.2 + if p.1 = [] then 1 else 0) ([], m) ⟨.inl ⟨rfl, hN.symm⟩, by dsimp only; omega⟩ ?_ fun p hp => walk ?_
  · simp [Wk, sget, killL, kill1, SV.key]
  obtain ⟨out, q⟩ := p
  obtain ⟨hb, hq⟩ := hp
  dsimp only at hb hq ⊢
  have hbl := behind_len hb
  have hqd : ((q : Int)).tmod 10 = ((q % 10 : Nat) : Int) := by rw [Int.tmod_eq_emod_of_nonneg (by omega)]; omega
  have hq10 : q % 10 < 10 := Nat.mod_lt _ (by decide)
  have hqr : IntKind.wrap .u64 ((q % 10 : Nat) : Int) = ((q % 10 : Nat) : Int) := by rw [IntKind.wrap_u64]; omega
  have hqw : IntKind.wrap .u64 (48 + ((q % 10 : Nat) : Int)) = 48 + ((q % 10 : Nat) : Int) := by rw [IntKind.wrap_u64]; omega
  have hu8 : IntKind.wrap .u8 (48 + ((q % 10 : Nat) : Int)) = (((UInt8.ofNat (48 + q % 10)).toNat : Nat) : Int) := by
    rw [dig_u8w hq10]; exact wrapU8w (by omega) (by omega)
  have hqq : ((q : Int)).tdiv 10 = ((q / 10 : Nat) : Int) := by rw [Int.tdiv_eq_ediv_of_nonneg (by omega)]; omega
  have hqqw : IntKind.wrap .u64 ((q / 10 : Nat) : Int) = ((q / 10 : Nat) : Int) := by rw [IntKind.wrap_u64]; omega
  have hbn := fun h => behind_next hb h
  have hbc := bconv_BL (P := E.P) (e := 5) (d := 9) (l := [UInt8.ofNat (48 + q % 10)]) (n := 1) Lay5.1 Lay9.1 rfl
  rw [show BL [UInt8.ofNat (48 + q % 10)] = [PV.int .u8 (((UInt8.ofNat (48 + q % 10)).toNat : Nat) : Int)] from rfl] at hbc
  simp only [Tryz.f5, B8_size, B8_cut, B8_eq, B8_mk, B8_app, Int.toNat_natCast, go_sem]
  by_cases hg : 0 < q ∨ out = []
  · have hbn := hbn hg
    refine qif_d (fun h => ?_) (fun h => ?_)
    all_goals
      simp only [Tryz.f5, B8_size, B8_cut, B8_eq, B8_mk, B8_app, Int.toNat_natCast, hqd, hqw, hqr, hu8, go_sem]
      try (refine qif_dt (by rcases hg with hg | hg; exact absurd (by omega) h; exact hg) ?_; simp only [Tryz.f5, B8_size, B8_cut, B8_eq, B8_mk, B8_app, Int.toNat_natCast, hqd, hqw, hqr, hu8, go_sem])
      repeat' first
        | ((refine qval_i (congrArg (Option.map _) hbc) ?_); simp only [Tryz.f5, TX, B8_size, B8_cut, B8_eq, B8_mk, B8_app, Int.toNat_natCast, hqq, hqqw, go_sem])
        | ((refine qand_i (by (try rw [hmx]); (try simp only [List.length_cons, List.length_nil]); omega) ?_); simp only [Tryz.f5, B8_size, B8_cut, B8_eq, B8_mk, B8_app, Int.toNat_natCast, hqd, hqw, hqr, hu8, hqq, hqqw, go_sem])
      refine ⟨(UInt8.ofNat (48 + q % 10) :: out, q / 10), ⟨hbn, by dsimp only; omega⟩, ?_, ?_⟩
      · dsimp only
        rw [if_neg (by simp)]
        rcases hg with hg | hg
        · split <;> omega
        · rw [if_pos hg]; omega
      · simp [Wk, sget, killL, kill1, SV.key]
  · have h0 : q = 0 := by omega
    have hne : ¬ out = [] := fun h => hg (.inr h)
    subst h0
    have hd : out = Lib.decDigits m := by
      rcases hb with ⟨h, -⟩ | ⟨-, h⟩
      · exact absurd h hne
      · rw [if_pos rfl] at h; rw [← hN]; exact h
    rw [← hd] at k1 k2 k3 k4
    refine qif_df (by omega) ?_
    simp only [Tryz.f5, B8_size, B8_cut, B8_eq, B8_mk, B8_app, Int.toNat_natCast, go_sem]
    refine qif_df hne ?_
    simp only [Tryz.f5, B8_size, B8_cut, B8_eq, B8_mk, B8_app, Int.toNat_natCast, go_sem]
    refine qcall_i (k1) ?_; simp only [Tryz.f5, B8_size, B8_cut, B8_eq, B8_mk, B8_app, Int.toNat_natCast, go_sem]
    refine qcall_i (k5) ?_; simp only [Tryz.f5, B8_size, B8_cut, B8_eq, B8_mk, B8_app, Int.toNat_natCast, go_sem]
    refine qval_i (congrArg (Option.map _) k6) ?_
    simp only [Tryz.f5, B8_size, B8_cut, B8_eq, B8_mk, B8_app, Int.toNat_natCast, hkw, hkm, hkw2, go_sem]
    refine PLoop.intro (fun i : Nat => ⟨[(7, .val (.int .i64 dk)), (9, .val (.str (B8 out))), (11, .ptr 11 0), (13, .val (.int .i64 z)), (14, .val (.str (B8 (List.replicate i 48)))), (15, .val (.int .i64 i))], [(11, (.box [.int .u64 (wn m : Nat), .int .u8 0, .int .i64 0], false))]⟩) (fun i => i ≤ z) (fun i => z - i) 0 (Nat.zero_le _) ?_ fun i hi => walk ?_
    · simp [Wk, sget, killL, kill1, SV.key]
    have wi : IntKind.wrap .i64 ((i : Int) + 1) = ((i + 1 : Nat) : Int) := by rw [wrap64 (by omega) (by omega)]; omega
    have hrl : (List.replicate i (48 : UInt8)).length = i := List.length_replicate
    by_cases hlt : i < z
    · have hrs : List.replicate i (48 : UInt8) ++ [48] = List.replicate (i + 1) 48 := by rw [List.replicate_succ']
      simp only [Tryz.f5, B8_size, B8_cut, B8_eq, B8_mk, B8_app, Int.toNat_natCast, go_sem]
      refine qif_dt (by omega) ?_
      simp only [Tryz.f5, B8_size, B8_cut, B8_eq, B8_mk, B8_app, Int.toNat_natCast, go_sem]
      refine qand_i (by rw [hmx, hrl]; (try simp only [List.length_cons, List.length_nil]); omega) ?_
      simp only [Tryz.f5, B8_size, B8_cut, B8_eq, B8_mk, B8_app, Int.toNat_natCast, wi, go_sem]
      rw [hrs]
      refine ⟨i + 1, by omega, by omega, ?_⟩
      simp [Wk, sget, killL, kill1, SV.key]
    · have : i = z := by omega
      subst this
      simp only [Tryz.f5, B8_size, B8_cut, B8_eq, B8_mk, B8_app, Int.toNat_natCast, go_sem]
      refine qif_df (by omega) ?_
      simp only [Tryz.f5, B8_size, B8_cut, B8_eq, B8_mk, B8_app, Int.toNat_natCast, go_sem]
      have a1 : IntKind.wrap .u8 (IntKind.wrap .i64 (48 + IntKind.wrap .i64 ((i : Int).tdiv 10))) = (((UInt8.ofNat (48 + i / 10)).toNat : Nat) : Int) := by
        rw [show (i : Int).tdiv 10 = ((i / 10 : Nat) : Int) by rw [Int.tdiv_eq_ediv_of_nonneg (by omega)]; omega, show IntKind.wrap .i64 ((i / 10 : Nat) : Int) = ((i / 10 : Nat) : Int) from wrap64 (by omega) (by omega), wrap64 (by omega) (by omega), dig_u8w (by omega)]
        exact wrapU8w (by omega) (by omega)
      have a2 : IntKind.wrap .u8 (IntKind.wrap .i64 (48 + (i : Int).tmod 10)) = (((UInt8.ofNat (48 + i % 10)).toNat : Nat) : Int) := by
        rw [show (i : Int).tmod 10 = ((i % 10 : Nat) : Int) by rw [Int.tmod_eq_emod_of_nonneg (by omega)]; omega, wrap64 (by omega) (by omega), dig_u8w (by omega)]
        exact wrapU8w (by omega) (by omega)
      rw [a1, a2]
      have hbc2 := bconv_BL (P := E.P) (e := 5) (d := 9) (l := two i) (n := 2) Lay5.1 Lay9.1 rfl
      have htl : (two i).length = 2 := rfl
      refine qval_i (x := (Out.new (.row 5 1 2 (BL (two i))), [])) rfl ?_
      generalize two i = tw at *
      rw [show out ++ (List.replicate i 48 ++ 101 :: 45 :: tw) = out ++ List.replicate i 48 ++ [101, 45] ++ tw by simp] at k2
      rw [show List.replicate i 48 ++ (out ++ 101 :: tw) = List.replicate i 48 ++ out ++ [101] ++ tw by simp] at k3
      generalize List.replicate i (48 : UInt8) = zs at *
      simp only [Tryz.f5, B8_size, B8_cut, B8_eq, B8_mk, B8_app, Int.toNat_natCast, go_sem]
      refine qval_i (congrArg (Option.map _) hbc2) ?_
      simp only [Tryz.f5, TX, B8_size, B8_cut, B8_eq, B8_mk, B8_app, Int.toNat_natCast, go_sem]
      repeat' first
        | ((with_reducible refine qcall_i k2 ?_); simp only [Tryz.f5, B8_size, B8_cut, B8_eq, B8_mk, B8_app, Int.toNat_natCast, go_sem])
        | ((with_reducible refine qcall_i k3 ?_); simp only [Tryz.f5, B8_size, B8_cut, B8_eq, B8_mk, B8_app, Int.toNat_natCast, go_sem])
        | ((with_reducible refine qcall_i k4 ?_); simp only [Tryz.f5, B8_size, B8_cut, B8_eq, B8_mk, B8_app, Int.toNat_natCast, go_sem])
        | ((refine qand_i (by (try rw [hmx]); (try simp only [List.length_append, List.length_cons, List.length_nil]); omega) ?_); simp only [Tryz.f5, B8_size, B8_cut, B8_eq, B8_mk, B8_app, Int.toNat_natCast, go_sem])
      simp only [Tryz.f5, B8_size, B8_cut, B8_eq, B8_mk, B8_app, Int.toNat_natCast, Bool.and_self, go_sem]
      try rfl
end Go.Proofs.YtmnojbkakgfinaaGreatDoor
