/- planimeterref33.Read. -/
import Derived.Test.YtnccaoeeedhgbaaGreatDoorHx4
import Derived.Test.YtnccaoeeedhgbaaGreatDoorI2
import Derived.Test.YtnccaoeeedhgbaaGreatDoorNm
import Derived.Test.YtnccaoeeedhgbaaGreatDoorG6
open Go PG Go.Proofs
set_option maxRecDepth 100000
set_option linter.unusedSimpArgs false
set_option linter.unusedVariables false
namespace Go.Proofs.YtnccaoeeedhgbaaGreatDoor
attribute [local go_sem] Lay2 Lay3 Lay4 Lay5 Lay6 Lay7 Lay8 Lay9 Lay10 Lay11 Lay12 Lay13 Lay14 Lay15 Lay16 Lay17 Lay18 Lay19 Lay21 Lay23 Lay24 Lay25 Lay26 Lay27 Lay28 Lay31 Lay32 Lay33 Lay34 Lay37 Lay38 Lay39 Lay42 Lay46 Lay47 Lay54 Lay65 Lay66 Lay96 Lay97 Lay106 Lay136 Lay147 Lay148 Lay152 Lay160 Lay161 Lay187 Lay201 Lay202 Lay203 Lay204 Lay212 Lay215 Lay220 Lay221 Lay234 Lay244 Lay247 Lay248 Lay249 Lay250 Lay251 Lay252 Lay253 Lay254 Lay255 Lay256 Lay257 Lay258 Lay259 Lay260 Lay261 Lay262 Lay264 Lay265 qexec_seq qexec_skip qexec_exit qexec_ret qexec_block qexec_loop qexec_range qexec_cond qexec_region qexec_drawn qops_nil qops_none qops_some put_some put_none pblk_exit pblk_other newDsts_nil inlDsts_nil isInl sget_cons sget_nil qval_some qbool_some qgs_bool qgs_und qfree_some qgrd_true qgrd_false qif_true qif_false qval_ite qval_itn qand_true map_ite map_some' map_none' qdo_move qdo_assign qdo_binOp qdo_pick qdo_unOp qdo_convert qdo_extract qdo_field qdo_fieldAddr qdo_alloc qdo_box qdo_build qdo_buildSlice qdo_load qdo_store qdo_nilCheck qdo_makeFunc qdo_makeSlice qdo_slice qdo_indexAddr qdo_call qcont_val qcont_new qcont_st qcont_app0 qcont_app qcont_inl qcont_call njSV_val njSV_nil njSV_row njSV_ptr njSV_sub binV_val binV_nil binV_nn binV_ptr bin_np bin_nnp nilCmp bin_add bin_sub bin_mul bin_quo bin_rem bin_and bin_or bin_xor bin_andNot bin_eql bin_neq bin_lss bin_leq bin_gtr bin_geq bin_shl bin_shr bin_seql bin_sneq bin_sadd bin_beql bin_aeql bin_aneq eqAnd_some eqCells_nil eqCells_cons fieldTypes isStruct eqCell bin_bneq un_not un_neg nj_ite Nat.beq stepA stepR isNew opSV constSV RV.sv allSome E_mu E_own qkeyIn_none qkeyIn_some qkeyAt_none qkeyAt_some Bool.or_false Bool.false_or Bool.or_true Bool.true_or cst setB res resSV pstart startL killL kill1 eraL frzL svPV rvPV rvInt rvSlice rvBytes frzOf close closeL pconv pbuiltin pmax2 partPV setCells fillPV zrow bound newSV PV.cells Bk.cells Bk.with SV.key pres presL_nil presL_tmp presL_cell presC2_some cellPV_ptr presC List.toList_toArray List.size_toArray List.getElem?_drop Nat.mul_one Int.toNat_natCast Nat.not_lt_zero Nat.lt_irrefl decide_true decide_false Nat.not_lt Option.some.injEq PV.lst.injEq PV.int.injEq PV.bool.injEq PV.tuple.injEq List.cons.injEq Option.map_some Option.map_none Option.bind_some Option.toList List.map_cons List.map_nil List.nil_append List.cons_append List.append_nil List.zip_cons_cons List.zip_nil_left List.zip_nil_right List.getElem?_cons_zero List.getElem?_cons_succ List.drop_zero List.drop_succ_cons List.take_succ_cons List.take_zero List.set_cons_zero List.set_cons_succ List.length_cons List.length_nil List.length_set List.replicate_one List.replicate_zero bne_self_eq_false beq_self_eq_true Nat.zero_add Nat.add_zero Nat.zero_mul Bool.false_eq_true Bool.true_eq_false Bool.not_true Bool.not_false and_true true_and false_and and_false or_false false_or or_true true_or not_true_eq_false not_false_eq_true ne_eq gt_iff_lt List.mem_cons List.not_mem_nil
attribute [local go_sem ↓] pseq_normal pseq_ret pseq_exit pblk_normal pblk_ret newDsts_cons inlDsts_cons gdst_zero gdst_succ retQ_normal retQ_ret qneed_nil qneed_cons retM_normal retM_ret endR_normal endR_ret endR_exit
attribute [local go_sem] Int.reduceToNat Int.reduceEq Int.reduceNe Int.reduceLT Int.reduceLE Int.reduceNeg Int.reduceAdd Nat.reduceEqDiff Nat.reduceAdd Nat.reduceSub Nat.reduceMul Nat.reduceLeDiff Nat.reduceLT
attribute [local go_sem ↓] reduceIte reduceCtorEq

theorem VN_0 : VN 0 = .lst 0 [] := by
  have h : dg B 0 = [] := dg_zero B
  unfold VN VL
  rw [h]; rfl
theorem wrapU8 {i : Int} (h0 : 0 ≤ i) (h1 : i < 256) : IntKind.wrap .u8 i = i := by
  unfold IntKind.wrap
  simp [IntKind.bits, IntKind.signed]
  omega
set_option maxHeartbeats 4000000 in
theorem c_Read {l : List UInt8} (hl : l.length < 9223372036854775807) : PC E 13 [TX l] (if hexOk l = true then .tuple [(hexD l).nv, .bool (hexN l), .bool true] else .tuple [Dy.zero.nv, .bool false, .bool false]) := by
  obtain ⟨R, hR⟩ : ∃ R, R = (if hexOk l = true then PV.tuple [(hexD l).nv, .bool (hexN l), .bool true] else .tuple [Dy.zero.nv, .bool false, .bool false]) := ⟨_, rfl⟩
  rw [← hR]
  have zp : Dy.zero.nv = .agg [.bool false, .lst 0 [], .int .i64 0] := by
    show DP false (VN 0) 0 = _
    rw [VN_0]; rfl
  have hbad : hexOk l = false → R = .tuple [.agg [.bool false, .lst 0 [], .int .i64 0], .bool false, .bool false] := fun h => by rw [hR, h, if_neg (by decide), zp]
  have hgood : hexOk l = true → R = .tuple [(hexD l).nv, .bool (hexN l), .bool true] := fun h => by rw [hR, if_pos h]
  have hlong : ¬ l.length ≤ 400 → hexOk l = false := fun h => by
    cases hh : hexOk l with
    | false => rfl
    | true => exact absurd (hexOk_all hh).1 h
  clear hR zp
  obtain ⟨o1, ho1⟩ : ∃ o1 : Nat, o1 = if hexN l = true then 1 else 0 := ⟨_, rfl⟩
  have hR1 : hexR1 l = l.drop o1 := by
    rw [ho1]; unfold hexR1 hexN; split <;> simp
  have hN : hexN l = true ↔ 0 < l.length ∧ l.getD 0 0 = 45 := hasP1 l 45
  have hX : hexX l = true ↔ (l.take (o1 + 2)).drop o1 = [48, 120] := by
    unfold hexX hasP
    rw [hR1, decide_eq_true_eq, List.drop_take, show o1 + 2 - o1 = [(48 : UInt8), 120].length by simp]
  have hX2 : hexX l = true → o1 + 2 ≤ l.length := fun h => by
    have := congrArg List.length (hX.1 h)
    rw [List.length_drop, List.length_take] at this
    simp at this
    omega
  have hR2 : hexX l = true → hexR2 l = l.drop (o1 + 2) := fun h => by
    unfold hexR2
    rw [if_pos (show hasP (hexR1 l) [48, 120] = true from h), hR1, List.drop_drop]
    rfl
  have ho12 : o1 ≤ 1 := by rw [ho1]; split <;> omega
  have v1 : IntKind.wrap .i64 1 = 1 := by decide
  have v2 : IntKind.wrap .i64 2 = 2 := by decide
  have v3 : IntKind.wrap .i64 3 = 3 := by decide
  have w2 : IntKind.wrap .i64 (1 + 2) = 3 := by decide
  have w3 : (1 : Int) + 2 = 3 := by decide
  simp only [TX]
  refine PC.of_sem Tryz.func13 (by decide +kernel) rfl (Nat.le_of_ble_eq_true rfl) ?_
  refine PSem.cut follows (by kernel_rfl) 8 (fun _ : Unit => ⟨[(0, .val (.str (B8 l))), (2, .ptr 2 0), (5, .ptr 5 0), (6, .val (.int .i64 ((o1 + 2 : Nat) : Int))), (7, .val (.bool (hexN l)))],
    [(2, (.box [.bool false, .lst 0 [], .int .i64 0], false)), (5, (.box [.bool false, .lst 0 [], .int .i64 0], false))]⟩) (fun _ => l.length ≤ 400 ∧ hexX l = true) ?_ (fun _ hJ => ?_)
  · simp only [Tryz.f13, B8_size, B8_cut, B8_eq, B8_mk, B8_app, Int.toNat_natCast, qfirst_succ, qfirst_zero, after_succ, after_zero, go_sem]
    refine qif_d (fun h => ?_) (fun h => ?_)
    · simp only [Tryz.f13, B8_size, B8_cut, B8_eq, B8_mk, B8_app, Int.toNat_natCast, qfirst_succ, qfirst_zero, after_succ, after_zero, go_sem]
      rw [hbad (hlong (by omega))]
    simp only [Tryz.f13, B8_size, B8_cut, B8_eq, B8_mk, B8_app, Int.toNat_natCast, qfirst_succ, qfirst_zero, after_succ, after_zero, go_sem]
    have hN2 : hexN l = true ↔ 0 < l.length ∧ (((l.getD 0 0).toNat : Nat) : Int) = 45 := by rw [hN, show (45 : Int) = (((45 : UInt8).toNat : Nat) : Int) from rfl, u8_eq]
    refine qif_d (fun h1 => ?_) (fun h1 => ?_)
    · have hi := idxS_B8 (l := l) (n := 0) (by decide) (by rw [show (0 : Int).toNat = 0 from rfl]; omega)
      rw [show (0 : Int).toNat = 0 from rfl] at hi
      simp only [Tryz.f13, B8_size, B8_cut, B8_eq, B8_mk, B8_app, Int.toNat_natCast, qfirst_succ, qfirst_zero, after_succ, after_zero, go_sem]
      refine qdo_indexS Lay9.1 rfl rfl ?_
      simp only [Tryz.f13, B8_size, B8_cut, B8_eq, B8_mk, B8_app, Int.toNat_natCast, hi, qfirst_succ, qfirst_zero, after_succ, after_zero, go_sem]
      refine qif_d (fun h2 => ?_) (fun h2 => ?_)
      · have hn : hexN l = true := hN2.2 ⟨by omega, h2⟩
        rw [if_pos hn] at ho1
        subst ho1
        rw [hn]
        simp only [Tryz.f13, B8_size, B8_cut, B8_eq, B8_mk, B8_app, Int.toNat_natCast, qfirst_succ, qfirst_zero, after_succ, after_zero, v1, v2, v3, w2, w3, go_sem]
        refine qif_d (fun h3 => ?_) (fun h3 => ?_)
        · have hx : ¬ hexX l = true := fun h => by have := hX2 h; omega
          rw [hbad (hexOk_noX hx)]
          simp only [Tryz.f13, B8_size, B8_cut, B8_eq, B8_mk, B8_app, Int.toNat_natCast, qfirst_succ, qfirst_zero, after_succ, after_zero, go_sem]
          try rfl
        simp only [Tryz.f13, B8_size, B8_cut, B8_eq, B8_mk, B8_app, Int.toNat_natCast, qfirst_succ, qfirst_zero, after_succ, after_zero, v1, v2, v3, w2, w3, go_sem]
        refine qand_i (by omega) ?_
        simp only [Tryz.f13, B8_size, B8_cut, B8_eq, B8_mk, B8_app, Int.toNat_natCast, qfirst_succ, qfirst_zero, after_succ, after_zero, v1, v2, v3, w2, w3, go_sem]
        refine qif_d (fun h4 => ?_) (fun h4 => ?_)
        · rw [hbad (hexOk_noX (fun h => h4 (hX.1 h)))]
          simp only [Tryz.f13, B8_size, B8_cut, B8_eq, B8_mk, B8_app, Int.toNat_natCast, qfirst_succ, qfirst_zero, after_succ, after_zero, v1, v2, v3, w2, w3, go_sem]
          try rfl
        · simp only [Tryz.f13, B8_size, B8_cut, B8_eq, B8_mk, B8_app, Int.toNat_natCast, qfirst_succ, qfirst_zero, after_succ, after_zero, v1, v2, v3, w2, w3, go_sem]
          refine ⟨(), ⟨by omega, hX.2 (Decidable.byContradiction h4)⟩, ?_⟩
          simp [Wk, sget, killL, kill1, SV.key]
      · have hn : hexN l = false := by
          cases hh : hexN l with
          | false => rfl
          | true => exact absurd (hN2.1 hh).2 h2
        rw [hn, if_neg (by decide)] at ho1
        subst ho1
        rw [hn]
        simp only [Tryz.f13, B8_size, B8_cut, B8_eq, B8_mk, B8_app, Int.toNat_natCast, qfirst_succ, qfirst_zero, after_succ, after_zero, v1, v2, v3, w2, w3, go_sem]
        refine qif_d (fun h3 => ?_) (fun h3 => ?_)
        · have hx : ¬ hexX l = true := fun h => by have := hX2 h; omega
          rw [hbad (hexOk_noX hx)]
          simp only [Tryz.f13, B8_size, B8_cut, B8_eq, B8_mk, B8_app, Int.toNat_natCast, qfirst_succ, qfirst_zero, after_succ, after_zero, go_sem]
          try rfl
        simp only [Tryz.f13, B8_size, B8_cut, B8_eq, B8_mk, B8_app, Int.toNat_natCast, qfirst_succ, qfirst_zero, after_succ, after_zero, v1, v2, v3, w2, w3, go_sem]
        refine qand_i (by omega) ?_
        simp only [Tryz.f13, B8_size, B8_cut, B8_eq, B8_mk, B8_app, Int.toNat_natCast, qfirst_succ, qfirst_zero, after_succ, after_zero, v1, v2, v3, w2, w3, go_sem]
        refine qif_d (fun h4 => ?_) (fun h4 => ?_)
        · rw [hbad (hexOk_noX (fun h => h4 (hX.1 h)))]
          simp only [Tryz.f13, B8_size, B8_cut, B8_eq, B8_mk, B8_app, Int.toNat_natCast, qfirst_succ, qfirst_zero, after_succ, after_zero, v1, v2, v3, w2, w3, go_sem]
          try rfl
        · simp only [Tryz.f13, B8_size, B8_cut, B8_eq, B8_mk, B8_app, Int.toNat_natCast, qfirst_succ, qfirst_zero, after_succ, after_zero, v1, v2, v3, w2, w3, go_sem]
          refine ⟨(), ⟨by omega, hX.2 (Decidable.byContradiction h4)⟩, ?_⟩
          simp [Wk, sget, killL, kill1, SV.key]
    · have hn : hexN l = false := by
        cases hh : hexN l with
        | false => rfl
        | true => exact absurd (hN2.1 hh).1 (by omega)
      have hx : ¬ hexX l = true := fun h => by have := hX2 h; omega
      rw [hbad (hexOk_noX hx)]
      simp only [Tryz.f13, B8_size, B8_cut, B8_eq, B8_mk, B8_app, Int.toNat_natCast, qfirst_succ, qfirst_zero, after_succ, after_zero, v2, go_sem]
      refine qif_dt (by omega) ?_
      simp only [Tryz.f13, B8_size, B8_cut, B8_eq, B8_mk, B8_app, Int.toNat_natCast, qfirst_succ, qfirst_zero, after_succ, after_zero, go_sem]
      try rfl
  obtain ⟨h4, hXt⟩ := hJ
  have hlo := hX2 hXt
  have hr2 := hR2 hXt
  obtain ⟨o, ho⟩ : ∃ o, o = o1 + 2 := ⟨_, rfl⟩
  rw [← ho] at hr2 hlo ⊢
  have ho3 : o ≤ 3 := by omega
  have hrl : l.length = o + (hexR2 l).length := by rw [hr2, List.length_drop]; omega
  have hgr : ∀ k, l.getD (o + k) 0 = (hexR2 l).getD k 0 := fun k => by rw [hr2, drop_get]
  clear ho ho12 hX hX2 hR1 hR2 hN ho1 o1
  obtain ⟨r, hr⟩ : ∃ r, r = hexR2 l := ⟨_, rfl⟩
  rw [← hr] at hrl hgr hr2
  refine PSem.cut follows (by kernel_rfl) 7 (fun k : Nat => ⟨[(0, .val (.str (B8 l))), (2, .ptr 2 0), (5, .ptr 5 0), (6, .val (.int .i64 ((o + (k + 1) : Nat) : Int))), (7, .val (.bool (hexN l))), (10, .val (VN (hn (WF (r.take k))))), (11, .val (.int .i64 (-4 * (fr (r.take k) : Nat))))],
    [(2, (.box [.bool false, .lst 0 [], .int .i64 0], false)), (5, (.box [.bool false, .lst 0 [], .int .i64 0], false))]⟩)
    (fun k => k < r.length ∧ hasC 112 (r.take k) = false ∧ r.getD k 0 = 112 ∧ (WF (r.take k)).all hx = true ∧ ¬ (hexW l = [] ∨ hexPt l = true ∧ hexF l = [])) ?_ (fun k hJ => ?_)
  · simp only [Tryz.f13, B8_size, B8_cut, B8_eq, B8_mk, B8_app, Int.toNat_natCast, qfirst_succ, qfirst_zero, after_succ, after_zero, go_sem]
    refine PLoop.nilval 10 rfl ?_
    refine PLoop.intro (fun k : Nat => ⟨[(0, .val (.str (B8 l))), (2, .ptr 2 0), (5, .ptr 5 0), (6, .val (.int .i64 ((o + k : Nat) : Int))), (7, .val (.bool (hexN l))), (8, .val (.int .i64 o)), (9, .val (.int .i64 (ptO o (r.take k)))), (10, .val (VN (hn (WF (r.take k))))), (11, .val (.int .i64 (-4 * (fr (r.take k) : Nat))))],
      [(2, (.box [.bool false, .lst 0 [], .int .i64 0], false)), (5, (.box [.bool false, .lst 0 [], .int .i64 0], false))]⟩)
      (fun k => k ≤ r.length ∧ hasC 112 (r.take k) = false ∧ (WF (r.take k)).all hx = true) (fun k => r.length - k) 0 ⟨Nat.zero_le _, rfl, rfl⟩ ?_ fun k hk => walk ?_
    · have e1 : WF (r.take 0) = [] := rfl
      have e2 : fr (r.take 0) = 0 := rfl
      have e3 : ptO o (r.take 0) = -1 := rfl
      rw [e1, e2, e3, show hn [] = 0 from rfl, VN_0]
      simp [Wk, sget, killL, kill1, SV.key]
    obtain ⟨hk, hno, hw⟩ := hk
    have wi : IntKind.wrap .i64 (((o + k : Nat) : Int) + 1) = ((o + (k + 1) : Nat) : Int) := by rw [wrap64 (by omega) (by omega)]; omega
    have wj : IntKind.wrap .i64 (((o + k : Nat) : Int) - 1) = ((o + k : Nat) : Int) - 1 := wrap64 (by omega) (by omega)
    by_cases hlt : k < r.length
    case neg =>
      have hH : hexH l = false := by
        have := all_end hno (by omega)
        rw [hr] at this
        exact this
      rw [hbad (hexOk_noP hH)]
      generalize ptO o (r.take k) = pt
      simp only [Tryz.f13, B8_size, B8_cut, B8_eq, B8_mk, B8_app, Int.toNat_natCast, qfirst_succ, qfirst_zero, after_succ, after_zero, go_sem]
      refine qif_df (by omega) ?_
      simp only [Tryz.f13, B8_size, B8_cut, B8_eq, B8_mk, B8_app, Int.toNat_natCast, qfirst_succ, qfirst_zero, after_succ, after_zero, wj, go_sem]
      repeat' first
        | (exfalso; omega)
        | ((with_reducible refine qif_d (fun h => ?_) (fun h => ?_)) <;> simp only [Tryz.f13, B8_size, B8_cut, B8_eq, B8_mk, B8_app, Int.toNat_natCast, qfirst_succ, qfirst_zero, after_succ, after_zero, wj, go_sem])
        | rfl
    have hi := idxS_B8 (l := l) (n := ((o + k : Nat) : Int)) (by omega) (by rw [Int.toNat_natCast]; omega)
    rw [Int.toNat_natCast, hgr k] at hi
    have hx112 : (((r.getD k 0).toNat : Nat) : Int) = 112 ↔ r.getD k 0 = 112 := by rw [show (112 : Int) = (((112 : UInt8).toNat : Nat) : Int) from rfl, u8_eq]
    have hx46 : (((r.getD k 0).toNat : Nat) : Int) = 46 ↔ r.getD k 0 = 46 := by rw [show (46 : Int) = (((46 : UInt8).toNat : Nat) : Int) from rfl, u8_eq]
    by_cases hc : r.getD k 0 = 112
    · obtain ⟨a1, a2, a3⟩ := all_stop hno hlt hc
      have hA : hexAll l = r.take k := by unfold hexAll; rw [← hr, a1]
      have ht := hexW_tests (l := l) o
      have hxx := hx112.2 hc
      rw [hA, List.length_take] at ht
      generalize ptO o (r.take k) = pt at *
      simp only [Tryz.f13, B8_size, B8_cut, B8_eq, B8_mk, B8_app, Int.toNat_natCast, qfirst_succ, qfirst_zero, after_succ, after_zero, go_sem]
      refine qif_dt (by omega) ?_
      simp only [Tryz.f13, B8_size, B8_cut, B8_eq, B8_mk, B8_app, Int.toNat_natCast, qfirst_succ, qfirst_zero, after_succ, after_zero, go_sem]
      refine qdo_indexS Lay9.1 rfl rfl ?_
      simp only [Tryz.f13, B8_size, B8_cut, B8_eq, B8_mk, B8_app, Int.toNat_natCast, hi, qfirst_succ, qfirst_zero, after_succ, after_zero, go_sem]
      refine qif_df (fun h => h hxx) ?_
      simp only [Tryz.f13, B8_size, B8_cut, B8_eq, B8_mk, B8_app, Int.toNat_natCast, qfirst_succ, qfirst_zero, after_succ, after_zero, wi, wj, go_sem]
      repeat' first
        | (exfalso; omega)
        | ((with_reducible refine qif_d (fun h => ?_) (fun h => ?_)) <;> simp only [Tryz.f13, B8_size, B8_cut, B8_eq, B8_mk, B8_app, Int.toNat_natCast, qfirst_succ, qfirst_zero, after_succ, after_zero, wi, wj, go_sem])
        | exact (hbad (hexOk_noW (ht.2 (by omega)))).symm
        | (refine ⟨k, ⟨hlt, hno, hc, hw, fun h => by have := ht.1 h; omega⟩, ?_⟩; simp [Wk, sget, killL, kill1, SV.key]; done)
    have hn1 := all_next hno hlt hc
    have hsn := take_getD hlt
    have hxx : ¬ (((r.getD k 0).toNat : Nat) : Int) = 112 := fun h => hc (hx112.1 h)
    have ed : hx (r.getD k 0) = true ↔ hv (r.getD k 0) < 16 := decide_eq_true_iff
    have ev : hv (r.getD k 0) = if 48 ≤ (r.getD k 0).toNat ∧ (r.getD k 0).toNat ≤ 57 then (r.getD k 0).toNat - 48 else if 97 ≤ (r.getD k 0).toNat ∧ (r.getD k 0).toNat ≤ 102 then (r.getD k 0).toNat - 87 else 255 := rfl
    have hp := pt_neg (o := o) (q := r.take k)
    have hx256 : (r.getD k 0).toNat < 256 := UInt8.toNat_lt _
    have hbadc : ¬ hx (r.getD k 0) = true → (r.getD k 0 ≠ 46 ∨ hasC 46 (r.take k) = true) → R = .tuple [.agg [.bool false, .lst 0 [], .int .i64 0], .bool false, .bool false] := fun h1 h2 => by
      rw [hr] at hn1
      refine hbad (hexOk_bad hn1 fun e => h1 ?_)
      rw [← hr, ← hsn, (wf_dig h2 o).1, List.all_append, Bool.and_eq_true, List.all_cons, Bool.and_eq_true] at e
      exact e.2.1
    have hwp := fun (h : hasC 46 (r.take k) = false) => wf_pt h o
    have hwd := fun (h : r.getD k 0 ≠ 46 ∨ hasC 46 (r.take k) = true) => wf_dig h o
    have hh46 : hasC 46 (r.take k) = true ↔ ¬ ptO o (r.take k) < 0 := by rw [hp]; simp
    have hlw := wf_len (r.take k)
    rw [List.length_take] at hlw
    have hM : bitLen (hn (WF (r.take k))) ≤ 1600 := Nat.le_trans (bitLen16 _ _ (hn_lt _ hw)) (by omega)
    have hgo : ∀ d : Nat, hv (r.getD k 0) = d → d < 16 → (WF (r.take k) ++ [r.getD k 0]).all hx = true ∧ hn (WF (r.take k) ++ [r.getD k 0]) = hn (WF (r.take k)) * 16 + d := fun d h1 h2 => by
      rw [List.all_append, hw, hn_snoc, h1, List.all_cons, ed.2 (by omega)]
      exact ⟨rfl, rfl⟩
    have hlk : (r.take k).length = k := by rw [List.length_take]; omega
    by_cases hP : r.getD k 0 = 46 ∧ ptO o (r.take k) < 0
    · obtain ⟨hc46, hpn⟩ := hP
      obtain ⟨g1, g2, g3⟩ := hwp (hp.1 hpn)
      rw [← hc46, hsn] at g1 g2 g3
      rw [hlk] at g2
      have hx1 := hx46.2 hc46
      have hfin : ∃ i', (i' ≤ r.length ∧ hasC 112 (r.take i') = false ∧ (WF (r.take i')).all hx = true) ∧ r.length - i' < r.length - k ∧ i' = k + 1 := ⟨k + 1, ⟨by omega, hn1, by rw [g1]; exact hw⟩, by omega, rfl⟩
      clear hgo hbadc hwp hwd hh46 ed ev hp
      generalize ptO o (r.take k) = pt at *
      generalize (r.getD k 0).toNat = x at *
      simp only [Tryz.f13, B8_size, B8_cut, B8_eq, B8_mk, B8_app, Int.toNat_natCast, qfirst_succ, qfirst_zero, after_succ, after_zero, go_sem]
      refine qif_dt (by omega) ?_
      simp only [Tryz.f13, B8_size, B8_cut, B8_eq, B8_mk, B8_app, Int.toNat_natCast, qfirst_succ, qfirst_zero, after_succ, after_zero, go_sem]
      refine qdo_indexS Lay9.1 rfl rfl ?_
      simp only [Tryz.f13, B8_size, B8_cut, B8_eq, B8_mk, B8_app, Int.toNat_natCast, hi, qfirst_succ, qfirst_zero, after_succ, after_zero, go_sem]
      refine qif_dt (by omega) ?_
      simp only [Tryz.f13, B8_size, B8_cut, B8_eq, B8_mk, B8_app, Int.toNat_natCast, qfirst_succ, qfirst_zero, after_succ, after_zero, go_sem]
      refine qdo_indexS Lay9.1 rfl rfl ?_
      simp only [Tryz.f13, B8_size, B8_cut, B8_eq, B8_mk, B8_app, Int.toNat_natCast, hi, qfirst_succ, qfirst_zero, after_succ, after_zero, go_sem]
      repeat' first
        | (exfalso; omega)
        | ((with_reducible refine qif_d (fun h => ?_) (fun h => ?_)) <;> first | (exfalso; omega) | simp only [Tryz.f13, B8_size, B8_cut, B8_eq, B8_mk, B8_app, Int.toNat_natCast, qfirst_succ, qfirst_zero, after_succ, after_zero, wi, go_sem])
      obtain ⟨i', f1, f2, rfl⟩ := hfin
      refine ⟨k + 1, f1, f2, ?_⟩
      rw [g1, g2, g3]
      simp [Wk, sget, killL, kill1, SV.key]
    have hP' : r.getD k 0 ≠ 46 ∨ hasC 46 (r.take k) = true := by
      by_cases e : r.getD k 0 = 46
      · exact .inr (hh46.2 fun h => hP ⟨e, h⟩)
      · exact .inl e
    have hPx : ¬ ((((r.getD k 0).toNat : Nat) : Int) = 46 ∧ ptO o (r.take k) < 0) := fun h => hP ⟨hx46.1 h.1, h.2⟩
    obtain ⟨g1, g2, g3⟩ := hwd hP'
    rw [hsn] at g1 g2 g3
    by_cases hd : hx (r.getD k 0) = true
    case neg =>
      have hR := hbadc hd hP'
      clear hgo hbadc hwp hwd hh46 hp g1 g2 g3
      have ed2 : ¬ hv (r.getD k 0) < 16 := fun h => hd (ed.2 h)
      clear ed
      rw [hR]
      generalize hv (r.getD k 0) = v at *
      generalize ptO o (r.take k) = pt at *
      generalize (r.getD k 0).toNat = x at *
      have ev1 : ¬ (48 ≤ x ∧ x ≤ 57) ∧ ¬ (97 ≤ x ∧ x ≤ 102) := by
        split at ev
        · omega
        · split at ev <;> omega
      clear ev
      simp only [Tryz.f13, B8_size, B8_cut, B8_eq, B8_mk, B8_app, Int.toNat_natCast, qfirst_succ, qfirst_zero, after_succ, after_zero, go_sem]
      refine qif_dt (by omega) ?_
      simp only [Tryz.f13, B8_size, B8_cut, B8_eq, B8_mk, B8_app, Int.toNat_natCast, qfirst_succ, qfirst_zero, after_succ, after_zero, go_sem]
      refine qdo_indexS Lay9.1 rfl rfl ?_
      simp only [Tryz.f13, B8_size, B8_cut, B8_eq, B8_mk, B8_app, Int.toNat_natCast, hi, qfirst_succ, qfirst_zero, after_succ, after_zero, go_sem]
      refine qif_dt (by omega) ?_
      simp only [Tryz.f13, B8_size, B8_cut, B8_eq, B8_mk, B8_app, Int.toNat_natCast, qfirst_succ, qfirst_zero, after_succ, after_zero, go_sem]
      refine qdo_indexS Lay9.1 rfl rfl ?_
      simp only [Tryz.f13, B8_size, B8_cut, B8_eq, B8_mk, B8_app, Int.toNat_natCast, hi, qfirst_succ, qfirst_zero, after_succ, after_zero, go_sem]
      repeat' first
        | (exfalso; omega)
        | ((with_reducible refine qif_d (fun h => ?_) (fun h => ?_)) <;> first | (exfalso; omega) | simp only [Tryz.f13, B8_size, B8_cut, B8_eq, B8_mk, B8_app, Int.toNat_natCast, qfirst_succ, qfirst_zero, after_succ, after_zero, wi, go_sem])
        | rfl
    obtain ⟨d, hdv⟩ : ∃ d, d = hv (r.getD k 0) := ⟨_, rfl⟩
    have hd16 : d < 16 := by rw [hdv]; exact ed.1 hd
    obtain ⟨y1, y2⟩ := hgo d hdv.symm hd16
    rw [← g1] at y1 y2
    have k1 := c_Num 16 (by decide)
    have k2 := c_2Mul (hn (WF (r.take k))) 16 (Nat.le_trans (dgB_le_of_bits (n := 200) (by omega)) (by decide)) (Nat.le_trans (dgB_le_of_bits (n := 200) (by decide)) (by decide))
    have k3 := c_Num d (show d < 18446744073709551616 by omega)
    have hb16 : bitLen (hn (WF (r.take k)) * 16) ≤ 2000 := by
      have := bitLen_shl_le (hn (WF (r.take k))) 4
      rw [show (2 : Nat) ^ 4 = 16 from rfl] at this
      omega
    have hbd : bitLen d ≤ 2000 := Nat.le_trans ((bitLen_le d 4).2 (by omega)) (by decide)
    have k4 := c_rAdd (hn (WF (r.take k)) * 16) d (Nat.le_trans (dgB_le_of_bits (n := 200) (by omega)) (by decide)) (Nat.le_trans (dgB_le_of_bits (n := 200) (by omega)) (by decide))
    rw [← y2] at k4
    have hfin : ∃ i', (i' ≤ r.length ∧ hasC 112 (r.take i') = false ∧ (WF (r.take i')).all hx = true) ∧ r.length - i' < r.length - k ∧ i' = k + 1 := ⟨k + 1, ⟨by omega, hn1, y1⟩, by omega, rfl⟩
    have hd64 : IntKind.wrap .u64 (d : Int) = d := by rw [IntKind.wrap_u64]; omega
    have hdi : IntKind.wrap .i64 (d : Int) = d := wrap64 (by omega) (by omega)
    have we : IntKind.wrap .i64 (-4 * (fr (r.take k) : Int) - 4) = -4 * (fr (r.take k) : Int) - 4 := wrap64 (by omega) (by omega)
    rw [← hdv] at ev
    clear hgo hbadc hwp hwd hh46 hp hb16 hbd hM y1 y2 hn1
    generalize ptO o (r.take k) = pt at *
    generalize (r.getD k 0).toNat = x at *
    simp only [u, Int.cast_ofNat_Int] at k1 k2 k3 k4
    have evc : (48 ≤ x ∧ x ≤ 57 ∧ d = x - 48) ∨ (97 ≤ x ∧ x ≤ 102 ∧ d = x - 87) := by
      split at ev
      · omega
      · split at ev <;> omega
    clear ev
    have a1 : 48 ≤ x ∧ x ≤ 57 ∧ d = x - 48 → IntKind.wrap .u8 ((x : Int) - 48) = d := fun h => by rw [wrapU8 (by omega) (by omega)]; omega
    have a2 : 97 ≤ x ∧ x ≤ 102 ∧ d = x - 87 → IntKind.wrap .u8 ((x : Int) - 97) = (d : Int) - 10 ∧ IntKind.wrap .i64 ((d : Int) - 10) = (d : Int) - 10 ∧ IntKind.wrap .i64 ((d : Int) - 10 + 10) = d := fun h =>
      ⟨by rw [wrapU8 (by omega) (by omega)]; omega, wrap64 (by omega) (by omega), by rw [wrap64 (by omega) (by omega)]; omega⟩
    rcases evc with evc | evc
    · have a1 := a1 evc
      simp only [Tryz.f13, B8_size, B8_cut, B8_eq, B8_mk, B8_app, Int.toNat_natCast, qfirst_succ, qfirst_zero, after_succ, after_zero, go_sem]
      refine qif_dt (by omega) ?_
      simp only [Tryz.f13, B8_size, B8_cut, B8_eq, B8_mk, B8_app, Int.toNat_natCast, qfirst_succ, qfirst_zero, after_succ, after_zero, go_sem]
      refine qdo_indexS Lay9.1 rfl rfl ?_
      simp only [Tryz.f13, B8_size, B8_cut, B8_eq, B8_mk, B8_app, Int.toNat_natCast, hi, qfirst_succ, qfirst_zero, after_succ, after_zero, go_sem]
      refine qif_dt (by omega) ?_
      simp only [Tryz.f13, B8_size, B8_cut, B8_eq, B8_mk, B8_app, Int.toNat_natCast, qfirst_succ, qfirst_zero, after_succ, after_zero, go_sem]
      refine qdo_indexS Lay9.1 rfl rfl ?_
      simp only [Tryz.f13, B8_size, B8_cut, B8_eq, B8_mk, B8_app, Int.toNat_natCast, hi, qfirst_succ, qfirst_zero, after_succ, after_zero, go_sem]
      repeat' first
        | (exfalso; omega)
        | ((with_reducible refine qif_d (fun h => ?_) (fun h => ?_)) <;> first | (exfalso; omega) | simp only [Tryz.f13, B8_size, B8_cut, B8_eq, B8_mk, B8_app, Int.toNat_natCast, qfirst_succ, qfirst_zero, after_succ, after_zero, wi, a1, hdi, hd64, go_sem])
      all_goals
        refine qcall_i (k1) ?_; simp only [Tryz.f13, B8_size, B8_cut, B8_eq, B8_mk, B8_app, Int.toNat_natCast, qfirst_succ, qfirst_zero, after_succ, after_zero, go_sem]
        refine qcall_i (k2) ?_; simp only [Tryz.f13, B8_size, B8_cut, B8_eq, B8_mk, B8_app, Int.toNat_natCast, qfirst_succ, qfirst_zero, after_succ, after_zero, hd64, go_sem]
        refine qcall_i (k3) ?_; simp only [Tryz.f13, B8_size, B8_cut, B8_eq, B8_mk, B8_app, Int.toNat_natCast, qfirst_succ, qfirst_zero, after_succ, after_zero, go_sem]
        refine qcall_i (k4) ?_; simp only [Tryz.f13, B8_size, B8_cut, B8_eq, B8_mk, B8_app, Int.toNat_natCast, qfirst_succ, qfirst_zero, after_succ, after_zero, go_sem]
        refine qif_d (fun hpt => ?_) (fun hpt => ?_)
        · rw [if_pos (by omega)] at g3
          simp only [Tryz.f13, B8_size, B8_cut, B8_eq, B8_mk, B8_app, Int.toNat_natCast, qfirst_succ, qfirst_zero, after_succ, after_zero, wi, we, go_sem]
          obtain ⟨i', f1, f2, rfl⟩ := hfin
          refine ⟨k + 1, f1, f2, ?_⟩
          rw [g2, g3, show -4 * ((fr (r.take k) : Int) + 1) = -4 * (fr (r.take k) : Int) - 4 by omega]
          simp [Wk, sget, killL, kill1, SV.key]
        · rw [if_neg (by omega)] at g3
          simp only [Tryz.f13, B8_size, B8_cut, B8_eq, B8_mk, B8_app, Int.toNat_natCast, qfirst_succ, qfirst_zero, after_succ, after_zero, wi, we, go_sem]
          obtain ⟨i', f1, f2, rfl⟩ := hfin
          refine ⟨k + 1, f1, f2, ?_⟩
          rw [g2, g3]
          simp [Wk, sget, killL, kill1, SV.key]
    · obtain ⟨a2, a3, a4⟩ := a2 evc
      simp only [Tryz.f13, B8_size, B8_cut, B8_eq, B8_mk, B8_app, Int.toNat_natCast, qfirst_succ, qfirst_zero, after_succ, after_zero, go_sem]
      refine qif_dt (by omega) ?_
      simp only [Tryz.f13, B8_size, B8_cut, B8_eq, B8_mk, B8_app, Int.toNat_natCast, qfirst_succ, qfirst_zero, after_succ, after_zero, go_sem]
      refine qdo_indexS Lay9.1 rfl rfl ?_
      simp only [Tryz.f13, B8_size, B8_cut, B8_eq, B8_mk, B8_app, Int.toNat_natCast, hi, qfirst_succ, qfirst_zero, after_succ, after_zero, go_sem]
      refine qif_dt (by omega) ?_
      simp only [Tryz.f13, B8_size, B8_cut, B8_eq, B8_mk, B8_app, Int.toNat_natCast, qfirst_succ, qfirst_zero, after_succ, after_zero, go_sem]
      refine qdo_indexS Lay9.1 rfl rfl ?_
      simp only [Tryz.f13, B8_size, B8_cut, B8_eq, B8_mk, B8_app, Int.toNat_natCast, hi, qfirst_succ, qfirst_zero, after_succ, after_zero, go_sem]
      repeat' first
        | (exfalso; omega)
        | ((with_reducible refine qif_d (fun h => ?_) (fun h => ?_)) <;> first | (exfalso; omega) | simp only [Tryz.f13, B8_size, B8_cut, B8_eq, B8_mk, B8_app, Int.toNat_natCast, qfirst_succ, qfirst_zero, after_succ, after_zero, wi, a2, a3, a4, hd64, go_sem])
      all_goals
        refine qcall_i (k1) ?_; simp only [Tryz.f13, B8_size, B8_cut, B8_eq, B8_mk, B8_app, Int.toNat_natCast, qfirst_succ, qfirst_zero, after_succ, after_zero, go_sem]
        refine qcall_i (k2) ?_; simp only [Tryz.f13, B8_size, B8_cut, B8_eq, B8_mk, B8_app, Int.toNat_natCast, qfirst_succ, qfirst_zero, after_succ, after_zero, hd64, go_sem]
        refine qcall_i (k3) ?_; simp only [Tryz.f13, B8_size, B8_cut, B8_eq, B8_mk, B8_app, Int.toNat_natCast, qfirst_succ, qfirst_zero, after_succ, after_zero, go_sem]
        refine qcall_i (k4) ?_; simp only [Tryz.f13, B8_size, B8_cut, B8_eq, B8_mk, B8_app, Int.toNat_natCast, qfirst_succ, qfirst_zero, after_succ, after_zero, go_sem]
        refine qif_d (fun hpt => ?_) (fun hpt => ?_)
        · rw [if_pos (by omega)] at g3
          simp only [Tryz.f13, B8_size, B8_cut, B8_eq, B8_mk, B8_app, Int.toNat_natCast, qfirst_succ, qfirst_zero, after_succ, after_zero, wi, we, go_sem]
          obtain ⟨i', f1, f2, rfl⟩ := hfin
          refine ⟨k + 1, f1, f2, ?_⟩
          rw [g2, g3, show -4 * ((fr (r.take k) : Int) + 1) = -4 * (fr (r.take k) : Int) - 4 by omega]
          simp [Wk, sget, killL, kill1, SV.key]
        · rw [if_neg (by omega)] at g3
          simp only [Tryz.f13, B8_size, B8_cut, B8_eq, B8_mk, B8_app, Int.toNat_natCast, qfirst_succ, qfirst_zero, after_succ, after_zero, wi, we, go_sem]
          obtain ⟨i', f1, f2, rfl⟩ := hfin
          refine ⟨k + 1, f1, f2, ?_⟩
          rw [g2, g3]
          simp [Wk, sget, killL, kill1, SV.key]
  obtain ⟨hk, hno, hc, hw, hWt⟩ := hJ
  obtain ⟨a1, a2, a3⟩ := all_stop hno hk hc
  have hA : hexAll l = r.take k := by unfold hexAll; rw [← hr, a1]
  have hEE : hexE l = l.drop (o + (k + 1)) := by unfold hexE; rw [← hr, a2, hr2, List.drop_drop]
  have hHH : hexH l = true := by unfold hexH; rw [← hr, a3]
  rw [← hA] at hw ⊢
  have hlf := wf_len (hexAll l)
  have hla : (hexAll l).length ≤ 400 := by rw [hA, List.length_take]; omega
  obtain ⟨i0, hi0⟩ : ∃ i0, i0 = o + (k + 1) := ⟨_, rfl⟩
  have hi0l : i0 ≤ l.length := by omega
  rw [← hi0] at hEE ⊢
  clear hi0 a1 a2 a3 hA hno hc hk k hgr hr2 hrl hlo hr r ho3 o
  have hEl : (hexE l).length = l.length - i0 := by rw [hEE, List.length_drop]
  obtain ⟨j, hj⟩ : ∃ j, j = i0 + if hasP (hexE l) [45] = true then 1 else 0 := ⟨_, rfl⟩
  have hS : expS (hexE l) = l.drop j := by
    unfold expS
    rw [hj]
    split
    · rw [hEE, List.drop_drop]; rfl
    · rw [hEE]; rfl
  have hPm := hasP1 (hexE l) 45
  rw [hEl] at hPm
  have hjl : j ≤ l.length := by rw [hj]; split; (rename_i h; have := hPm.1 h; omega); omega
  rw [hEE, drop_get] at hPm
  rw [← hEE] at hPm
  refine PSem.cut follows (by kernel_rfl) 2 (fun _ : Unit => ⟨[(0, .val (.str (B8 l))), (2, .ptr 2 0), (5, .ptr 5 0), (6, .val (.int .i64 (j : Nat))), (7, .val (.bool (hexN l))), (10, .val (VN (hn (WF (hexAll l))))), (11, .val (.int .i64 (-4 * (fr (hexAll l) : Nat)))), (14, .val (.bool (hasP (hexE l) [45])))],
    [(2, (.box [.bool false, .lst 0 [], .int .i64 0], false)), (5, (.box [.bool false, .lst 0 [], .int .i64 0], false))]⟩) (fun _ => True) ?_ (fun _ _ => ?_)
  · have hi := fun h : i0 < l.length => idxS_B8 (l := l) (n := ((i0 : Nat) : Int)) (by omega) (by rw [Int.toNat_natCast]; omega)
    simp only [Int.toNat_natCast] at hi
    have hx45 : (((l.getD i0 0).toNat : Nat) : Int) = 45 ↔ l.getD i0 0 = 45 := by rw [show (45 : Int) = (((45 : UInt8).toNat : Nat) : Int) from rfl, u8_eq]
    have wi : IntKind.wrap .i64 ((i0 : Nat) + 1 : Int) = ((i0 + 1 : Nat) : Int) := by rw [wrap64 (by omega) (by omega)]; omega
    rw [Nat.add_zero, ← hx45] at hPm
    generalize hasP (hexE l) [45] = m at *
    generalize (l.getD i0 0).toNat = x at *
    simp only [Tryz.f13, B8_size, B8_cut, B8_eq, B8_mk, B8_app, Int.toNat_natCast, qfirst_succ, qfirst_zero, after_succ, after_zero, go_sem]
    refine qif_d (fun h1 => ?_) (fun h1 => ?_)
    · have hi := hi (by omega)
      simp only [Tryz.f13, B8_size, B8_cut, B8_eq, B8_mk, B8_app, Int.toNat_natCast, qfirst_succ, qfirst_zero, after_succ, after_zero, go_sem]
      refine qdo_indexS Lay9.1 rfl rfl ?_
      simp only [Tryz.f13, B8_size, B8_cut, B8_eq, B8_mk, B8_app, Int.toNat_natCast, hi, qfirst_succ, qfirst_zero, after_succ, after_zero, go_sem]
      refine qif_d (fun h2 => ?_) (fun h2 => ?_)
      · have hm : m = true := hPm.2 ⟨by omega, h2⟩
        subst hm
        rw [if_pos rfl] at hj
        subst hj
        simp only [Tryz.f13, B8_size, B8_cut, B8_eq, B8_mk, B8_app, Int.toNat_natCast, qfirst_succ, qfirst_zero, after_succ, after_zero, wi, go_sem]
        refine ⟨(), ?_⟩
        simp [Wk, sget, killL, kill1, SV.key]
      · have hm : m = false := by
          cases m with
          | false => rfl
          | true => exact absurd (hPm.1 rfl).2 h2
        subst hm
        rw [if_neg (by decide), Nat.add_zero] at hj
        subst hj
        simp only [Tryz.f13, B8_size, B8_cut, B8_eq, B8_mk, B8_app, Int.toNat_natCast, qfirst_succ, qfirst_zero, after_succ, after_zero, go_sem]
        refine ⟨(), ?_⟩
        simp [Wk, sget, killL, kill1, SV.key]
    · have hm : m = false := by
        cases m with
        | false => rfl
        | true => exact absurd (hPm.1 rfl).1 (by omega)
      subst hm
      rw [if_neg (by decide), Nat.add_zero] at hj
      subst hj
      simp only [Tryz.f13, B8_size, B8_cut, B8_eq, B8_mk, B8_app, Int.toNat_natCast, qfirst_succ, qfirst_zero, after_succ, after_zero, go_sem]
      refine ⟨(), ?_⟩
      simp [Wk, sget, killL, kill1, SV.key]
  have hSl : (expS (hexE l)).length = l.length - j := by rw [hS, List.length_drop]
  have hexp := fun t => exp_fin (E := hexE l) (t := t)
  have hok : expOk (hexE l) = true → hexOk l = true := fun h => hexOk_yes h4 hXt hHH hw h (fun e => hWt (.inl e)) (fun e1 e2 => hWt (.inr ⟨e1, e2⟩))
  have hno : ¬ expOk (hexE l) = true → hexOk l = false := fun h => hexOk_noE h
  have hgd : ∀ t, (expS (hexE l)).getD t 0 = l.getD (j + t) 0 := fun t => by rw [hS, drop_get]
  obtain ⟨S, hSS⟩ : ∃ S, S = expS (hexE l) := ⟨_, rfl⟩
  rw [← hSS] at hSl hexp hgd
  have hD : hexD l = mkD (hexN l) (hn (WF (hexAll l))) (expV (hexE l) - 4 * (fr (hexAll l) : Nat)) := rfl
  have hV : expV (hexE l) = if hasP (hexE l) [45] = true then -((dn S : Nat) : Int) else ((dn S : Nat) : Int) := by rw [hSS]; rfl
  have hMb : bitLen (hn (WF (hexAll l))) ≤ 1600 := Nat.le_trans (bitLen16 _ _ (hn_lt _ hw)) (by omega)
  have k5 := num_vn (x := hn (WF (hexAll l))) (by omega)
  have k6 := fun e => c_5Of (num_bits (x := hn (WF (hexAll l))) (by omega)) (by omega) (hexN l) e
  refine PSem.last follows (by kernel_rfl) ?_
  simp only [Tryz.f13, B8_size, B8_cut, B8_eq, B8_mk, B8_app, Int.toNat_natCast, qfirst_succ, qfirst_zero, after_succ, after_zero, go_sem]
  refine PLoop.intro (fun t : Nat => ⟨[(0, .val (.str (B8 l))), (2, .ptr 2 0), (5, .ptr 5 0), (6, .val (.int .i64 ((j + t : Nat) : Int))), (7, .val (.bool (hexN l))), (10, .val (VN (hn (WF (hexAll l))))), (11, .val (.int .i64 (-4 * (fr (hexAll l) : Nat)))), (14, .val (.bool (hasP (hexE l) [45]))), (15, .val (.int .i64 (dn (S.take t) : Nat))), (16, .val (.int .i64 t))],
    [(2, (.box [.bool false, .lst 0 [], .int .i64 0], false)), (5, (.box [.bool false, .lst 0 [], .int .i64 0], false))]⟩)
    (fun t => t ≤ S.length ∧ t ≤ 6 ∧ (S.take t).all dgt = true) (fun t => S.length - t) 0 ⟨Nat.zero_le _, by omega, rfl⟩ ?_ fun t ht => walk ?_
  · simp [Wk, sget, killL, kill1, SV.key, dn]
  obtain ⟨ht1, ht6, hta⟩ := ht
  have hDl := dn_lt _ hta
  rw [List.length_take] at hDl
  have hD6 : dn (S.take t) < 10 ^ 6 := Nat.lt_of_lt_of_le hDl (Nat.pow_le_pow_right (by decide) (by omega))
  have hexpt := hexp t ht1 hta
  clear hexp hDl
  by_cases hlt : t < S.length
  · have hi := idxS_B8 (l := l) (n := ((j + t : Nat) : Int)) (by omega) (by rw [Int.toNat_natCast]; omega)
    rw [Int.toNat_natCast, ← hgd] at hi
    have hsn := take_getD hlt
    have hdg : dgt (S.getD t 0) = decide (48 ≤ (S.getD t 0).toNat ∧ (S.getD t 0).toNat ≤ 57) := rfl
    have hne : (¬ (48 ≤ (S.getD t 0).toNat ∧ (S.getD t 0).toNat ≤ 57) ∨ 6 ≤ t) → R = .tuple [.agg [.bool false, .lst 0 [], .int .i64 0], .bool false, .bool false] := fun h => by
      refine hbad (hno fun e => ?_)
      have := (hexpt (by rcases h with h | h; exact .inr (.inl (by rw [hdg]; exact decide_eq_false h)); exact .inr (.inr h)) ht6).1 e
      omega
    have hnx : 48 ≤ (S.getD t 0).toNat ∧ (S.getD t 0).toNat ≤ 57 → (S.take (t + 1)).all dgt = true ∧ dn (S.take (t + 1)) = dn (S.take t) * 10 + ((S.getD t 0).toNat - 48) := fun h => by
      rw [← hsn, dn_snoc, List.all_append, hta, List.all_cons, hdg, decide_eq_true h]
      exact ⟨rfl, rfl⟩
    have hx256 : (S.getD t 0).toNat < 256 := UInt8.toNat_lt _
    clear hexpt hsn hdg hgd
    generalize (S.getD t 0).toNat = x at *
    have m0 : IntKind.wrap .i64 (10 * (dn (S.take t) : Int)) = 10 * (dn (S.take t) : Int) := wrap64 (by omega) (by omega)
    have m1 : 48 ≤ x → IntKind.wrap .u8 ((x : Int) - 48) = ((x - 48 : Nat) : Int) := fun h => by rw [wrapU8 (by omega) (by omega)]; omega
    have m2 : IntKind.wrap .i64 ((x - 48 : Nat) : Int) = ((x - 48 : Nat) : Int) := wrap64 (by omega) (by omega)
    have m3 : 48 ≤ x ∧ x ≤ 57 → IntKind.wrap .i64 (10 * (dn (S.take t) : Int) + ((x - 48 : Nat) : Int)) = (dn (S.take (t + 1)) : Nat) := fun h => by rw [(hnx h).2, wrap64 (by omega) (by omega)]; omega
    have m4 : IntKind.wrap .i64 ((t : Int) + 1) = ((t + 1 : Nat) : Int) := by rw [wrap64 (by omega) (by omega)]; omega
    have m5 : IntKind.wrap .i64 (((j + t : Nat) : Int) + 1) = ((j + (t + 1) : Nat) : Int) := by rw [wrap64 (by omega) (by omega)]; omega
    by_cases hg : 48 ≤ x ∧ x ≤ 57 ∧ t < 6
    · have hnx := hnx ⟨hg.1, hg.2.1⟩
      have m1 := m1 hg.1
      have m3 := m3 ⟨hg.1, hg.2.1⟩
      simp only [Tryz.f13, B8_size, B8_cut, B8_eq, B8_mk, B8_app, Int.toNat_natCast, qfirst_succ, qfirst_zero, after_succ, after_zero, go_sem]
      repeat' first
        | (exfalso; omega)
        | ((with_reducible refine qif_d (fun h => ?_) (fun h => ?_)) <;> first | (exfalso; omega) | simp only [Tryz.f13, B8_size, B8_cut, B8_eq, B8_mk, B8_app, Int.toNat_natCast, qfirst_succ, qfirst_zero, after_succ, after_zero, m0, m1, m2, m3, m4, m5, go_sem])
        | ((with_reducible refine qdo_indexS Lay9.1 rfl rfl ?_); simp only [Tryz.f13, B8_size, B8_cut, B8_eq, B8_mk, B8_app, Int.toNat_natCast, hi, qfirst_succ, qfirst_zero, after_succ, after_zero, m0, m1, m2, m3, m4, m5, go_sem])
        | (refine ⟨t + 1, ⟨by omega, by omega, hnx.1⟩, by omega, ?_⟩; simp [Wk, sget, killL, kill1, SV.key]; done)
    · rw [hne (by omega)]
      simp only [Tryz.f13, B8_size, B8_cut, B8_eq, B8_mk, B8_app, Int.toNat_natCast, qfirst_succ, qfirst_zero, after_succ, after_zero, go_sem]
      repeat' first
        | (exfalso; omega)
        | ((with_reducible refine qif_d (fun h => ?_) (fun h => ?_)) <;> first | (exfalso; omega) | simp only [Tryz.f13, B8_size, B8_cut, B8_eq, B8_mk, B8_app, Int.toNat_natCast, qfirst_succ, qfirst_zero, after_succ, after_zero, go_sem])
        | ((with_reducible refine qdo_indexS Lay9.1 rfl rfl ?_); simp only [Tryz.f13, B8_size, B8_cut, B8_eq, B8_mk, B8_app, Int.toNat_natCast, hi, qfirst_succ, qfirst_zero, after_succ, after_zero, go_sem])
        | rfl
  · have hte : t = S.length := by omega
    have hexpt := hexpt (.inl hte) ht6
    by_cases hg : t ≠ 0 ∧ t ≤ 5
    · have hyes := hexpt.2 ⟨hte, hg.1, hg.2⟩
      have hok := hok hyes
      rw [hgood hok]
      rw [hte, List.take_length] at hD6 ⊢
      generalize hasP (hexE l) [45] = m at *
      generalize expV (hexE l) = ev at *
      have k6 := k6 (ev - 4 * (fr (hexAll l) : Nat))
      rw [← hD] at k6
      have hnv : (hexD l).nv = .agg [.bool (hexD l).s, VN (hexD l).m, .int .i64 (hexD l).e] := rfl
      generalize hexD l = d at *
      generalize hexN l = bn at *
      simp only [DP, Dy.nv] at k6 ⊢
      simp only [Tryz.f13, B8_size, B8_cut, B8_eq, B8_mk, B8_app, Int.toNat_natCast, qfirst_succ, qfirst_zero, after_succ, after_zero, go_sem]
      have y1 : IntKind.wrap .i64 (0 - (dn S : Int)) = -(dn S : Int) := by rw [wrap64 (by omega) (by omega)]; omega
      have y2 : m = true → IntKind.wrap .i64 (-4 * (fr (hexAll l) : Int) + -(dn S : Int)) = ev - 4 * (fr (hexAll l) : Nat) := fun h => by
        rw [if_pos h] at hV
        rw [wrap64 (by omega) (by omega)]; omega
      have y3 : m = false → IntKind.wrap .i64 (-4 * (fr (hexAll l) : Int) + (dn S : Int)) = ev - 4 * (fr (hexAll l) : Nat) := fun h => by
        rw [if_neg (by rw [h]; decide)] at hV
        rw [wrap64 (by omega) (by omega)]; omega
      simp only [NN, NL] at k5 k6
      refine qif_df (by omega) ?_
      simp only [Tryz.f13, B8_size, B8_cut, B8_eq, B8_mk, B8_app, Int.toNat_natCast, qfirst_succ, qfirst_zero, after_succ, after_zero, go_sem]
      refine qif_df (by omega) ?_
      simp only [Tryz.f13, B8_size, B8_cut, B8_eq, B8_mk, B8_app, Int.toNat_natCast, qfirst_succ, qfirst_zero, after_succ, after_zero, go_sem]
      refine qif_df (by omega) ?_
      simp only [Tryz.f13, B8_size, B8_cut, B8_eq, B8_mk, B8_app, Int.toNat_natCast, qfirst_succ, qfirst_zero, after_succ, after_zero, go_sem]
      refine qif_df (by omega) ?_
      simp only [Tryz.f13, B8_size, B8_cut, B8_eq, B8_mk, B8_app, Int.toNat_natCast, qfirst_succ, qfirst_zero, after_succ, after_zero, go_sem]
      cases m
      · have y3 := y3 rfl
        simp only [Tryz.f13, B8_size, B8_cut, B8_eq, B8_mk, B8_app, Int.toNat_natCast, qfirst_succ, qfirst_zero, after_succ, after_zero, y3, go_sem]
        refine qcall_i (k5) ?_; simp only [Tryz.f13, B8_size, B8_cut, B8_eq, B8_mk, B8_app, Int.toNat_natCast, qfirst_succ, qfirst_zero, after_succ, after_zero, y3, go_sem]
        refine qcall_i (k6) ?_; simp only [Tryz.f13, B8_size, B8_cut, B8_eq, B8_mk, B8_app, Int.toNat_natCast, qfirst_succ, qfirst_zero, after_succ, after_zero, y3, go_sem]
        try rfl
      · have y2 := y2 rfl
        simp only [Tryz.f13, B8_size, B8_cut, B8_eq, B8_mk, B8_app, Int.toNat_natCast, qfirst_succ, qfirst_zero, after_succ, after_zero, y1, y2, go_sem]
        refine qcall_i (k5) ?_; simp only [Tryz.f13, B8_size, B8_cut, B8_eq, B8_mk, B8_app, Int.toNat_natCast, qfirst_succ, qfirst_zero, after_succ, after_zero, y1, y2, go_sem]
        refine qcall_i (k6) ?_; simp only [Tryz.f13, B8_size, B8_cut, B8_eq, B8_mk, B8_app, Int.toNat_natCast, qfirst_succ, qfirst_zero, after_succ, after_zero, y1, y2, go_sem]
        try rfl
    · rw [hbad (hno fun e => hg ⟨(hexpt.1 e).2.1, (hexpt.1 e).2.2⟩)]
      simp only [Tryz.f13, B8_size, B8_cut, B8_eq, B8_mk, B8_app, Int.toNat_natCast, qfirst_succ, qfirst_zero, after_succ, after_zero, go_sem]
      repeat' first
        | (exfalso; omega)
        | ((with_reducible refine qif_d (fun h => ?_) (fun h => ?_)) <;> first | (exfalso; omega) | simp only [Tryz.f13, B8_size, B8_cut, B8_eq, B8_mk, B8_app, Int.toNat_natCast, qfirst_succ, qfirst_zero, after_succ, after_zero, go_sem])
        | rfl
end Go.Proofs.YtnccaoeeedhgbaaGreatDoor
