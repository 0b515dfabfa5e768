/- internal/strconv.ParseUint at base 16, every text: the walk. -/
import Derived.Test.YtmnojbkakgfinaaDoorJbU
open Go PG Go.Proofs Go.RowKit
set_option maxRecDepth 100000
set_option linter.unusedSimpArgs false
set_option linter.unusedVariables false
namespace Go.Proofs.YtmnojbkakgfinaaDoor
attribute [local go_sem] Lay2 Lay3 Lay4 Lay5 Lay6 Lay7 Lay8 Lay9 Lay10 Lay11 Lay12 Lay13 Lay14 Lay15 Lay16 Lay17 Lay18 Lay19 Lay21 Lay23 Lay24 Lay30 Lay31 Lay32 Lay33 Lay34 Lay36 Lay37 Lay49 Lay50 Lay51 Lay52 Lay59 Lay75 Lay77 Lay85 Lay87 Lay89 Lay96 Lay101 Lay112 Lay113 Lay118 Lay119 Lay120 Lay122 Lay123 Lay124 Lay125 Lay126 Lay127 Lay128 Lay129 Lay130 Lay132 Lay133 qexec_seq qexec_skip qexec_exit qexec_ret qexec_block qexec_loop qexec_range qexec_cond qexec_region qexec_drawn qops_nil qops_none qops_some put_some put_none pblk_exit pblk_other newDsts_nil inlDsts_nil isInl sget_cons sget_nil qval_some qbool_some qgs_bool qgs_und qfree_some qgrd_true qgrd_false qif_true qif_false qval_ite qval_itn qand_true map_ite map_some' map_none' qdo_move qdo_assign qdo_binOp qdo_pick qdo_unOp qdo_convert qdo_extract qdo_makeInterface qdo_field qdo_fieldAddr qdo_alloc qdo_box qdo_build qdo_buildSlice qdo_load qdo_store qdo_nilCheck qdo_makeFunc qdo_makeSlice qdo_slice qdo_indexAddr qdo_call qcont_val qcont_new qcont_st qcont_app0 qcont_app qcont_inl qcont_call njSV_val njSV_nil njSV_row njSV_ptr njSV_sub binV_val binV_nil binV_nn binV_ptr bin_np bin_nnp nilCmp bin_add bin_sub bin_mul bin_quo bin_rem bin_and bin_or bin_xor bin_andNot bin_eql bin_neq bin_lss bin_leq bin_gtr bin_geq bin_shl bin_shr bin_seql bin_sneq bin_sadd bin_beql bin_aeql bin_aneq eqAnd_some eqCells_nil eqCells_cons fieldTypes isStruct eqCell bin_bneq un_not un_neg nj_ite Nat.beq stepA stepR isNew opSV constSV RV.sv allSome E_mu E_own qkeyIn_none qkeyIn_some qkeyAt_none qkeyAt_some Bool.or_false Bool.false_or Bool.or_true Bool.true_or cst setB res resSV pstart startL killL kill1 eraL frzL svPV rvPV rvInt rvSlice rvBytes frzOf close closeL pconv pbuiltin pmax2 partPV setCells fillPV zrow bound newSV PV.cells Bk.cells Bk.with SV.key pres presL_nil presL_tmp presL_cell presC2_some cellPV_ptr presC List.toList_toArray List.size_toArray List.getElem?_drop Nat.mul_one Int.toNat_natCast Nat.not_lt_zero Nat.lt_irrefl decide_true decide_false Nat.not_lt Option.some.injEq PV.lst.injEq PV.int.injEq PV.bool.injEq PV.tuple.injEq List.cons.injEq Option.map_some Option.map_none Option.bind_some Option.toList List.map_cons List.map_nil List.nil_append List.cons_append List.append_nil List.zip_cons_cons List.zip_nil_left List.zip_nil_right List.getElem?_cons_zero List.getElem?_cons_succ List.drop_zero List.drop_succ_cons List.take_succ_cons List.take_zero List.set_cons_zero List.set_cons_succ List.length_cons List.length_nil List.length_set List.replicate_one List.replicate_zero bne_self_eq_false beq_self_eq_true Nat.zero_add Nat.add_zero Nat.zero_mul Bool.false_eq_true Bool.true_eq_false Bool.not_true Bool.not_false and_true true_and false_and and_false or_false false_or or_true true_or not_true_eq_false not_false_eq_true ne_eq gt_iff_lt List.mem_cons List.not_mem_nil
attribute [local go_sem ↓] pseq_normal pseq_ret pseq_exit pblk_normal pblk_ret newDsts_cons inlDsts_cons gdst_zero gdst_succ retQ_normal retQ_ret qneed_nil qneed_cons retM_normal retM_ret endR_normal endR_ret endR_exit
attribute [local go_sem] Int.reduceToNat Int.reduceEq Int.reduceNe Int.reduceLT Int.reduceLE Int.reduceNeg Int.reduceAdd Nat.reduceEqDiff Nat.reduceAdd Nat.reduceSub Nat.reduceMul Nat.reduceLeDiff Nat.reduceLT
attribute [local go_sem ↓] reduceIte reduceCtorEq

/-- A letter's small form. -/
def lwc (c : UInt8) : Nat := c.toNat ||| 32
theorem lwc_bits (c : UInt8) : bits .or .u8 ((c.toNat : Nat) : Int) 32 = ((lwc c : Nat) : Int) := by
  have h : ∀ k : Fin 256, bits .or .u8 ((k.val : Nat) : Int) 32 = ((k.val ||| 32 : Nat) : Int) := by decide +kernel
  exact h ⟨c.toNat, c.toNat_lt⟩
theorem lwc_lt (c : UInt8) : lwc c < 256 := by
  have h : ∀ k : Fin 256, k.val ||| 32 < 256 := by decide +kernel
  exact h ⟨c.toNat, c.toNat_lt⟩
theorem s_lower (c : UInt8) : PC E 54 [.int .u8 (c.toNat : Nat)] (.int .u8 (lwc c : Nat)) := by
  have h := lwc_bits c
  refine PC.of_body follows Tryd.func54 (by decide +kernel) rfl (by kernel_rfl) (Nat.le_of_ble_eq_true rfl) (walk ?_)
  simp only [Tryd.f54, h, go_sem]
  try rfl
abbrev eSyn : PV := .ifv 87 .i64 2
abbrev eRng : PV := .ifv 87 .i64 1
/-- A digit, if it is one. -/
def dgU (c : UInt8) : Option Nat := if 48 ≤ c.toNat ∧ c.toNat ≤ 57 then some (c.toNat - 48) else if 97 ≤ lwc c ∧ lwc c ≤ 122 then some (lwc c - 87) else none
def puR : Nat → List UInt8 → Nat × PV
  | n, [] => (n, .nif)
  | n, c :: r => match dgU c with
    | none => (0, eSyn)
    | some d => if 16 ≤ d then (0, eSyn) else if 1152921504606846976 ≤ n then (18446744073709551615, eRng) else puR (n * 16 + d) r
def puX (l : List UInt8) : Nat × PV := if l = [] then (0, eSyn) else puR 0 l
theorem cnc_err : cnc E.P 87 = true := by kernel_rfl
/-- The state ahead of the loop. -/
def stU (l : List UInt8) : List (Nat × SV) := [(0, .val (.str (B8 l))), (1, .val (.int .i64 16)), (8, .val (.bool false)), (9, .val (.str (B8 l))), (10, .val (.int .u64 1152921504606846976)), (11, .val (.int .u64 18446744073709551615)), (12, .val (.bool false)), (13, .val (.int .u64 0))]
set_option maxHeartbeats 4000000 in
theorem s_ParseUintI {l : List UInt8} (hl : l.length ≤ 100000) : PC E 39 [TX l, .int .i64 16, .int .i64 64] (.tuple [.int .u64 ((puX l).1 : Nat), (puX l).2]) := by
  have hcn := cnc_err
  simp only [TX]
  refine PC.of_sem Tryd.func39 (by decide +kernel) rfl (Nat.le_of_ble_eq_true rfl) ?_
  refine PSem.cut follows (by kernel_rfl) 11 (fun _ : Unit => ⟨stU l, []⟩) (fun _ => l ≠ []) ?_ (fun _ hne => ?_)
  · simp only [Tryd.f39, B8_size, B8_cut, B8_eq, B8_mk, B8_app, Int.toNat_natCast, qfirst_succ, qfirst_zero, after_succ, after_zero, hcn, go_sem]
    refine qif_d (fun h => ?_) (fun h => ?_)
    · simp only [Tryd.f39, B8_size, B8_cut, B8_eq, B8_mk, B8_app, Int.toNat_natCast, qfirst_succ, qfirst_zero, after_succ, after_zero, hcn, go_sem]
      unfold puX
      rw [if_pos h]
      exact ⟨rfl, rfl⟩
    · simp only [Tryd.f39, B8_size, B8_cut, B8_eq, B8_mk, B8_app, Int.toNat_natCast, qfirst_succ, qfirst_zero, after_succ, after_zero, hcn, go_sem]
      refine qand_i (by decide) ?_
      simp only [Tryd.f39, B8_size, B8_cut, B8_eq, B8_mk, B8_app, Int.toNat_natCast, qfirst_succ, qfirst_zero, after_succ, after_zero, hcn, go_sem]
      refine ⟨(), h, ?_⟩
      rw [show IntKind.wrap .u64 (IntKind.wrap .u64 (1 * 2 ^ min (IntKind.wrap .u64 64).toNat 64) - 1) = 18446744073709551615 by decide +kernel]
      simp [stU, Wk, sget, killL, kill1, SV.key]
  · intro wk w0 Pr0 m Pr act w hr
    simp only [after_succ, after_zero]
    refine wpIn_seq (wpIn_seq (wpIn_region (conv_ops (N := 172) (by decide) hr rfl hl fun m1 Pr1 a1 w1 hr1 => ?_)))
    refine wpIn_mono (PSem.last (Q := fun e s => match e with
      | .normal => ∃ v : Nat, puR 0 l = (v, .nif) ∧ Wk s ⟨[(12, .val (.bool false)), (13, .val (.int .u64 v))], []⟩
      | e => retQ E Tryd.f39.results.toList (.tuple [.int .u64 ((puR 0 l).1 : Nat), (puR 0 l).2]) e s) follows (by kernel_rfl) ?_ wk w0 Pr0 m1 Pr1 a1 w1 hr1) ?_
    · simp only [Tryd.f39, B8_size, B8_cut, B8_eq, B8_mk, B8_app, Int.toNat_natCast, hcn, stU, go_sem]
      refine PLoop.intro (fun p : Nat × Nat => ⟨(101, .val (.int .i64 (p.1 : Nat))) :: (100, .val (.int .i64 (l.length : Nat))) :: (99, .val (.lst l.length (BL l))) :: [(1, .val (.int .i64 16)), (8, .val (.bool false)), (10, .val (.int .u64 1152921504606846976)), (11, .val (.int .u64 18446744073709551615)), (12, .val (.bool false)), (13, .val (.int .u64 (p.2 : Nat)))], []⟩)
        (fun p => p.1 ≤ l.length ∧ p.2 < W ∧ puR 0 l = puR p.2 (l.drop p.1)) (fun p => l.length - p.1) (0, 0) ⟨Nat.zero_le _, by decide, rfl⟩ ?_ fun p hp => walk ?_
      · simp [stU, Wk, sget, killL, kill1, SV.key, TX]
      obtain ⟨k, n⟩ := p
      obtain ⟨hk, hn, hpu⟩ := hp
      dsimp only at hk hn hpu ⊢
      simp only [Tryd.f39, B8_size, B8_cut, B8_eq, B8_mk, B8_app, Int.toNat_natCast, hcn, go_sem]
      refine qif_d (fun h => ?_) (fun h => ?_)
      · clear hr hr1
        simp only [Tryd.f39, B8_size, B8_cut, B8_eq, B8_mk, B8_app, Int.toNat_natCast, hcn, go_sem]
        refine qand_i (by omega) ?_
        have hlt : k < l.length := by omega
        obtain ⟨c, hc⟩ : ∃ c, l[k]? = some c := ⟨l[k], List.getElem?_eq_getElem hlt⟩
        have hb : (BL l)[k]? = some (.int .u8 ((c.toNat : Nat) : Int)) := by unfold BL; rw [List.getElem?_map, hc]; rfl
        have hdr : l.drop k = c :: l.drop (k + 1) := by
          rw [List.drop_eq_getElem_cons hlt]
          congr 1
          rw [List.getElem?_eq_getElem hlt] at hc
          exact Option.some.inj hc
        rw [hdr, puR] at hpu
        have hc8 : c.toNat < 256 := c.toNat_lt
        have hl8 := lwc_lt c
        have klo := s_lower c
        have hdg : dgU c = if 48 ≤ c.toNat ∧ c.toNat ≤ 57 then some (c.toNat - 48) else if 97 ≤ lwc c ∧ lwc c ≤ 122 then some (lwc c - 87) else none := rfl
        generalize c.toNat = cn at *
        generalize lwc c = lc at *
        simp only [Tryd.f39, B8_size, B8_cut, B8_eq, B8_mk, B8_app, Int.toNat_natCast, hcn, hb, go_sem]
        have w16 : IntKind.wrap .u8 16 = 16 := by decide
        have w16b : IntKind.wrap .u64 16 = 16 := by decide
        refine qif_d (fun h1 => ?_) (fun h1 => ?_)
        all_goals
          simp only [Tryd.f39, B8_size, B8_cut, B8_eq, B8_mk, B8_app, Int.toNat_natCast, hcn, hb, go_sem]
          refine qif_d (fun h2 => ?_) (fun h2 => ?_) <;> simp only [Tryd.f39, B8_size, B8_cut, B8_eq, B8_mk, B8_app, Int.toNat_natCast, hcn, hb, go_sem]
          all_goals try (refine qif_d (fun h3 => ?_) (fun h3 => ?_) <;> simp only [Tryd.f39, B8_size, B8_cut, B8_eq, B8_mk, B8_app, Int.toNat_natCast, hcn, hb, go_sem])
        all_goals first
          | (obtain ⟨d, hd⟩ : ∃ d, d = cn - 48 := ⟨_, rfl⟩
             have hwd : IntKind.wrap .u8 ((cn : Int) - 48) = ((d : Nat) : Int) := by rw [IntKind.wrap_u8]; omega
             rw [if_pos ⟨by omega, by omega⟩, ← hd] at hdg
             rw [hdg] at hpu
             rw [hwd, w16]
             simp only [] at hpu
             refine qif_d (fun h5 => ?_) (fun h5 => ?_)
             · simp only [Tryd.f39, B8_size, B8_cut, B8_eq, B8_mk, B8_app, Int.toNat_natCast, hcn, hb, go_sem]
               rw [hpu]
               try simp only []
               rw [if_pos (by omega)]
               exact ⟨rfl, rfl⟩
             simp only [Tryd.f39, B8_size, B8_cut, B8_eq, B8_mk, B8_app, Int.toNat_natCast, hcn, hb, go_sem]
             rw [if_neg (by omega)] at hpu
             refine qif_d (fun h6 => ?_) (fun h6 => ?_)
             · simp only [Tryd.f39, B8_size, B8_cut, B8_eq, B8_mk, B8_app, Int.toNat_natCast, hcn, hb, go_sem]
               rw [hpu, if_pos (by omega)]
               exact ⟨rfl, rfl⟩
             rw [if_neg (by omega)] at hpu
             have hW : W = 18446744073709551616 := rfl
             have wm : IntKind.wrap .u64 ((n : Int) * 16) = ((n * 16 : Nat) : Int) := by rw [IntKind.wrap_u64]; omega
             have wa : IntKind.wrap .u64 (((n * 16 : Nat) : Int) + IntKind.wrap .u64 (d : Int)) = ((n * 16 + d : Nat) : Int) := by rw [IntKind.wrap_u64, IntKind.wrap_u64]; omega
             simp only [Tryd.f39, B8_size, B8_cut, B8_eq, B8_mk, B8_app, Int.toNat_natCast, hcn, hb, w16b, wm, wa, go_sem]
             refine qif_df (by omega) ?_
             simp only [Tryd.f39, B8_size, B8_cut, B8_eq, B8_mk, B8_app, Int.toNat_natCast, hcn, hb, w16b, wm, wa, go_sem]
             refine qif_df (by omega) ?_
             simp only [Tryd.f39, B8_size, B8_cut, B8_eq, B8_mk, B8_app, Int.toNat_natCast, hcn, hb, w16b, wm, wa, go_sem]
             rw [wrap64 (by omega) (by omega)]
             refine ⟨(k + 1, n * 16 + d), ⟨by omega, by rw [hW]; omega, hpu⟩, by omega, ?_⟩
             simp [Wk, sget, killL, kill1, SV.key])
          | (rw [if_neg (by omega)] at hdg
             refine qcall_i klo ?_
             simp only [Tryd.f39, B8_size, B8_cut, B8_eq, B8_mk, B8_app, Int.toNat_natCast, hcn, hb, go_sem]
             refine qif_d (fun h4 => ?_) (fun h4 => ?_)
             rotate_left
             · simp only [Tryd.f39, B8_size, B8_cut, B8_eq, B8_mk, B8_app, Int.toNat_natCast, hcn, hb, go_sem]
               rw [if_neg (by omega)] at hdg
               rw [hpu, hdg]
               exact ⟨rfl, rfl⟩
             simp only [Tryd.f39, B8_size, B8_cut, B8_eq, B8_mk, B8_app, Int.toNat_natCast, hcn, hb, go_sem]
             refine qcall_i klo ?_
             simp only [Tryd.f39, B8_size, B8_cut, B8_eq, B8_mk, B8_app, Int.toNat_natCast, hcn, hb, go_sem]
             refine qif_d (fun h4 => ?_) (fun h4 => ?_)
             rotate_left
             · simp only [Tryd.f39, B8_size, B8_cut, B8_eq, B8_mk, B8_app, Int.toNat_natCast, hcn, hb, go_sem]
               rw [if_neg (by omega)] at hdg
               rw [hpu, hdg]
               exact ⟨rfl, rfl⟩
             simp only [Tryd.f39, B8_size, B8_cut, B8_eq, B8_mk, B8_app, Int.toNat_natCast, hcn, hb, go_sem]
             refine qcall_i klo ?_
             simp only [Tryd.f39, B8_size, B8_cut, B8_eq, B8_mk, B8_app, Int.toNat_natCast, hcn, hb, go_sem]
             obtain ⟨d, hd⟩ : ∃ d, d = lc - 87 := ⟨_, rfl⟩
             have hwd : IntKind.wrap .u8 (IntKind.wrap .u8 ((lc : Int) - 97) + 10) = ((d : Nat) : Int) := by rw [IntKind.wrap_u8, IntKind.wrap_u8]; omega
             rw [if_pos ⟨by omega, by omega⟩, ← hd] at hdg
             rw [hdg] at hpu
             rw [hwd, w16]
             simp only [] at hpu
             refine qif_d (fun h5 => ?_) (fun h5 => ?_)
             · simp only [Tryd.f39, B8_size, B8_cut, B8_eq, B8_mk, B8_app, Int.toNat_natCast, hcn, hb, go_sem]
               rw [hpu]
               try simp only []
               rw [if_pos (by omega)]
               exact ⟨rfl, rfl⟩
             simp only [Tryd.f39, B8_size, B8_cut, B8_eq, B8_mk, B8_app, Int.toNat_natCast, hcn, hb, go_sem]
             rw [if_neg (by omega)] at hpu
             refine qif_d (fun h6 => ?_) (fun h6 => ?_)
             · simp only [Tryd.f39, B8_size, B8_cut, B8_eq, B8_mk, B8_app, Int.toNat_natCast, hcn, hb, go_sem]
               rw [hpu, if_pos (by omega)]
               exact ⟨rfl, rfl⟩
             rw [if_neg (by omega)] at hpu
             have hW : W = 18446744073709551616 := rfl
             have wm : IntKind.wrap .u64 ((n : Int) * 16) = ((n * 16 : Nat) : Int) := by rw [IntKind.wrap_u64]; omega
             have wa : IntKind.wrap .u64 (((n * 16 : Nat) : Int) + IntKind.wrap .u64 (d : Int)) = ((n * 16 + d : Nat) : Int) := by rw [IntKind.wrap_u64, IntKind.wrap_u64]; omega
             simp only [Tryd.f39, B8_size, B8_cut, B8_eq, B8_mk, B8_app, Int.toNat_natCast, hcn, hb, w16b, wm, wa, go_sem]
             refine qif_df (by omega) ?_
             simp only [Tryd.f39, B8_size, B8_cut, B8_eq, B8_mk, B8_app, Int.toNat_natCast, hcn, hb, w16b, wm, wa, go_sem]
             refine qif_df (by omega) ?_
             simp only [Tryd.f39, B8_size, B8_cut, B8_eq, B8_mk, B8_app, Int.toNat_natCast, hcn, hb, w16b, wm, wa, go_sem]
             rw [wrap64 (by omega) (by omega)]
             refine ⟨(k + 1, n * 16 + d), ⟨by omega, by rw [hW]; omega, hpu⟩, by omega, ?_⟩
             simp [Wk, sget, killL, kill1, SV.key])
      · simp only [Tryd.f39, B8_size, B8_cut, B8_eq, B8_mk, B8_app, Int.toNat_natCast, hcn, go_sem]
        have hkl : l.drop k = [] := List.drop_eq_nil_of_le (by omega)
        rw [hkl] at hpu
        refine ⟨n, hpu, ?_⟩
        simp [Wk, sget, killL, kill1, SV.key]
    · rintro e a' w' ⟨s', m', Pr', hq, hr'⟩
      have hX : puX l = puR 0 l := by unfold puX; rw [if_neg hne]
      cases e with
      | normal =>
        obtain ⟨v, hv, hw⟩ := hq
        have hr2 := hr'.weak hw
        refine PSem.last follows (by kernel_rfl) ?_ wk w0 Pr0 m' Pr' a' w' hr2
        rw [hX, hv]
        simp only [Tryd.f39, B8_size, B8_cut, B8_eq, B8_mk, B8_app, Int.toNat_natCast, hcn, go_sem]
      | ret =>
        rw [hX]
        exact ⟨s', m', Pr', hq, hr'⟩
      | _ => exact hq.elim
end Go.Proofs.YtmnojbkakgfinaaDoor
