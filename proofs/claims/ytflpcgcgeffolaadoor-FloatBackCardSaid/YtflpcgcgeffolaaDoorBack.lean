/- slices.Backward over a slice of limbs: its closure hands out the places from the last to the first, whatever the loop's body does that keeps the slice. -/
import Derived.Test.YtflpcgcgeffolaaDoorNat2
import Derived.RangeFuncBox
import Derived.RangeFuncLeaves
import Derived.OwnWalkIn
import Derived.TacticsInMore
import Derived.LoopNIn
import Derived.LoopIn
open Go PG Go.Proofs Go.RowKit
set_option maxRecDepth 100000
set_option linter.unusedSimpArgs false
set_option linter.unusedVariables false
namespace Go.Proofs.YtflpcgcgeffolaaDoor
attribute [local go_sem] Lay2 Lay3 Lay4 Lay5 Lay6 Lay7 Lay8 Lay9 Lay10 Lay11 Lay12 Lay13 Lay14 Lay21 Lay22 Lay24 Lay25 Lay26 Lay27 Lay36 Lay37 Lay38 Lay39 Lay40 Lay41 Lay43 Lay46 Lay47 Lay66 Lay103 Lay105 Lay159 Lay164 Lay165 Lay166 Lay168 Lay169 Lay172 Lay173 qexec_seq qexec_skip qexec_exit qexec_ret qexec_block qexec_loop qexec_range qexec_cond qexec_region qops_nil qops_none qops_some put_some put_none pblk_exit pblk_other newDsts_nil sget_cons qval_some qbool_some qgs_bool qgs_und qfree_some qgrd_true qgrd_false qif_true qif_false qval_ite qval_itn qand_true map_ite map_some' map_none' qdo_move qdo_assign qdo_binOp qdo_pick qdo_unOp qdo_convert qdo_extract qdo_field qdo_fieldAddr qdo_alloc qdo_box qdo_build qdo_buildSlice qdo_load qdo_store qdo_nilCheck qdo_makeFunc qdo_makeSlice qdo_slice qdo_indexAddr qdo_call qcont_val qcont_new qcont_st qcont_app0 qcont_app qcont_inl qcont_call njSV_val njSV_nil njSV_row njSV_ptr njSV_sub binV_val binV_nil binV_nn nilCmp bin_add bin_sub bin_mul bin_quo bin_rem bin_and bin_or bin_xor bin_andNot bin_eql bin_neq bin_lss bin_leq bin_gtr bin_geq bin_shl bin_shr bin_seql bin_sneq bin_sadd bin_beql bin_aeql bin_aneq eqAnd_some eqCells_nil eqCells_cons fieldTypes isStruct eqCell bin_bneq un_not un_neg nj_ite Nat.beq stepA stepR isNew opSV constSV RV.sv allSome E_mu Bool.or_false Bool.false_or Bool.or_true Bool.true_or cst setB res resSV pstart startL killL kill1 eraL frzL svPV rvPV rvInt rvSlice frzOf close closeL pconv pbuiltin pmax2 partPV setCells fillPV zrow bound newSV PV.cells Bk.cells Bk.with SV.key pres presL_nil presL_tmp presL_cell presC2_some cellPV_ptr presC List.toList_toArray List.size_toArray List.getElem?_drop Nat.mul_one Int.toNat_natCast Nat.not_lt_zero Nat.lt_irrefl decide_true decide_false Nat.not_lt Option.some.injEq PV.lst.injEq PV.int.injEq PV.bool.injEq PV.tuple.injEq List.cons.injEq Option.map_some Option.map_none Option.bind_some Option.toList List.map_cons List.map_nil List.nil_append List.cons_append List.append_nil List.zip_cons_cons List.zip_nil_left List.zip_nil_right List.getElem?_cons_zero List.getElem?_cons_succ List.drop_zero List.drop_succ_cons List.take_succ_cons List.take_zero List.set_cons_zero List.set_cons_succ List.length_cons List.length_nil List.length_set List.replicate_one List.replicate_zero bne_self_eq_false beq_self_eq_true Nat.zero_add Nat.add_zero Nat.zero_mul Bool.false_eq_true Bool.true_eq_false Bool.not_true Bool.not_false and_true true_and false_and and_false or_false false_or or_true true_or not_true_eq_false not_false_eq_true ne_eq gt_iff_lt List.mem_cons List.not_mem_nil
attribute [local go_sem ↓] pseq_normal pseq_ret pseq_exit pblk_normal pblk_ret newDsts_cons gdst_zero gdst_succ retQ_normal retQ_ret retM_normal retM_ret endR_normal endR_ret endR_exit

attribute [local go_sem] Oper.semAt_some

set_option maxRecDepth 100000 in
set_option maxHeartbeats 2000000 in
theorem back_in (F : Fence) (n : Nat) (hfn : F.fn 139) (hro : F.round = none) (hn : 1 ≤ n) (q len cap : Nat) (ad b : Addr) (l : List Nat) (hreach : len ≤ 17592186044416) (Kp : World → World → Prop) (J Jx : List (Fin len) → World → Prop) (Lies : World → Prop) (hKp : ∀ A B, Kp A B → Lies A → Lies B)
    (hL : ∀ A, Lies A → A.cell? ad = some (.slice (some b) len cap) ∧ ∀ j, j < len → A.cell? (b.add j) = some (.int .u64 (l.getD j 0 : Nat)))
    (hY : ∀ pre x W, J pre W → pre.length < len → YieldAt F (n - 1) Tryd.prog q #[.int .i64 (x.1 : Int), .int .u64 (l.getD x.1 0 : Nat)] W fun e W' =>
      (e = .returned (.bool true) ∧ J (pre ++ [x]) W' ∧ Kp W W') ∨ (e = .returned (.bool false) ∧ Jx (pre ++ [x]) W'))
    (W : World) (hlies : Lies W) (h0 : J [] W) :
    CallsIn F n Tryd.prog 139 #[.func (.yield q) #[] #[], .pointer (some ad)] W fun e W' => (∃ v, e = .returned v) ∧
      ((∃ ys, ys = back len ∧ J ys W') ∨ (∃ pre, (∃ k, k ≤ len ∧ pre = back k) ∧ Jx pre W')) := by
  refine callsIn_of_wp Tryd.func139 rfl hfn ?_ hro
  simp only [Tryd.ntmps139, List.size_toArray, List.length_cons, List.length_nil, Nat.reduceAdd, Nat.reduceSub, Array.replicate_succ, Array.replicate_zero, List.push_toArray, List.append_toArray, List.nil_append, List.cons_append]
  obtain ⟨hc0, _⟩ := hL W hlies
  gi_wp2
  gi_loopw [3] (fun i wr => ∃ k : Nat, k ≤ len ∧ i = .int .i64 ((len : Int) - 1 - k) ∧ J (back k) wr ∧ Lies wr)
    (fun i _ => (intOf i + 1).toNat)
  case atStart =>
    refine ⟨0, Nat.zero_le _, ?_, h0, hlies⟩
    simp
  case round =>
    obtain ⟨k, hk, rfl, hJs, hnx⟩ := hrel
    obtain ⟨hc1, hc2⟩ := hL wr hnx
    by_cases hlt : k < len
    · obtain ⟨fn, tmps, assign, body, hy, hR⟩ := hY _ ⟨len - 1 - k, by omega⟩ wr hJs (by rw [back_length _ hk]; exact hlt)
      dsimp only at hy
      have hcx := hc2 (len - 1 - k) (by omega)
      have hi0 : (0 : Int) ≤ (len : Int) - 1 - k := by omega
      have hi1 : (len : Int) - 1 - k < len := by omega
      have hi2 : ((len : Int) - 1 - k).toNat = len - 1 - k := by omega
      have hi3 : ((len - 1 - k : Nat) : Int) = (len : Int) - 1 - k := by omega
      rw [hi3] at hy
      simp only [List.getD_eq_getElem?_getD] at hy hcx
      gi_wp2
      refine hR.mono ?_
      rintro e W3 (⟨rfl, hJ3, hk3⟩ | ⟨rfl, hJx3⟩)
      · gi_wp2
        go_roundw
        case rel =>
          refine ⟨k + 1, by omega, ?_, by rw [back_succ hlt]; exact hJ3, hKp _ _ hk3 hnx⟩
          congr 1; omega
        case measure => simp only [intOf]; omega
      · gi_wp2
        refine bodyPost_ret (results_none rfl _ _ _) rfl ?_
        exact ⟨⟨_, rfl⟩, .inr ⟨_, ⟨k + 1, by omega, (back_succ hlt).symm⟩, hJx3⟩⟩
    · obtain rfl : k = len := by omega
      have hneg : ¬ ((0 : Int) ≤ (k : Int) - 1 - k) := by omega
      gi_wp2
      go_end0
      first | exact ⟨⟨_, rfl⟩, .inl ⟨_, rfl, hJs⟩⟩ | exact ⟨⟨_, rfl⟩, .inl hJs⟩

set_option maxRecDepth 100000 in
set_option maxHeartbeats 1000000 in
theorem back_nil (F : Fence) (n : Nat) (hfn : F.fn 139) (hro : F.round = none) (q : Nat) (ad : Addr) (J : List (Fin 0) → World → Prop) (W : World) (hc0 : W.cell? ad = some (.slice none 0 0)) (h0 : J [] W) :
    CallsIn F n Tryd.prog 139 #[.func (.yield q) #[] #[], .pointer (some ad)] W fun e W' => (∃ v, e = .returned v) ∧ J [] W' := by
  refine callsIn_of_wp Tryd.func139 rfl hfn ?_ hro
  simp only [Tryd.ntmps139, List.size_toArray, List.length_cons, List.length_nil, Nat.reduceAdd, Nat.reduceSub, Array.replicate_succ, Array.replicate_zero, List.push_toArray, List.append_toArray, List.nil_append, List.cons_append]
  gi_wp2
  gi_loopw [3] (fun i wr => i = .int .i64 (-1) ∧ J [] wr) (fun _ _ => 0)
  case atStart => exact ⟨by simp, h0⟩
  case round =>
    obtain ⟨rfl, hJs⟩ := hrel
    gi_wp2
    go_end0
    first | exact ⟨⟨_, rfl⟩, hJs⟩ | exact hJs

theorem iter_back (l : List Nat) (hlen : l.length ≤ 17592186044416) : PIter E 139 [.ref [NL l]] l.length (fun j => u (l.getD j 0)) := by
  refine ⟨fun args w => ?_, fun w Pr lb hPr hsz hreps => ?_⟩
  · have h1 : (Tryd.f139).name ≠ "runtime.NumGoroutine" := by decide +kernel
    have hb : (Tryd.f139).body.isSome = true := by kernel_rfl
    obtain ⟨c, hc⟩ := Option.isSome_iff_exists.1 hb
    simp [callFunc, show E.P.funcs[139]? = some Tryd.f139 from Tryd.func139, h1, hc]
  · obtain ⟨v, rfl⟩ : ∃ v, lb = #[v] := by
      have h2 : lb.toList.length = 1 := by simpa using hsz
      match hv : lb.toList, h2 with
      | [x], _ => exact ⟨x, by apply Array.toList_inj.1; rw [hv]⟩
    obtain ⟨ad, xs, rfl, hall, hm⟩ := (hreps 0 _ v rfl rfl).ref_inv
    obtain ⟨sv, hsv, hrep, _⟩ := hall.at_ (j := 0) rfl
    have hm0 := hm 0 sv hsv
    rw [Addr.add_zero'] at hm0
    refine ⟨fun j => .int .u64 (l.getD j 0 : Nat), fun j hj => Rep.int _ _, fun q J Jx W hW hJ hJx hY h0 => ?_⟩
    have hb : ∀ p x, rd w Pr p = some x → W.cell? p = some x := fun p x hx => by
      obtain ⟨h1, h2⟩ := rd_some.1 hx
      rw [hW.cell (hPr _ _ h1)]; exact h2
    rcases hrep.lst_inv with ⟨rfl, h0l, _⟩ | ⟨b, cap, us, rfl, hn, _, hus, hmu⟩
    · have hl0 : l = [] := List.eq_nil_of_length_eq_zero h0l
      subst hl0
      refine (back_nil (RF none) 3 trivial rfl q ad J W (hb _ _ hm0) h0).mono fun e W' ⟨he, hj⟩ => ⟨he, .inl ⟨[], rfl, hj⟩⟩
    · refine back_in (RF none) 3 trivial rfl (by decide) q l.length cap ad b l hlen (Kg (rd w Pr)) J Jx
        (fun A => ∀ p x, rd w Pr p = some x → A.cell? p = some x) (fun A B hk hA p x hx => hk p x hx (hA p x hx)) (fun A hA => ⟨hA _ _ hm0, fun j hj => ?_⟩) hY W hb h0
      obtain ⟨x, hx, hrx, _⟩ := hus.at_ (j := j) (c := u (l.getD j 0)) (by rw [U_get, List.getD_eq_getElem?_getD, List.getElem?_eq_getElem hj]; rfl)
      have := hA _ _ (hmu j x hx)
      rw [this, hrx.int_inv]

theorem c_Backward (n : Nat) (cs : List PV) : PC E 128 [.lst n cs] (.clo 139 [.ref [.lst n cs]]) := by
  refine PC.of_body follows Tryd.func128 (by decide +kernel) rfl (by kernel_rfl) (Nat.le_of_ble_eq_true rfl) (walk ?_)
  simp only [Tryd.f128, go_sem, Int.reduceToNat, Int.reduceEq, Int.reduceNe, Int.reduceLT, Int.reduceLE, Int.reduceNeg, Int.reduceAdd, ↓reduceIte, ↓reduceCtorEq, Nat.reduceEqDiff, Nat.reduceAdd, Nat.reduceSub, Nat.reduceMul, Nat.reduceLeDiff, Nat.reduceLT]
end Go.Proofs.YtflpcgcgeffolaaDoor
