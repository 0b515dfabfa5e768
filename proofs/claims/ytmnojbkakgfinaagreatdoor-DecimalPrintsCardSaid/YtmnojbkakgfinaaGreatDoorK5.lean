/- Several parts in one text. -/
import Derived.Test.YtmnojbkakgfinaaGreatDoorK4
import Derived.Test.YtmnojbkakgfinaaGreatDoorI2
import Derived.Test.YtmnojbkakgfinaaGreatDoorK9
import Derived.Test.YtmnojbkakgfinaaGreatDoorG6
import Derived.Test.YtmnojbkakgfinaaGreatDoorI3
open Go PG Go.Proofs
namespace Go.Proofs.YtmnojbkakgfinaaGreatDoor
attribute [local go_sem] Lay2 Lay3 Lay4 Lay5 Lay6 Lay7 Lay8 Lay9 Lay10 Lay11 Lay12 Lay13 Lay14 Lay15 Lay16 Lay17 Lay18 Lay19 Lay21 Lay23 Lay24 Lay25 Lay26 Lay27 Lay28 Lay31 Lay32 Lay33 Lay40 Lay43 Lay44 Lay49 Lay50 Lay57 Lay58 Lay61 Lay68 Lay69 Lay72 Lay77 Lay125 Lay133 Lay134 Lay150 Lay167 Lay168 Lay169 Lay170 Lay180 Lay181 Lay185 Lay186 Lay189 Lay205 Lay208 Lay223 Lay227 Lay228 Lay231 Lay232 Lay233 Lay234 Lay235 Lay236 Lay237 Lay238 Lay240 Lay241 Lay242 Lay243 Lay244 Lay245 Lay246 Lay247 Lay249 Lay250 qexec_seq qexec_skip qexec_exit qexec_ret qexec_block qexec_loop qexec_range qexec_cond qexec_region qexec_drawn qops_nil qops_none qops_some put_some put_none pblk_exit pblk_other newDsts_nil inlDsts_nil isInl sget_cons sget_nil qval_some qbool_some qgs_bool qgs_und qfree_some qgrd_true qgrd_false qif_true qif_false qval_ite qval_itn qand_true map_ite map_some' map_none' qdo_move qdo_assign qdo_binOp qdo_pick qdo_unOp qdo_convert qdo_extract qdo_field qdo_fieldAddr qdo_alloc qdo_box qdo_build qdo_buildSlice qdo_load qdo_store qdo_nilCheck qdo_makeFunc qdo_makeSlice qdo_slice qdo_indexAddr qdo_call qcont_val qcont_new qcont_st qcont_app0 qcont_app qcont_inl qcont_call njSV_val njSV_nil njSV_row njSV_ptr njSV_sub binV_val binV_nil binV_nn binV_ptr bin_np bin_nnp nilCmp bin_add bin_sub bin_mul bin_quo bin_rem bin_and bin_or bin_xor bin_andNot bin_eql bin_neq bin_lss bin_leq bin_gtr bin_geq bin_shl bin_shr bin_seql bin_sneq bin_sadd bin_beql bin_aeql bin_aneq eqAnd_some eqCells_nil eqCells_cons fieldTypes isStruct eqCell bin_bneq un_not un_neg nj_ite Nat.beq stepA stepR isNew opSV constSV RV.sv allSome E_mu E_own qkeyIn_none qkeyIn_some qkeyAt_none qkeyAt_some Bool.or_false Bool.false_or Bool.or_true Bool.true_or cst setB res resSV pstart startL killL kill1 eraL frzL svPV rvPV rvInt rvSlice rvBytes frzOf close closeL pconv pbuiltin pmax2 partPV setCells fillPV zrow bound newSV PV.cells Bk.cells Bk.with SV.key pres presL_nil presL_tmp presL_cell presC2_some cellPV_ptr presC List.toList_toArray List.size_toArray List.getElem?_drop Nat.mul_one Int.toNat_natCast Nat.not_lt_zero Nat.lt_irrefl decide_true decide_false Nat.not_lt Option.some.injEq PV.lst.injEq PV.int.injEq PV.bool.injEq PV.tuple.injEq List.cons.injEq Option.map_some Option.map_none Option.bind_some Option.toList List.map_cons List.map_nil List.nil_append List.cons_append List.append_nil List.zip_cons_cons List.zip_nil_left List.zip_nil_right List.getElem?_cons_zero List.getElem?_cons_succ List.drop_zero List.drop_succ_cons List.take_succ_cons List.take_zero List.set_cons_zero List.set_cons_succ List.length_cons List.length_nil List.length_set List.replicate_one List.replicate_zero bne_self_eq_false beq_self_eq_true Nat.zero_add Nat.add_zero Nat.zero_mul Bool.false_eq_true Bool.true_eq_false Bool.not_true Bool.not_false and_true true_and false_and and_false or_false false_or or_true true_or not_true_eq_false not_false_eq_true ne_eq gt_iff_lt List.mem_cons List.not_mem_nil
attribute [local go_sem ↓] pseq_normal pseq_ret pseq_exit pblk_normal pblk_ret newDsts_cons inlDsts_cons gdst_zero gdst_succ retQ_normal retQ_ret qneed_nil qneed_cons retM_normal retM_ret endR_normal endR_ret endR_exit
attribute [local go_sem] Int.reduceToNat Int.reduceEq Int.reduceNe Int.reduceLT Int.reduceLE Int.reduceNeg Int.reduceAdd Nat.reduceEqDiff Nat.reduceAdd Nat.reduceSub Nat.reduceMul Nat.reduceLeDiff Nat.reduceLT
attribute [local go_sem ↓] reduceIte reduceCtorEq
/- planimeterref32.Read. -/
section
open Go PG Go.Proofs
set_option maxRecDepth 100000
set_option linter.unusedSimpArgs false
set_option linter.unusedVariables false

theorem VN_0d : VN 0 = .lst 0 [] := by
  have h : dg B 0 = [] := dg_zero B
  unfold VN VL
  rw [h]; rfl
theorem wrapU8d {i : Int} (h0 : 0 ≤ i) (h1 : i < 256) : IntKind.wrap .u8 i = i := by
  unfold IntKind.wrap
  simp [IntKind.bits, IntKind.signed]
  omega
/-- What the reader hands back. -/
def refQ (l : List UInt8) : List UInt8 := (dcR l).take (dqK l)
def refR (l : List UInt8) : PV :=
  if ¬ l.length ≤ 800 ∨ l = [] then .tuple [.agg [.bool false, .lst 0 [], .int .i64 0], .bool false]
  else if dcOk l = true then .tuple [.agg [.bool (dcN l), VN (dcM l), .int .i64 (dcE l)], .bool true]
  else .tuple [.agg [.bool (dcN l), VN (dn (WF (refQ l))), .int .i64 (-(fr (refQ l) : Nat))], .bool false]
theorem scan_take {r : List UInt8} {k : Nat} (h : scanD false r = k + scanD (hasC 46 (r.take k)) (r.drop k)) (hlt : k < r.length) :
    (dgt (r.getD k 0) = true → scanD false r = (k + 1) + scanD (hasC 46 (r.take (k + 1))) (r.drop (k + 1)) ∧ r.getD k 0 ≠ 46) ∧
    (r.getD k 0 = 46 → hasC 46 (r.take k) = false → scanD false r = (k + 1) + scanD (hasC 46 (r.take (k + 1))) (r.drop (k + 1))) ∧
    (dgt (r.getD k 0) = false → ¬ (r.getD k 0 = 46 ∧ hasC 46 (r.take k) = false) → scanD false r = k) := by
  have hsn := take_getD hlt
  rw [drop_getD hlt] at h
  refine ⟨fun h1 => ?_, fun h1 h2 => ?_, fun h1 h2 => ?_⟩
  · have h46 : r.getD k 0 ≠ 46 := fun e => by rw [e] at h1; exact absurd h1 (by decide)
    rw [scanD, if_pos h1] at h
    refine ⟨?_, h46⟩
    have e : hasC 46 (r.take (k + 1)) = hasC 46 (r.take k) := by
      rw [← hsn]
      cases hh : hasC 46 (r.take k) with
      | true => exact (cut_in _ hh).2.2
      | false => rw [(cut_out _ hh).2.2, hasC_cons, if_neg h46]; rfl
    rw [e]; omega
  · rw [h2, scanD, if_neg (by rw [h1]; decide), if_pos ⟨h1, rfl⟩] at h
    have e : hasC 46 (r.take (k + 1)) = true := by rw [← hsn, (cut_out _ h2).2.2, h1]; rfl
    rw [e]; omega
  · rw [scanD, if_neg (by rw [h1]; decide), if_neg h2] at h
    omega
theorem dexp_fin {S : List UInt8} {t : Nat} (h1 : t ≤ S.length) (h2 : (S.take t).all dgt = true) (h3 : t = S.length ∨ dgt (S.getD t 0) = false ∨ 5 ≤ t) (h5 : t ≤ 5) :
    (digs S = true ∧ S.length ≤ 4) ↔ t = S.length ∧ t ≠ 0 ∧ t ≤ 4 := by
  unfold digs
  rw [Bool.and_eq_true, decide_eq_true_eq]
  constructor
  · rintro ⟨⟨a1, a2⟩, a3⟩
    have a4 : S.length ≠ 0 := fun e => a1 (List.length_eq_zero_iff.1 e)
    rcases h3 with h | h | h
    · omega
    · by_cases e : t = S.length
      · omega
      · have := List.all_eq_true.1 a2 _ (getD_mem (show t < S.length by omega))
        rw [h] at this; cases this
    · omega
  · rintro ⟨rfl, a2, a3⟩
    rw [List.take_length] at h2
    exact ⟨⟨fun e => a2 (List.length_eq_zero_iff.2 e), h2⟩, a3⟩
set_option maxHeartbeats 4000000 in
theorem c_32Read {l : List UInt8} (hl : l.length < 9223372036854775807) : PC E 25 [TX l] (refR l) := by
  obtain ⟨R, hR⟩ : ∃ R, R = refR l := ⟨_, rfl⟩
  rw [← hR]
  have hzero : (¬ l.length ≤ 800 ∨ l = []) → R = .tuple [.agg [.bool false, .lst 0 [], .int .i64 0], .bool false] := fun h => by rw [hR]; unfold refR; rw [if_pos h]
  have hbad : l.length ≤ 800 → l ≠ [] → dcOk l = false → R = .tuple [.agg [.bool (dcN l), VN (dn (WF (refQ l))), .int .i64 (-(fr (refQ l) : Nat))], .bool false] := fun h1 h2 h3 => by
    rw [hR]; unfold refR; rw [if_neg (fun h => by rcases h with h | h; exact h h1; exact h2 h), h3, if_neg (by decide)]
  have hgood : l.length ≤ 800 → l ≠ [] → dcOk l = true → R = .tuple [.agg [.bool (dcN l), VN (dcM l), .int .i64 (dcE l)], .bool true] := fun h1 h2 h3 => by
    rw [hR]; unfold refR; rw [if_neg (fun h => by rcases h with h | h; exact h h1; exact h2 h), if_pos h3]
  clear hR
  obtain ⟨o, ho⟩ : ∃ o : Nat, o = if dcN l = true then 1 else 0 := ⟨_, rfl⟩
  have hN : dcN l = true ↔ 0 < l.length ∧ l.getD 0 0 = 45 := hasP1 l 45
  have hr2 : dcR l = l.drop o := by rw [ho]; unfold dcR dcN; split <;> simp
  have ho1 : o ≤ 1 := by rw [ho]; split <;> omega
  have hol : l ≠ [] → o ≤ l.length := fun h => by
    have := List.length_pos_iff.2 h
    omega
  have hN2 : dcN l = true ↔ 0 < l.length ∧ (((l.getD 0 0).toNat : Nat) : Int) = 45 := by rw [hN, show (45 : Int) = (((45 : UInt8).toNat : Nat) : Int) from rfl, u8_eq]
  have v1 : IntKind.wrap .i64 1 = 1 := by decide
  simp only [TX]
  refine PC.of_sem Tryz.func25 (by decide +kernel) rfl (Nat.le_of_ble_eq_true rfl) ?_
  refine PSem.cut follows (by kernel_rfl) 5 (fun _ : Unit => ⟨[(0, .val (.str (B8 l))), (2, .ptr 2 0), (4, .ptr 4 0), (5, .val (.int .i64 (o : Nat)))],
    [(2, (.box [.bool false, .lst 0 [], .int .i64 0], false)), (4, (.box [.bool (dcN l), .lst 0 [], .int .i64 0], false))]⟩) (fun _ => l.length ≤ 800 ∧ l ≠ []) ?_ (fun _ hJ => ?_)
  · simp only [Tryz.f25, B8_size, B8_cut, B8_eq, B8_mk, B8_app, Int.toNat_natCast, qfirst_succ, qfirst_zero, after_succ, after_zero, go_sem]
    refine qif_d (fun h => ?_) (fun h => ?_)
    · simp only [Tryz.f25, B8_size, B8_cut, B8_eq, B8_mk, B8_app, Int.toNat_natCast, qfirst_succ, qfirst_zero, after_succ, after_zero, go_sem]
      try (refine qif_dt (by omega) ?_; simp only [Tryz.f25, B8_size, B8_cut, B8_eq, B8_mk, B8_app, Int.toNat_natCast, qfirst_succ, qfirst_zero, after_succ, after_zero, go_sem])
      rw [hzero (.inl (by omega))]
    simp only [Tryz.f25, B8_size, B8_cut, B8_eq, B8_mk, B8_app, Int.toNat_natCast, qfirst_succ, qfirst_zero, after_succ, after_zero, go_sem]
    refine qif_d (fun h1 => ?_) (fun h1 => ?_)
    · simp only [Tryz.f25, B8_size, B8_cut, B8_eq, B8_mk, B8_app, Int.toNat_natCast, qfirst_succ, qfirst_zero, after_succ, after_zero, go_sem]
      rw [hzero (.inr (List.length_eq_zero_iff.1 (by omega)))]
    have hi := idxS_B8 (l := l) (n := 0) (by decide) (by rw [show (0 : Int).toNat = 0 from rfl]; omega)
    rw [show (0 : Int).toNat = 0 from rfl] at hi
    have hne : l ≠ [] := fun e => h1 (by rw [e]; rfl)
    simp only [Tryz.f25, B8_size, B8_cut, B8_eq, B8_mk, B8_app, Int.toNat_natCast, qfirst_succ, qfirst_zero, after_succ, after_zero, go_sem]
    refine qdo_indexS Lay9.1 rfl rfl ?_
    simp only [Tryz.f25, B8_size, B8_cut, B8_eq, B8_mk, B8_app, Int.toNat_natCast, hi, qfirst_succ, qfirst_zero, after_succ, after_zero, go_sem]
    refine qif_d (fun h2 => ?_) (fun h2 => ?_)
    · have hn : dcN l = true := hN2.2 ⟨by omega, h2⟩
      rw [if_pos hn] at ho
      subst ho
      rw [hn]
      simp only [Tryz.f25, B8_size, B8_cut, B8_eq, B8_mk, B8_app, Int.toNat_natCast, qfirst_succ, qfirst_zero, after_succ, after_zero, v1, go_sem]
      refine ⟨(), ⟨by omega, hne⟩, ?_⟩
      simp [Wk, sget, killL, kill1, SV.key]
    · have hn : dcN l = false := by
        cases hh : dcN l with
        | false => rfl
        | true => exact absurd (hN2.1 hh).2 h2
      rw [hn, if_neg (by decide)] at ho
      subst ho
      rw [hn]
      simp only [Tryz.f25, B8_size, B8_cut, B8_eq, B8_mk, B8_app, Int.toNat_natCast, qfirst_succ, qfirst_zero, after_succ, after_zero, go_sem]
      refine ⟨(), ⟨by omega, hne⟩, ?_⟩
      simp [Wk, sget, killL, kill1, SV.key]
  obtain ⟨h8, hne⟩ := hJ
  have hlo := hol hne
  have hbad := hbad h8 hne
  have hgood := hgood h8 hne
  have hrl : l.length = o + (dcR l).length := by rw [hr2, List.length_drop]; omega
  have hgr : ∀ k, l.getD (o + k) 0 = (dcR l).getD k 0 := fun k => by rw [hr2, drop_get]
  clear hN hN2 ho hol hzero
  obtain ⟨r, hr⟩ : ∃ r, r = dcR l := ⟨_, rfl⟩
  have hKd : dqK l = scanD false r := by rw [hr]; rfl
  rw [← hr] at hrl hgr hr2
  have hQ : refQ l = r.take (dqK l) := by unfold refQ; rw [hr]
  rw [hQ] at hbad
  have hrl8 : r.length ≤ 800 := by omega
  refine PSem.cut follows (by kernel_rfl) 7 (fun _ : Unit => ⟨[(0, .val (.str (B8 l))), (2, .ptr 2 0), (4, .ptr 4 0), (5, .val (.int .i64 ((o + (dqK l + 1) : Nat) : Int)))],
    [(2, (.box [.bool false, .lst 0 [], .int .i64 0], false)), (4, (.box [.bool (dcN l), VN (dn (WF (r.take (dqK l)))), .int .i64 (-(fr (r.take (dqK l)) : Nat))], false))]⟩)
    (fun _ => dqK l < r.length ∧ r.getD (dqK l) 0 = 101 ∧ (WF (r.take (dqK l))).all dgt = true ∧ ¬ (cutA 46 (r.take (dqK l)) = [] ∨ hasC 46 (r.take (dqK l)) = true ∧ cutB 46 (r.take (dqK l)) = [])) ?_ (fun _ hJ => ?_)
  · simp only [Tryz.f25, B8_size, B8_cut, B8_eq, B8_mk, B8_app, Int.toNat_natCast, qfirst_succ, qfirst_zero, after_succ, after_zero, go_sem]
    refine PLoop.intro (fun k : Nat => ⟨[(0, .val (.str (B8 l))), (2, .ptr 2 0), (4, .ptr 4 0), (5, .val (.int .i64 ((o + k : Nat) : Int))), (6, .val (.int .i64 o)), (7, .val (.int .i64 (ptO o (r.take k))))],
      [(2, (.box [.bool false, .lst 0 [], .int .i64 0], false)), (4, (.box [.bool (dcN l), VN (dn (WF (r.take k))), .int .i64 (-(fr (r.take k) : Nat))], false))]⟩)
      (fun k => k ≤ r.length ∧ scanD false r = k + scanD (hasC 46 (r.take k)) (r.drop k) ∧ (WF (r.take k)).all dgt = true) (fun k => r.length - k) 0 ⟨Nat.zero_le _, by simp [hasC_nil], rfl⟩ ?_ fun k hk => walk ?_
    · have e1 : WF (r.take 0) = [] := rfl
      have e2 : fr (r.take 0) = 0 := rfl
      have e3 : ptO o (r.take 0) = -1 := rfl
      rw [e1, e2, e3, show dn [] = 0 from rfl, VN_0d]
      simp [Wk, sget, killL, kill1, SV.key]
    obtain ⟨hk, hsc, hw⟩ := hk
    have wi : IntKind.wrap .i64 (((o + k : Nat) : Int) + 1) = ((o + (k + 1) : Nat) : Int) := by rw [wrap64 (by omega) (by omega)]; omega
    have wj : IntKind.wrap .i64 (((o + k : Nat) : Int) - 1) = ((o + k : Nat) : Int) - 1 := wrap64 (by omega) (by omega)
    have hlk : (r.take k).length = k := by rw [List.length_take]; omega
    have ht := dq_tests o (r.take k)
    rw [hlk] at ht
    by_cases hlt : k < r.length
    case neg =>
      have hke : k = r.length := by omega
      have hKk : dqK l = k := by
        rw [hKd, hsc, List.drop_of_length_le (by omega)]; rfl
      rw [hKk] at hbad
      have hb1 := fun h => hbad (by
        have := dq_bad1 (l := l) o
        rw [← hr, hKk, hlk] at this
        exact this h)
      have hg1 : ¬ (k = 0 ∨ ptO o (r.take k) = (o : Int) ∨ ptO o (r.take k) = ((o + k : Nat) : Int) - 1) → R = .tuple [.agg [.bool (dcN l), VN (dn (WF (r.take k))), .int .i64 (-(fr (r.take k) : Nat))], .bool true] := fun h => by
        rw [ht] at h
        have hg := dq_good (l := l)
        rw [← hr, hKk] at hg
        obtain ⟨g1, g2, g3, -⟩ := hg hw (.inl (List.drop_of_length_le (by omega))) h
        have g4 := g3 (List.drop_of_length_le (by omega))
        have hok : dcOk l = true := by unfold dcOk dcOk2; rw [g2, g4]; rfl
        rw [hgood hok]
        have eM : dcM l = dn (WF (r.take k)) := by unfold dcM dcW dcF WF; rw [g1]
        have eE : dcE l = -(fr (r.take k) : Nat) := by unfold dcE dcF fr; rw [g1, g4]; simp
        rw [eM, eE]
      clear hbad hgood ht
      generalize ptO o (r.take k) = pt at *
      simp only [Tryz.f25, B8_size, B8_cut, B8_eq, B8_mk, B8_app, Int.toNat_natCast, qfirst_succ, qfirst_zero, after_succ, after_zero, go_sem]
      refine qif_df (by omega) ?_
      simp only [Tryz.f25, B8_size, B8_cut, B8_eq, B8_mk, B8_app, Int.toNat_natCast, qfirst_succ, qfirst_zero, after_succ, after_zero, wj, go_sem]
      repeat' first
        | (exfalso; omega)
        | ((with_reducible refine qif_d (fun h => ?_) (fun h => ?_)) <;> first | (exfalso; omega) | simp only [Tryz.f25, B8_size, B8_cut, B8_eq, B8_mk, B8_app, Int.toNat_natCast, qfirst_succ, qfirst_zero, after_succ, after_zero, wj, go_sem])
        | exact (hb1 (by omega)).symm
        | exact (hg1 (by omega)).symm
    have hi := idxS_B8 (l := l) (n := ((o + k : Nat) : Int)) (by omega) (by rw [Int.toNat_natCast]; omega)
    rw [Int.toNat_natCast, hgr k] at hi
    obtain ⟨st1, st2, st3⟩ := scan_take hsc hlt
    have hx46 : (((r.getD k 0).toNat : Nat) : Int) = 46 ↔ r.getD k 0 = 46 := by rw [show (46 : Int) = (((46 : UInt8).toNat : Nat) : Int) from rfl, u8_eq]
    have hx101 : (((r.getD k 0).toNat : Nat) : Int) = 101 ↔ r.getD k 0 = 101 := by rw [show (101 : Int) = (((101 : UInt8).toNat : Nat) : Int) from rfl, u8_eq]
    have hdg : dgt (r.getD k 0) = decide (48 ≤ (r.getD k 0).toNat ∧ (r.getD k 0).toNat ≤ 57) := rfl
    have hsn := take_getD hlt
    have hp := pt_neg (o := o) (q := r.take k)
    have hx256 : (r.getD k 0).toNat < 256 := UInt8.toNat_lt _
    have hwp := fun (h : hasC 46 (r.take k) = false) => wf_pt h o
    have hwd := fun (h : r.getD k 0 ≠ 46 ∨ hasC 46 (r.take k) = true) => wf_dig h o
    have hlw := wf_len (r.take k)
    rw [hlk] at hlw
    have hdlt : dgt (r.getD k 0) = true ↔ 48 ≤ (r.getD k 0).toNat ∧ (r.getD k 0).toNat ≤ 57 := by rw [hdg, decide_eq_true_eq]
    clear hdg
    by_cases hd : dgt (r.getD k 0) = true
    · -- a digit
      obtain ⟨sc1, h46⟩ := st1 hd
      obtain ⟨g1, g2, g3⟩ := hwd (.inl h46)
      rw [hsn] at g1 g2 g3
      have hdx := hdlt.1 hd
      obtain ⟨d, hdv⟩ : ∃ d, d = (r.getD k 0).toNat - 48 := ⟨_, rfl⟩
      have y1 : (WF (r.take (k + 1))).all dgt = true := by rw [g1, List.all_append, hw, List.all_cons, hd]; rfl
      have y2 : dn (WF (r.take (k + 1))) = dn (WF (r.take k)) * 10 + d := by rw [g1, dn_snoc, hdv]
      have k1 := c_Num 10 (by decide)
      have hM : bitLen (dn (WF (r.take k))) ≤ 3300 := by
        have h1 := dn_lt _ hw
        have h2 := ten_bits (WF (r.take k)).length
        have h3 : bitLen (dn (WF (r.take k))) ≤ bitLen (10 ^ (WF (r.take k)).length) := bitLen_mono (Nat.le_of_lt h1)
        omega
      have k2 := c_2Mul (dn (WF (r.take k))) 10 (Nat.le_trans (dgB_le_of_bits (n := 400) (by omega)) (by decide)) (Nat.le_trans (dgB_le_of_bits (n := 400) (by decide)) (by decide))
      have k3 := c_Num d (show d < 18446744073709551616 by omega)
      have hb16 : bitLen (dn (WF (r.take k)) * 10) ≤ 3400 := by
        have := bitLen_mul_le (dn (WF (r.take k))) 10
        have : bitLen 10 = 4 := by decide +kernel
        omega
      have hbd : bitLen d ≤ 2000 := Nat.le_trans ((bitLen_le d 8).2 (by omega)) (by decide)
      have k4 := c_rAdd (dn (WF (r.take k)) * 10) d (Nat.le_trans (dgB_le_of_bits (n := 400) (by omega)) (by decide)) (Nat.le_trans (dgB_le_of_bits (n := 400) (by omega)) (by decide))
      rw [← y2] at k4
      have hfin : ∃ i', (i' ≤ r.length ∧ scanD false r = i' + scanD (hasC 46 (r.take i')) (r.drop i') ∧ (WF (r.take i')).all dgt = true) ∧ r.length - i' < r.length - k ∧ i' = k + 1 := ⟨k + 1, ⟨by omega, sc1, y1⟩, by omega, rfl⟩
      have hx1 : ¬ (((r.getD k 0).toNat : Nat) : Int) = 46 := fun h => h46 (hx46.1 h)
      have a1 : IntKind.wrap .u8 ((((r.getD k 0).toNat : Nat) : Int) - 48) = d := by rw [wrapU8d (by omega) (by omega)]; omega
      have a2 : IntKind.wrap .u64 (d : Int) = d := by rw [IntKind.wrap_u64]; omega
      have we : IntKind.wrap .i64 (-(fr (r.take k) : Int) - 1) = -(fr (r.take k) : Int) - 1 := wrap64 (by omega) (by omega)
      clear hwp hwd hb16 hbd hM y1 y2 st1 st2 st3 sc1 ht hp hbad hgood hx46 hx101 hdlt
      generalize ptO o (r.take k) = pt at *
      generalize (r.getD k 0).toNat = x at *
      simp only [u, Int.cast_ofNat_Int, VN, VL] at k1 k2 k3 k4 ⊢
      simp only [Tryz.f25, B8_size, B8_cut, B8_eq, B8_mk, B8_app, Int.toNat_natCast, qfirst_succ, qfirst_zero, after_succ, after_zero, go_sem]
      repeat' first
        | (exfalso; omega)
        | ((with_reducible refine qif_d (fun h => ?_) (fun h => ?_)) <;> first | (exfalso; omega) | simp only [Tryz.f25, B8_size, B8_cut, B8_eq, B8_mk, B8_app, Int.toNat_natCast, qfirst_succ, qfirst_zero, after_succ, after_zero, wi, a1, a2, go_sem])
        | ((with_reducible refine qdo_indexS Lay9.1 rfl rfl ?_); simp only [Tryz.f25, B8_size, B8_cut, B8_eq, B8_mk, B8_app, Int.toNat_natCast, hi, qfirst_succ, qfirst_zero, after_succ, after_zero, wi, a1, a2, go_sem])
        | ((with_reducible refine qcall_i k1 ?_); simp only [Tryz.f25, B8_size, B8_cut, B8_eq, B8_mk, B8_app, Int.toNat_natCast, qfirst_succ, qfirst_zero, after_succ, after_zero, hi, a1, a2, go_sem])
        | ((with_reducible refine qcall_i k2 ?_); simp only [Tryz.f25, B8_size, B8_cut, B8_eq, B8_mk, B8_app, Int.toNat_natCast, qfirst_succ, qfirst_zero, after_succ, after_zero, hi, a1, a2, go_sem])
        | ((with_reducible refine qcall_i k3 ?_); simp only [Tryz.f25, B8_size, B8_cut, B8_eq, B8_mk, B8_app, Int.toNat_natCast, qfirst_succ, qfirst_zero, after_succ, after_zero, hi, a1, a2, go_sem])
        | ((with_reducible refine qcall_i k4 ?_); simp only [Tryz.f25, B8_size, B8_cut, B8_eq, B8_mk, B8_app, Int.toNat_natCast, qfirst_succ, qfirst_zero, after_succ, after_zero, wi, we, go_sem])
      all_goals
        obtain ⟨i', f1, f2, rfl⟩ := hfin
        refine ⟨k + 1, f1, f2, ?_⟩
        rw [g2]
        first
          | (rw [if_pos (by omega)] at g3; rw [g3, show -((fr (r.take k) : Int) + 1) = -(fr (r.take k) : Int) - 1 by omega]; simp [Wk, sget, killL, kill1, SV.key, VN, VL, we]; done)
          | (rw [if_neg (by omega)] at g3; rw [g3]; simp [Wk, sget, killL, kill1, SV.key, VN, VL]; done)
    by_cases hP : r.getD k 0 = 46 ∧ ptO o (r.take k) < 0
    · -- the point
      obtain ⟨hc46, hpn⟩ := hP
      have sc1 := st2 hc46 (hp.1 hpn)
      obtain ⟨g1, g2, g3⟩ := hwp (hp.1 hpn)
      rw [← hc46, hsn] at g1 g2 g3
      rw [hlk] at g2
      have hx1 := hx46.2 hc46
      have hfin : ∃ i', (i' ≤ r.length ∧ scanD false r = i' + scanD (hasC 46 (r.take i')) (r.drop i') ∧ (WF (r.take i')).all dgt = true) ∧ r.length - i' < r.length - k ∧ i' = k + 1 := ⟨k + 1, ⟨by omega, sc1, by rw [g1]; exact hw⟩, by omega, rfl⟩
      clear hwp hwd st1 st2 st3 sc1 ht hp hbad hgood hx46 hx101 hdlt
      generalize ptO o (r.take k) = pt at *
      generalize (r.getD k 0).toNat = x at *
      simp only [Tryz.f25, B8_size, B8_cut, B8_eq, B8_mk, B8_app, Int.toNat_natCast, qfirst_succ, qfirst_zero, after_succ, after_zero, go_sem]
      repeat' first
        | (exfalso; omega)
        | ((with_reducible refine qif_d (fun h => ?_) (fun h => ?_)) <;> first | (exfalso; omega) | simp only [Tryz.f25, B8_size, B8_cut, B8_eq, B8_mk, B8_app, Int.toNat_natCast, qfirst_succ, qfirst_zero, after_succ, after_zero, wi, go_sem])
        | ((with_reducible refine qdo_indexS Lay9.1 rfl rfl ?_); simp only [Tryz.f25, B8_size, B8_cut, B8_eq, B8_mk, B8_app, Int.toNat_natCast, hi, qfirst_succ, qfirst_zero, after_succ, after_zero, wi, go_sem])
      all_goals
        obtain ⟨i', f1, f2, rfl⟩ := hfin
        refine ⟨k + 1, f1, f2, ?_⟩
        rw [g1, g2, g3]
        simp [Wk, sget, killL, kill1, SV.key]
    · -- the scan is over
      have hnp : ¬ (r.getD k 0 = 46 ∧ hasC 46 (r.take k) = false) := fun h => hP ⟨h.1, hp.2 h.2⟩
      have hKk : dqK l = k := by rw [hKd]; exact st3 (by simpa using hd) hnp
      rw [hKk] at hbad ⊢
      have hb1 := fun h => hbad (by
        have := dq_bad1 (l := l) o
        rw [← hr, hKk, hlk] at this
        exact this h)
      have hdk := drop_getD hlt
      have hb2 : ¬ (((r.getD k 0).toNat : Nat) : Int) = 101 → R = .tuple [.agg [.bool (dcN l), VN (dn (WF (r.take k))), .int .i64 (-(fr (r.take k) : Nat))], .bool false] := fun h => hbad (by
        have := dq_bad2 (l := l)
        rw [← hr, hKk, hdk] at this
        exact this (by simp) (fun e => h (hx101.2 (by simpa using e))))
      have hJ : ¬ (k = 0 ∨ ptO o (r.take k) = (o : Int) ∨ ptO o (r.take k) = ((o + k : Nat) : Int) - 1) → (((r.getD k 0).toNat : Nat) : Int) = 101 → k < r.length ∧ r.getD k 0 = 101 ∧ (WF (r.take k)).all dgt = true ∧ ¬ (cutA 46 (r.take k) = [] ∨ hasC 46 (r.take k) = true ∧ cutB 46 (r.take k) = []) := fun h1 h2 => ⟨hlt, hx101.1 h2, hw, fun h => h1 (ht.2 h)⟩
      have hPx : ¬ ((((r.getD k 0).toNat : Nat) : Int) = 46 ∧ ptO o (r.take k) < 0) := fun h => hP ⟨hx46.1 h.1, h.2⟩
      have hdx : ¬ (48 ≤ (r.getD k 0).toNat ∧ (r.getD k 0).toNat ≤ 57) := fun h => hd (hdlt.2 h)
      clear hwp hwd st1 st2 st3 ht hp hbad hgood hx46 hx101 hdlt
      generalize ptO o (r.take k) = pt at *
      generalize (r.getD k 0).toNat = x at *
      simp only [Tryz.f25, B8_size, B8_cut, B8_eq, B8_mk, B8_app, Int.toNat_natCast, qfirst_succ, qfirst_zero, after_succ, after_zero, go_sem]
      repeat' first
        | (exfalso; omega)
        | ((with_reducible refine qif_d (fun h => ?_) (fun h => ?_)) <;> first | (exfalso; omega) | simp only [Tryz.f25, B8_size, B8_cut, B8_eq, B8_mk, B8_app, Int.toNat_natCast, qfirst_succ, qfirst_zero, after_succ, after_zero, wi, wj, go_sem])
        | ((with_reducible refine qdo_indexS Lay9.1 rfl rfl ?_); simp only [Tryz.f25, B8_size, B8_cut, B8_eq, B8_mk, B8_app, Int.toNat_natCast, hi, qfirst_succ, qfirst_zero, after_succ, after_zero, wi, wj, go_sem])
        | exact (hb1 (by omega)).symm
        | exact (hb2 (by omega)).symm
        | (refine ⟨(), hJ (by omega) (by omega), ?_⟩; simp [Wk, sget, killL, kill1, SV.key]; done)
  obtain ⟨hKl, hc, hw, hWt⟩ := hJ
  have hdk := drop_getD hKl
  rw [hc] at hdk
  have hg := dq_good (l := l)
  rw [← hr] at hg
  obtain ⟨g1, g2, -, g4⟩ := hg hw (.inr ⟨_, hdk⟩) hWt
  obtain ⟨g6, g5⟩ := g4 _ hdk
  clear g4
  have eM : dcM l = dn (WF (r.take (dqK l))) := by unfold dcM dcW dcF WF; rw [g1]
  have eF : ((dcF l).length : Nat) = fr (r.take (dqK l)) := by unfold dcF fr; rw [g1]
  have eE : dcE l = (if hasP (dcX l) [45] = true then -((dn (expS (dcX l)) : Nat) : Int) else ((dn (expS (dcX l)) : Nat) : Int)) - (fr (r.take (dqK l)) : Nat) := by unfold dcE; rw [g6, if_pos rfl, eF]
  have eO : dcOk l = true ↔ (digs (expS (dcX l)) = true ∧ (expS (dcX l)).length ≤ 4) ∧ dn (expS (dcX l)) ≤ 2000 := by
    unfold dcOk dcOk2
    rw [g2, g6]
    simp only [Bool.not_true, Bool.false_or, Bool.true_and, Bool.and_eq_true, decide_eq_true_eq, and_assoc]
  rw [eM, eE] at hgood
  have hlf := wf_len (r.take (dqK l))
  have hla : (r.take (dqK l)).length ≤ 800 := by rw [List.length_take]; omega
  obtain ⟨i0, hi0⟩ : ∃ i0, i0 = o + (dqK l + 1) := ⟨_, rfl⟩
  have hi0l : i0 ≤ l.length := by omega
  have hEE : dcX l = l.drop i0 := by rw [g5, hr2, List.drop_drop, hi0]
  rw [← hi0]
  clear hg g1 g2 g6 g5 eM eF eE hi0 hdk hc hKl hw hWt hgr hr2 hrl8 hrl hlo ho1 o hKd hQ
  generalize r.take (dqK l) = q at *
  clear hr r
  have hEl : (dcX l).length = l.length - i0 := by rw [hEE, List.length_drop]
  obtain ⟨j, hj⟩ : ∃ j, j = i0 + if hasP (dcX l) [45] = true then 1 else 0 := ⟨_, rfl⟩
  have hS : expS (dcX l) = l.drop j := by
    unfold expS
    rw [hj]
    split
    · rw [hEE, List.drop_drop]; rfl
    · rw [hEE]; rfl
  have hPm := hasP1 (dcX l) 45
  rw [hEl] at hPm
  have hjl : j ≤ l.length := by rw [hj]; split; (rename_i h; have := hPm.1 h; omega); omega
  rw [hEE, drop_get] at hPm
  rw [← hEE] at hPm
  refine PSem.cut follows (by kernel_rfl) 2 (fun _ : Unit => ⟨[(0, .val (.str (B8 l))), (2, .ptr 2 0), (4, .ptr 4 0), (5, .val (.int .i64 (j : Nat))), (8, .val (.bool (hasP (dcX l) [45])))],
    [(2, (.box [.bool false, .lst 0 [], .int .i64 0], false)), (4, (.box [.bool (dcN l), VN (dn (WF q)), .int .i64 (-(fr q : Nat))], false))]⟩) (fun _ => True) ?_ (fun _ _ => ?_)
  · have hi := fun h : i0 < l.length => idxS_B8 (l := l) (n := ((i0 : Nat) : Int)) (by omega) (by rw [Int.toNat_natCast]; omega)
    simp only [Int.toNat_natCast] at hi
    have hx45 : (((l.getD i0 0).toNat : Nat) : Int) = 45 ↔ l.getD i0 0 = 45 := by rw [show (45 : Int) = (((45 : UInt8).toNat : Nat) : Int) from rfl, u8_eq]
    have wi : IntKind.wrap .i64 ((i0 : Nat) + 1 : Int) = ((i0 + 1 : Nat) : Int) := by rw [wrap64 (by omega) (by omega)]; omega
    rw [Nat.add_zero, ← hx45] at hPm
    clear hgood hbad eO hS
    generalize hasP (dcX l) [45] = m at *
    generalize (l.getD i0 0).toNat = x at *
    simp only [Tryz.f25, B8_size, B8_cut, B8_eq, B8_mk, B8_app, Int.toNat_natCast, qfirst_succ, qfirst_zero, after_succ, after_zero, go_sem]
    refine qif_d (fun h1 => ?_) (fun h1 => ?_)
    · have hi := hi (by omega)
      simp only [Tryz.f25, B8_size, B8_cut, B8_eq, B8_mk, B8_app, Int.toNat_natCast, qfirst_succ, qfirst_zero, after_succ, after_zero, go_sem]
      refine qdo_indexS Lay9.1 rfl rfl ?_
      simp only [Tryz.f25, B8_size, B8_cut, B8_eq, B8_mk, B8_app, Int.toNat_natCast, hi, qfirst_succ, qfirst_zero, after_succ, after_zero, go_sem]
      refine qif_d (fun h2 => ?_) (fun h2 => ?_)
      · have hm : m = true := hPm.2 ⟨by omega, h2⟩
        subst hm
        rw [if_pos rfl] at hj
        subst hj
        simp only [Tryz.f25, B8_size, B8_cut, B8_eq, B8_mk, B8_app, Int.toNat_natCast, qfirst_succ, qfirst_zero, after_succ, after_zero, wi, go_sem]
        refine ⟨(), ?_⟩
        simp [Wk, sget, killL, kill1, SV.key]
      · have hm : m = false := by
          cases m with
          | false => rfl
          | true => exact absurd (hPm.1 rfl).2 h2
        subst hm
        rw [if_neg (by decide), Nat.add_zero] at hj
        subst hj
        simp only [Tryz.f25, B8_size, B8_cut, B8_eq, B8_mk, B8_app, Int.toNat_natCast, qfirst_succ, qfirst_zero, after_succ, after_zero, go_sem]
        refine ⟨(), ?_⟩
        simp [Wk, sget, killL, kill1, SV.key]
    · have hm : m = false := by
        cases m with
        | false => rfl
        | true => exact absurd (hPm.1 rfl).1 (by omega)
      subst hm
      rw [if_neg (by decide), Nat.add_zero] at hj
      subst hj
      simp only [Tryz.f25, B8_size, B8_cut, B8_eq, B8_mk, B8_app, Int.toNat_natCast, qfirst_succ, qfirst_zero, after_succ, after_zero, go_sem]
      refine ⟨(), ?_⟩
      simp [Wk, sget, killL, kill1, SV.key]
  have hSl : (expS (dcX l)).length = l.length - j := by rw [hS, List.length_drop]
  have hgd : ∀ t, (expS (dcX l)).getD t 0 = l.getD (j + t) 0 := fun t => by rw [hS, drop_get]
  have hexp := fun t => dexp_fin (S := expS (dcX l)) (t := t)
  generalize expS (dcX l) = S at *
  generalize hasP (dcX l) [45] = m at *
  refine PSem.last follows (by kernel_rfl) ?_
  simp only [Tryz.f25, B8_size, B8_cut, B8_eq, B8_mk, B8_app, Int.toNat_natCast, qfirst_succ, qfirst_zero, after_succ, after_zero, go_sem]
  refine PLoop.intro (fun t : Nat => ⟨[(0, .val (.str (B8 l))), (2, .ptr 2 0), (4, .ptr 4 0), (5, .val (.int .i64 ((j + t : Nat) : Int))), (8, .val (.bool m)), (9, .val (.int .i64 (dn (S.take t) : Nat))), (10, .val (.int .i64 t))],
    [(2, (.box [.bool false, .lst 0 [], .int .i64 0], false)), (4, (.box [.bool (dcN l), VN (dn (WF q)), .int .i64 (-(fr q : Nat))], false))]⟩)
    (fun t => t ≤ S.length ∧ t ≤ 5 ∧ (S.take t).all dgt = true) (fun t => S.length - t) 0 ⟨Nat.zero_le _, by omega, rfl⟩ ?_ fun t ht => walk ?_
  · simp [Wk, sget, killL, kill1, SV.key, dn]
  obtain ⟨ht1, ht6, hta⟩ := ht
  have hDl := dn_lt _ hta
  rw [List.length_take] at hDl
  have hD6 : dn (S.take t) < 10 ^ 6 := Nat.lt_of_lt_of_le hDl (Nat.pow_le_pow_right (by decide) (by omega))
  have hexpt := hexp t ht1 hta
  clear hexp hDl
  by_cases hlt : t < S.length
  · have hi := idxS_B8 (l := l) (n := ((j + t : Nat) : Int)) (by omega) (by rw [Int.toNat_natCast]; omega)
    rw [Int.toNat_natCast, ← hgd] at hi
    have hsn := take_getD hlt
    have hdg : dgt (S.getD t 0) = decide (48 ≤ (S.getD t 0).toNat ∧ (S.getD t 0).toNat ≤ 57) := rfl
    have hne2 : (¬ (48 ≤ (S.getD t 0).toNat ∧ (S.getD t 0).toNat ≤ 57) ∨ 5 ≤ t) → R = .tuple [.agg [.bool (dcN l), VN (dn (WF q)), .int .i64 (-(fr q : Nat))], .bool false] := fun h => by
      refine hbad (by
        cases hh : dcOk l with
        | false => rfl
        | true =>
          have := (hexpt (by rcases h with h | h; exact .inr (.inl (by rw [hdg]; exact decide_eq_false h)); exact .inr (.inr h)) ht6).1 (eO.1 hh).1
          omega)
    have hnx : 48 ≤ (S.getD t 0).toNat ∧ (S.getD t 0).toNat ≤ 57 → (S.take (t + 1)).all dgt = true ∧ dn (S.take (t + 1)) = dn (S.take t) * 10 + ((S.getD t 0).toNat - 48) := fun h => by
      rw [← hsn, dn_snoc, List.all_append, hta, List.all_cons, hdg, decide_eq_true h]
      exact ⟨rfl, rfl⟩
    have hx256 : (S.getD t 0).toNat < 256 := UInt8.toNat_lt _
    clear hexpt hsn hdg hgd hbad hgood eO
    generalize (S.getD t 0).toNat = x at *
    have m0 : IntKind.wrap .i64 (10 * (dn (S.take t) : Int)) = 10 * (dn (S.take t) : Int) := wrap64 (by omega) (by omega)
    have m1 : 48 ≤ x → IntKind.wrap .u8 ((x : Int) - 48) = ((x - 48 : Nat) : Int) := fun h => by rw [wrapU8d (by omega) (by omega)]; omega
    have m2 : IntKind.wrap .i64 ((x - 48 : Nat) : Int) = ((x - 48 : Nat) : Int) := wrap64 (by omega) (by omega)
    have m3 : 48 ≤ x ∧ x ≤ 57 → IntKind.wrap .i64 (10 * (dn (S.take t) : Int) + ((x - 48 : Nat) : Int)) = (dn (S.take (t + 1)) : Nat) := fun h => by rw [(hnx h).2, wrap64 (by omega) (by omega)]; omega
    have m4 : IntKind.wrap .i64 ((t : Int) + 1) = ((t + 1 : Nat) : Int) := by rw [wrap64 (by omega) (by omega)]; omega
    have m5 : IntKind.wrap .i64 (((j + t : Nat) : Int) + 1) = ((j + (t + 1) : Nat) : Int) := by rw [wrap64 (by omega) (by omega)]; omega
    by_cases hg : 48 ≤ x ∧ x ≤ 57 ∧ t < 5
    · have hnx := hnx ⟨hg.1, hg.2.1⟩
      have m1 := m1 hg.1
      have m3 := m3 ⟨hg.1, hg.2.1⟩
      simp only [Tryz.f25, B8_size, B8_cut, B8_eq, B8_mk, B8_app, Int.toNat_natCast, qfirst_succ, qfirst_zero, after_succ, after_zero, go_sem]
      repeat' first
        | (exfalso; omega)
        | ((with_reducible refine qif_d (fun h => ?_) (fun h => ?_)) <;> first | (exfalso; omega) | simp only [Tryz.f25, B8_size, B8_cut, B8_eq, B8_mk, B8_app, Int.toNat_natCast, qfirst_succ, qfirst_zero, after_succ, after_zero, m0, m1, m2, m3, m4, m5, go_sem])
        | ((with_reducible refine qdo_indexS Lay9.1 rfl rfl ?_); simp only [Tryz.f25, B8_size, B8_cut, B8_eq, B8_mk, B8_app, Int.toNat_natCast, hi, qfirst_succ, qfirst_zero, after_succ, after_zero, m0, m1, m2, m3, m4, m5, go_sem])
        | (refine ⟨t + 1, ⟨by omega, by omega, hnx.1⟩, by omega, ?_⟩; simp [Wk, sget, killL, kill1, SV.key]; done)
    · rw [hne2 (by omega)]
      simp only [Tryz.f25, B8_size, B8_cut, B8_eq, B8_mk, B8_app, Int.toNat_natCast, qfirst_succ, qfirst_zero, after_succ, after_zero, go_sem]
      repeat' first
        | (exfalso; omega)
        | ((with_reducible refine qif_d (fun h => ?_) (fun h => ?_)) <;> first | (exfalso; omega) | simp only [Tryz.f25, B8_size, B8_cut, B8_eq, B8_mk, B8_app, Int.toNat_natCast, qfirst_succ, qfirst_zero, after_succ, after_zero, go_sem])
        | ((with_reducible refine qdo_indexS Lay9.1 rfl rfl ?_); simp only [Tryz.f25, B8_size, B8_cut, B8_eq, B8_mk, B8_app, Int.toNat_natCast, hi, qfirst_succ, qfirst_zero, after_succ, after_zero, go_sem])
        | rfl
  · have hte : t = S.length := by omega
    have hexpt := hexpt (.inl hte) ht6
    rw [hte, List.take_length] at hD6 ⊢
    by_cases hg : (t ≠ 0 ∧ t ≤ 4) ∧ dn S ≤ 2000
    · have hok : dcOk l = true := eO.2 ⟨hexpt.2 ⟨hte, hg.1.1, hg.1.2⟩, hg.2⟩
      rw [hgood hok]
      have y1 : IntKind.wrap .i64 (0 - (dn S : Int)) = -(dn S : Int) := by rw [wrap64 (by omega) (by omega)]; omega
      have y2 : IntKind.wrap .i64 (-(fr q : Int) + -(dn S : Int)) = -(dn S : Int) - (fr q : Int) := by rw [wrap64 (by omega) (by omega)]; omega
      have y3 : IntKind.wrap .i64 (-(fr q : Int) + (dn S : Int)) = (dn S : Int) - (fr q : Int) := by rw [wrap64 (by omega) (by omega)]; omega
      clear hbad hgood eO hexpt
      simp only [VN, VL]
      simp only [Tryz.f25, B8_size, B8_cut, B8_eq, B8_mk, B8_app, Int.toNat_natCast, qfirst_succ, qfirst_zero, after_succ, after_zero, go_sem]
      cases m
      all_goals
        repeat' first
          | (exfalso; omega)
          | ((with_reducible refine qif_d (fun h => ?_) (fun h => ?_)) <;> first | (exfalso; omega) | simp only [Tryz.f25, B8_size, B8_cut, B8_eq, B8_mk, B8_app, Int.toNat_natCast, qfirst_succ, qfirst_zero, after_succ, after_zero, y1, y2, y3, go_sem])
          | rfl
    · rw [hbad (by
        cases hh : dcOk l with
        | false => rfl
        | true => exact absurd ⟨⟨(hexpt.1 (eO.1 hh).1).2.1, (hexpt.1 (eO.1 hh).1).2.2⟩, (eO.1 hh).2⟩ hg)]
      simp only [Tryz.f25, B8_size, B8_cut, B8_eq, B8_mk, B8_app, Int.toNat_natCast, qfirst_succ, qfirst_zero, after_succ, after_zero, go_sem]
      repeat' first
        | (exfalso; omega)
        | ((with_reducible refine qif_d (fun h => ?_) (fun h => ?_)) <;> first | (exfalso; omega) | simp only [Tryz.f25, B8_size, B8_cut, B8_eq, B8_mk, B8_app, Int.toNat_natCast, qfirst_succ, qfirst_zero, after_succ, after_zero, go_sem])
        | rfl
end

/- planimeterref32.Ten. -/
section
open Go PG Go.Proofs
set_option maxRecDepth 100000
set_option linter.unusedSimpArgs false
set_option linter.unusedVariables false

theorem bitLen_pow_leD (x k : Nat) : bitLen (x ^ k) ≤ bitLen x * k + 1 := by
  rw [bitLen_le]
  have h := Nat.pow_le_pow_left (Nat.le_of_lt ((bitLen_le x (bitLen x)).1 (Nat.le_refl _))) k
  rw [← Nat.pow_mul] at h
  have := Nat.two_pow_pos (bitLen x * k)
  rw [Nat.pow_succ]
  omega
/-- Powers by halves of the exponent. -/
theorem c_QuickD {x : Nat} : ∀ k : Nat, bitLen x * k ≤ 900000 → k < 9223372036854775808 → PC E 76 [VN x, .int .i64 k] (VN (x ^ k)) := by
  intro k
  induction k using Nat.strongRecOn with
  | _ k ih =>
  intro hb hk
  have k0 := c_Num 1 (by decide)
  rw [show u ((1 : Nat)) = .int .u64 1 from rfl] at k0
  by_cases h0 : k = 0
  · subst h0
    rw [Nat.pow_zero]
    simp only [VN, VL] at k0 ⊢
    refine PC.of_body follows Tryz.func76 (by decide +kernel) rfl (by kernel_rfl) (Nat.le_of_ble_eq_true rfl) (walk ?_)
    simp only [Tryz.f76, Int.cast_ofNat_Int, go_sem]
    refine qcall_i (k0) ?_; simp only [Tryz.f76, go_sem]
    try rfl
  have w2 : IntKind.wrap .i64 ((k : Int).tdiv 2) = ((k / 2 : Nat) : Int) := by rw [Int.tdiv_eq_ediv_of_nonneg (by omega), wrap64 (by omega) (by omega)]; omega
  have w3 : (k : Int).tmod 2 = ((k % 2 : Nat) : Int) := n_tmod k 2
  have hb2 : bitLen x * (k / 2) ≤ 900000 := Nat.le_trans (Nat.mul_le_mul_left _ (Nat.div_le_self _ _)) hb
  have k1 := ih (k / 2) (by omega) hb2 (by omega)
  have hp1 : bitLen (x ^ (k / 2)) ≤ 1000000 := by have := bitLen_pow_leD x (k / 2); omega
  have k2 := l_2Mul hp1 hp1
  have hd := Nat.div_add_mod k 2
  have hsq : x ^ (k / 2) * x ^ (k / 2) = x ^ (2 * (k / 2)) := by rw [← Nat.pow_add]; congr 1; omega
  rw [hsq] at k2
  have hp2 : bitLen (x ^ (2 * (k / 2))) ≤ 1000000 := by
    have h1 := bitLen_pow_leD x (2 * (k / 2))
    have h2 : bitLen x * (2 * (k / 2)) ≤ bitLen x * k := Nat.mul_le_mul_left _ (by omega)
    omega
  have hx : bitLen x ≤ 1000000 := by
    have := Nat.le_mul_of_pos_right (bitLen x) (show 0 < k by omega)
    omega
  have k3 := l_2Mul hp2 hx
  rw [← Nat.pow_succ] at k3
  have hne : ¬ (k : Int) = 0 := by omega
  simp only [VN, VL] at k1 k2 k3 ⊢
  refine PC.of_body follows Tryz.func76 (by decide +kernel) rfl (by kernel_rfl) (Nat.le_of_ble_eq_true rfl) (walk ?_)
  simp only [Tryz.f76, w2, w3, go_sem]
  refine qif_df hne ?_
  simp only [Tryz.f76, w2, w3, go_sem]
  refine qcall_i (k1) ?_; simp only [Tryz.f76, w2, w3, go_sem]
  refine qcall_i (k2) ?_; simp only [Tryz.f76, w2, w3, go_sem]
  rcases Nat.mod_two_eq_zero_or_one k with h | h
  · refine qif_df (by omega) ?_
    simp only [Tryz.f76, go_sem]
    rw [show 2 * (k / 2) = k by omega]
    exact ⟨rfl, rfl⟩
  · refine qif_dt (by omega) ?_
    simp only [Tryz.f76, go_sem]
    refine qcall_i (k3) ?_; simp only [Tryz.f76, go_sem]
    rw [show (2 * (k / 2)).succ = k by omega]
    exact ⟨rfl, rfl⟩

theorem c_Ten {k : Nat} (hk : k ≤ 6000) : PC E 30 [.int .i64 k] (VN (10 ^ k)) := by
  have k1 := c_Num 10 (by decide)
  have k2 := c_QuickD (x := 10) k (by rw [show bitLen 10 = 4 from by decide +kernel]; omega) (by omega)
  simp only [u, Int.cast_ofNat_Int, VN, VL] at k1 k2 ⊢
  refine PC.of_body follows Tryz.func30 (by decide +kernel) rfl (by kernel_rfl) (Nat.le_of_ble_eq_true rfl) (walk ?_)
  simp only [Tryz.f30, go_sem]
  refine qcall_i (k1) ?_; simp only [Tryz.f30, go_sem]
  refine qcall_i (k2) ?_; simp only [Tryz.f30, go_sem]
  try rfl
end
end Go.Proofs.YtmnojbkakgfinaaGreatDoor
