/- Several parts in one text. -/
import Derived.Test.YtmnnnapelmhalaaGreatDoorI1
import Derived.Test.YtmnnnapelmhalaaGreatDoorH1
import Derived.Test.YtmnnnapelmhalaaGreatDoorI3
import Derived.Test.YtmnnnapelmhalaaGreatDoorFin
import Derived.Test.YtmnnnapelmhalaaGreatDoorI2
import Derived.Test.YtmnnnapelmhalaaGreatDoorH3
open Go PG Go.Proofs
namespace Go.Proofs.YtmnnnapelmhalaaGreatDoor
attribute [local go_sem] Lay2 Lay3 Lay4 Lay5 Lay6 Lay7 Lay8 Lay9 Lay10 Lay11 Lay12 Lay13 Lay14 Lay15 Lay16 Lay17 Lay18 Lay19 Lay21 Lay22 Lay24 Lay25 Lay26 Lay27 Lay28 Lay29 Lay32 Lay34 Lay35 Lay42 Lay43 Lay53 Lay54 Lay55 Lay59 Lay60 Lay61 Lay78 Lay90 Lay95 Lay96 Lay102 Lay114 Lay115 Lay133 Lay160 Lay164 Lay165 Lay166 Lay167 Lay168 Lay170 Lay171 Lay173 Lay174 Lay175 Lay178 qexec_seq qexec_skip qexec_exit qexec_ret qexec_block qexec_loop qexec_range qexec_cond qexec_region qexec_drawn qops_nil qops_none qops_some put_some put_none pblk_exit pblk_other newDsts_nil inlDsts_nil isInl sget_cons sget_nil qval_some qbool_some qgs_bool qgs_und qfree_some qgrd_true qgrd_false qif_true qif_false qval_ite qval_itn qand_true map_ite map_some' map_none' qdo_move qdo_assign qdo_binOp qdo_pick qdo_unOp qdo_convert qdo_extract qdo_field qdo_fieldAddr qdo_alloc qdo_box qdo_build qdo_buildSlice qdo_load qdo_store qdo_nilCheck qdo_makeFunc qdo_makeSlice qdo_slice qdo_indexAddr qdo_call qcont_val qcont_new qcont_st qcont_app0 qcont_app qcont_inl qcont_call njSV_val njSV_nil njSV_row njSV_ptr njSV_sub binV_val binV_nil binV_nn binV_ptr bin_np bin_nnp nilCmp bin_add bin_sub bin_mul bin_quo bin_rem bin_and bin_or bin_xor bin_andNot bin_eql bin_neq bin_lss bin_leq bin_gtr bin_geq bin_shl bin_shr bin_seql bin_sneq bin_sadd bin_beql bin_aeql bin_aneq eqAnd_some eqCells_nil eqCells_cons fieldTypes isStruct eqCell bin_bneq un_not un_neg nj_ite Nat.beq stepA stepR isNew opSV constSV RV.sv allSome E_mu E_own qkeyIn_none qkeyIn_some qkeyAt_none qkeyAt_some Bool.or_false Bool.false_or Bool.or_true Bool.true_or cst setB res resSV pstart startL killL kill1 eraL frzL svPV rvPV rvInt rvSlice frzOf close closeL pconv pbuiltin pmax2 partPV setCells fillPV zrow bound newSV PV.cells Bk.cells Bk.with SV.key pres presL_nil presL_tmp presL_cell presC2_some cellPV_ptr presC List.toList_toArray List.size_toArray List.getElem?_drop Nat.mul_one Int.toNat_natCast Nat.not_lt_zero Nat.lt_irrefl decide_true decide_false Nat.not_lt Option.some.injEq PV.lst.injEq PV.int.injEq PV.bool.injEq PV.tuple.injEq List.cons.injEq Option.map_some Option.map_none Option.bind_some Option.toList List.map_cons List.map_nil List.nil_append List.cons_append List.append_nil List.zip_cons_cons List.zip_nil_left List.zip_nil_right List.getElem?_cons_zero List.getElem?_cons_succ List.drop_zero List.drop_succ_cons List.take_succ_cons List.take_zero List.set_cons_zero List.set_cons_succ List.length_cons List.length_nil List.length_set List.replicate_one List.replicate_zero bne_self_eq_false beq_self_eq_true Nat.zero_add Nat.add_zero Nat.zero_mul Bool.false_eq_true Bool.true_eq_false Bool.not_true Bool.not_false and_true true_and false_and and_false or_false false_or or_true true_or not_true_eq_false not_false_eq_true ne_eq gt_iff_lt List.mem_cons List.not_mem_nil
attribute [local go_sem ↓] pseq_normal pseq_ret pseq_exit pblk_normal pblk_ret newDsts_cons inlDsts_cons gdst_zero gdst_succ retQ_normal retQ_ret qneed_nil qneed_cons retM_normal retM_ret endR_normal endR_ret endR_exit
attribute [local go_sem] Int.reduceToNat Int.reduceEq Int.reduceNe Int.reduceLT Int.reduceLE Int.reduceNeg Int.reduceAdd Nat.reduceEqDiff Nat.reduceAdd Nat.reduceSub Nat.reduceMul Nat.reduceLeDiff Nat.reduceLT
attribute [local go_sem ↓] reduceIte reduceCtorEq
/- Rounding keeps order, and mirrors: plain laws. No program stands here. -/
section
open Go PG Go.Proofs
set_option maxRecDepth 100000
set_option linter.unusedSimpArgs false
set_option linter.unusedVariables false

theorem cmp_transR {a b c : Dy} (h1 : cmpD a b ≤ 0) (h2 : cmpD b c ≤ 0) : cmpD a c ≤ 0 := by
  rw [cmp_at (k := min a.e (min b.e c.e)) (.inr (by omega)) (.inr (by omega)), sgn_le] at h1 h2 ⊢
  omega
theorem cmp_mono {a b m : Dy} (h : cmpD a b ≤ 0) : cmpD a m ≤ cmpD b m := by
  have e1 := cmp_at (a := a) (b := m) (k := min a.e (min b.e m.e)) (.inr (by omega)) (.inr (by omega))
  have e2 := cmp_at (a := b) (b := m) (k := min a.e (min b.e m.e)) (.inr (by omega)) (.inr (by omega))
  rw [cmp_at (a := a) (b := b) (k := min a.e (min b.e m.e)) (.inr (by omega)) (.inr (by omega)), sgn_le] at h
  rw [e1, e2]
  unfold sgn
  repeat' split
  all_goals omega
theorem abs_tops {a b : Dy} (ha : a.m ≠ 0) (hb : b.m ≠ 0) (h : cmpD a.abs b.abs ≤ 0) : a.top ≤ b.top := by
  have t1 := top_at ha (k := min a.e b.e) (by omega)
  have t2 := top_at hb (k := min a.e b.e) (by omega)
  rw [cmp_at (k := min a.e b.e) (abs_le (by omega)) (abs_le (by omega)), sgn_le, abs_at, abs_at] at h
  refine Decidable.byContradiction fun hn => ?_
  have : 2 ^ (b.top + 1 - min a.e b.e).toNat ≤ 2 ^ (a.top - min a.e b.e).toNat := Nat.pow_le_pow_right (by decide) (by omega)
  omega
theorem low_mono {a b : Dy} (h : cmpD a.abs b.abs ≤ 0) : low a ≤ low b := by
  refine Decidable.byContradiction fun hn => ?_
  have ha : Bel (low a) a.abs := bel_low
  have hb : Bel (low b) b.abs := bel_low
  have h1 := hb.2.2.resolve_left (by have := ha.1; omega)
  have h2 := fd_le_trans ha.1 (show low b + 1 ≤ low a by omega) ha.2.1
  have h3 := cmp_transR h2 h
  omega
theorem away_mono {a b : Dy} (ha : a.m ≠ 0) (hb : b.m ≠ 0) (ta : a.top ≤ 1023) (tb : b.top ≤ 1023) (hs : a.s = b.s) (h : cmpD a.abs b.abs ≤ 0) (hl : low a = low b) (dir : Int)
    (hw : upM a false dir (unitOf a.top) = true) : upM b false dir (unitOf b.top) = true := by
  obtain ⟨a1, a2⟩ := pos_mid ha ta
  obtain ⟨b1, b2⟩ := pos_mid hb tb
  rw [upM_low ha ta] at hw
  rw [upM_low hb tb]
  rw [← hl, ← hs]
  rw [← hl] at b1 b2
  have hm := cmp_mono (m := mid (low a)) h
  rw [a1, b1] at hm
  have hx : hf b (unitOf b.top) = false ∧ bl b (unitOf b.top) = false → hf a (unitOf a.top) = false ∧ bl a (unitOf a.top) = false := fun hh => by
    rw [← a2]
    have h1 := b2.2 hh
    have h2 : cmpD (fd (low a)) a.abs ≤ 0 := (bel_low (d := a)).2.1
    have h3 : cmpD a.abs (fd (low a)) ≤ 0 := by
      refine cmp_transR h ?_
      rw [cmp_swap, h1]; decide
    rw [cmp_swap] at h3
    omega
  clear a1 a2 b1 b2
  generalize hf a (unitOf a.top) = Ha at *
  generalize bl a (unitOf a.top) = La at *
  generalize hf b (unitOf b.top) = Hb at *
  generalize bl b (unitOf b.top) = Lb at *
  generalize decide (low a % 2 = 1) = o at *
  unfold awayS at *
  generalize upw dir a.s = w at *
  by_cases h0 : dir = 0
  · rw [if_pos h0] at *
    cases Ha <;> cases La <;> cases Hb <;> cases Lb <;> cases o <;> simp_all
  · rw [if_neg h0] at *
    cases Ha <;> cases La <;> cases Hb <;> cases Lb <;> cases w <;> simp_all
theorem mag_no {d : Dy} (ht : d.top ≤ 1023) (more : Bool) (dir : Int) (h0 : d.m ≠ 0) : (magS d more dir).1 = vS d (upM d more dir (unitOf d.top)) := by
  unfold magS
  rw [if_neg (by omega), ← upM_low h0 ht]
  unfold vS
  generalize upM d more dir (unitOf d.top) = a
  by_cases h : (if a = true then low d + 1 else low d) = INF
  · rw [if_pos h, h]
  · rw [if_neg h]
theorem mag_le {d : Dy} (h0 : d.m ≠ 0) (more : Bool) (dir : Int) : (magS d more dir).1 ≤ INF := by
  by_cases ht : 1023 < d.top
  · unfold magS
    rw [if_pos ht]
    dsimp only
    split <;> decide
  · rw [mag_no (by omega) more dir h0]
    exact (vS_fd h0 (by omega) _).1
theorem mag_mono {a b : Dy} (ha : a.m ≠ 0) (hb : b.m ≠ 0) (hs : a.s = b.s) (h : cmpD a.abs b.abs ≤ 0) (dir : Int) : (magS a false dir).1 ≤ (magS b false dir).1 := by
  have htt := abs_tops ha hb h
  have hle := mag_le ha false dir
  have hlm := low_mono h
  by_cases tb : 1023 < b.top
  · have eb : (magS b false dir).1 = if dir = 0 ∨ upw dir b.s = true then INF else MAX := by
      unfold magS; rw [if_pos tb]
    rw [eb]
    by_cases hu : dir = 0 ∨ upw dir b.s = true
    · rw [if_pos hu]; exact hle
    · rw [if_neg hu]
      by_cases ta : 1023 < a.top
      · unfold magS; rw [if_pos ta, hs, if_neg hu]; exact Nat.le_refl _
      · rw [mag_no (by omega) false dir ha, upM_low ha (by omega)]
        have hp := flo_ok ha (show a.top ≤ 1023 by omega)
        have hl : low a = packB (flo a (unitOf a.top)) (unitOf a.top) := if_neg ta
        have hlt := pack_lt_inf hp
        have hn : awayS dir a.s (decide (low a % 2 = 1)) (hf a (unitOf a.top)) (bl a (unitOf a.top) || false) = false := by
          cases hh : awayS dir a.s (decide (low a % 2 = 1)) (hf a (unitOf a.top)) (bl a (unitOf a.top) || false)
          · rfl
          · exact absurd (hs ▸ away_dir hh) hu
        rw [hn]
        show low a ≤ MAX
        have hI : INF = MAX + 1 := rfl
        omega
  · have ta : a.top ≤ 1023 := by omega
    rw [mag_no ta false dir ha, mag_no (by omega) false dir hb]
    unfold vS
    by_cases hl : low a = low b
    · rw [hl]
      cases hw : upM a false dir (unitOf a.top)
      · rw [if_neg (by decide)]; split <;> omega
      · rw [away_mono ha hb ta (by omega) hs h hl dir hw]; exact Nat.le_refl _
    · split <;> split <;> omega
/-- Bits in their order. -/
def svb (b : Nat) : Int := if fs b = true then -(fsz b : Int) else fsz b
theorem svb_withS (s : Bool) {v : Nat} (hv : v < 9223372036854775808) : svb (withS s v) = if s = true then -(v : Int) else v := by
  obtain ⟨_, h1, _, _, h2⟩ := withS_fields s hv
  unfold svb; rw [h1, h2]
theorem toS_svb {d : Dy} (h0 : d.m ≠ 0) (dir : Int) : svb (toS d false dir).1 = if d.s = true then -((magS d false dir).1 : Int) else (magS d false dir).1 := by
  have h := mag_le h0 false dir
  have hI := INF_lt
  unfold toS
  rw [if_neg h0]
  exact svb_withS _ (by omega)
theorem toS_mono {a b : Dy} (h : cmpD a b ≤ 0) (dir : Int) : svb (toS a false dir).1 ≤ svb (toS b false dir).1 := by
  have s0 : svb 0 = 0 := by decide
  have hsa := at_sg a (min a.e b.e)
  have hsb := at_sg b (min a.e b.e)
  have hcmp := h
  rw [cmp_at (k := min a.e b.e) (.inr (by omega)) (.inr (by omega)), sgn_le] at h
  by_cases za : a.m = 0
  · have e1 : toS a false dir = (0, 0) := if_pos za
    rw [e1]
    by_cases zb : b.m = 0
    · have e2 : toS b false dir = (0, 0) := if_pos zb
      rw [e2]; exact Int.le_refl _
    · rw [toS_svb zb, s0]
      have : b.s = false := by
        rw [at_zero za] at h
        cases hs : b.s
        · rfl
        · have h5 : b.sg = -1 := by unfold Dy.sg; rw [if_neg zb, if_pos hs]
          have := hsb.2.2.2 h5
          omega
      rw [this, if_neg (by decide)]
      omega
  · rw [toS_svb za]
    by_cases zb : b.m = 0
    · have e2 : toS b false dir = (0, 0) := if_pos zb
      rw [e2, s0]
      have : a.s = true := by
        rw [at_zero zb] at h
        cases hs : a.s
        · have h5 : a.sg = 1 := by unfold Dy.sg; rw [if_neg za, if_neg (by rw [hs]; decide)]
          have := hsa.2.1.2 h5
          omega
        · rfl
      rw [this, if_pos rfl]
      omega
    · rw [toS_svb zb]
      have habs : ∀ {x y : Dy}, x.m ≠ 0 → y.m ≠ 0 → x.s = y.s → cmpD x y = x.sg * cmpD x.abs y.abs := fun {x y} hx hy hh => cmp_abs (by unfold Dy.sg; rw [if_neg hx, if_neg hy, hh]) hx hy
      cases sa : a.s
      · rw [if_neg (by decide)]
        cases sb : b.s
        · rw [if_neg (by decide)]
          have e := habs za zb (by rw [sa, sb])
          rw [show a.sg = 1 by unfold Dy.sg; rw [if_neg za, if_neg (by rw [sa]; decide)], Int.one_mul] at e
          have := mag_mono za zb (by rw [sa, sb]) (by omega) dir
          omega
        · exfalso
          have h5 : a.sg = 1 := by unfold Dy.sg; rw [if_neg za, if_neg (by rw [sa]; decide)]
          have h6 : b.sg = -1 := by unfold Dy.sg; rw [if_neg zb, if_pos sb]
          have := hsa.2.1.2 h5
          have := hsb.2.2.2 h6
          omega
      · rw [if_pos rfl]
        cases sb : b.s
        · rw [if_neg (by decide)]; omega
        · rw [if_pos rfl]
          have hsw := hcmp
          have e := habs zb za (by rw [sa, sb])
          rw [show b.sg = -1 by unfold Dy.sg; rw [if_neg zb, if_pos sb], cmp_swap] at e
          have := mag_mono zb za (by rw [sa, sb]) (by omega) dir
          omega

/-- The mirror of a direction. -/
def mir (k : Nat) : Nat := if k = 2 then 3 else if k = 3 then 2 else k
theorem upw_mir {k : Nat} (hk : k < 4) (s : Bool) : upw ((mir k : Nat) : Int) (!s) = upw (k : Int) s := by
  have : k = 0 ∨ k = 1 ∨ k = 2 ∨ k = 3 := by omega
  rcases this with rfl | rfl | rfl | rfl <;> cases s <;> rfl
theorem mir_zero {k : Nat} (hk : k < 4) : ((mir k : Nat) : Int) = 0 ↔ (k : Int) = 0 := by
  unfold mir; split <;> (try split) <;> omega
theorem mag_mir (d : Dy) {k : Nat} (hk : k < 4) (h0 : d.m ≠ 0) : magS d.neg false ((mir k : Nat) : Int) = magS d false (k : Int) := by
  have e : d.neg = ⟨!d.s, d.m, d.e⟩ := if_neg h0
  have hu := upw_mir hk d.s
  have hz := mir_zero hk
  have haw : ∀ o H L, awayS ((mir k : Nat) : Int) (!d.s) o H L = awayS (k : Int) d.s o H L := fun o H L => by
    unfold awayS
    by_cases h : (k : Int) = 0
    · rw [if_pos h, if_pos (hz.2 h)]
    · rw [if_neg h, if_neg (fun h2 => h (hz.1 h2)), hu]
  rw [e]
  unfold magS
  rw [haw]
  have t : Dy.top ⟨!d.s, d.m, d.e⟩ = d.top := rfl
  have l : low ⟨!d.s, d.m, d.e⟩ = low d := rfl
  have h1 : ∀ t, hf ⟨!d.s, d.m, d.e⟩ t = hf d t := fun _ => rfl
  have h2 : ∀ t, bl ⟨!d.s, d.m, d.e⟩ t = bl d t := fun _ => rfl
  rw [t, l, h1, h2, hu]
  have hor : (((mir k : Nat) : Int) = 0 ∨ upw (k : Int) d.s = true) = ((k : Int) = 0 ∨ upw (k : Int) d.s = true) := by rw [propext hz]
  simp only [hor]
/-- What is a number stays. -/
theorem toS_fd {b : Nat} (hf0 : fe b < 2047) (dir : Int) : toS (fd b) false dir = (if fsz b = 0 then 0 else withS (fs b) (fsz b), 0) := by
  have hI := fsz_INF.1 hf0
  by_cases hz : fsz b = 0
  · rw [if_pos hz]
    exact if_pos ((fd_m0 hf0).2 hz)
  · rw [if_neg hz]
    have h0 : (fd b).m ≠ 0 := fun h => hz ((fd_m0 hf0).1 h)
    have hlow : low (fd b) = fsz b := by
      have hI' := INF_lt
      refine bel_unique (n := (fd b).abs) bel_low ⟨by omega, ?_, .inr ?_⟩
      · rw [fd_abs, cmp_self]; decide
      · rw [fd_abs, fd_cmp (by omega) (by omega), sgn_pos]; omega
    have ht : (fd b).top ≤ 1023 := by
      refine Decidable.byContradiction fun hn => ?_
      have : low (fd b) = INF := if_pos (by omega)
      omega
    have hx := (pos_mid h0 ht).2.1 (by rw [hlow, fd_abs, cmp_self])
    rw [toS_no h0 ht, upM_low h0 ht, hx.1, hx.2]
    have ha : awayS dir (fd b).s (decide (low (fd b) % 2 = 1)) false (false || false) = false := by
      unfold awayS; split <;> rfl
    rw [ha]
    unfold vS
    rw [hlow, fd_s h0, if_neg (by decide), if_neg (by omega), if_neg (by decide)]
end

/- basic's laws without a reference, in plain terms. -/
section
open Go PG Go.Proofs
set_option maxRecDepth 100000
set_option linter.unusedSimpArgs false
set_option linter.unusedVariables false

/-- What is rounded without a flag is a number. -/
theorem toS_exact0 {d : Dy} (hok : d.ok) (h0 : d.m ≠ 0) {dir : Int} (hz : (toS d false dir).2 = 0) : ∃ b, b < W ∧ fe b < 2047 ∧ fd b = d ∧ fs b = d.s ∧ toS d false dir = (b, 0) := by
  by_cases ht : 1023 < d.top
  · rw [toS_big h0 ht] at hz
    simp at hz
  have hodd := hok.odd h0
  have hx : hf d (unitOf d.top) = false ∧ bl d (unitOf d.top) = false := by
    rw [toS_no h0 (by omega)] at hz
    dsimp only at hz
    split at hz
    · cases hz
    split at hz
    · split at hz <;> cases hz
    · rename_i h
      cases h1 : hf d (unitOf d.top) <;> cases h2 : bl d (unitOf d.top) <;> simp [h1, h2] at h ⊢
  have he : unitOf d.top ≤ d.e := Int.not_lt.1 fun hlt => by
    obtain ⟨e1, e2, -⟩ := bl_n hlt
    obtain ⟨hx1, hx2⟩ := hx
    rw [e1] at hx2
    unfold hf at hx1
    rw [e2] at hx1
    have hx2 := of_decide_eq_false hx2
    have hx1 := of_decide_eq_false hx1
    obtain hn | ⟨n, hn⟩ : (unitOf d.top - d.e).toNat - 1 = 0 ∨ ∃ n, (unitOf d.top - d.e).toNat - 1 = n + 1 := by
      rcases (unitOf d.top - d.e).toNat - 1 with _ | n
      · exact .inl rfl
      · exact .inr ⟨n, rfl⟩
    · rw [hn, Nat.pow_zero, Nat.div_one] at hx1
      exact hx1 hodd
    · rw [hn, Nat.pow_succ] at hx2
      have h3 : d.m % (2 ^ n * 2) = 0 := Decidable.not_not.1 hx2
      have h4 : 2 ∣ d.m := Nat.dvd_trans ⟨2 ^ n, Nat.mul_comm _ _⟩ (Nat.dvd_of_mod_eq_zero h3)
      omega
  obtain ⟨b, -, hb, hf, hfd, hs⟩ := exact_fd hodd (by omega) he
  refine ⟨b, hb, hf, hfd, hs, ?_⟩
  rw [← hfd, toS_fd hf, withS_self hb, if_neg]
  intro h
  exact h0 (by rw [← hfd]; exact (fd_m0 hf).2 h)
theorem toS_self {b : Nat} (hb : b < W) (hf : fe b < 2047) (h0 : (fd b).m ≠ 0) (dir : Int) : toS (fd b) false dir = (b, 0) := by
  rw [toS_fd hf, withS_self hb, if_neg (fun h => h0 ((fd_m0 hf).2 h))]
theorem isq_unique {a r s : Nat} (h : Isq a r) (h' : Isq a s) : r = s := by
  rcases Nat.lt_trichotomy r s with hl | hl | hl
  · have := Nat.mul_le_mul hl hl
    have := h.2; have := h'.1
    simp only [Nat.succ_eq_add_one] at *
    omega
  · exact hl
  · have := Nat.mul_le_mul hl hl
    have := h.1; have := h'.2
    simp only [Nat.succ_eq_add_one] at *
    omega
theorem isq_sq (c : Nat) : Isq (c * c) c := ⟨Nat.le_refl _, by
  have : (c + 1) * (c + 1) = c * c + 2 * c + 1 := by grind
  omega⟩
theorem sgB_comm (x y : Nat) : sgB x y = sgB y x := by
  unfold sgB
  cases fs x <;> cases fs y <;> rfl
theorem fmaS_mul_comm (x y : Nat) (dir : Int) : fmaS x y (sgB x y) dir = fmaS y x (sgB y x) dir := by
  rw [sgB_comm y x]
  unfold fmaS
  rw [sgB_comm y x, mulS_comm (fd0 y) (fd0 x)]
  have h1 : ∀ k, (kind y = k ∨ kind x = k ∨ kind (sgB x y) = k) = (kind x = k ∨ kind y = k ∨ kind (sgB x y) = k) := fun k => propext (by omega)
  have h2 : ∀ k, (kind y = k ∨ kind x = k) = (kind x = k ∨ kind y = k) := fun k => propext (by omega)
  simp only [h1, h2]
theorem inf_bits {z : Nat} (hz : z < W) (h : kind z = 3) : z = 9218868437227405312 ||| (if fs z = true then 9223372036854775808 else 0) := by
  have eW : W = 18446744073709551616 := by decide
  have o1 : (9218868437227405312 ||| 9223372036854775808 : Nat) = 18442240474082181120 := by decide
  have o2 : (9218868437227405312 ||| 0 : Nat) = 9218868437227405312 := by decide
  have h1 : fe z = 2047 ∧ ff z = 0 := by
    have := fe_lt z
    unfold kind at h
    repeat' split at h
    all_goals first | omega | cases h
  obtain ⟨h2, h3⟩ := h1
  unfold fe at h2
  unfold ff at h3
  unfold fs
  rw [eW] at hz
  split
  · rename_i h; simp at h; omega
  · rename_i h; simp at h; omega
/-- A sum. -/
theorem fmaS_one {x y : Nat} (hy : y < W) (dir : Int) : fmaS x 4607182418800017408 y dir =
    if kind x = 5 ∨ kind y = 5 then (9221120237041090560, 16)
    else if kind x = 4 ∨ kind y = 4 then (9221120237041090560, 0)
    else if kind x = 3 ∧ kind y = 3 ∧ (if fs y = true then 9223372036854775808 else 0) ≠ (if fs x = true then 9223372036854775808 else 0) then (9221120237041090560, 16)
    else if kind x = 3 then (9218868437227405312 ||| (if fs x = true then 9223372036854775808 else 0), 0)
    else if kind y = 3 then (y, 0)
    else if (addS (fd0 x) (fd0 y)).m ≠ 0 then toS (addS (fd0 x) (fd0 y)) false dir
    else if (fd0 x).m = 0 ∧ (if fs y = true then 9223372036854775808 else 0) = (if fs x = true then 9223372036854775808 else 0) then ((if fs x = true then 9223372036854775808 else 0), 0)
    else if dir = 3 then (9223372036854775808, 0) else (0, 0) := by
  have k1 : kind 4607182418800017408 = 2 := by decide
  have k2 : fs 4607182418800017408 = false := by decide
  have k3 : fd0 4607182418800017408 = ⟨false, 1, 0⟩ := by decide +kernel
  have k4 : mulS (fd0 x) ⟨false, 1, 0⟩ = fd0 x := by
    have ho := (fd0_lim x).ok
    generalize fd0 x = d at *
    rcases ho with rfl | ho
    · decide
    · obtain ⟨s, m, e⟩ := d
      unfold mulS
      rw [if_neg (by dsimp only at ho ⊢; omega)]
      simp
  have hzt : y &&& 9223372036854775808 = if fs y = true then 9223372036854775808 else 0 := by
    rw [and_top hy]; unfold fs; simp
  have hsg : sgB x 4607182418800017408 = if fs x = true then 9223372036854775808 else 0 := by unfold sgB; rw [k2, Bool.bne_false]
  unfold fmaS
  rw [k1, k3, k4, hzt, hsg]
  generalize (if fs y = true then 9223372036854775808 else 0) = a
  generalize (if fs x = true then 9223372036854775808 else 0) = b
  have e1 : (kind x = 5 ∨ 2 = 5 ∨ kind y = 5) = (kind x = 5 ∨ kind y = 5) := propext (by omega)
  have e2 : (kind x = 4 ∨ 2 = 4 ∨ kind y = 4) = (kind x = 4 ∨ kind y = 4) := propext (by omega)
  have e3 : (kind x = 3 ∧ (kind x = 0 ∨ 2 = 0)) = False := propext ⟨by omega, False.elim⟩
  have e4 : (kind x = 3 ∨ 2 = 3) = (kind x = 3) := propext (by omega)
  simp only [e1, e2, e3, e4, if_false]
theorem fmaS_add_comm {x y : Nat} (hx : x < W) (hy : y < W) (dir : Int) : fmaS x 4607182418800017408 y dir = fmaS y 4607182418800017408 x dir := by
  have ix := inf_bits hx
  have iy := inf_bits hy
  have lx := fd0_lim x
  have ly := fd0_lim y
  have sx : (fd0 x).m = 0 → addS (fd0 x) (fd0 y) = fd0 y := addS_zl ly.ok (lx.fits (by decide)) (ly.fits (by decide))
  have sy : (fd0 y).m = 0 → addS (fd0 x) (fd0 y) = fd0 x := addS_zr lx.ok (lx.fits (by decide)) (ly.fits (by decide))
  rw [fmaS_one hy, fmaS_one hx, addS_comm (fd0 y) (fd0 x)]
  generalize (if fs y = true then 9223372036854775808 else 0) = b at *
  generalize (if fs x = true then 9223372036854775808 else 0) = a at *
  by_cases h5 : kind x = 5 ∨ kind y = 5
  · rw [if_pos h5, if_pos (show kind y = 5 ∨ kind x = 5 from h5.symm)]
  rw [if_neg h5, if_neg (show ¬ (kind y = 5 ∨ kind x = 5) from fun h => h5 h.symm)]
  by_cases h4 : kind x = 4 ∨ kind y = 4
  · rw [if_pos h4, if_pos (show kind y = 4 ∨ kind x = 4 from h4.symm)]
  rw [if_neg h4, if_neg (show ¬ (kind y = 4 ∨ kind x = 4) from fun h => h4 h.symm)]
  by_cases h3 : kind x = 3
  · by_cases h3' : kind y = 3
    · by_cases hab : a = b
      · subst hab
        simp [h3, h3']
      · have hba : ¬ b = a := fun h => hab h.symm
        simp [h3, h3', hab, hba]
    · have := ix h3
      simp only [h3, h3', false_and, and_false, true_and, if_false, if_true]
      rw [← this]
  by_cases h3' : kind y = 3
  · have := iy h3'
    simp only [h3, h3', false_and, and_false, true_and, if_false, if_true]
    rw [← this]
  simp only [h3, h3', false_and, and_false, true_and, if_false, if_true]
  by_cases hm : (addS (fd0 x) (fd0 y)).m = 0
  · have hm' : ((addS (fd0 x) (fd0 y)).m ≠ 0) = False := eq_false (fun h => h hm)
    simp only [hm', if_false]
    by_cases hc : (fd0 x).m = 0 ∧ b = a
    · rw [if_pos hc, if_pos ⟨by rw [sx hc.1] at hm; exact hm, hc.2.symm⟩, hc.2]
    · rw [if_neg hc, if_neg (show ¬ ((fd0 y).m = 0 ∧ a = b) from fun h => hc ⟨by rw [sy h.1] at hm; exact hm, h.2.symm⟩)]
  · rw [if_pos hm, if_pos hm]
theorem fd_m_fin {x : Nat} (h : kind x = 1 ∨ kind x = 2) : (fd x).m ≠ 0 := (fd_may h).2.1
theorem divS_self {x : Nat} (h : kind x = 2) (dir : Int) : divS x x dir = (4607182418800017408, 0) := by
  have hm := fd_m_fin (.inr h)
  unfold divS
  rw [if_neg (by omega), if_neg (by omega), if_neg (by omega), if_neg (by omega), if_neg (by omega), if_neg (by omega)]
  have hn : partN (fd x) (fd x) = 70 := by unfold partN; omega
  have hR : partR (fd x) (fd x) = false := by
    unfold partR
    rw [Nat.mul_mod_right]
    rfl
  have hD : partD (fd x) (fd x) = ⟨false, 1, 0⟩ := by
    unfold partD
    rw [hn, Nat.mul_div_cancel_left _ (Nat.pos_of_ne_zero hm), Int.sub_self]
    cases (fd x).s <;> decide +kernel
  rw [hR, hD, show (⟨false, 1, 0⟩ : Dy) = fd 4607182418800017408 by decide +kernel]
  exact toS_self (by decide) (by decide) (by decide +kernel) dir
theorem fd0_fn {x : Nat} (h : kind x ≤ 2) : fd0 x = fd x := by unfold fd0; rw [if_pos (fd_fin h)]
theorem fmaS_self {x : Nat} (hx : x < W) (h : kind x = 2) (dir : Int) : fmaS x 4607182418800017408 0 dir = (x, 0) := by
  have hm := fd_m_fin (.inr h)
  have k0 : kind 0 = 0 := by decide
  have hz : (fd0 0).m = 0 := (fd0_m 0).2 (.inl k0)
  rw [fmaS_one (by decide), k0, if_neg (by omega), if_neg (by omega), if_neg (by omega), if_neg (by omega), if_neg (by omega)]
  rw [addS_zr (fd0_lim x).ok ((fd0_lim x).fits (by decide)) ((fd0_lim 0).fits (by decide)) hz, fd0_fn (by omega), if_pos hm]
  exact toS_self hx (fd_fin (by omega)) hm dir
theorem kind_of {b : Nat} (hf : fe b < 2047) (h0 : (fd b).m ≠ 0) : kind b = 1 ∨ kind b = 2 := by
  have h1 : kind b ≤ 2 := by unfold kind; (repeat' split) <;> omega
  have h2 : kind b ≠ 0 := fun h => h0 (by
    have := (fd0_m b).2 (.inl h)
    rwa [fd0_fn h1] at this)
  omega
/-- A product by itself. -/
theorem fmaS_sq {x : Nat} (h : kind x = 2) (dir : Int) : fmaS x x (sgB x x) dir = toS (mulS (fd x) (fd x)) false dir := by
  have hs : sgB x x = 0 := by unfold sgB; rw [bne_self_eq_false]; rfl
  have k0 : kind 0 = 0 := by decide
  have hz : (fd0 0).m = 0 := (fd0_m 0).2 (.inl k0)
  have hm := fd_m_fin (.inr h)
  have hp : (mulS (fd x) (fd x)).m ≠ 0 := by
    unfold mulS
    rw [if_neg (by omega)]
    exact Nat.mul_ne_zero hm hm
  have hl := (fd_lim x).mul (fd_lim x)
  rw [hs]
  unfold fmaS
  rw [k0, fd0_fn (by omega), if_neg (by omega), if_neg (by omega), if_neg (by omega), if_neg (by omega), if_neg (by omega), if_neg (by omega)]
  rw [addS_zr hl.ok (hl.fits (by decide)) ((fd0_lim 0).fits (by decide)) hz, if_pos hp]
/-- The root of an exact square. -/
theorem sqrt_sq {x : Nat} (hx : x < W) (h : kind x = 2) {dir : Int} (hz : (fmaS x x (sgB x x) dir).2 = 0) {r : Nat} (hr : Isq (rootM (fd (fmaS x x (sgB x x) dir).1)) r) :
    (fmaS x x (sgB x x) dir).1 < W ∧ sqrtS (fmaS x x (sgB x x) dir).1 r dir = (fsz x, 0) := by
  rw [fmaS_sq h] at hz hr ⊢
  have hm := fd_m_fin (.inr h)
  have hodd := (fd_lim x).ok.odd hm
  have hl := (fd_lim x).mul (fd_lim x)
  have hP : mulS (fd x) (fd x) = ⟨false, (fd x).m * (fd x).m, (fd x).e + (fd x).e⟩ := by
    unfold mulS
    rw [if_neg (by omega), bne_self_eq_false]
  have hPm : (mulS (fd x) (fd x)).m ≠ 0 := by rw [hP]; exact Nat.mul_ne_zero hm hm
  obtain ⟨b, hb, hf, hfd, hs, e⟩ := toS_exact0 hl.ok hPm hz
  rw [e] at hr ⊢
  refine ⟨hb, ?_⟩
  dsimp only at hr ⊢
  have hk := kind_of hf (by rw [hfd]; exact hPm)
  have hs0 : fs b = false := by rw [hs, hP]
  unfold sqrtS
  rw [if_neg (by omega), if_neg (by omega), if_neg (by omega), hs0, if_neg (by decide), if_neg (by omega)]
  have hev := rootN_even (fd b)
  obtain ⟨k, hk2⟩ : ∃ k, rootN (fd b) = 2 * k := by
    refine ⟨rootN (fd b) / 2, ?_⟩
    have he : (fd b).e = (fd x).e + (fd x).e := by rw [hfd, hP]
    omega
  have hM : rootM (fd b) = ((fd x).m * 2 ^ k) * ((fd x).m * 2 ^ k) := by
    unfold rootM
    rw [hk2, show 2 * k = k + k by omega, Nat.pow_add, hfd, hP]
    dsimp only
    grind
  rw [hM] at hr ⊢
  obtain rfl := isq_unique hr (isq_sq _)
  have hD : rootD (fd b) ((fd x).m * 2 ^ k) = fd (fsz x) := by
    unfold rootD
    rw [hk2, show ((fd b).e - ((2 * k : Nat) : Int)) / 2 = (fd x).e - k by rw [hfd, hP]; dsimp only; omega]
    have he := fd_e x
    have hN := rootN_le (fd b)
    rw [mkD_shift hodd (by omega) (by omega), ← fd_abs]
    unfold Dy.abs
    rw [show (fd x).e - (k : Int) + k = (fd x).e by omega]
  rw [hD, decide_eq_false (fun h => h rfl)]
  have hw := fd_fin (x := x) (by omega)
  have e1 : fe (fsz x) = fe x := by
    have := withS_fields (fs x) (fsz_lt x)
    rw [withS_self hx] at this
    exact this.2.2.1.symm
  refine toS_self (Nat.lt_trans (fsz_lt x) (by decide)) (by rw [e1]; exact hw) ?_ dir
  rw [← fd_abs]
  exact hm
end

/- Totals: what total's methods do to what they are handed. -/
section
open Go PG Go.Proofs
set_option maxRecDepth 100000
set_option linter.unusedSimpArgs false
set_option linter.unusedVariables false

/-- What a total holds. -/
structure Tt where
  n : Nat
  sum : Dy
  wrong : Bool
  nan : Bool
  up : Bool
  down : Bool
  minus : Bool
  plus : Bool
  other : Bool
def Tt.bk (t : Tt) : Bk := .box [.int .i64 t.n, .bool t.sum.s, NN t.sum.m, .int .i64 t.sum.e, .bool t.wrong, .bool t.nan, .bool t.up, .bool t.down, .bool t.minus, .bool t.plus, .bool t.other]
def Tt.zero : Tt := ⟨0, .zero, false, false, false, false, false, false, false⟩
theorem sum_lim {d : Dy} {K n : Nat} (ho : d.ok) (hg : d.ge (-(K : Int))) (hn : n ≤ 65536) (hl : (d.at (-(K : Int))).natAbs ≤ n * 2 ^ (2 * K)) : Lim (K + 20) d := by
  refine ⟨ho, hg.mono (by omega), ?_⟩
  rw [at_shift' (d := d) (k := -((K + 20 : Nat) : Int)) (k' := -(K : Int)) (by omega) hg, Int.natAbs_mul, Int.natAbs_natCast, show (-(K : Int) - -((K + 20 : Nat) : Int)).toNat = 20 by omega, show 2 * (K + 20) = 2 * K + 40 by omega, Nat.pow_add 2 (2 * K) 40]
  have hP := Nat.two_pow_pos (2 * K)
  have h1 : n * 2 ^ (2 * K) ≤ 65536 * 2 ^ (2 * K) := Nat.mul_le_mul_right _ hn
  generalize 2 ^ (2 * K) = P at *
  generalize (d.at (-(K : Int))).natAbs = x at *
  show x * 1048576 < P * 1099511627776
  omega
/-- Its sum is one of so many products of numbers. -/
def Tt.ok (t : Tt) : Prop := t.n ≤ 65536 ∧ t.sum.ok ∧ t.sum.ge (-(K0 : Int)) ∧ (t.sum.at (-(K0 : Int))).natAbs ≤ t.n * 2 ^ (2 * K0)
theorem Tt.ok.lim {t : Tt} (h : t.ok) : Lim (K0 + 20) t.sum := sum_lim h.2.1 h.2.2.1 h.1 h.2.2.2
theorem Tt.zero_ok : Tt.zero.ok := ⟨by decide, Dy.zero_ok, Dy.zero_ge _, by rw [show Tt.zero.sum = Dy.zero from rfl, at_zero (d := .zero) rfl]; exact Nat.zero_le _⟩
theorem Tt.ok.rd {t : Tt} (h : t.ok) : RD t.sum.pv t.sum := h.lim.RD (by rw [K0_eq]; decide)
/-- A number or a product is taken. -/
def Tt.take (t : Tt) (kind : Nat) (neg : Bool) (d : Dy) : Tt :=
  if kind = 5 then { t with n := t.n + 1, wrong := true, other := true }
  else if kind = 4 then { t with n := t.n + 1, nan := true, other := true }
  else if kind = 3 ∧ neg = true then { t with n := t.n + 1, down := true, other := true }
  else if kind = 3 then { t with n := t.n + 1, up := true, other := true }
  else if kind = 0 ∧ neg = true then { t with n := t.n + 1, minus := true }
  else if kind = 0 then { t with n := t.n + 1, plus := true }
  else { t with n := t.n + 1, sum := addS t.sum d, other := true }
theorem take_n (t : Tt) (kind : Nat) (neg : Bool) (d : Dy) : (t.take kind neg d).n = t.n + 1 := by
  unfold Tt.take
  repeat' split
  all_goals rfl
theorem sum_add {a b : Dy} {K n m : Nat} (oa : a.ok) (ob : b.ok) (ga : a.ge (-(K : Int))) (gb : b.ge (-(K : Int))) (fa : a.fits) (fb : b.fits) (ha : (a.at (-(K : Int))).natAbs ≤ n * 2 ^ (2 * K)) (hb : (b.at (-(K : Int))).natAbs ≤ m * 2 ^ (2 * K)) :
    (addS a b).ok ∧ (addS a b).ge (-(K : Int)) ∧ ((addS a b).at (-(K : Int))).natAbs ≤ (n + m) * 2 ^ (2 * K) := by
  refine ⟨addS_ok _ _, addS_ge oa ob fa fb ga gb, ?_⟩
  rw [addS_at oa ob fa fb ga gb, Nat.add_mul]
  omega
theorem take_ok {t : Tt} (h : t.ok) (hn : t.n < 65536) (kind : Nat) (neg : Bool) {d : Dy} (hd : kind ≠ 5 → kind ≠ 4 → kind ≠ 3 → kind ≠ 0 → Lim K0 d) : (t.take kind neg d).ok := by
  have h0 : t.n * 2 ^ (2 * K0) ≤ (t.n + 1) * 2 ^ (2 * K0) := Nat.mul_le_mul_right _ (Nat.le_succ _)
  have same : t.n + 1 ≤ 65536 ∧ t.sum.ok ∧ t.sum.ge (-(K0 : Int)) ∧ (t.sum.at (-(K0 : Int))).natAbs ≤ (t.n + 1) * 2 ^ (2 * K0) := ⟨by omega, h.2.1, h.2.2.1, Nat.le_trans h.2.2.2 h0⟩
  unfold Tt.take
  by_cases k5 : kind = 5
  · rw [if_pos k5]; exact same
  rw [if_neg k5]
  by_cases k4 : kind = 4
  · rw [if_pos k4]; exact same
  rw [if_neg k4]
  by_cases k3 : kind = 3
  · by_cases hn : neg = true
    · rw [if_pos ⟨k3, hn⟩]; exact same
    · rw [if_neg (fun h => hn h.2), if_pos k3]; exact same
  rw [if_neg (fun h => k3 h.1), if_neg k3]
  by_cases k0 : kind = 0
  · by_cases hn : neg = true
    · rw [if_pos ⟨k0, hn⟩]; exact same
    · rw [if_neg (fun h => hn h.2), if_pos k0]; exact same
  rw [if_neg (fun h => k0 h.1), if_neg k0]
  have hd := hd k5 k4 k3 k0
  have := sum_add (m := 1) h.2.1 hd.ok h.2.2.1 hd.ge (h.lim.fits (by rw [K0_eq]; decide)) (hd.fits (by rw [K0_eq]; decide)) h.2.2.2 (by rw [Nat.one_mul]; exact Nat.le_of_lt hd.lt)
  exact ⟨by show t.n + 1 ≤ 65536; omega, this⟩

theorem T_New : PCM E 47 [] [] (.ptr 0 0) [Tt.zero.bk] := by
  refine PCM.of_body follows Tryz.func47 (by decide +kernel) rfl (by kernel_rfl) (Nat.le_of_ble_eq_true rfl) (by simp) (by simp) (fun k h => by cases h; exact ⟨rfl, rfl⟩) (fun h => by cases h) (walk ?_)
  simp only [mstart, startS, blkL, shiftSV]
  simp only [Tryz.f47, go_sem]
  refine ⟨2, by decide, fun i b hb => ?_, .inr ⟨0, rfl, rfl, .inl ⟨0, rfl, rfl⟩⟩⟩
  match i, hb with
  | 0, hb =>
    simp only [List.getElem?_cons_zero, Option.some.injEq] at hb
    subst hb
    rfl
  | i + 1, hb => simp at hb
theorem T_full (t : Tt) (z : Int) (hz : 0 ≤ z ∧ z ≤ 65536) : PCM E 77 [.ptr 0 0, .val (.int .i64 z)] [t.bk] (.val (.bool (decide ((t.n : Int) > 65536 - z)))) [t.bk] := by
  refine PCM.of_body follows Tryz.func77 (by decide +kernel) rfl (by kernel_rfl) (Nat.le_of_ble_eq_true rfl) (Nat.le_refl _) (by simp) (fun k h => by cases h) (fun h => by cases h) (walk ?_)
  simp only [mstart, startS, blkL, shiftSV, Tt.bk]
  have w1 : IntKind.wrap .i64 (65536 - z) = 65536 - z := wrap64 (by omega) (by omega)
  simp only [Tryz.f77, w1, go_sem]
  exact fin1 (by decide) rfl rfl
end

/- Totals: taking numbers and products, joining. -/
section
open Go PG Go.Proofs
set_option maxRecDepth 100000
set_option linter.unusedSimpArgs false
set_option linter.unusedVariables false

theorem T_take {t : Tt} (ht : t.ok) (hn : t.n < 65536) (kind : Nat) (neg : Bool) {s : Bool} {P : PV} {e : Int} {d : Dy} (hd : RD (DP s P e) d) (hl : kind ≠ 5 → kind ≠ 4 → kind ≠ 3 → kind ≠ 0 → Lim K0 d) :
    PCM E 78 [.ptr 0 0, .val (.int .i64 kind), .val (.bool neg), .val (.agg [.bool s, P, .int .i64 e])] [t.bk] (.val (.tuple [])) [(t.take kind neg d).bk] := by
  refine PCM.of_body follows Tryz.func78 (by decide +kernel) rfl (by kernel_rfl) (Nat.le_of_ble_eq_true rfl) (Nat.le_refl _) (by simp) (fun k h => by cases h) (fun h => by cases h) (walk ?_)
  have w1 : IntKind.wrap .i64 ((t.n : Int) + 1) = ((t.n + 1 : Nat) : Int) := by rw [wrap64 (by omega) (by omega)]; omega
  have k1 := r_Add ht.rd hd
  unfold Tt.take
  by_cases k5 : kind = 5
  · rw [if_pos k5]
    simp only [mstart, startS, blkL, shiftSV, Tt.bk]
    simp only [Tryz.f78, w1, go_sem]
    refine qif_dt (by omega) ?_
    simp only [Tryz.f78, go_sem]
    exact fin1 (by decide) rfl rfl
  rw [if_neg k5]
  by_cases k4 : kind = 4
  · rw [if_pos k4]
    simp only [mstart, startS, blkL, shiftSV, Tt.bk]
    simp only [Tryz.f78, w1, go_sem]
    refine qif_df (by omega) ?_
    simp only [Tryz.f78, go_sem]
    refine qif_dt (by omega) ?_
    simp only [Tryz.f78, go_sem]
    exact fin1 (by decide) rfl rfl
  rw [if_neg k4]
  by_cases k3 : kind = 3
  · cases neg
    · rw [if_neg (by simp), if_pos k3]
      simp only [mstart, startS, blkL, shiftSV, Tt.bk]
      simp only [Tryz.f78, w1, go_sem]
      refine qif_df (by omega) ?_
      simp only [Tryz.f78, go_sem]
      refine qif_df (by omega) ?_
      simp only [Tryz.f78, go_sem]
      refine qif_dt (by omega) ?_
      simp only [Tryz.f78, go_sem]
      refine qif_dt (by omega) ?_
      simp only [Tryz.f78, go_sem]
      exact fin1 (by decide) rfl rfl
    · rw [if_pos ⟨k3, rfl⟩]
      simp only [mstart, startS, blkL, shiftSV, Tt.bk]
      simp only [Tryz.f78, w1, go_sem]
      refine qif_df (by omega) ?_
      simp only [Tryz.f78, go_sem]
      refine qif_df (by omega) ?_
      simp only [Tryz.f78, go_sem]
      refine qif_dt (by omega) ?_
      simp only [Tryz.f78, go_sem]
      exact fin1 (by decide) rfl rfl
  rw [if_neg (fun h => k3 h.1), if_neg k3]
  by_cases k0 : kind = 0
  · cases neg
    · rw [if_neg (by simp), if_pos k0]
      simp only [mstart, startS, blkL, shiftSV, Tt.bk]
      simp only [Tryz.f78, w1, go_sem]
      refine qif_df (by omega) ?_
      simp only [Tryz.f78, go_sem]
      refine qif_df (by omega) ?_
      simp only [Tryz.f78, go_sem]
      refine qif_df (by omega) ?_
      simp only [Tryz.f78, go_sem]
      refine qif_df (by omega) ?_
      simp only [Tryz.f78, go_sem]
      refine qif_dt (by omega) ?_
      simp only [Tryz.f78, go_sem]
      refine qif_dt (by omega) ?_
      simp only [Tryz.f78, go_sem]
      exact fin1 (by decide) rfl rfl
    · rw [if_pos ⟨k0, rfl⟩]
      simp only [mstart, startS, blkL, shiftSV, Tt.bk]
      simp only [Tryz.f78, w1, go_sem]
      refine qif_df (by omega) ?_
      simp only [Tryz.f78, go_sem]
      refine qif_df (by omega) ?_
      simp only [Tryz.f78, go_sem]
      refine qif_df (by omega) ?_
      simp only [Tryz.f78, go_sem]
      refine qif_df (by omega) ?_
      simp only [Tryz.f78, go_sem]
      refine qif_dt (by omega) ?_
      simp only [Tryz.f78, go_sem]
      exact fin1 (by decide) rfl rfl
  rw [if_neg (fun h => k0 h.1), if_neg k0]
  have hd' := hl k5 k4 k3 k0
  rw [addV_lim ht.lim (hd'.mono (J := K0 + 20) (by omega)) (by rw [K0_eq]; decide)] at k1
  simp only [mstart, startS, blkL, shiftSV, Tt.bk]
  generalize addS t.sum d = S at *
  simp only [Dy.pv, DP] at k1
  simp only [Tryz.f78, w1, go_sem]
  refine qif_df (by omega) ?_
  simp only [Tryz.f78, go_sem]
  refine qif_df (by omega) ?_
  simp only [Tryz.f78, go_sem]
  refine qif_df (by omega) ?_
  simp only [Tryz.f78, go_sem]
  refine qif_df (by omega) ?_
  simp only [Tryz.f78, go_sem]
  refine qif_df (by omega) ?_
  simp only [Tryz.f78, go_sem]
  refine qif_df (by omega) ?_
  simp only [Tryz.f78, go_sem]
  refine qcall_i (k1) ?_; simp only [Tryz.f78, go_sem]
  exact fin1 (by decide) rfl rfl

def addT (t : Tt) (x : Nat) : Tt := t.take (kind x) (fs x) (fd0 x)
theorem addT_ok {t : Tt} (ht : t.ok) (hn : t.n < 65536) (x : Nat) : (addT t x).ok := take_ok ht hn _ _ (fun _ _ _ _ => fd0_limK x)
theorem T_Add {t : Tt} (ht : t.ok) {x : Nat} (hx : x < W) : PCM E 49 [.ptr 0 0, .val (.int .u64 x)] [t.bk] (.val (.int .i64 (if t.n < 65536 then 0 else 2))) [(if t.n < 65536 then addT t x else t).bk] := by
  refine PCM.of_body follows Tryz.func49 (by decide +kernel) rfl (by kernel_rfl) (Nat.le_of_ble_eq_true rfl) (Nat.le_refl _) (by simp) (fun k h => by cases h) (fun h => by cases h) (walk ?_)
  simp only [mstart, startS, blkL, shiftSV]
  have hn := ht.1
  have k0 := T_full t 1 (by decide)
  by_cases h : t.n < 65536
  · rw [if_pos h, if_pos h]
    rw [show decide ((t.n : Int) > 65536 - 1) = false from decide_eq_false (by omega)] at k0
    have k1 := r_FDyad hx
    rw [show (if fe x < 2047 then fd x else Dy.zero) = fd0 x from rfl] at k1
    have k2 := c_Kind x hx
    have k3 := c_Neg x hx
    have k4 := T_take ht h (kind x) (fs x) ((fd0_lim x).RD (by decide)) (fun _ _ _ _ => fd0_limK x)
    rw [show t.take (kind x) (fs x) (fd0 x) = addT t x from rfl] at k4
    generalize addT t x = T at *
    generalize fd0 x = f at *
    simp only [u, Dy.pv, DP] at k1 k2 k3 k4
    obtain ⟨tb, htb⟩ : ∃ tb, tb = t.bk := ⟨_, rfl⟩
    rw [← htb] at k0 k4 ⊢
    obtain ⟨Tb, hTb⟩ : ∃ Tb, Tb = T.bk := ⟨_, rfl⟩
    rw [← hTb] at k4 ⊢
    obtain ⟨cs, hcs⟩ : ∃ cs, tb = .box cs := ⟨_, htb⟩
    subst hcs
    simp only [Tryz.f49, nilCmp, go_sem]
    refine qinl_i [25] (k0) rfl (by decide) rfl (one_blk rfl) (by intro d h; first | (cases h; decide) | cases h) (by intro h; first | rfl | cases h) ?_; simp only [Tryz.f49, ren, eraO, eraL, List.getD_cons_zero, List.getD_cons_succ, List.filter_cons, List.filter_nil, go_sem]
    refine qcall_i (k1) ?_; simp only [Tryz.f49, go_sem]
    refine qcall_i (k2) ?_; simp only [Tryz.f49, go_sem]
    refine qcall_i (k3) ?_; simp only [Tryz.f49, go_sem]
    refine qinl_i [25] (k4) rfl (by decide) rfl (one_blk rfl) (by intro d h; first | (cases h; decide) | cases h) (by intro h; first | rfl | cases h) ?_; simp only [Tryz.f49, ren, eraO, eraL, List.getD_cons_zero, List.getD_cons_succ, List.filter_cons, List.filter_nil, go_sem]
    exact fin1 (by decide) rfl rfl
  · rw [if_neg h, if_neg h]
    rw [show decide ((t.n : Int) > 65536 - 1) = true from decide_eq_true (by omega)] at k0
    obtain ⟨tb, htb⟩ : ∃ tb, tb = t.bk := ⟨_, rfl⟩
    rw [← htb] at k0 ⊢
    obtain ⟨cs, hcs⟩ : ∃ cs, tb = .box cs := ⟨_, htb⟩
    subst hcs
    simp only [Tryz.f49, nilCmp, go_sem]
    refine qinl_i [25] (k0) rfl (by decide) rfl (one_blk rfl) (by intro d h; first | (cases h; decide) | cases h) (by intro h; first | rfl | cases h) ?_; simp only [Tryz.f49, ren, eraO, eraL, List.getD_cons_zero, List.getD_cons_succ, List.filter_cons, List.filter_nil, go_sem]
    exact fin1 (by decide) rfl rfl
end

/- Totals: products, joining, and what a total is worth. -/
section
open Go PG Go.Proofs
set_option maxRecDepth 100000
set_option linter.unusedSimpArgs false
set_option linter.unusedVariables false

/-- The kind of a product. -/
def kindT (a b : Nat) : Nat := if max a b = 3 ∧ min a b = 0 then 5 else if max a b < 3 ∧ min a b = 0 then 0 else max a b
def mulT (t : Tt) (x y : Nat) : Tt := t.take (kindT (kind x) (kind y)) (fs x != fs y) (mulS (fd0 x) (fd0 y))
theorem mulT_ok {t : Tt} (ht : t.ok) (hn : t.n < 65536) (x y : Nat) : (mulT t x y).ok := take_ok ht hn _ _ (fun _ _ _ _ => prod_limK x y)
/-- All that another one took. -/
def joinT (t o : Tt) : Tt := ⟨t.n + o.n, addS t.sum o.sum, t.wrong || o.wrong, t.nan || o.nan, t.up || o.up, t.down || o.down, t.minus || o.minus, t.plus || o.plus, t.other || o.other⟩
theorem joinT_ok {t o : Tt} (ht : t.ok) (ho : o.ok) (hn : t.n + o.n ≤ 65536) : (joinT t o).ok := by
  have := sum_add (m := o.n) ht.2.1 ho.2.1 ht.2.2.1 ho.2.2.1 (ht.lim.fits (by rw [K0_eq]; decide)) (ho.lim.fits (by rw [K0_eq]; decide)) ht.2.2.2 ho.2.2.2
  exact ⟨hn, this⟩
end

/- Totals: joining; what a total is worth. -/
section
open Go PG Go.Proofs
set_option maxRecDepth 100000
set_option linter.unusedSimpArgs false
set_option linter.unusedVariables false

end

/- Totals: what a total is worth. -/
section
open Go PG Go.Proofs
set_option maxRecDepth 100000
set_option linter.unusedSimpArgs false
set_option linter.unusedVariables false

/-- What a total is worth, as bits and flags. -/
def worthS (t : Tt) (dir : Int) : Nat × Nat :=
  if t.wrong = true ∨ (t.up = true ∧ t.down = true) then (9221120237041090560, 16)
  else if t.nan = true then (9221120237041090560, 0)
  else if t.up = true then (9218868437227405312, 0)
  else if t.down = true then (18442240474082181120, 0)
  else if t.sum.m ≠ 0 then toS t.sum false dir
  else if (t.minus = true ∧ t.plus = false ∧ t.other = false) ∨ (dir = 3 ∧ (t.minus = true ∨ t.other = true)) then (9223372036854775808, 0)
  else (0, 0)
def resPV2 (r : Nat × Nat) (e : Int) : PV := .tuple [.agg [.int .u64 (r.1 : Int), .int .u8 (r.2 : Int), .int .i64 0], .int .i64 e]
theorem T_WorthN {t : Tt} {dir : Int} (hd : ¬ (0 ≤ dir ∧ dir ≤ 3)) : PCM E 48 [.ptr 0 0, .val (.int .i64 dir)] [t.bk] (.val (resPV2 (0, 0) 1)) [t.bk] := by
  refine PCM.of_body follows Tryz.func48 (by decide +kernel) rfl (by kernel_rfl) (Nat.le_of_ble_eq_true rfl) (Nat.le_refl _) (by simp) (fun k h => by cases h) (fun h => by cases h) (walk ?_)
  simp only [mstart, startS, blkL, shiftSV]
  unfold Tt.bk
  by_cases h0 : dir < 0
  · simp only [Tryz.f48, nilCmp, go_sem]
    refine qif_dt h0 ?_
    simp only [Tryz.f48, go_sem]
    exact fin1 (by decide) rfl rfl
  · simp only [Tryz.f48, nilCmp, go_sem]
    refine qif_df h0 ?_
    simp only [Tryz.f48, go_sem]
    refine qif_dt (by omega) ?_
    simp only [Tryz.f48, go_sem]
    exact fin1 (by decide) rfl rfl
theorem T_Worth {t : Tt} (ht : t.ok) {dir : Int} (hd : 0 ≤ dir ∧ dir ≤ 3) : PCM E 48 [.ptr 0 0, .val (.int .i64 dir)] [t.bk] (.val (resPV2 (worthS t dir) 0)) [t.bk] := by
  have k1 := r_Sign ht.rd
  have k2 := r_To ht.rd (by have := ht.lim.bits; rw [K0_eq] at this; omega) false dir
  rw [if_pos ⟨ht.lim.fits (by rw [K0_eq]; decide), hd.1, hd.2, fun h => by cases h.1⟩] at k2
  have hsg : t.sum.sg = 0 ↔ t.sum.m = 0 := by
    unfold Dy.sg; split
    · simp [*]
    · constructor
      · intro h; split at h <;> cases h
      · intro h; exact absurd h ‹_›
  refine PCM.of_body follows Tryz.func48 (by decide +kernel) rfl (by kernel_rfl) (Nat.le_of_ble_eq_true rfl) (Nat.le_refl _) (by simp) (fun k h => by cases h) (fun h => by cases h) (walk ?_)
  simp only [mstart, startS, blkL, shiftSV]
  obtain ⟨R, hR⟩ : ∃ R, R = worthS t dir := ⟨_, rfl⟩
  rw [← hR]
  unfold Tt.bk
  clear ht
  obtain ⟨tn, ts, wrong, nan, up, down, minus, plus, other⟩ := t
  unfold worthS at hR
  simp only [u, Dy.pv, DP] at k1 k2 hsg hR ⊢
  generalize toS ts false dir = To at *
  simp only [Tryz.f48, nilCmp, go_sem]
  refine qif_df (by omega) ?_
  simp only [Tryz.f48, go_sem]
  refine qif_df (by omega) ?_
  simp only [Tryz.f48, go_sem]
  repeat' first
    | ((with_reducible refine qif_i (fun h => ?_) (fun h => ?_)) <;> (try subst h))
    | ((with_reducible refine qcall_i k1 ?_); simp only [Tryz.f48, go_sem])
    | ((with_reducible refine qcall_i k2 ?_); simp only [Tryz.f48, go_sem])
    | simp only [Tryz.f48, go_sem]
  all_goals
    clear k1 k2
    try simp only [decide_eq_true_eq, decide_eq_false_iff_not, ne_eq, Decidable.not_not, Bool.not_eq_true', Bool.not_eq_false', hsg] at *
    try simp [*] at hR
    subst hR
    first
      | exact fin1 (by decide) rfl rfl
      | trace_state
end

/- Totals: sums of all, products of all; the laws' example. -/
section
open Go PG Go.Proofs
set_option maxRecDepth 100000
set_option linter.unusedSimpArgs false
set_option linter.unusedVariables false

/-- The total of numbers, of products. -/
def sumT (l : List Nat) : Tt := l.foldl addT .zero
def dotT (l : List (Nat × Nat)) : Tt := l.foldl (fun t p => mulT t p.1 p.2) .zero
theorem addT_n (t : Tt) (x : Nat) : (addT t x).n = t.n + 1 := take_n _ _ _ _
theorem mulT_n (t : Tt) (x y : Nat) : (mulT t x y).n = t.n + 1 := take_n _ _ _ _
theorem sumT_snoc (l : List Nat) (x : Nat) : sumT (l ++ [x]) = addT (sumT l) x := by unfold sumT; rw [List.foldl_append]; rfl
theorem dotT_snoc (l : List (Nat × Nat)) (p : Nat × Nat) : dotT (l ++ [p]) = mulT (dotT l) p.1 p.2 := by unfold dotT; rw [List.foldl_append]; rfl
theorem sumT_take {l : List Nat} (h : l.length ≤ 65536) : ∀ i, i ≤ l.length → (sumT (l.take i)).ok ∧ (sumT (l.take i)).n = i
  | 0, _ => ⟨Tt.zero_ok, rfl⟩
  | i + 1, hi => by
    obtain ⟨h1, h2⟩ := sumT_take h i (by omega)
    rw [List.take_succ_eq_append_getElem (by omega), sumT_snoc]
    exact ⟨addT_ok h1 (by omega) _, by rw [addT_n, h2]⟩
theorem dotT_take {l : List (Nat × Nat)} (h : l.length ≤ 65536) : ∀ i, i ≤ l.length → (dotT (l.take i)).ok ∧ (dotT (l.take i)).n = i
  | 0, _ => ⟨Tt.zero_ok, rfl⟩
  | i + 1, hi => by
    obtain ⟨h1, h2⟩ := dotT_take h i (by omega)
    rw [List.take_succ_eq_append_getElem (by omega), dotT_snoc]
    exact ⟨mulT_ok h1 (by omega) _ _, by rw [mulT_n, h2]⟩
theorem bk_box (t : Tt) : ∃ cs, t.bk = .box cs := ⟨_, rfl⟩
theorem c_Sum {l : List Nat} (ol : Ok W l) (hl : l.length ≤ 65536) {dir : Int} (hd : 0 ≤ dir ∧ dir ≤ 3) : PC E 19 [NL l, .int .i64 dir] (resPV2 (worthS (sumT l) dir) 0) := by
  have k0 := T_Worth (t := .zero) Tt.zero_ok hd
  have hlast := sumT_take hl l.length (Nat.le_refl _)
  rw [List.take_length] at hlast
  have kw := T_Worth hlast.1 hd
  have hfun : ∀ i, i < l.length → PCM E 49 [.ptr 0 0, .val (.int .u64 (l.getD i 0 : Nat))] [(sumT (l.take i)).bk] (.val (.int .i64 0)) [(sumT (l.take (i + 1))).bk] := fun i hi => by
    obtain ⟨h1, h2⟩ := sumT_take hl i (by omega)
    have hx : l[i] < W := ol _ (List.getElem_mem _)
    have := T_Add h1 hx
    rw [if_pos (by omega), if_pos (by omega), ← sumT_snoc, ← List.take_succ_eq_append_getElem hi] at this
    rwa [show l.getD i 0 = l[i] by rw [List.getD_eq_getElem?_getD, List.getElem?_eq_getElem hi]; rfl]
  have e0 : sumT (l.take 0) = .zero := rfl
  have eL : sumT (l.take l.length) = sumT l := by rw [List.take_length]
  obtain ⟨B, hB⟩ : ∃ B : Nat → Bk, ∀ i, (sumT (l.take i)).bk = B i := ⟨_, fun _ => rfl⟩
  have hget : ∀ i, i < l.length → (U l)[i]? = some (.int .u64 (l.getD i 0 : Nat)) := fun i hi => U_getD hi
  generalize worthS (sumT l) dir = R at *
  refine PC.of_body follows Tryz.func19 (by decide +kernel) rfl (by kernel_rfl) (Nat.le_of_ble_eq_true rfl) (walk ?_)
  unfold resPV2 at k0 kw ⊢
  have hz : Tt.zero.bk = B 0 := by rw [← hB, e0]
  have hz2 : (sumT l).bk = B l.length := by rw [← hB, eL]
  simp only [hB] at hfun
  rw [hz] at k0
  rw [hz2] at kw
  have kn := T_New
  rw [hz] at kn
  simp only [NL]
  simp only [Tryz.f19, go_sem]
  refine qinl_i [] kn rfl (by decide) rfl (fun i b k hb => by simp at hb) (by intro d h; simp) (by intro h; cases h) ?_
  simp only [Tryz.f19, ren, eraO, eraL, List.getD_cons_zero, List.filter_cons, List.filter_nil, go_sem]
  refine qinl_i [12] (k0) rfl (by decide) rfl (one_blk rfl) (by intro d h; first | (cases h; decide) | cases h) (by intro h; first | rfl | cases h) ?_; simp only [Tryz.f19, ren, eraO, eraL, List.getD_cons_zero, List.getD_cons_succ, List.filter_cons, List.filter_nil, go_sem]
  refine PLoop.intro (fun i : Nat => ⟨[(1, .val (.int .i64 dir)), (4, .ptr 4 0), (6, .ptr 12 0), (23, .val (.lst l.length (U l))), (24, .val (.int .i64 l.length)), (25, .val (.int .i64 i))],
    [(4, (.box [.int .u64 0, .int .u8 0, .int .i64 0], false)), (12, (B i, false))]⟩) (fun i => i ≤ l.length) (fun i => l.length - i) 0 (Nat.zero_le _) ?_ fun i hi => walk ?_
  · simp [Wk, sget, killL, kill1, SV.key]
  have wi : IntKind.wrap .i64 ((i : Int) + 1) = ((i + 1 : Nat) : Int) := by rw [wrap64 (by omega) (by omega)]; omega
  simp only [Tryz.f19, go_sem]
  refine qif_d (fun h => ?_) (fun h => ?_)
  · have kf := hfun i (by omega)
    simp only [Tryz.f19, go_sem]
    refine qand_i (by first | omega | (simp [V_length, U_length, tab_length, maxLen]; done) | (simp [V_length, U_length, tab_length, maxLen]; omega) | (refine ⟨?_, ?_⟩ <;> first | omega | (simp [V_length, U_length, tab_length, maxLen]; done) | (simp [V_length, U_length, tab_length, maxLen]; omega))) ?_; simp only [Tryz.f19, go_sem]
    refine qval_i (congrArg (Option.map _) (hget i (by omega))) ?_
    simp only [Tryz.f19, go_sem]
    refine qinl_i [12] (kf) rfl (by decide) rfl (one_blk rfl) (by intro d h; first | (cases h; decide) | cases h) (by intro h; first | rfl | cases h) ?_; simp only [Tryz.f19, ren, eraO, eraL, List.getD_cons_zero, List.getD_cons_succ, List.filter_cons, List.filter_nil, go_sem]
    simp only [Tryz.f19, wi, go_sem]
    refine ⟨i + 1, by omega, by omega, ?_⟩
    simp [Wk, sget, killL, kill1, SV.key]
  · have hil : i = l.length := by omega
    subst hil
    simp only [Tryz.f19, go_sem]
    refine qinl_i [12] (kw) rfl (by decide) rfl (one_blk rfl) (by intro d h; first | (cases h; decide) | cases h) (by intro h; first | rfl | cases h) ?_; simp only [Tryz.f19, ren, eraO, eraL, List.getD_cons_zero, List.getD_cons_succ, List.filter_cons, List.filter_nil, go_sem]
    try rfl
end

/- Sums of numbers and totals, in plain terms. No program stands here. -/
section
open Go PG Go.Proofs
set_option maxRecDepth 100000
set_option linter.unusedSimpArgs false
set_option linter.unusedVariables false

/-- A sum of numbers; what is none counts for 0. -/
def sumF (l : List Nat) : Dy := l.foldl (fun acc x => addS acc (fd0 x)) .zero
theorem sumF_snoc (l : List Nat) (x : Nat) : sumF (l ++ [x]) = addS (sumF l) (fd0 x) := by unfold sumF; rw [List.foldl_append]; rfl
theorem sumF_lim (l : List Nat) (hl : l.length ≤ 1000) : Lim (1153 + l.length) (sumF l) := by
  revert hl
  refine sumQ_ind (P := fun l => l.length ≤ 1000 → Lim (1153 + l.length) (sumF l)) (fun _ => (Lim.zero 1153).mono (by omega)) (fun l x ih hl => ?_) l
  rw [List.length_append, List.length_singleton] at hl
  rw [sumF_snoc, List.length_append, List.length_singleton]
  exact (ih (by omega)).add ((fd0_lim x).mono (by omega)) (by omega)
theorem fd0_at (x : Nat) : (fd0 x).ge (-1074) ∧ ((fd0 x).at (-1074)).natAbs < 2 ^ E98 := by
  unfold fd0; split
  · rename_i hf
    refine ⟨fd_ge x, ?_⟩
    rw [fd_at]
    have := fv_top hf
    split <;> omega
  · exact ⟨.inl rfl, by rw [at_zero (d := Dy.zero) rfl (-1074)]; exact Nat.two_pow_pos _⟩
theorem sumF_at (l : List Nat) (hl : l.length ≤ 1000) : (sumF l).ge (-1074) ∧ ((sumF l).at (-1074)).natAbs ≤ l.length * 2 ^ E98 := by
  revert hl
  refine sumQ_ind (P := fun l => l.length ≤ 1000 → (sumF l).ge (-1074) ∧ ((sumF l).at (-1074)).natAbs ≤ l.length * 2 ^ E98) (fun _ => ⟨.inl rfl, ?_⟩) (fun l x ih hl => ?_) l
  · rw [show (sumF []).at (-1074) = 0 from at_zero (d := sumF []) rfl (-1074)]; simp
  · rw [List.length_append, List.length_singleton] at hl ⊢
    obtain ⟨h1, h2⟩ := ih (by omega)
    obtain ⟨h3, h4⟩ := fd0_at x
    have L1 := (sumF_lim l (by omega)).mono (J := 3000) (by omega)
    have L2 := (fd0_lim x).mono (J := 3000) (by omega)
    have f1 := L1.fits (by decide)
    have f2 := L2.fits (by decide)
    rw [sumF_snoc]
    refine ⟨addS_ge L1.ok L2.ok f1 f2 h1 h3, ?_⟩
    rw [addS_at L1.ok L2.ok f1 f2 h1 h3, Nat.add_mul, Nat.one_mul]
    omega
theorem sumF_bits (l : List Nat) (hl : l.length ≤ 1000) : bitLen (sumF l).m ≤ 2200 := by
  obtain ⟨h1, h2⟩ := sumF_at l hl
  rw [natAbs_at] at h2
  have h3 : (sumF l).m * 1 ≤ (sumF l).m * 2 ^ ((sumF l).e - -1074).toNat := Nat.mul_le_mul_left _ (Nat.two_pow_pos _)
  have h4 : l.length * 2 ^ E98 < 2 ^ 10 * 2 ^ E98 := Nat.mul_lt_mul_of_pos_right (by have : (2 : Nat) ^ 10 = 1024 := by decide
                                                                                     omega) (Nat.two_pow_pos _)
  rw [← Nat.pow_add] at h4
  exact Nat.le_trans ((bitLen_le _ (10 + E98)).2 (by omega)) (by decide)
/-- Is one no number? -/
def oddL (l : List Nat) : Bool := l.any fun x => decide (2 < kind x)
theorem sumT_facts (l : List Nat) (hl : l.length ≤ 1000) : (sumT l).sum = sumF l ∧ (((sumT l).wrong || (sumT l).nan || (sumT l).up || (sumT l).down) = oddL l) := by
  revert hl
  refine sumQ_ind (P := fun l => l.length ≤ 1000 → (sumT l).sum = sumF l ∧ (((sumT l).wrong || (sumT l).nan || (sumT l).up || (sumT l).down) = oddL l)) (fun _ => ⟨rfl, rfl⟩) (fun l x ih hl => ?_) l
  rw [List.length_append, List.length_singleton] at hl
  obtain ⟨h1, h2⟩ := ih (by omega)
  have L1 := (sumF_lim l (by omega)).mono (J := 3000) (by omega)
  have L2 := (fd0_lim x).mono (J := 3000) (by omega)
  have hz : (fd0 x).m = 0 → addS (sumF l) (fd0 x) = sumF l := addS_zr L1.ok (L1.fits (by decide)) (L2.fits (by decide))
  have hm := fd0_m x
  have ho : oddL (l ++ [x]) = (oddL l || decide (2 < kind x)) := by unfold oddL; rw [List.any_append]; simp
  have hk := kind_le x
  rw [sumT_snoc, sumF_snoc, ho, ← h2]
  unfold addT Tt.take
  rw [← h1] at hz ⊢
  generalize sumT l = t at *
  generalize kind x = k at *
  generalize fs x = s at *
  obtain rfl | rfl | rfl | rfl | rfl | rfl : k = 0 ∨ k = 1 ∨ k = 2 ∨ k = 3 ∨ k = 4 ∨ k = 5 := by omega
  all_goals
    simp at hm
    cases s <;> simp_all
theorem kind_toS {d : Dy} (h0 : d.m ≠ 0) (more : Bool) (dir : Int) : kind (toS d more dir).1 ≤ 3 := by
  have hI : INF = 9218868437227405312 := rfl
  have h1 := mag_le h0 more dir
  unfold toS
  rw [if_neg h0]
  dsimp only
  generalize (magS d more dir).1 = v at *
  have hw := withS_fields d.s (b := v) (by omega)
  unfold kind
  rw [hw.2.2.1, hw.2.2.2.1]
  unfold fe ff
  repeat' split
  all_goals omega
end

/- hypot.Mean. -/
section
open Go PG Go.Proofs
set_option maxRecDepth 100000
set_option linter.unusedSimpArgs false
set_option linter.unusedVariables false

theorem mean_case {l : List Nat} (hl : l.length ≤ 1000) (dir : Int) : (4 ≤ kind (worthS (sumT l) dir).1 ∨ ((worthS (sumT l) dir).2 = 0 ∧ (kind (worthS (sumT l) dir).1 = 3 ∨ kind (worthS (sumT l) dir).1 = 0))) ↔ (oddL l = true ∨ (sumF l).m = 0) := by
  obtain ⟨h1, h2⟩ := sumT_facts l hl
  have L := sumF_lim l hl
  unfold worthS
  rw [h1]
  have k1 : kind 9221120237041090560 = 4 := by decide
  have k2 : kind 9218868437227405312 = 3 := by decide
  have k3 : kind 18442240474082181120 = 3 := by decide
  have k4 : kind 9223372036854775808 = 0 := by decide
  have k5 : kind 0 = 0 := by decide
  by_cases ho : oddL l = true
  · have hR : (oddL l = true ∨ (sumF l).m = 0) := .inl ho
    rw [ho] at h2
    refine ⟨fun _ => hR, fun _ => ?_⟩
    generalize sumT l = t at *
    by_cases hw : t.wrong = true ∨ (t.up = true ∧ t.down = true)
    · rw [if_pos hw]; left; dsimp only; omega
    rw [if_neg hw]
    by_cases hn : t.nan = true
    · rw [if_pos hn]; left; dsimp only; omega
    rw [if_neg hn]
    by_cases hu : t.up = true
    · rw [if_pos hu]; right; exact ⟨rfl, .inl k2⟩
    rw [if_neg hu]
    by_cases hdn : t.down = true
    · rw [if_pos hdn]; right; exact ⟨rfl, .inl k3⟩
    exfalso
    simp at hw hn hu hdn
    rw [hn, hu, hdn, hw.1] at h2
    cases h2
  · have ho' : oddL l = false := by simpa using ho
    rw [ho'] at h2
    generalize sumT l = t at *
    simp only [Bool.or_eq_false_iff] at h2
    obtain ⟨⟨⟨a1, a2⟩, a3⟩, a4⟩ := h2
    rw [a1, a2, a3, a4, if_neg (by simp), if_neg (by decide), if_neg (by decide), if_neg (by decide)]
    by_cases hm : (sumF l).m = 0
    · rw [if_neg (fun h => h hm)]
      refine ⟨fun _ => .inr hm, fun _ => .inr ?_⟩
      split
      · exact ⟨rfl, .inr k4⟩
      · exact ⟨rfl, .inr k5⟩
    · rw [if_pos hm]
      have hk := kind_toS hm false dir
      constructor
      · rintro (h | ⟨h, h3⟩)
        · omega
        · exfalso
          obtain ⟨b, hb, hf, hfd, -, e⟩ := toS_exact0 L.ok hm h
          rw [e] at h3
          dsimp only at h3
          have := kind_of hf (by rw [hfd]; exact hm)
          omega
      · rintro (h | h)
        · exact absurd h ho
        · exact absurd h hm
def lenD (l : List Nat) : Dy := mkD false l.length 0
/-- Bits and flags of a mean. -/
def meanS (l : List Nat) (dir : Int) : Nat × Nat := if oddL l = true ∨ (sumF l).m = 0 then worthS (sumT l) dir else toS (partD (sumF l) (lenD l)) (partR (sumF l) (lenD l)) dir
theorem lenD_facts {l : List Nat} (h0 : l.length ≠ 0) (hl : l.length ≤ 1000) : (lenD l).m ≠ 0 ∧ bitLen (lenD l).m ≤ 10 ∧ 0 ≤ (lenD l).e ∧ (lenD l).e ≤ 10 := by
  have hb : bitLen l.length ≤ 10 := (bitLen_le _ 10).2 (by have : (2 : Nat) ^ 10 = 1024 := by decide
                                                           omega)
  refine ⟨fun h => h0 (mkD_m0.1 h), Nat.le_trans (mkD_bits _ _ _) hb, ?_⟩
  have ht : tz l.length ≤ 10 := by
    obtain ⟨q, hq⟩ := tz_spec h0
    refine Nat.not_lt.1 fun h => ?_
    have h1 : 2 ^ 11 ≤ 2 ^ tz l.length := Nat.pow_le_pow_right (by decide) h
    have h2 : 2 ^ tz l.length * 1 ≤ 2 ^ tz l.length * (2 * q + 1) := Nat.mul_le_mul_left _ (by omega)
    have h3 : (2 : Nat) ^ 11 = 2048 := by decide
    omega
  unfold lenD mkD
  rw [if_neg h0]
  dsimp only
  have hc : cut 0 = 0 := by decide
  omega
theorem toS_fl2 (d : Dy) (more : Bool) (dir : Int) : (toS d more dir).2 < 256 := by
  by_cases h0 : d.m = 0
  · unfold toS; rw [if_pos h0]; decide
  by_cases ht : 1023 < d.top
  · rw [toS_big h0 ht]; simp
  rw [toS_no h0 (by omega)]
  dsimp only
  repeat' split
  all_goals decide
theorem toS_W2 (d : Dy) (more : Bool) (dir : Int) : (toS d more dir).1 < W := by
  have hI : INF = 9218868437227405312 := rfl
  unfold toS
  split
  · decide
  · rename_i h0
    have h1 := mag_le h0 more dir
    dsimp only
    exact (withS_fields d.s (by omega)).1
theorem worthS_W (t : Tt) (dir : Int) : (worthS t dir).1 < W := by
  have h := toS_W2 t.sum false dir
  unfold worthS
  repeat' split
  all_goals first | exact h | decide
theorem meanS_fl (l : List Nat) (dir : Int) : (meanS l dir).2 < 256 := by
  have h1 := toS_fl2 (partD (sumF l) (lenD l)) (partR (sumF l) (lenD l)) dir
  have h2 := toS_fl2 (sumT l).sum false dir
  unfold meanS worthS
  repeat' split
  all_goals first | exact h1 | exact h2 | simp
set_option maxHeartbeats 4000000 in
theorem h_Mean {l : List Nat} (ol : Ok W l) (h0 : l.length ≠ 0) (hl : l.length ≤ 1000) {dir : Int} (hd : 0 ≤ dir ∧ dir ≤ 3) : PC E 6 [NL l, .int .i64 dir] (resB (meanS l dir) 0) := by
  have k1 := h_right dir
  rw [decide_eq_true hd] at k1
  have k2 := c_Sum ol (by omega) hd
  have hw : (worthS (sumT l) dir).1 < W := worthS_W _ _
  have k3 := c_Kind _ hw
  have hmc := mean_case hl dir
  have L := sumF_lim l hl
  obtain ⟨n1, n2, n3, n4⟩ := lenD_facts h0 hl
  have kof := c_dOf (l.length : Int) (by omega) (by omega)
  have en : norm (l.length : Int) 0 = lenD l := by unfold norm lenD; rw [decide_eq_false (by omega), Int.natAbs_natCast]
  rw [en] at kof
  have L' : RD (lenD l).pv (lenD l) := RD.fit (mkD_ok _ _ _) (by omega) ⟨by omega, by omega⟩
  have kp0 := b_Part ((L.mono (J := 3000) (by omega)).RD (by decide)) L' dir
  have hmy : mayP (lenD l) := ⟨⟨by omega, by omega⟩, n1, by omega⟩
  have kp : (sumF l).m ≠ 0 → PC E 21 [(sumF l).pv, (lenD l).pv, .int .i64 dir] (.tuple [.int .u64 ((toS (partD (sumF l) (lenD l)) (partR (sumF l) (lenD l)) dir).1 : Nat), .int .u8 ((toS (partD (sumF l) (lenD l)) (partR (sumF l) (lenD l)) dir).2 : Nat), .int .i64 0]) := fun hm => by
    have hmx : mayP (sumF l) := ⟨(L.mono (J := 3000) (by omega)).fits (by decide), hm, Nat.le_trans (sumF_bits l hl) (by decide)⟩
    have hb := part_bits hmx hmy
    have he := (L.mono (J := 3000) (by omega)).e0
    unfold partB at kp0
    rwa [if_pos ⟨hmx, hmy, hd, mkD_fits (by omega) (by omega) (by omega)⟩] at kp0
  have hg : ∀ i, i < l.length → (U l)[i]? = some (.int .u64 (l.getD i 0 : Nat)) := fun i hi => U_getD hi
  have hx : ∀ i, i < l.length → l.getD i 0 < W := fun i hi => by rw [List.getD_eq_getElem?_getD, List.getElem?_eq_getElem hi]; exact ol _ (List.getElem_mem _)
  have hkd : ∀ i, i < l.length → PC E 15 [u (l.getD i 0)] (.tuple [(fd0 (l.getD i 0)).pv, .bool (decide (fe (l.getD i 0) < 2047))]) := fun i hi => r_FDyad (hx i hi)
  have hka : ∀ i, i < l.length → PC E 17 [(sumF (l.take i)).pv, (fd0 (l.getD i 0)).pv] (.tuple [(sumF (l.take (i + 1))).pv, .int .i64 0]) := fun i hi => by
    have hl' : (l.take i).length ≤ 1000 := by rw [List.length_take]; omega
    have h1 := (sumF_lim (l.take i) hl').mono (J := 3000) (by omega)
    have h2 := (fd0_lim (l.getD i 0)).mono (J := 3000) (by omega)
    have := r_Add (h1.RD (by decide)) (h2.RD (by decide))
    rw [addV_lim h1 h2 (by decide)] at this
    rwa [List.take_succ_eq_append_getElem hi, sumF_snoc, show l[i] = l.getD i 0 by rw [List.getD_eq_getElem?_getD, List.getElem?_eq_getElem hi]; rfl]
  have hn : l.take l.length = l := List.take_length
  have hS0 : sumF (l.take 0) = .zero := rfl
  unfold meanS
  obtain ⟨S, hS⟩ : ∃ S : Nat → Dy, ∀ i, sumF (l.take i) = S i := ⟨_, fun _ => rfl⟩
  rw [show sumF l = S l.length by rw [← hS, hn]] at kp hmc ⊢
  simp only [hS] at hS0 hka
  generalize toS (partD (S l.length) (lenD l)) (partR (S l.length) (lenD l)) dir = T at *
  generalize worthS (sumT l) dir = w at *
  obtain ⟨X, hX⟩ : ∃ X : Nat → Nat, ∀ i, l.getD i 0 = X i := ⟨_, fun _ => rfl⟩
  simp only [hX] at hg hkd hka
  have z0 : ((0 : Nat) : Int) = 0 := rfl
  generalize oddL l = od at *
  generalize lenD l = ld at *
  clear hX hS hn hx ol L L' kp0 hmy n1 n2 n3 n4 en hw
  unfold resPV2 at k2
  simp only [NL, u, resB, z0] at k2 k3 hkd kof ⊢
  generalize U l = U1 at *
  generalize l.length = n at *
  have hn1 : ((n : Int) > 1000) = False := eq_false (by omega)
  have hn2 : (1000 < (n : Int)) = False := eq_false (by omega)
  have hn3 : ((n : Int) = 0) = False := eq_false (by omega)
  generalize kind w.1 = kw at *
  refine PC.of_body follows Tryz.func6 (by decide +kernel) rfl (by kernel_rfl) (Nat.le_of_ble_eq_true rfl) (walk ?_)
  simp only [Tryz.f6, go_sem]
  refine qcall_i (k1) ?_; simp only [Tryz.f6, hn1, hn2, hn3, go_sem]
  refine qcall_i (k2) ?_; simp only [Tryz.f6, go_sem]
  refine qcall_i (k3) ?_; simp only [Tryz.f6, go_sem]
  by_cases hc : 4 ≤ kw ∨ (w.2 = 0 ∧ (kw = 3 ∨ kw = 0))
  · rw [if_pos (hmc.1 hc)]
    clear hka hkd kp kof hg hmc
    repeat' first
      | (exfalso; omega)
      | ((with_reducible refine qif_d (fun h => ?_) (fun h => ?_)) <;> first | (exfalso; omega) | simp only [Tryz.f6, go_sem])
      | rfl
  · have hm : ¬ (od = true ∨ (S n).m = 0) := fun h => hc (hmc.2 h)
    rw [if_neg hm]
    have kp := kp (fun h => hm (.inr h))
    clear hmc hm
    have g4 : ¬ (kw : Int) ≥ 4 := by omega
    refine qif_df g4 ?_
    simp only [Tryz.f6, go_sem]
    have wi : ∀ i : Nat, i < n → IntKind.wrap .i64 ((i : Int) + 1) = ((i + 1 : Nat) : Int) := fun i hi => by rw [wrap64 (by omega) (by omega)]; omega
    simp only [Dy.pv, DP, NN, NL] at hkd hka kp kof
    repeat' first
      | (exfalso; omega)
      | ((with_reducible refine qif_d (fun h => ?_) (fun h => ?_)) <;> first | (exfalso; omega) | simp only [Tryz.f6, go_sem])
    all_goals
      refine PLoop.intro (fun i : Nat => ⟨[(0, .val (.lst n U1)), (1, .val (.int .i64 dir)), (4, .ptr 4 0), (9, .ptr 9 0), (60, .val (.lst n U1)), (61, .val (.int .i64 n)), (62, .val (.int .i64 i))],
        [(4, (.box [.int .u64 0, .int .u8 0, .int .i64 0], false)), (9, (.box [.bool (S i).s, .lst (dg W (S i).m).length (U (dg W (S i).m)), .int .i64 (S i).e], false))]⟩) (fun i => i ≤ n) (fun i => n - i) 0 (Nat.zero_le _) ?_ fun i hi => walk ?_
      · rw [hS0]
        simp [Wk, sget, killL, kill1, SV.key, z0]
        try exact ⟨rfl, ⟨rfl, rfl⟩, rfl⟩
        try rfl
      simp only [Tryz.f6, go_sem]
      refine qif_d (fun h => ?_) (fun h => ?_)
      · have hin : i < n := by omega
        have x1 := hg i hin
        have k1 := hkd i hin
        have k3 := hka i hin
        have wi := wi i hin
        generalize fd0 (X i) = d at *
        simp only [Tryz.f6, go_sem]
        refine qand_i (by first | omega | (simp [V_length, U_length, tab_length, maxLen]; done) | (simp [V_length, U_length, tab_length, maxLen]; omega) | (refine ⟨?_, ?_⟩ <;> first | omega | (simp [V_length, U_length, tab_length, maxLen]; done) | (simp [V_length, U_length, tab_length, maxLen]; omega))) ?_; simp only [Tryz.f6, go_sem]
        refine qval_i (congrArg (Option.map _) x1) ?_
        simp only [Tryz.f6, go_sem]
        refine qcall_i (k1) ?_; simp only [Tryz.f6, go_sem]
        refine qcall_i (k3) ?_; simp only [Tryz.f6, wi, go_sem]
        refine ⟨i + 1, by omega, by omega, ?_⟩
        simp [Wk, sget, killL, kill1, SV.key]
      · have hin : i = n := by omega
        subst hin
        simp only [Tryz.f6, go_sem]
        refine qcall_i (kof) ?_; simp only [Tryz.f6, go_sem]
        refine qcall_i (kp) ?_; simp only [Tryz.f6, go_sem]
        try rfl
end
end Go.Proofs.YtmnnnapelmhalaaGreatDoor
