import Derived.Test.YtfkgaldbcngliaaGreatDoorI1
open Go PG Go.Proofs
set_option maxRecDepth 100000
set_option linter.unusedSimpArgs false
set_option linter.unusedVariables false
namespace Go.Proofs.YtfkgaldbcngliaaGreatDoor
theorem cmp_transR {a b c : Dy} (h1 : cmpD a b ≤ 0) (h2 : cmpD b c ≤ 0) : cmpD a c ≤ 0 := by
  rw [cmp_at (k := min a.e (min b.e c.e)) (.inr (by omega)) (.inr (by omega)), sgn_le] at h1 h2 ⊢
  omega
theorem cmp_mono {a b m : Dy} (h : cmpD a b ≤ 0) : cmpD a m ≤ cmpD b m := by
  have e1 := cmp_at (a := a) (b := m) (k := min a.e (min b.e m.e)) (.inr (by omega)) (.inr (by omega))
  have e2 := cmp_at (a := b) (b := m) (k := min a.e (min b.e m.e)) (.inr (by omega)) (.inr (by omega))
  rw [cmp_at (a := a) (b := b) (k := min a.e (min b.e m.e)) (.inr (by omega)) (.inr (by omega)), sgn_le] at h
  rw [e1, e2]
  unfold sgn
  repeat' split
  all_goals omega
theorem abs_tops {a b : Dy} (ha : a.m ≠ 0) (hb : b.m ≠ 0) (h : cmpD a.abs b.abs ≤ 0) : a.top ≤ b.top := by
  have t1 := top_at ha (k := min a.e b.e) (by omega)
  have t2 := top_at hb (k := min a.e b.e) (by omega)
  rw [cmp_at (k := min a.e b.e) (abs_le (by omega)) (abs_le (by omega)), sgn_le, abs_at, abs_at] at h
  refine Decidable.byContradiction fun hn => ?_
  have : 2 ^ (b.top + 1 - min a.e b.e).toNat ≤ 2 ^ (a.top - min a.e b.e).toNat := Nat.pow_le_pow_right (by decide) (by omega)
  omega
theorem low_mono {a b : Dy} (h : cmpD a.abs b.abs ≤ 0) : low a ≤ low b := by
  refine Decidable.byContradiction fun hn => ?_
  have ha : Bel (low a) a.abs := bel_low
  have hb : Bel (low b) b.abs := bel_low
  have h1 := hb.2.2.resolve_left (by have := ha.1; omega)
  have h2 := fd_le_trans ha.1 (show low b + 1 ≤ low a by omega) ha.2.1
  have h3 := cmp_transR h2 h
  omega
theorem away_mono {a b : Dy} (ha : a.m ≠ 0) (hb : b.m ≠ 0) (ta : a.top ≤ 1023) (tb : b.top ≤ 1023) (hs : a.s = b.s) (h : cmpD a.abs b.abs ≤ 0) (hl : low a = low b) (dir : Int)
    (hw : upM a false dir (unitOf a.top) = true) : upM b false dir (unitOf b.top) = true := by
  obtain ⟨a1, a2⟩ := pos_mid ha ta
  obtain ⟨b1, b2⟩ := pos_mid hb tb
  rw [upM_low ha ta] at hw
  rw [upM_low hb tb]
  rw [← hl, ← hs]
  rw [← hl] at b1 b2
  have hm := cmp_mono (m := mid (low a)) h
  rw [a1, b1] at hm
  have hx : hf b (unitOf b.top) = false ∧ bl b (unitOf b.top) = false → hf a (unitOf a.top) = false ∧ bl a (unitOf a.top) = false := fun hh => by
    rw [← a2]
    have h1 := b2.2 hh
    have h2 : cmpD (fd (low a)) a.abs ≤ 0 := (bel_low (d := a)).2.1
    have h3 : cmpD a.abs (fd (low a)) ≤ 0 := by
      refine cmp_transR h ?_
      rw [cmp_swap, h1]; decide
    rw [cmp_swap] at h3
    omega
  clear a1 a2 b1 b2
  generalize hf a (unitOf a.top) = Ha at *
  generalize bl a (unitOf a.top) = La at *
  generalize hf b (unitOf b.top) = Hb at *
  generalize bl b (unitOf b.top) = Lb at *
  generalize decide (low a % 2 = 1) = o at *
  unfold awayS at *
  generalize upw dir a.s = w at *
  by_cases h0 : dir = 0
  · rw [if_pos h0] at *
    cases Ha <;> cases La <;> cases Hb <;> cases Lb <;> cases o <;> simp_all
  · rw [if_neg h0] at *
    cases Ha <;> cases La <;> cases Hb <;> cases Lb <;> cases w <;> simp_all
theorem mag_no {d : Dy} (ht : d.top ≤ 1023) (more : Bool) (dir : Int) (h0 : d.m ≠ 0) : (magS d more dir).1 = vS d (upM d more dir (unitOf d.top)) := by
  unfold magS
  rw [if_neg (by omega), ← upM_low h0 ht]
  unfold vS
  generalize upM d more dir (unitOf d.top) = a
  by_cases h : (if a = true then low d + 1 else low d) = INF
  · rw [if_pos h, h]
  · rw [if_neg h]
theorem mag_le {d : Dy} (h0 : d.m ≠ 0) (more : Bool) (dir : Int) : (magS d more dir).1 ≤ INF := by
  by_cases ht : 1023 < d.top
  · unfold magS
    rw [if_pos ht]
    dsimp only
    split <;> decide
  · rw [mag_no (by omega) more dir h0]
    exact (vS_fd h0 (by omega) _).1
theorem mag_mono {a b : Dy} (ha : a.m ≠ 0) (hb : b.m ≠ 0) (hs : a.s = b.s) (h : cmpD a.abs b.abs ≤ 0) (dir : Int) : (magS a false dir).1 ≤ (magS b false dir).1 := by
  have htt := abs_tops ha hb h
  have hle := mag_le ha false dir
  have hlm := low_mono h
  by_cases tb : 1023 < b.top
  · have eb : (magS b false dir).1 = if dir = 0 ∨ upw dir b.s = true then INF else MAX := by
      unfold magS; rw [if_pos tb]
    rw [eb]
    by_cases hu : dir = 0 ∨ upw dir b.s = true
    · rw [if_pos hu]; exact hle
    · rw [if_neg hu]
      by_cases ta : 1023 < a.top
      · unfold magS; rw [if_pos ta, hs, if_neg hu]; exact Nat.le_refl _
      · rw [mag_no (by omega) false dir ha, upM_low ha (by omega)]
        have hp := flo_ok ha (show a.top ≤ 1023 by omega)
        have hl : low a = packB (flo a (unitOf a.top)) (unitOf a.top) := if_neg ta
        have hlt := pack_lt_inf hp
        have hn : awayS dir a.s (decide (low a % 2 = 1)) (hf a (unitOf a.top)) (bl a (unitOf a.top) || false) = false := by
          cases hh : awayS dir a.s (decide (low a % 2 = 1)) (hf a (unitOf a.top)) (bl a (unitOf a.top) || false)
          · rfl
          · exact absurd (hs ▸ away_dir hh) hu
        rw [hn]
        show low a ≤ MAX
        have hI : INF = MAX + 1 := rfl
        omega
  · have ta : a.top ≤ 1023 := by omega
    rw [mag_no ta false dir ha, mag_no (by omega) false dir hb]
    unfold vS
    by_cases hl : low a = low b
    · rw [hl]
      cases hw : upM a false dir (unitOf a.top)
      · rw [if_neg (by decide)]; split <;> omega
      · rw [away_mono ha hb ta (by omega) hs h hl dir hw]; exact Nat.le_refl _
    · split <;> split <;> omega
def svb (b : Nat) : Int := if fs b = true then -(fsz b : Int) else fsz b
theorem svb_withS (s : Bool) {v : Nat} (hv : v < 9223372036854775808) : svb (withS s v) = if s = true then -(v : Int) else v := by
  obtain ⟨_, h1, _, _, h2⟩ := withS_fields s hv
  unfold svb; rw [h1, h2]
def mir (k : Nat) : Nat := if k = 2 then 3 else if k = 3 then 2 else k
end Go.Proofs.YtfkgaldbcngliaaGreatDoor
