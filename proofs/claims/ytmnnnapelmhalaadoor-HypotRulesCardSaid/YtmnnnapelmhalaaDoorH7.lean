/- Several parts in one text. -/
import Derived.Test.YtmnnnapelmhalaaDoorH3
import Derived.Test.YtmnnnapelmhalaaDoorH5
import Derived.Test.YtmnnnapelmhalaaDoorH8
/- hypot's laws without a reference, in plain terms: signs and order play no part in a length. -/
section
open Go PG Go.Proofs
set_option maxRecDepth 100000
set_option linter.unusedSimpArgs false
set_option linter.unusedVariables false
namespace Go.Proofs.YtmnnnapelmhalaaDoor

theorem size_fields {x : Nat} (hx : x < W) : fe (fsz x) = fe x ∧ ff (fsz x) = ff x ∧ kind (fsz x) = kind x := by
  have h := withS_fields (fs x) (fsz_lt x)
  rw [withS_self hx] at h
  refine ⟨h.2.2.1.symm, h.2.2.2.1.symm, ?_⟩
  unfold kind
  rw [h.2.2.1, h.2.2.2.1]
theorem sq_abs (d : Dy) : mulS d.abs d.abs = mulS d d := by
  unfold mulS Dy.abs
  dsimp only
  rw [bne_self_eq_false, bne_self_eq_false]
theorem fd0_size {x : Nat} (hx : x < W) : mulS (fd0 (fsz x)) (fd0 (fsz x)) = mulS (fd0 x) (fd0 x) := by
  unfold fd0
  rw [(size_fields hx).1]
  split
  · rw [← fd_abs, sq_abs]
  · rfl
theorem sumQ_two (x y : Nat) : sumQ [x, y] = addS (mulS (fd0 x) (fd0 x)) (mulS (fd0 y) (fd0 y)) := by
  have L := prod_limK x x
  show addS (addS .zero (mulS (fd0 x) (fd0 x))) (mulS (fd0 y) (fd0 y)) = _
  rw [addS_zl L.ok Dy.zero_fits (L.fits (by rw [K0_eq]; decide)) rfl]
theorem sumQ_size {x y : Nat} (hx : x < W) (hy : y < W) : sumQ [fsz y, fsz x] = sumQ [x, y] := by
  rw [sumQ_two, sumQ_two, fd0_size hx, fd0_size hy, addS_comm]
theorem lenS_size {x y : Nat} (hx : x < W) (hy : y < W) (kx : kind x ≤ 2) (ky : kind y ≤ 2) (r : Nat) (dir : Int) : lenS [fsz y, fsz x] r dir = lenS [x, y] r dir := by
  unfold lenS
  have h : ∀ k : Nat, 3 ≤ k → ([fsz y, fsz x].any fun x => decide ((kind x : Int) = (k : Int))) = false ∧ ([x, y].any fun x => decide ((kind x : Int) = (k : Int))) = false := fun k hk => by
    rw [any2, any2, (size_fields hx).2.2, (size_fields hy).2.2]
    exact ⟨decide_eq_false (by omega), decide_eq_false (by omega)⟩
  have h5 := h 5 (by decide)
  have h3 := h 3 (by decide)
  have h4 := h 4 (by decide)
  rw [show ([fsz y, fsz x].any fun x => decide ((kind x : Int) = 5)) = false from h5.1, show ([x, y].any fun x => decide ((kind x : Int) = 5)) = false from h5.2,
    show ([fsz y, fsz x].any fun x => decide ((kind x : Int) = 3)) = false from h3.1, show ([x, y].any fun x => decide ((kind x : Int) = 3)) = false from h3.2,
    show ([fsz y, fsz x].any fun x => decide ((kind x : Int) = 4)) = false from h4.1, show ([x, y].any fun x => decide ((kind x : Int) = 4)) = false from h4.2, sumQ_size hx hy]
end Go.Proofs.YtmnnnapelmhalaaDoor
end

/- hypot's laws without a reference, in plain terms: the mean of one is it. -/
section
open Go PG Go.Proofs
set_option maxRecDepth 100000
set_option linter.unusedSimpArgs false
set_option linter.unusedVariables false
namespace Go.Proofs.YtmnnnapelmhalaaDoor

theorem sumF_one (x : Nat) : sumF [x] = fd0 x := by
  have L := fd0_lim x
  show addS .zero (fd0 x) = _
  exact addS_zl L.ok Dy.zero_fits (L.fits (by decide)) rfl
theorem part_one {a : Dy} (hok : a.ok) (h0 : a.m ≠ 0) (hb : bitLen a.m ≤ 4400) (he : -20000 ≤ a.e ∧ a.e ≤ 20000) : partD a ⟨false, 1, 0⟩ = a ∧ partR a ⟨false, 1, 0⟩ = false := by
  have hN : partN a ⟨false, 1, 0⟩ ≤ 71 := by
    unfold partN
    have : bitLen 1 = 1 := by decide
    dsimp only
    omega
  constructor
  · unfold partD
    rw [Nat.div_one, mkD_shift (hok.odd h0) (by dsimp only; omega) (by dsimp only; omega), Bool.bne_false]
    dsimp only
    rw [show a.e - 0 - ((partN a ⟨false, 1, 0⟩ : Nat) : Int) + ((partN a ⟨false, 1, 0⟩ : Nat) : Int) = a.e by omega]
  · unfold partR
    rw [Nat.mod_one]
    rfl
theorem mean_one {x : Nat} (hx : x < W) (hk : kind x ≤ 2) (dir : Int) : meanS [x] dir = (x, 0) := by
  have hm := fd0_m x
  have ho : oddL [x] = false := by
    unfold oddL
    simp
    omega
  unfold meanS
  rw [sumF_one, ho]
  by_cases h0 : (fd0 x).m = 0
  · rw [if_pos (.inr h0)]
    have hk0 : kind x = 0 := by omega
    have e : sumT [x] = addT .zero x := rfl
    rw [e]
    unfold addT Tt.take
    rw [hk0]
    have hx0 : x = if fs x = true then 9223372036854775808 else 0 := by
      have h1 : fe x = 0 ∧ ff x = 0 := by
        have := fe_lt x
        unfold kind at hk0
        repeat' split at hk0
        all_goals first | assumption | cases hk0
      obtain ⟨h2, h3⟩ := h1
      have hW : x < 18446744073709551616 := hx
      unfold fe at h2
      unfold ff at h3
      unfold fs
      split
      · rename_i h; simp at h; omega
      · rename_i h; simp at h; omega
    generalize fs x = s at *
    cases s
    · simp at hx0
      subst hx0
      simp [worthS, Tt.zero, Dy.zero]
    · simp at hx0
      subst hx0
      simp [worthS, Tt.zero, Dy.zero]
  · rw [if_neg (fun h => by
      rcases h with h | h
      · cases h
      · exact h0 h)]
    have hf := fd0_fn hk
    have hl : lenD [x] = ⟨false, 1, 0⟩ := by show mkD false 1 0 = _; decide +kernel
    rw [hf] at h0
    have he := fd_e x
    have hb := fd_bits x
    obtain ⟨p1, p2⟩ := part_one (fd_ok' x) h0 (by omega) (by omega)
    rw [hl, hf, p1, p2]
    exact toS_self hx (fd_fin hk) h0 dir
end Go.Proofs.YtmnnnapelmhalaaDoor
end

/- Roundings stay on the side of a number on which the rounded lies. No program stands here. -/
section
open Go PG Go.Proofs
set_option maxRecDepth 100000
set_option linter.unusedSimpArgs false
set_option linter.unusedVariables false
namespace Go.Proofs.YtmnnnapelmhalaaDoor

theorem low_ge {d : Dy} {a : Nat} (ha : a ≤ INF) (h : cmpD (fd a) d.abs ≤ 0) : a ≤ low d := by
  have hb := bel_low (d := d)
  refine Nat.not_lt.1 fun hlt => ?_
  rcases hb.2.2 with h1 | h1
  · omega
  · have := fd_le_trans (a := low d + 1) ha hlt h
    omega
/-- A number that is at most what is rounded is at most the rounded one. -/
theorem mag_ge {d : Dy} (h0 : d.m ≠ 0) {a : Nat} (ha : a < INF) (h : cmpD (fd a) d.abs ≤ 0) (more : Bool) (dir : Int) : a ≤ (magS d more dir).1 := by
  have hI : INF = 9218868437227405312 := rfl
  have hM : MAX = 9218868437227405311 := rfl
  have h1 := low_ge (Nat.le_of_lt ha) h
  by_cases ht : 1023 < d.top
  · unfold magS
    rw [if_pos ht]
    dsimp only
    split <;> omega
  · rw [mag_no (by omega) more dir h0]
    unfold vS
    split <;> omega
/-- A number that is at least what is rounded is at least the rounded one. -/
theorem mag_le_of {d : Dy} (h0 : d.m ≠ 0) {a : Nat} (ha : a < INF) {more : Bool} (h : 0 < cmpD (fd a) d.abs ∨ (cmpD (fd a) d.abs = 0 ∧ more = false)) (dir : Int) : (magS d more dir).1 ≤ a := by
  have hI : INF = 9218868437227405312 := rfl
  have hb := bel_low (d := d)
  have hle := hb.1
  rcases h with h | ⟨h, rfl⟩
  · have hlt : low d < a := Nat.not_le.1 fun hc => by
      have := fd_le_trans hle hc hb.2.1
      omega
    have ht : d.top ≤ 1023 := Int.not_lt.1 fun ht => by
      have : low d = INF := if_pos ht
      omega
    rw [mag_no ht more dir h0]
    unfold vS
    split <;> omega
  · have hge := low_ge (Nat.le_of_lt ha) (by omega : cmpD (fd a) d.abs ≤ 0)
    have hla : low d = a := by
      refine Nat.le_antisymm (Nat.not_lt.1 fun hlt => ?_) hge
      have h1 := fd_le_trans (a := a + 1) hle hlt hb.2.1
      have h2 : cmpD (fd a) (fd (a + 1)) < 0 := by
        rw [fd_cmp (by omega) (by omega)]
        exact (sgn_neg _ _).2 (by omega)
      have h3 : cmpD (fd (a + 1)) d.abs ≤ 0 := h1
      have h4 := cmp_mono (m := d.abs) (a := fd a) (b := fd (a + 1)) (by omega)
      have h5 := cmp_swap (fd a) d.abs
      have h6 := cmp_mono (m := fd a) h3
      have h7 := cmp_swap (fd a) (fd (a + 1))
      omega
    have ht : d.top ≤ 1023 := Int.not_lt.1 fun ht => by
      have : low d = INF := if_pos ht
      omega
    have hx := (pos_mid h0 ht).2.1 (by rw [hla]; exact h)
    rw [mag_no ht false dir h0, upM_low h0 ht, hx.1, hx.2]
    have hw : awayS dir d.s (decide (low d % 2 = 1)) false (false || false) = false := by
      unfold awayS; split <;> rfl
    rw [hw]
    unfold vS
    rw [if_neg (by decide)]
    omega
end Go.Proofs.YtmnnnapelmhalaaDoor
end

/- What is not more is not rounded to more, of values that are told by tests. No program stands here. -/
section
open Go PG Go.Proofs
set_option maxRecDepth 100000
set_option linter.unusedSimpArgs false
set_option linter.unusedVariables false
namespace Go.Proofs.YtmnnnapelmhalaaDoor

theorem low_le_of {d : Dy} {b : Nat} (hb : b < INF) (h : 0 ≤ cmpD (fd b) d.abs) : low d ≤ b := by
  have hI : INF = 9218868437227405312 := rfl
  have hbl := bel_low (d := d)
  refine Nat.not_lt.1 fun hlt => ?_
  have h1 := fd_le_trans hbl.1 (show b + 1 ≤ low d from hlt) hbl.2.1
  have h2 : cmpD (fd b) (fd (b + 1)) < 0 := by
    rw [fd_cmp (by omega) (by omega)]
    exact (sgn_neg _ _).2 (by omega)
  rw [cmp_val_le] at h1
  rw [cmp_val_lt] at h2
  rw [cmp_val_ge] at h
  grind
theorem low_top {d : Dy} (h : low d < INF) : d.top ≤ 1023 := Int.not_lt.1 fun ht => by
  have : low d = INF := if_pos ht
  omega
theorem probe_mid {b : Nat} : probe (mid b) := by
  have h1 := mid_bits b
  have h2 := fe_lt b
  refine probe_few rfl (by omega) ?_
  show -2000 ≤ max (fe b : Int) 1 - 1076 ∧ max (fe b : Int) 1 - 1076 ≤ 2000
  omega
theorem away_rise {dir : Int} {s o : Bool} {H1 L1 m1 H2 L2 m2 : Bool} (hu : awayS dir s o H1 (L1 || m1) = true)
    (x1 : H1 = true → L1 = true ∨ m1 = true → H2 = true ∧ (L2 = true ∨ m2 = true)) (x2 : H1 = true → H2 = true) (x3 : H1 = true ∨ L1 = true ∨ m1 = true → H2 = true ∨ L2 = true ∨ m2 = true) : awayS dir s o H2 (L2 || m2) = true := by
  unfold awayS at *
  generalize upw dir s = w at *
  by_cases h0 : dir = 0
  · rw [if_pos h0] at *
    cases H1 <;> cases L1 <;> cases m1 <;> cases H2 <;> cases L2 <;> cases m2 <;> cases o <;> simp_all
  · rw [if_neg h0] at *
    cases H1 <;> cases L1 <;> cases m1 <;> cases H2 <;> cases L2 <;> cases m2 <;> cases w <;> simp_all
/-- Of two values that are told by tests, what is not more is not rounded to more. -/
theorem mag_rise {tc1 tc2 : Dy → Int} {d1 d2 : Dy} {m1 m2 : Bool} (h1 : d1.m ≠ 0) (h2 : d2.m ≠ 0) (t1 : tcOk tc1 d1 m1) (t2 : tcOk tc2 d2 m2)
    (hlt : ∀ n, probe n → tc1 n < 0 → tc2 n < 0) (hgt : ∀ n, probe n → 0 < tc2 n → 0 < tc1 n) (hs : d1.s = d2.s) {b : Nat} (hb : b < INF) (hc : 0 ≤ tc2 (fd b)) (dir : Int) :
    (magS d1 m1 dir).1 ≤ (magS d2 m2 dir).1 := by
  have pb := probe_fd (Nat.le_of_lt hb)
  have c2 : 0 ≤ cmpD (fd b) d2.abs := by
    have := (t2 _ pb).1
    exact Int.not_lt.1 fun h => by
      have := this.2 (.inl h)
      omega
  have c1 : 0 ≤ cmpD (fd b) d1.abs := by
    have h3 := (t1 _ pb).1
    exact Int.not_lt.1 fun h => by
      have h4 := hlt _ pb (h3.2 (.inl h))
      omega
  have l1 := low_le_of hb c1
  have l2 := low_le_of hb c2
  have T1 : d1.top ≤ 1023 := low_top (by omega)
  have T2 : d2.top ≤ 1023 := low_top (by omega)
  have b1 := bel_low (d := d1)
  have b2 := bel_low (d := d2)
  have pL := probe_fd b1.1
  have hL : low d1 ≤ low d2 := by
    refine low_ge b1.1 ?_
    have q1 := (t1 _ pL).2
    have q2 := (t2 _ pL).2
    have q3 := hgt _ pL
    have q4 := b1.2.1
    exact Int.not_lt.1 fun h => by
      have := q1.1 (q3 (q2.2 h))
      omega
  rw [mag_no T1 m1 dir h1, mag_no T2 m2 dir h2]
  unfold vS
  by_cases e : low d1 = low d2
  · cases hu : upM d1 m1 dir (unitOf d1.top)
    · rw [if_neg (by decide)]; split <;> omega
    · have : upM d2 m2 dir (unitOf d2.top) = true := by
        rw [upM_low h1 T1] at hu
        rw [upM_low h2 T2, ← e, ← hs]
        obtain ⟨a1, a2⟩ := pos_mid h1 T1
        obtain ⟨a3, a4⟩ := pos_mid h2 T2
        rw [← e] at a3 a4
        have pm : probe (mid (low d1)) := probe_mid
        have q1 := t1 _ pm
        have q2 := t2 _ pm
        have r1 := t1 _ pL
        have r2 := t2 _ pL
        have g1 := hlt _ pm
        have g2 := hgt _ pm
        have g3 := hlt _ pL
        have b3 := b1.2.1
        have b4 := b2.2.1
        rw [← e] at b4
        rw [cmp_swap] at a1 a3
        generalize tc1 (mid (low d1)) = x1 at *
        generalize tc2 (mid (low d1)) = x2 at *
        generalize tc1 (fd (low d1)) = x3 at *
        generalize tc2 (fd (low d1)) = x4 at *
        generalize cmpD (mid (low d1)) d1.abs = y1 at *
        generalize cmpD (mid (low d1)) d2.abs = y2 at *
        generalize cmpD (fd (low d1)) d1.abs = y3 at *
        generalize cmpD (fd (low d1)) d2.abs = y4 at *
        generalize hf d1 (unitOf d1.top) = H1 at *
        generalize bl d1 (unitOf d1.top) = L1 at *
        generalize hf d2 (unitOf d2.top) = H2 at *
        generalize bl d2 (unitOf d2.top) = L2 at *
        clear t1 t2 hlt hgt pm pL pb c1 c2 l1 l2 b1 b2
        refine away_rise hu (fun k1 k2 => ?_) (fun k1 => ?_) (fun k1 => ?_)
        · clear hu r1 r2 g3 a2 a4
          rw [k1] at a1
          cases H2 <;> cases L2 <;> cases m2 <;> cases L1 <;> cases m1 <;> simp at * <;> omega
        · clear hu r1 r2 g3 a2 a4 g1
          rw [k1] at a1
          cases H2 <;> cases L2 <;> cases m2 <;> cases L1 <;> cases m1 <;> simp at * <;> omega
        · clear hu a1 a3 q1 q2 g1 g2
          cases H1 <;> cases H2 <;> cases L2 <;> cases m2 <;> cases L1 <;> cases m1 <;> simp at * <;> omega
      rw [this]
      simp only [if_true]
      omega
  · split <;> split <;> omega
end Go.Proofs.YtmnnnapelmhalaaDoor
end

/- hypot's laws without a reference, in plain terms: lengths and means of two sizes. -/
section
open Go PG Go.Proofs
set_option maxRecDepth 100000
set_option linter.unusedSimpArgs false
set_option linter.unusedVariables false
namespace Go.Proofs.YtmnnnapelmhalaaDoor

theorem toS_fst {d : Dy} (h0 : d.m ≠ 0) (hs : d.s = false) (more : Bool) (dir : Int) : (toS d more dir).1 = (magS d more dir).1 := by
  unfold toS; rw [if_neg h0, hs]
  unfold withS
  simp
theorem mag_ge_t {tc : Dy → Int} {d : Dy} {more : Bool} (h0 : d.m ≠ 0) (t : tcOk tc d more) {b : Nat} (hb : b < INF) (h : ¬ 0 < tc (fd b)) (dir : Int) : b ≤ (magS d more dir).1 :=
  mag_ge h0 hb (by
    have := (t _ (probe_fd (Nat.le_of_lt hb))).2
    exact Int.not_lt.1 fun h2 => h (this.2 h2)) more dir
theorem mag_le_t {tc : Dy → Int} {d : Dy} {more : Bool} (h0 : d.m ≠ 0) (t : tcOk tc d more) {b : Nat} (hb : b < INF) (h : ¬ tc (fd b) < 0) (dir : Int) : (magS d more dir).1 ≤ b :=
  mag_le_of h0 hb (by
    have q1 := (t _ (probe_fd (Nat.le_of_lt hb))).1
    have q2 := (t _ (probe_fd (Nat.le_of_lt hb))).2
    by_cases hp : 0 < tc (fd b)
    · exact .inl (q2.1 hp)
    · right
      have n1 : ¬ cmpD (fd b) d.abs < 0 := fun h2 => h (q1.2 (.inl h2))
      have n2 : ¬ 0 < cmpD (fd b) d.abs := fun h2 => hp (q2.2 h2)
      have e : cmpD (fd b) d.abs = 0 := by omega
      refine ⟨e, ?_⟩
      cases hm : more
      · rfl
      · exact absurd (q1.2 (.inr ⟨e, hm⟩)) h) dir
theorem probe_nonneg {n : Dy} (h : probe n) : 0 ≤ n.val := by
  obtain ⟨-, m, e, hv, -⟩ := h
  rw [hv]
  exact Rat.mul_nonneg (by exact_mod_cast Nat.zero_le m) (Rat.le_of_lt (z2_pos e))
theorem fdv_nonneg {a : Nat} (ha : a < INF) : 0 ≤ (fd a).val := probe_nonneg (probe_fd (Nat.le_of_lt ha))
theorem fdv_mono {a b : Nat} (ha : a < INF) (hb : b < INF) (h : a ≤ b) : (fd a).val ≤ (fd b).val := by
  have hI : INF = 9218868437227405312 := rfl
  rw [← cmp_val_le, fd_cmp (by omega) (by omega), sgn_le]
  omega
theorem fsz_self {a : Nat} (ha : a < INF) : fsz a = a := by
  have hI : INF = 9218868437227405312 := rfl
  unfold fsz; omega
theorem fdv_zero {a : Nat} (ha : a < INF) : (fd a).val = 0 ↔ a = 0 := by
  rw [val_eq_zero, fd_m0 (fsz_INF.2 (by rw [fsz_self ha]; exact ha)), fsz_self ha]
theorem sq_nonneg (X : Rat) : 0 ≤ X * X := by
  by_cases h : 0 ≤ X
  · exact Rat.mul_nonneg h h
  · have h5 : 0 ≤ -X := by grind
    have := Rat.mul_nonneg h5 h5
    grind
theorem sq_le {X Y : Rat} (h0 : 0 ≤ X) (h : X ≤ Y) : X * X ≤ Y * Y := by
  have h1 : X * X ≤ X * Y := Rat.mul_le_mul_of_nonneg_left h h0
  have h2 : X * Y ≤ Y * Y := Rat.mul_le_mul_of_nonneg_right h (by grind)
  grind
theorem pr_le {X A B : Rat} (h0 : 0 ≤ X) (h1 : X ≤ A) (h2 : X ≤ B) : X * X ≤ A * B := by
  have h3 : X * X ≤ X * B := Rat.mul_le_mul_of_nonneg_left h2 h0
  have h4 : X * B ≤ A * B := Rat.mul_le_mul_of_nonneg_right h1 (by grind)
  grind
theorem pr_ge {X A B : Rat} (ha : 0 ≤ A) (hb : 0 ≤ B) (h1 : A ≤ X) (h2 : B ≤ X) : A * B ≤ X * X := by
  have h3 : A * B ≤ A * X := Rat.mul_le_mul_of_nonneg_left h2 ha
  have h4 : A * X ≤ X * X := Rat.mul_le_mul_of_nonneg_right h1 (by grind)
  grind
theorem gm1 {A B n : Rat} (hA : 0 ≤ A) (hB : 0 ≤ B) (hn : 0 ≤ n) (h : n * n < A * B) : n * 2 < A + B := by
  have h1 := sq_nonneg (A - B)
  refine Rat.not_le.1 fun h2 => ?_
  have h3 := sq_le (X := A + B) (Y := n * 2) (by grind) h2
  grind
theorem gm2 {A B n : Rat} (hA : 0 ≤ A) (hB : 0 ≤ B) (hn : 0 ≤ n) (h : A + B < n * 2) : A * B < n * n := by
  have h1 := sq_nonneg (A - B)
  have h2 := tri_sq (A + B) (n * 2) (by grind) h
  grind
/-- A length is at least each size. -/
theorem len_ge {a b r : Nat} (ha : a < INF) (hb : b < INF) (ka : kind a ≤ 2) (kb : kind b ≤ 2) (hr : Isq (rootM (sumQ [a, b])) r) (dir : Int) : a ≤ (lenS [a, b] r dir).1 ∧ b ≤ (lenS [a, b] r dir).1 := by
  have L := (sumQ_lim [a, b] (by simp))
  have hv : (sumQ [a, b]).val = (fd a).val * (fd a).val + (fd b).val * (fd b).val := by
    have L1 := prod_limK a a
    have L2 := prod_limK b b
    rw [sumQ_two, L1.val_add L2 (by rw [K0_eq]; decide), val_mul, val_mul, fd0_fn ka, fd0_fn kb]
  have na := sq_nonneg (fd a).val
  have nb := sq_nonneg (fd b).val
  have hA := fdv_zero ha
  have hB := fdv_zero hb
  have hA0 := fdv_nonneg ha
  have hB0 := fdv_nonneg hb
  have h : ∀ k : Nat, 3 ≤ k → ([a, b].any fun x => decide ((kind x : Int) = (k : Int))) = false := fun k hk => by
    rw [any2]
    exact decide_eq_false (by omega)
  have h5 := h 5 (by decide)
  have h3 := h 3 (by decide)
  have h4 := h 4 (by decide)
  unfold lenS
  rw [show ([a, b].any fun x => decide ((kind x : Int) = 5)) = false from h5, show ([a, b].any fun x => decide ((kind x : Int) = 3)) = false from h3,
    show ([a, b].any fun x => decide ((kind x : Int) = 4)) = false from h4, if_neg (by decide), if_neg (by decide), if_neg (by decide)]
  unfold rootS
  by_cases h0 : (sumQ [a, b]).m = 0
  · rw [if_pos h0]
    have e := val_eq_zero.2 h0
    rw [hv] at e
    have ea : (fd a).val = 0 := by
      rcases rtri (fd a).val 0 with h1 | h1 | h1
      · grind
      · exact h1
      · have := Rat.mul_pos h1 h1
        grind
    have eb : (fd b).val = 0 := by
      rcases rtri (fd b).val 0 with h1 | h1 | h1
      · grind
      · exact h1
      · have := Rat.mul_pos h1 h1
        grind
    have := hA.1 ea
    have := hB.1 eb
    dsimp only
    omega
  · rw [if_neg h0]
    have hs : (sumQ [a, b]).s = false := s_of_val L.ok (sumQ_val [a, b] (by simp))
    have hr1 := isq_pos hr (rootM_pos h0)
    have he := (L.mono (J := 4000) (by rw [K0_eq]; simp)).e0
    have T := tc_root h0 hs (sumQ_bits [a, b] (by simp)) (by omega) hr
    have d0 : (rootD (sumQ [a, b]) r).m ≠ 0 := fun h => by have := mkD_m0.1 h; omega
    have ds : (rootD (sumQ [a, b]) r).s = false := mkD_s (by omega)
    rw [toS_fst d0 ds]
    constructor
    · refine mag_ge_t d0 T ha ?_ dir
      rw [cmp_val_gt, val_mul, hv]
      grind
    · refine mag_ge_t d0 T hb ?_ dir
      rw [cmp_val_gt, val_mul, hv]
      grind
theorem sumF_two (a b : Nat) : sumF [a, b] = addS (fd0 a) (fd0 b) := by
  have L := fd0_lim a
  show addS (addS .zero (fd0 a)) (fd0 b) = _
  rw [addS_zl L.ok Dy.zero_fits (L.fits (by decide)) rfl]
theorem lenD_two (a b : Nat) : lenD [a, b] = ⟨false, 1, 1⟩ := by show mkD false 2 0 = _; decide +kernel
theorem val_two : (⟨false, 1, 1⟩ : Dy).val = 2 := by
  rw [val_few (n := ⟨false, 1, 1⟩) rfl]
  show ((1 : Nat) : Rat) * (2 : Rat) ^ (1 : Int) = 2
  rw [z2_one]
  first | simp | grind
theorem oddL_two {a b : Nat} (ka : kind a ≤ 2) (kb : kind b ≤ 2) : oddL [a, b] = false := by
  unfold oddL
  simp
  omega
theorem mean_two {a b : Nat} (ha : a < INF) (hb : b < INF) (ka : kind a ≤ 2) (kb : kind b ≤ 2) (h0 : ¬ (a = 0 ∧ b = 0)) : ∃ (d : Dy) (more : Bool) (tc : Dy → Int), d.m ≠ 0 ∧ d.s = false ∧ (∀ dir, (meanS [a, b] dir).1 = (magS d more dir).1) ∧ tcOk tc d more ∧
    ∀ n, (tc n < 0 ↔ n.val * 2 < (fd a).val + (fd b).val) ∧ (0 < tc n ↔ (fd a).val + (fd b).val < n.val * 2) := by
  have L1 := fd0_lim a
  have L2 := fd0_lim b
  have hA0 := fdv_nonneg ha
  have hB0 := fdv_nonneg hb
  have hv : (sumF [a, b]).val = (fd a).val + (fd b).val := by
    rw [sumF_two, L1.val_add L2 (by decide), fd0_fn ka, fd0_fn kb]
  have L := sumF_lim [a, b] (by simp)
  have hm : (sumF [a, b]).m ≠ 0 := fun h => by
    have e := val_eq_zero.2 h
    rw [hv] at e
    exact h0 ⟨(fdv_zero ha).1 (by grind), (fdv_zero hb).1 (by grind)⟩
  have hs : (sumF [a, b]).s = false := s_of_val L.ok (by rw [hv]; grind)
  have he := (L.mono (J := 4000) (by simp)).e0
  have hq := (part_pos (a := sumF [a, b]) (b := ⟨false, 1, 1⟩) hm).resolve_right (by decide)
  have T := tc_quo (a := sumF [a, b]) (b := ⟨false, 1, 1⟩) hm (by decide) (Nat.le_trans (sumF_bits [a, b] (by simp)) (by decide)) (by decide) (by omega) (by decide)
  have e69 : 1 ≤ 2 ^ 69 := by decide
  have hd : (partD (sumF [a, b]) ⟨false, 1, 1⟩).m ≠ 0 := fun h => by
    have h1 := mkD_m0.1 h
    rw [h1] at hq
    omega
  have hds : (partD (sumF [a, b]) ⟨false, 1, 1⟩).s = false := by
    unfold partD
    rw [mkD_s (fun h1 => by rw [h1] at hq; omega), hs]
    rfl
  refine ⟨_, _, _, hd, hds, fun dir => ?_, T, fun n => ?_⟩
  · unfold meanS
    rw [oddL_two ka kb, if_neg (fun h => by
      rcases h with h | h
      · cases h
      · exact hm h), lenD_two, toS_fst hd hds]
  · have eabs : (sumF [a, b]).abs.val = (sumF [a, b]).val := by
      rw [val_abs, if_neg]
      rw [hv]
      grind
    have e2 : (Dy.abs ⟨false, 1, 1⟩).val = 2 := val_two
    rw [cmp_val_lt, cmp_val_gt, val_mul, eabs, hv, e2]
    exact ⟨Iff.rfl, Iff.rfl⟩
theorem geo_two {a b r : Nat} (ha : a < INF) (hb : b < INF) (ka : kind a ≤ 2) (kb : kind b ≤ 2) (hr : Isq (rootM (prodG a b)) r) (a0 : a ≠ 0) (b0 : b ≠ 0) : ∃ (d : Dy) (more : Bool) (tc : Dy → Int), d.m ≠ 0 ∧ d.s = false ∧ (∀ dir, (geoS a b r dir).1 = (magS d more dir).1) ∧ tcOk tc d more ∧
    ∀ n, (tc n < 0 ↔ n.val * n.val < (fd a).val * (fd b).val) ∧ (0 < tc n ↔ (fd a).val * (fd b).val < n.val * n.val) := by
  have hI : INF = 9218868437227405312 := rfl
  have ma : (fd a).m ≠ 0 := fun h => a0 ((fdv_zero ha).1 (val_eq_zero.2 h))
  have mb : (fd b).m ≠ 0 := fun h => b0 ((fdv_zero hb).1 (val_eq_zero.2 h))
  have qa := kind_of (fd_fin ka) ma
  have qb := kind_of (fd_fin kb) mb
  have sa := fs_small (b := a) (by omega)
  have sb := fs_small (b := b) (by omega)
  obtain ⟨p1, p2, p3, p4, p5⟩ := prodG_facts qa qb (by rw [sa, sb])
  have hr1 := isq_pos hr (rootM_pos p1)
  have T := tc_root p1 p2 p3 (by omega) hr
  have d0 : (rootD (prodG a b) r).m ≠ 0 := fun h => by have := mkD_m0.1 h; omega
  have ds : (rootD (prodG a b) r).s = false := mkD_s (by omega)
  refine ⟨_, _, _, d0, ds, fun dir => ?_, T, fun n => ?_⟩
  · unfold geoS
    rw [sa, sb, if_neg (by omega), if_neg (by omega), if_neg (by omega), if_neg (fun h => h.2 rfl), if_neg (by omega), if_neg (by omega), toS_fst d0 ds]
  · rw [cmp_val_lt, cmp_val_gt, val_mul, show (prodG a b).val = (fd a).val * (fd b).val from val_mul _ _]
    exact ⟨Iff.rfl, Iff.rfl⟩
theorem kind_zero : kind 0 = 0 := by decide
/-- What HypotRules says of the means of two sizes. -/
theorem means_two {a b r : Nat} (ha : a < INF) (hb : b < INF) (ka : kind a ≤ 2) (kb : kind b ≤ 2) (hr : Isq (rootM (prodG a b)) r) (dir : Int) :
    min a b ≤ (meanS [a, b] dir).1 ∧ (meanS [a, b] dir).1 ≤ max a b ∧ min a b ≤ (geoS a b r dir).1 ∧ (geoS a b r dir).1 ≤ max a b ∧ (geoS a b r dir).1 ≤ (meanS [a, b] dir).1 := by
  have hA0 := fdv_nonneg ha
  have hB0 := fdv_nonneg hb
  have hmin : min a b < INF := by omega
  have hmax : max a b < INF := by omega
  have m1 := fdv_mono hmin ha (Nat.min_le_left a b)
  have m2 := fdv_mono hmin hb (Nat.min_le_right a b)
  have m3 := fdv_mono ha hmax (Nat.le_max_left a b)
  have m4 := fdv_mono hb hmax (Nat.le_max_right a b)
  have n1 := fdv_nonneg hmin
  have n2 := fdv_nonneg hmax
  have gz : (kind a = 0 ∨ kind b = 0) → geoS a b r dir = (0, 0) := fun h => by
    unfold geoS
    rw [if_neg (by omega), if_neg (by omega), if_neg (by omega), if_neg (fun h2 => h2.1 h), if_neg (by omega), if_pos h]
  have hmean : ¬ (a = 0 ∧ b = 0) → min a b ≤ (meanS [a, b] dir).1 ∧ (meanS [a, b] dir).1 ≤ max a b := fun h0 => by
    obtain ⟨d, more, tc, d0, -, hM, T, hT⟩ := mean_two ha hb ka kb h0
    rw [hM dir]
    refine ⟨mag_ge_t d0 T hmin ?_ dir, mag_le_t d0 T hmax ?_ dir⟩
    · rw [(hT _).2]; grind
    · rw [(hT _).1]; grind
  by_cases h0 : a = 0 ∧ b = 0
  · obtain ⟨rfl, rfl⟩ := h0
    rw [gz (.inl kind_zero)]
    have : meanS [0, 0] dir = (0, 0) := by
      unfold meanS
      have e1 : (sumF [0, 0]).m = 0 := by decide +kernel
      rw [if_pos (.inr e1)]
      have e2 : sumT [0, 0] = addT (addT .zero 0) 0 := rfl
      have e3 : fs 0 = false := by decide
      rw [e2]
      unfold addT Tt.take
      rw [kind_zero, e3]
      simp [worthS, Tt.zero, Dy.zero]
    rw [this]
    simp
  obtain ⟨q1, q2⟩ := hmean h0
  refine ⟨q1, q2, ?_⟩
  by_cases hz : a = 0 ∨ b = 0
  · rw [gz (by rcases hz with rfl | rfl <;> simp [kind_zero])]
    dsimp only
    omega
  obtain ⟨d, more, tc, d0, ds, hM, T, hT⟩ := mean_two ha hb ka kb h0
  obtain ⟨d', more', tc', d0', ds', hM', T', hT'⟩ := geo_two ha hb ka kb hr (fun h => hz (.inl h)) (fun h => hz (.inr h))
  refine ⟨?_, ?_, ?_⟩
  · rw [hM' dir]
    refine mag_ge_t d0' T' hmin ?_ dir
    rw [(hT' _).2]
    have := pr_le n1 m1 m2
    grind
  · rw [hM' dir]
    refine mag_le_t d0' T' hmax ?_ dir
    rw [(hT' _).1]
    have := pr_ge hA0 hB0 m3 m4
    grind
  · rw [hM dir, hM' dir]
    refine mag_rise d0' d0 T' T (fun n hn h => ?_) (fun n hn h => ?_) (by rw [ds, ds']) hmax ?_ dir
    · rw [(hT n).1]
      exact gm1 hA0 hB0 (probe_nonneg hn) ((hT' n).1.1 h)
    · rw [(hT' n).2]
      exact gm2 hA0 hB0 (probe_nonneg hn) ((hT n).2.1 h)
    · refine Int.not_lt.1 fun h => ?_
      have := (hT _).1.1 h
      grind
end Go.Proofs.YtmnnnapelmhalaaDoor
end
