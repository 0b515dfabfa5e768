/- Intervals: what is in two is in their sum and product; one in another. Plain laws. -/
import Derived.Test.YtejmlngnpekagaaGreatDoorIv1
open Go PG Go.Proofs
set_option maxRecDepth 100000
set_option linter.unusedSimpArgs false
set_option linter.unusedVariables false
namespace Go.Proofs.YtejmlngnpekagaaGreatDoor

section
variable {i k : Iv} {K J : Nat}
theorem Lim.geK {d : Dy} (h : Lim K d) {m : Int} (hm : m ≤ -(K : Int)) : d.ge m := h.ge.mono hm
theorem addI_at (hi : i.lim K) (hk : k.lim K) (hK : K ≤ 30000) : (addI i k).lo.at (-(K : Int)) = i.lo.at (-(K : Int)) + k.lo.at (-(K : Int)) ∧ (addI i k).hi.at (-(K : Int)) = i.hi.at (-(K : Int)) + k.hi.at (-(K : Int)) :=
  ⟨addS_at hi.1.ok hk.1.ok (hi.1.fits (by omega)) (hk.1.fits (by omega)) hi.1.ge hk.1.ge, addS_at hi.2.ok hk.2.ok (hi.2.fits (by omega)) (hk.2.fits (by omega)) hi.2.ge hk.2.ge⟩
theorem addI_ge (hi : i.lim K) (hk : k.lim K) (hK : K ≤ 30000) : (addI i k).ge (-(K : Int)) :=
  ⟨addS_ge hi.1.ok hk.1.ok (hi.1.fits (by omega)) (hk.1.fits (by omega)) hi.1.ge hk.1.ge, addS_ge hi.2.ok hk.2.ok (hi.2.fits (by omega)) (hk.2.fits (by omega)) hi.2.ge hk.2.ge⟩
theorem Iv.lim.right_le (h : i.lim K) (hK : K ≤ 1000000) : i.right ↔ i.lo.at (-(K : Int)) ≤ i.hi.at (-(K : Int)) := right_at h.ge (h.1.fits hK) (h.2.fits hK)
theorem Iv.lim.has_le (h : i.lim K) {d : Dy} (hd : Lim K d) (hK : K ≤ 1000000) (hr : i.right) : i.has d ↔ i.lo.at (-(K : Int)) ≤ d.at (-(K : Int)) ∧ d.at (-(K : Int)) ≤ i.hi.at (-(K : Int)) :=
  has_at hr (hd.fits hK) h.ge hd.ge
theorem addI_right (hi : i.lim K) (hk : k.lim K) (hK : K ≤ 30000) (r1 : i.right) (r2 : k.right) : (addI i k).right := by
  have L := hi.add hk (by omega)
  rw [right_at (addI_ge hi hk hK) (L.1.fits (by omega)) (L.2.fits (by omega)), (addI_at hi hk hK).1, (addI_at hi hk hK).2]
  have := (hi.right_le (by omega)).1 r1
  have := (hk.right_le (by omega)).1 r2
  omega
theorem has_add (hi : i.lim K) (hk : k.lim K) (hK : K ≤ 30000) {x y : Dy} (hx : Lim K x) (hy : Lim K y) (h1 : i.has x) (h2 : k.has y) : (addI i k).has (addS x y) := by
  have r := addI_right hi hk hK h1.1 h2.1
  have L := hx.add hy (by omega)
  rw [has_at r (L.fits (by omega)) (addI_ge hi hk hK) (addS_ge hx.ok hy.ok (hx.fits (by omega)) (hy.fits (by omega)) hx.ge hy.ge), (addI_at hi hk hK).1, (addI_at hi hk hK).2, addS_at hx.ok hy.ok (hx.fits (by omega)) (hy.fits (by omega)) hx.ge hy.ge]
  have := (hi.has_le hx (by omega) h1.1).1 h1
  have := (hk.has_le hy (by omega) h2.1).1 h2
  omega
theorem mulI_right (hi : i.lim K) (hk : k.lim J) (hK : K + J ≤ 30000) : (mulI i k).right := by
  have L := hi.mul hk
  rw [right_at (mulI_ge hi.ge hk.ge) (L.1.fits (by omega)) (L.2.fits (by omega)), (mulI_at hi.ge hk.ge).1, (mulI_at hi.ge hk.ge).2]
  omega
theorem has_mul (hi : i.lim K) (hk : k.lim J) (hK : K + J ≤ 30000) {x y : Dy} (hx : Lim K x) (hy : Lim J y) (h1 : i.has x) (h2 : k.has y) : (mulI i k).has (mulS x y) := by
  have r := mulI_right hi hk hK
  have L := hx.mul hy
  rw [has_at r (L.fits (by omega)) (mulI_ge hi.ge hk.ge) (mulS_ge hx.ge hy.ge), (mulI_at hi.ge hk.ge).1, (mulI_at hi.ge hk.ge).2, mulS_at hx.ge hy.ge]
  have g1 := (hi.has_le hx (by omega) h1.1).1 h1
  have g2 := (hk.has_le hy (by omega) h2.1).1 h2
  exact bil g1.1 g1.2 g2.1 g2.2
theorem mulI_comm (hi : i.lim K) (hk : k.lim J) : mulI i k = mulI k i := by
  have L1 := hi.mul hk
  have L2 := hk.mul hi
  have e : -(K : Int) + -(J : Int) = -(J : Int) + -(K : Int) := Int.add_comm _ _
  have h1 : (mulI i k).lo = (mulI k i).lo := by
    refine eq_of_at (k := -(K : Int) + -(J : Int)) L1.1.ok L2.1.ok (mulI_ge hi.ge hk.ge).1 (by rw [e]; exact (mulI_ge hk.ge hi.ge).1) ?_
    rw [(mulI_at hi.ge hk.ge).1, e, (mulI_at hk.ge hi.ge).1]
    simp only [Int.mul_comm (k.lo.at _), Int.mul_comm (k.hi.at _)]
    omega
  have h2 : (mulI i k).hi = (mulI k i).hi := by
    refine eq_of_at (k := -(K : Int) + -(J : Int)) L1.2.ok L2.2.ok (mulI_ge hi.ge hk.ge).2 (by rw [e]; exact (mulI_ge hk.ge hi.ge).2) ?_
    rw [(mulI_at hi.ge hk.ge).2, e, (mulI_at hk.ge hi.ge).2]
    simp only [Int.mul_comm (k.lo.at _), Int.mul_comm (k.hi.at _)]
    omega
  generalize mulI i k = a at *
  generalize mulI k i = b at *
  obtain ⟨_, _⟩ := a
  obtain ⟨_, _⟩ := b
  simp only at h1 h2
  rw [h1, h2]
theorem inside_pt {x : Dy} (h : i.has x) : Iv.inside ⟨x, x⟩ i := ⟨⟨h.2.1, h.2.1, by rw [cmp_self]; decide⟩, h, h⟩
theorem inside_pt_iff {x : Dy} : Iv.inside ⟨x, x⟩ i ↔ i.has x := ⟨fun h => h.2.1, inside_pt⟩
theorem has_ends (h : i.right) : i.has i.lo ∧ i.has i.hi := ⟨⟨h, h.1, by rw [cmp_self]; decide, h.2.2⟩, ⟨h, h.2.1, h.2.2, by rw [cmp_self]; decide⟩⟩
theorem inside_add {i' : Iv} (hi' : i'.lim K) (hi : i.lim K) (hk : k.lim K) (hK : K ≤ 30000) (h : i'.inside i) (hr : k.right) : (addI i' k).inside (addI i k) :=
  ⟨addI_right hi' hk hK h.1 hr, has_add hi hk hK hi'.1 hk.1 h.2.1 (has_ends hr).1, has_add hi hk hK hi'.2 hk.2 h.2.2 (has_ends hr).2⟩
theorem inside_mul {i' : Iv} (hi' : i'.lim K) (hi : i.lim K) (hk : k.lim J) (hK : K + J ≤ 30000) (h : i'.inside i) (hr : k.right) : (mulI i' k).inside (mulI i k) := by
  have h1 := has_mul hi hk hK hi'.1 hk.1 h.2.1 (has_ends hr).1
  have h2 := has_mul hi hk hK hi'.1 hk.2 h.2.1 (has_ends hr).2
  have h3 := has_mul hi hk hK hi'.2 hk.1 h.2.2 (has_ends hr).1
  have h4 := has_mul hi hk hK hi'.2 hk.2 h.2.2 (has_ends hr).2
  have := mulI_P (P := fun d => (mulI i k).has d) h1 h2 h3 h4
  exact ⟨mulI_right hi' hk hK, this.1, this.2⟩

/-- A number of an interval, by 256ths of its width. -/
def innerD (i : Iv) (u : Nat) : Dy := addS i.lo ((mulS (addS i.hi i.lo.neg) (norm (u : Int) 0)).sc (-8))
theorem inner_w (hi : i.lim K) (hK : K ≤ 30000) : Lim (K + 1) (addS i.hi i.lo.neg) := hi.2.add hi.1.neg (by omega)
theorem inner_n {u : Nat} (hu : u < 256) : Lim 8 (norm (u : Int) 0) := Lim.norm (by show (u : Int).natAbs < 256; omega) (by decide)
theorem inner_m (hi : i.lim K) (hK : K ≤ 30000) {u : Nat} (hu : u < 256) : Lim (K + 9) (mulS (addS i.hi i.lo.neg) (norm (u : Int) 0)) := (inner_w hi hK).mul (inner_n hu)
theorem inner_s (hi : i.lim K) (hK : K ≤ 30000) {u : Nat} (hu : u < 256) : Lim (K + 17) ((mulS (addS i.hi i.lo.neg) (norm (u : Int) 0)).sc (-8)) := (inner_m hi hK hu).sc (J := 8) (by decide)
theorem inner_lim (hi : i.lim K) (hK : K ≤ 30000) {u : Nat} (hu : u < 256) : Lim (K + 18) (innerD i u) := (hi.1.mono (by omega)).add (inner_s hi hK hu) (by omega)
theorem inner_at (hi : i.lim K) (hK : K ≤ 30000) {u : Nat} (hu : u < 256) : (innerD i u).ge (-(K : Int) + -8) ∧
    (innerD i u).at (-(K : Int) + -8) = i.lo.at (-(K : Int)) * 256 + (i.hi.at (-(K : Int)) - i.lo.at (-(K : Int))) * (u : Int) := by
  have f1 := hi.1.fits (by omega)
  have f2 := hi.2.fits (by omega)
  have gw := addS_ge hi.2.ok (neg_ok hi.1.ok) f2 (neg_fits f1) hi.2.ge (neg_ge hi.1.ge)
  have aw := addS_at hi.2.ok (neg_ok hi.1.ok) f2 (neg_fits f1) hi.2.ge (neg_ge hi.1.ge)
  have gn : (norm (u : Int) 0).ge 0 := norm_ge _ (by decide) (by decide)
  have an := norm_at (u : Int) (k := 0) (j := 0) (by decide) (by decide) (Int.le_refl _)
  have gm := mulS_ge gw gn
  have am := mulS_at gw gn
  rw [Int.add_zero] at gm am
  have gs := sc_ge (n := -8) gm
  have sa := sc_at (mulS (addS i.hi i.lo.neg) (norm (u : Int) 0)) (-8) (-(K : Int))
  have gl : i.lo.ge (-(K : Int) + -8) := hi.1.ge.mono (by omega)
  have al := at_shift' (d := i.lo) (k := -(K : Int) + -8) (k' := -(K : Int)) (by omega) hi.1.ge
  have fs := (inner_s hi hK hu).fits (by omega)
  unfold innerD
  refine ⟨addS_ge hi.1.ok (inner_s hi hK hu).ok f1 fs gl gs, ?_⟩
  rw [addS_at hi.1.ok (inner_s hi hK hu).ok f1 fs gl gs, al, sa, am, aw, an, neg_at, show (-(K : Int) - (-(K : Int) + -8)).toNat = 8 by omega]
  simp only [Int.sub_self, Int.toNat_zero, Nat.pow_zero]
  rw [Int.sub_eq_add_neg]
  simp
theorem inner_mono (hi : i.lim K) (hK : K ≤ 30000) (hr : i.right) {u v : Nat} (hu : u ≤ v) (hv : v < 256) : cmpD (innerD i u) (innerD i v) ≤ 0 := by
  obtain ⟨g1, a1⟩ := inner_at hi hK (u := u) (by omega)
  obtain ⟨g2, a2⟩ := inner_at hi hK hv
  rw [cmp_le g1 g2, a1, a2]
  have := (hi.right_le (by omega)).1 hr
  have : (i.hi.at (-(K : Int)) - i.lo.at (-(K : Int))) * (u : Int) ≤ (i.hi.at (-(K : Int)) - i.lo.at (-(K : Int))) * (v : Int) := Int.mul_le_mul_of_nonneg_left (by omega) (by omega)
  omega
theorem inner_has (hi : i.lim K) (hK : K ≤ 30000) (hr : i.right) {u : Nat} (hu : u < 256) : i.has (innerD i u) := by
  obtain ⟨g1, a1⟩ := inner_at hi hK hu
  have hg : i.ge (-(K : Int) + -8) := hi.ge.mono (by omega)
  rw [has_at hr ((inner_lim hi hK hu).fits (by omega)) hg g1, a1]
  have e1 := at_shift' (d := i.lo) (k := -(K : Int) + -8) (k' := -(K : Int)) (by omega) hi.1.ge
  have e2 := at_shift' (d := i.hi) (k := -(K : Int) + -8) (k' := -(K : Int)) (by omega) hi.2.ge
  rw [show (-(K : Int) - (-(K : Int) + -8)).toNat = 8 by omega] at e1 e2
  rw [e1, e2]
  have hle := (hi.right_le (by omega)).1 hr
  generalize i.lo.at (-(K : Int)) = a at *
  generalize i.hi.at (-(K : Int)) = b at *
  have m1 : 0 ≤ (b - a) * (u : Int) := Int.mul_nonneg (by omega) (by omega)
  have m2 : (b - a) * (u : Int) ≤ (b - a) * 256 := Int.mul_le_mul_of_nonneg_left (by omega) (by omega)
  show a * 256 ≤ a * 256 + (b - a) * (u : Int) ∧ a * 256 + (b - a) * (u : Int) ≤ b * 256
  omega
theorem inner_inside (hi : i.lim K) (hK : K ≤ 30000) (hr : i.right) {u v : Nat} (hu : u ≤ v) (hv : v < 256) : Iv.inside ⟨innerD i u, innerD i v⟩ i :=
  ⟨⟨(inner_lim hi hK (show u < 256 by omega)).fits (by omega), (inner_lim hi hK hv).fits (by omega), inner_mono hi hK hr hu hv⟩, inner_has hi hK hr (by omega), inner_has hi hK hr hv⟩
end
end Go.Proofs.YtejmlngnpekagaaGreatDoor
