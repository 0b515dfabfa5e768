/- Several parts in one text. -/
import Derived.Test.YtfkgaldbcngliaaGreatDoorM2
open Go PG Go.Proofs
set_option linter.unusedSimpArgs false
set_option linter.unusedVariables false
set_option maxRecDepth 100000
namespace Go.Proofs.YtfkgaldbcngliaaGreatDoor.XX
def Ev (P : Nat → Prop) : Prop := ∃ k, ∀ N, k ≤ N → P N
theorem Ev.and {P Q : Nat → Prop} (h : Ev P) (k : Ev Q) : Ev fun N => P N ∧ Q N := by
  obtain ⟨a, h⟩ := h
  obtain ⟨b, k⟩ := k
  exact ⟨max a b, fun N hN => ⟨h N (by omega), k N (by omega)⟩⟩
theorem Ev.mono {P Q : Nat → Prop} (h : Ev P) (k : ∀ N, P N → Q N) : Ev Q := by
  obtain ⟨a, h⟩ := h
  exact ⟨a, fun N hN => k N (h N hN)⟩
theorem Ev.ge (n : Nat) : Ev fun N => n ≤ N := ⟨n, fun _ hN => hN⟩
theorem Ev.all {P : Nat → Prop} (h : ∀ N, P N) : Ev P := ⟨0, fun N _ => h N⟩
theorem rmul_le {a b c d : Rat} (h1 : a ≤ b) (h2 : c ≤ d) (h3 : 0 ≤ c) (h4 : 0 ≤ b) : a * c ≤ b * d :=
  Rat.le_trans (Rat.mul_le_mul_of_nonneg_right h1 h3) (Rat.mul_le_mul_of_nonneg_left h2 h4)
theorem rpow_le {x y : Rat} (h0 : 0 ≤ x) (h : x ≤ y) (n : Nat) : x ^ n ≤ y ^ n := by
  induction n with
  | zero => rw [Rat.pow_zero, Rat.pow_zero]; exact Rat.le_refl
  | succ n ih =>
    rw [Rat.pow_succ, Rat.pow_succ]
    exact rmul_le ih h h0 (Rat.pow_nonneg (Rat.le_trans h0 h))
theorem rmul_pow (x y : Rat) (n : Nat) : (x * y) ^ n = x ^ n * y ^ n := by
  induction n with
  | zero => simp
  | succ n ih => rw [Rat.pow_succ, Rat.pow_succ, Rat.pow_succ, ih]; grind
theorem one_pow' (n : Nat) : (1 : Rat) ^ n = 1 := by
  induction n with
  | zero => simp
  | succ n ih => rw [Rat.pow_succ, ih]; simp
theorem rpow_le_one {x : Rat} (h0 : 0 ≤ x) (h : x ≤ 1) (n : Nat) : x ^ n ≤ 1 := by
  have := rpow_le h0 h n
  rwa [one_pow'] at this
theorem one_le_rpow {x : Rat} (h : 1 ≤ x) (n : Nat) : 1 ≤ x ^ n := by
  have := rpow_le (by decide) h n
  rwa [one_pow'] at this
theorem rmul_nonneg {a b : Rat} (h : 0 ≤ a) (k : 0 ≤ b) : 0 ≤ a * b := Rat.mul_nonneg h k
theorem natc (n : Nat) : ((n + 1 : Nat) : Rat) = (n : Rat) + 1 := by rw [Rat.natCast_add]; rfl
theorem natc0 (n : Nat) : (0 : Rat) ≤ (n : Rat) := Rat.natCast_nonneg
theorem bern {x : Rat} (hx : -1 ≤ x) (n : Nat) : 1 + n * x ≤ (1 + x) ^ n := by
  induction n with
  | zero => rw [Rat.pow_zero, show ((0 : Nat) : Rat) = 0 from rfl]; grind
  | succ n ih =>
    rw [Rat.pow_succ, natc]
    have h1 : (0 : Rat) ≤ 1 + x := by grind
    have h2 := Rat.mul_le_mul_of_nonneg_right ih h1
    have h3 : 0 ≤ (n : Rat) * (x * x) := rmul_nonneg (natc0 n) (by
      rcases Rat.le_total (a := 0) (b := x) with h | h
      · exact rmul_nonneg h h
      · have := rmul_nonneg (a := -x) (b := -x) (by grind) (by grind)
        grind)
    grind
theorem bern_up {x : Rat} (h0 : 0 ≤ x) {n : Nat} (h1 : n * x ≤ 1) : (1 + x) ^ n * (1 - n * x) ≤ 1 := by
  by_cases hn : n = 0
  · subst hn; rw [Rat.pow_zero, show ((0 : Nat) : Rat) = 0 from rfl]; grind
  have hn1 : (1 : Rat) ≤ n := by
    have : ((1 : Nat) : Rat) ≤ n := Rat.natCast_le_natCast.2 (by omega)
    exact this
  have hx : x ≤ 1 := by
    have := Rat.mul_le_mul_of_nonneg_right hn1 h0
    grind
  have h2 := bern (x := -x) (by grind) n
  have h3 : ((1 + x) * (1 - x)) ^ n ≤ 1 := rpow_le_one (rmul_nonneg (by grind) (by grind)) (by have := rmul_nonneg h0 h0; grind) n
  rw [rmul_pow] at h3
  have h4 : (1 : Rat) - n * x ≤ (1 - x) ^ n := by
    have e : (1 : Rat) + -x = 1 - x := by grind
    rw [e] at h2
    grind
  have h5 : (0 : Rat) ≤ (1 + x) ^ n := Rat.pow_nonneg (by grind)
  exact Rat.le_trans (Rat.mul_le_mul_of_nonneg_left h4 h5) h3
theorem arch (x : Rat) : ∃ n : Nat, x < n := ⟨(x.floor + 1).toNat, by
  have h1 := Rat.lt_floor_add_one x
  have h2 : (x.floor + 1 : Int) ≤ ((x.floor + 1).toNat : Int) := by omega
  have h3 := Rat.intCast_le_intCast.2 h2
  have h4 : (((x.floor + 1).toNat : Int) : Rat) = (((x.floor + 1).toNat : Nat) : Rat) := rfl
  rw [h4] at h3
  grind⟩
def cN (N : Nat) (t : Rat) : Rat := (1 + t / N) ^ N
theorem ndiv {t : Rat} (h : 0 ≤ t) (N : Nat) : 0 ≤ t / N := by
  rw [Rat.div_def]
  refine rmul_nonneg h ?_
  by_cases hN : N = 0
  · subst hN; simp
  · exact Rat.le_of_lt (Rat.inv_pos.2 (by
      have : ((0 : Nat) : Rat) < N := Rat.natCast_lt_natCast.2 (by omega)
      exact this))
theorem npos {N : Nat} (h : 1 ≤ N) : (0 : Rat) < N := by
  have : ((0 : Nat) : Rat) < N := Rat.natCast_lt_natCast.2 (by omega)
  exact this
theorem cN_ge1 {t : Rat} (h : 0 ≤ t) (N : Nat) : 1 ≤ cN N t := one_le_rpow (by have := ndiv h N; grind) N
theorem cN_zero (N : Nat) : cN N 0 = 1 := by
  unfold cN
  have : (1 : Rat) + 0 / N = 1 := by rw [Rat.div_def]; grind
  rw [this, one_pow']
theorem cN_mono {a b : Rat} (h0 : 0 ≤ a) (h : a ≤ b) (N : Nat) : cN N a ≤ cN N b := by
  refine rpow_le (by have := ndiv h0 N; grind) ?_ N
  have h1 := ndiv (t := b - a) (by grind) N
  rw [Rat.div_def] at *
  grind
theorem cN_add_le {a b : Rat} (ha : 0 ≤ a) (hb : 0 ≤ b) (N : Nat) : cN N (a + b) ≤ cN N a * cN N b := by
  unfold cN
  rw [← rmul_pow]
  have h1 := ndiv ha N
  have h2 := ndiv hb N
  have h3 : (a + b) / (N : Rat) = a / N + b / N := by simp only [Rat.div_def]; grind
  have h4 := rmul_nonneg h1 h2
  rw [h3]
  refine rpow_le (by grind) (by grind) N
theorem cN_mul_le {a b : Rat} (ha : 0 ≤ a) (hb : 0 ≤ b) {N : Nat} (h : a * b ≤ N) (hN : 1 ≤ N) : cN N a * cN N b * (1 - a * b / N) ≤ cN N (a + b) := by
  have hp := npos hN
  have h1 := ndiv ha N
  have h2 := ndiv hb N
  have h12 := rmul_nonneg h1 h2
  have h3 : (a + b) / (N : Rat) = a / N + b / N := by simp only [Rat.div_def]; grind
  have e1 : (N : Rat) * (a / N * (b / N)) = a * b / N := by grind
  have h4 : (N : Rat) * (a / N * (b / N)) ≤ 1 := by
    rw [e1]
    exact Rat.le_of_mul_le_mul_right (c := (N : Rat)) (by rw [Rat.div_mul_cancel (by grind)]; grind) hp
  have h5 := bern_up h12 h4
  rw [e1] at h5
  unfold cN
  rw [← rmul_pow, h3]
  generalize a / (N : Rat) = x at *
  generalize b / (N : Rat) = y at *
  have h0 : (0 : Rat) ≤ 1 - a * b / N := by rw [← e1]; grind
  have h6 : ((1 + x) * (1 + y)) ^ N ≤ ((1 + (x + y)) * (1 + x * y)) ^ N := rpow_le (rmul_nonneg (by grind) (by grind)) (by
    have := rmul_nonneg h12 (show (0 : Rat) ≤ x + y by grind)
    grind) N
  rw [rmul_pow (1 + (x + y))] at h6
  have h7 : (0 : Rat) ≤ (1 + (x + y)) ^ N := Rat.pow_nonneg (by grind)
  refine Rat.le_trans (Rat.mul_le_mul_of_nonneg_right h6 h0) ?_
  rw [Rat.mul_assoc]
  refine Rat.le_trans (Rat.mul_le_mul_of_nonneg_left h5 h7) ?_
  rw [Rat.mul_one]
  exact Rat.le_refl
def R (a b p q : Rat) : Prop := ∀ th : Rat, 0 < th → th < 1 → Ev fun N => th * (cN N a * p) ≤ cN N b * q
theorem half_sq {th : Rat} : th ≤ (1 + th) / 2 * ((1 + th) / 2) := by
  have : 0 ≤ (1 - th) * (1 - th) := by
    rcases Rat.le_total (a := 0) (b := 1 - th) with h | h
    · exact rmul_nonneg h h
    · have := rmul_nonneg (a := -(1 - th)) (b := -(1 - th)) (by grind) (by grind)
      grind
  grind
theorem half_in {th : Rat} (h0 : 0 < th) (h1 : th < 1) : 0 < (1 + th) / 2 ∧ (1 + th) / 2 < 1 := by grind
theorem R.of_le {a p q : Rat} (ha : 0 ≤ a) (hp : 0 ≤ p) (h : p ≤ q) : R a a p q := fun th h0 h1 => Ev.all fun N => by
  have h2 := cN_ge1 ha N
  have h3 := rmul_nonneg (show (0 : Rat) ≤ cN N a by grind) hp
  have h4 := Rat.mul_le_mul_of_nonneg_left h (show (0 : Rat) ≤ cN N a by grind)
  have h5 := Rat.mul_le_mul_of_nonneg_right (Rat.le_of_lt h1) h3
  grind
theorem R.trans {a b c p q r : Rat} (h : R a b p q) (k : R b c q r) (ha : 0 ≤ a) (hp : 0 ≤ p) : R a c p r := fun th h0 h1 => by
  obtain ⟨h2, h3⟩ := half_in h0 h1
  refine ((h _ h2 h3).and (k _ h2 h3)).mono fun N ⟨x, y⟩ => ?_
  have h4 := half_sq (th := th)
  generalize (1 + th) / 2 = t at *
  have h6 := rmul_nonneg (show (0 : Rat) ≤ cN N a by have := cN_ge1 ha N; grind) hp
  have h7 := Rat.mul_le_mul_of_nonneg_right h4 h6
  have h8 := Rat.mul_le_mul_of_nonneg_left x (Rat.le_of_lt h2)
  grind
theorem Ev.ratio (x : Rat) {th : Rat} (h1 : th < 1) : Ev fun N => 1 ≤ N ∧ x ≤ N ∧ th ≤ 1 - x / N := by
  obtain ⟨n, hn⟩ := arch (x / (1 - th))
  obtain ⟨m, hm⟩ := arch x
  refine ⟨max (max n m) 1, fun N hN => ?_⟩
  have hN1 : 1 ≤ N := by omega
  have hp := npos hN1
  have h2 : (n : Rat) ≤ N := Rat.natCast_le_natCast.2 (by omega)
  have h3 : (m : Rat) ≤ N := Rat.natCast_le_natCast.2 (by omega)
  refine ⟨hN1, by grind, ?_⟩
  have h4 : (0 : Rat) < 1 - th := by grind
  have h5 : x / (1 - th) ≤ N := by grind
  have h6 : x ≤ N * (1 - th) := by
    have := Rat.mul_le_mul_of_nonneg_right h5 (Rat.le_of_lt h4)
    rwa [Rat.div_mul_cancel (by grind)] at this
  have h7 : x / N ≤ 1 - th := Rat.le_of_mul_le_mul_right (c := (N : Rat)) (by rw [Rat.div_mul_cancel (by grind)]; grind) hp
  grind
theorem R.mul {a b p q a' b' p' q' : Rat} (h : R a b p q) (k : R a' b' p' q') (ha : 0 ≤ a) (ha' : 0 ≤ a') (hb : 0 ≤ b) (hb' : 0 ≤ b') (hp : 0 ≤ p) (hp' : 0 ≤ p') (hq : 0 ≤ q) (hq' : 0 ≤ q') :
    R (a + a') (b + b') (p * p') (q * q') := fun th h0 h1 => by
  obtain ⟨h2, h3⟩ := half_in h0 h1
  have h4 := half_sq (th := th)
  generalize (1 + th) / 2 = s at *
  obtain ⟨h5, h6⟩ := half_in h2 h3
  have h7 := half_sq (th := s)
  generalize (1 + s) / 2 = t at *
  refine (((h _ h5 h6).and (k _ h5 h6)).and (Ev.ratio (b * b') h3)).mono fun N ⟨⟨x, y⟩, hN, z1, z2⟩ => ?_
  have e1 := cN_add_le ha ha' N
  have e2 := cN_mul_le hb hb' z1 hN
  have ca : 0 ≤ cN N a := by have := cN_ge1 ha N; grind
  have ca' : 0 ≤ cN N a' := by have := cN_ge1 ha' N; grind
  have cb : 0 ≤ cN N b := by have := cN_ge1 hb N; grind
  have cb' : 0 ≤ cN N b' := by have := cN_ge1 hb' N; grind
  have f1 := rmul_le x y (rmul_nonneg (Rat.le_of_lt h5) (rmul_nonneg ca' hp')) (rmul_nonneg cb hq)
  have f2 := Rat.mul_le_mul_of_nonneg_right e1 (rmul_nonneg hp hp')
  have f3 := Rat.mul_le_mul_of_nonneg_right e2 (rmul_nonneg hq hq')
  have f4 := Rat.mul_le_mul_of_nonneg_left z2 (rmul_nonneg (rmul_nonneg cb cb') (rmul_nonneg hq hq'))
  -- th * (c(a+a') p p') ≤ s * s * (ca ca' p p') ≤ s * t * t (..) ≤ s * (cb q cb' q')
  have g1 : 0 ≤ cN N a * cN N a' * (p * p') := rmul_nonneg (rmul_nonneg ca ca') (rmul_nonneg hp hp')
  have g2 : th * (cN N (a + a') * (p * p')) ≤ s * s * (cN N a * cN N a' * (p * p')) := by
    have g3 := Rat.mul_le_mul_of_nonneg_left f2 (Rat.le_of_lt h0)
    have g4 := Rat.mul_le_mul_of_nonneg_right h4 g1
    grind
  have g5 : s * s * (cN N a * cN N a' * (p * p')) ≤ s * (t * t * (cN N a * cN N a' * (p * p'))) := by
    have g6 := Rat.mul_le_mul_of_nonneg_left (Rat.mul_le_mul_of_nonneg_right h7 g1) (Rat.le_of_lt h2)
    grind
  have g7 : s * (t * t * (cN N a * cN N a' * (p * p'))) ≤ s * (cN N b * cN N b' * (q * q')) := by
    refine Rat.mul_le_mul_of_nonneg_left ?_ (Rat.le_of_lt h2)
    grind
  have g8 : s * (cN N b * cN N b' * (q * q')) ≤ cN N (b + b') * (q * q') := by grind
  exact Rat.le_trans g2 (Rat.le_trans g5 (Rat.le_trans g7 g8))
theorem R.cancel {a b c p q : Rat} (h : R (a + c) (b + c) p q) (ha : 0 ≤ a) (hb : 0 ≤ b) (hc : 0 ≤ c) (hp : 0 ≤ p) (hq : 0 ≤ q) : R a b p q := fun th h0 h1 => by
  obtain ⟨h2, h3⟩ := half_in h0 h1
  have h4 := half_sq (th := th)
  generalize (1 + th) / 2 = s at *
  refine ((h _ h2 h3).and (Ev.ratio (a * c) h3)).mono fun N ⟨x, hN, z1, z2⟩ => ?_
  have e1 := cN_add_le hb hc N
  have e2 := cN_mul_le ha hc z1 hN
  have ca : 0 ≤ cN N a := by have := cN_ge1 ha N; grind
  have cc : 0 < cN N c := by have := cN_ge1 hc N; grind
  have cb : 0 ≤ cN N b := by have := cN_ge1 hb N; grind
  have f2 := Rat.mul_le_mul_of_nonneg_right e1 hq
  have f3 := Rat.mul_le_mul_of_nonneg_right e2 hp
  have g0 : 0 ≤ cN N a * cN N c * p := rmul_nonneg (rmul_nonneg ca (Rat.le_of_lt cc)) hp
  have f4 := Rat.mul_le_mul_of_nonneg_left z2 g0
  refine Rat.le_of_mul_le_mul_right (c := cN N c) ?_ cc
  have g1 := Rat.mul_le_mul_of_nonneg_right h4 g0
  have g2 : s * (s * (cN N a * cN N c * p)) ≤ s * (cN N (a + c) * p) := Rat.mul_le_mul_of_nonneg_left (by grind) (Rat.le_of_lt h2)
  grind
theorem lim_le {p q : Rat} (h : ∀ th : Rat, 0 < th → th < 1 → th * p ≤ q) (hp : 0 ≤ p) : p ≤ q := by
  refine Rat.not_lt.1 fun hlt => ?_
  have hq : 0 ≤ q := by
    have := h (1 / 2) (by decide +kernel) (by decide +kernel)
    grind
  have hp' : 0 < p := by grind
  have e : (p + q) / (2 * p) * p = (p + q) / 2 := by grind
  have h1 : (p + q) / (2 * p) < 1 := by
    rw [Rat.div_lt_iff (by grind)]; grind
  have h2 : 0 < (p + q) / (2 * p) := by
    rw [Rat.lt_div_iff (by grind)]; grind
  have := h _ h2 h1
  rw [e] at this
  grind
theorem R.base {p q : Rat} (h : R 0 0 p q) (hp : 0 ≤ p) : p ≤ q := lim_le (fun th h0 h1 => by
  obtain ⟨k, hk⟩ := h th h0 h1
  have : th * (cN k 0 * p) ≤ cN k 0 * q := hk k (Nat.le_refl _)
  rw [cN_zero] at this
  grind) hp
theorem R.closed {a b p q : Rat} (h : ∀ th : Rat, 0 < th → th < 1 → R a b (th * p) q) (ha : 0 ≤ a) (hp : 0 ≤ p) : R a b p q := fun th h0 h1 => by
  obtain ⟨h2, h3⟩ := half_in h0 h1
  have h4 := half_sq (th := th)
  generalize (1 + th) / 2 = s at *
  refine (h s h2 h3 s h2 h3).mono fun N x => ?_
  have ca : 0 ≤ cN N a := by have := cN_ge1 ha N; grind
  have := Rat.mul_le_mul_of_nonneg_right h4 (rmul_nonneg ca hp)
  grind
theorem R.mono {a b a' b' p q p' q' : Rat} (h : R a b p q) (h1 : a' ≤ a) (h2 : b ≤ b') (h3 : p' ≤ p) (h4 : q ≤ q') (ha : 0 ≤ a') (hb : 0 ≤ b) (hp : 0 ≤ p') (hq : 0 ≤ q) : R a' b' p' q' := fun th h5 h6 =>
  (h th h5 h6).mono fun N x => by
    have e1 := rmul_le (cN_mono ha h1 N) h3 hp (by have := cN_ge1 (Rat.le_trans ha h1) N; grind)
    have e2 := rmul_le (cN_mono hb h2 N) h4 hq (by have := cN_ge1 (Rat.le_trans hb h2) N; grind)
    have e3 := Rat.mul_le_mul_of_nonneg_left e1 (Rat.le_of_lt h5)
    grind
def Et : Nat → Rat → Rat
  | 0, _ => 1
  | n + 1, t => Et n t * t / ((n + 1 : Nat) : Rat)
def Es : Nat → Rat → Rat
  | 0, _ => 1
  | n + 1, t => Es n t + Et (n + 1) t
theorem Et_step (n : Nat) (t : Rat) : Et (n + 1) t * ((n : Rat) + 1) = Et n t * t := by
  show Et n t * t / ((n + 1 : Nat) : Rat) * _ = _
  rw [natc]
  exact Rat.div_mul_cancel (by have := natc0 n; grind)
theorem Et_nonneg {t : Rat} (h : 0 ≤ t) (n : Nat) : 0 ≤ Et n t := by
  induction n with
  | zero => show (0 : Rat) ≤ 1; decide
  | succ n ih => exact ndiv (rmul_nonneg ih h) _
theorem Es_ge1 {t : Rat} (h : 0 ≤ t) (n : Nat) : 1 ≤ Es n t := by
  induction n with
  | zero => exact Rat.le_refl
  | succ n ih =>
    have := Et_nonneg h (n + 1)
    show 1 ≤ Es n t + Et (n + 1) t
    grind
theorem Es_up {t : Rat} (h : 0 ≤ t) (n : Nat) : Es n t ≤ Es (n + 1) t := by
  have := Et_nonneg h (n + 1)
  show Es n t ≤ Es n t + Et (n + 1) t
  grind
theorem scale_le {x y c : Rat} (hc : 0 < c) (h : x * c ≤ y * c) : x ≤ y := Rat.le_of_mul_le_mul_right h hc
theorem n1pos (n : Nat) : (0 : Rat) < (n : Rat) + 1 := by have := natc0 n; grind
theorem Et_add_ge {u x : Rat} (hu : 0 ≤ u) (hx : 0 ≤ x) : ∀ k : Nat, Et (k + 1) u + x * Et k u ≤ Et (k + 1) (u + x)
  | 0 => by
    have h1 := Et_step 0 u
    have h2 := Et_step 0 (u + x)
    have e0 : ∀ t, Et 0 t = 1 := fun _ => rfl
    rw [e0] at *
    have : ((0 : Nat) : Rat) = 0 := rfl
    grind
  | k + 1 => by
    have ih := Et_add_ge hu hx k
    have h1 := Et_step (k + 1) u
    have h2 := Et_step (k + 1) (u + x)
    have h3 := Et_step k u
    have hk := n1pos (k + 1)
    have h4 := Rat.mul_le_mul_of_nonneg_right ih (show 0 ≤ u + x by grind)
    have h5 := rmul_nonneg (rmul_nonneg hx hx) (Et_nonneg hu k)
    refine scale_le hk ?_
    have hc := natc k
    rw [hc] at *
    generalize Et (k + 1 + 1) (u + x) = A at *
    generalize Et (k + 1 + 1) u = B at *
    generalize Et (k + 1) (u + x) = C at *
    generalize Et (k + 1) u = D at *
    generalize Et k u = F at *
    have h6 : x * (D * ((k : Rat) + 1)) = x * (F * u) := by rw [h3]
    grind
theorem Et_add_le {u x : Rat} (hu : 0 ≤ u) (hx : 0 ≤ x) : ∀ k : Nat, Et (k + 1) (u + x) ≤ Et (k + 1) u + x * Et k (u + x)
  | 0 => by
    have h1 := Et_step 0 u
    have h2 := Et_step 0 (u + x)
    have e0 : ∀ t, Et 0 t = 1 := fun _ => rfl
    rw [e0] at *
    have : ((0 : Nat) : Rat) = 0 := rfl
    grind
  | k + 1 => by
    have ih := Et_add_le hu hx k
    have h1 := Et_step (k + 1) u
    have h2 := Et_step (k + 1) (u + x)
    have h3 := Et_step k (u + x)
    have hk := n1pos (k + 1)
    have h4 := Rat.mul_le_mul_of_nonneg_right ih hu
    have h5 := rmul_nonneg (rmul_nonneg hx hx) (Et_nonneg (show 0 ≤ u + x by grind) k)
    refine scale_le hk ?_
    have hc := natc k
    rw [hc] at *
    generalize Et (k + 1 + 1) (u + x) = A at *
    generalize Et (k + 1 + 1) u = B at *
    generalize Et (k + 1) (u + x) = C at *
    generalize Et (k + 1) u = D at *
    generalize Et k (u + x) = F at *
    have h6 : x * (C * ((k : Rat) + 1)) = x * (F * (u + x)) := by rw [h3]
    grind
theorem Es_add_ge {u x : Rat} (hu : 0 ≤ u) (hx : 0 ≤ x) : ∀ n : Nat, Es (n + 1) u + x * Es n u ≤ Es (n + 1) (u + x)
  | 0 => by
    have := Et_add_ge hu hx 0
    show (1 : Rat) + Et 1 u + x * 1 ≤ 1 + Et 1 (u + x)
    have e0 : ∀ t, Et 0 t = 1 := fun _ => rfl
    rw [e0] at this
    grind
  | n + 1 => by
    have ih := Es_add_ge hu hx n
    have := Et_add_ge hu hx (n + 1)
    show Es (n + 1) u + Et (n + 1 + 1) u + x * (Es n u + Et (n + 1) u) ≤ Es (n + 1) (u + x) + Et (n + 1 + 1) (u + x)
    grind
theorem Es_sharp {u x : Rat} (hu : 0 ≤ u) (hx : 0 ≤ x) : ∀ n : Nat, Es (n + 1) (u + x) ≤ Es (n + 1) u + x * Es n (u + x)
  | 0 => by
    have := Et_add_le hu hx 0
    show (1 : Rat) + Et 1 (u + x) ≤ 1 + Et 1 u + x * 1
    have e0 : ∀ t, Et 0 t = 1 := fun _ => rfl
    rw [e0] at this
    grind
  | n + 1 => by
    have ih := Es_sharp hu hx n
    have := Et_add_le hu hx (n + 1)
    show Es (n + 1) (u + x) + Et (n + 1 + 1) (u + x) ≤ Es (n + 1) u + Et (n + 1 + 1) u + x * (Es n (u + x) + Et (n + 1) (u + x))
    grind
theorem Es_add_le {u x : Rat} (hu : 0 ≤ u) (hx : 0 ≤ x) (n : Nat) : Es n (u + x) ≤ Es n u + x * Es n (u + x) := by
  cases n with
  | zero =>
    show (1 : Rat) ≤ 1 + x * 1
    grind
  | succ n =>
    have h1 := Es_sharp hu hx n
    have h2 := Rat.mul_le_mul_of_nonneg_left (Es_up (show 0 ≤ u + x by grind) n) hx
    grind
theorem Es_zero (n : Nat) : Es n 0 = 1 := by
  induction n with
  | zero => rfl
  | succ n ih =>
    have h := Et_step n 0
    have := n1pos n
    have h2 : Et (n + 1) 0 = 0 := by
      have h3 : Et (n + 1) 0 * ((n : Rat) + 1) = 0 := by rw [h]; grind
      rcases Rat.mul_eq_zero.1 h3 with h4 | h4
      · exact h4
      · grind
    show Es n 0 + Et (n + 1) 0 = 1
    rw [ih, h2]; grind
theorem pow_le_Es {x : Rat} (hx : 0 ≤ x) : ∀ j : Nat, (1 + x) ^ j ≤ Es j (j * x)
  | 0 => by simp [Es]
  | j + 1 => by
    have ih := pow_le_Es hx j
    have h0 : 0 ≤ (j : Rat) * x := rmul_nonneg (natc0 j) hx
    have h1 := Es_add_ge h0 hx j
    have h2 := Es_up h0 j
    rw [natc, Rat.pow_succ, show ((j : Rat) + 1) * x = j * x + x by grind]
    have h3 := Rat.mul_le_mul_of_nonneg_right ih (show 0 ≤ 1 + x by grind)
    grind
theorem cN_le_Es {t : Rat} (h : 0 ≤ t) (N : Nat) : cN N t ≤ Es N t := by
  by_cases hN : N = 0
  · subst hN
    show (1 + t / _) ^ 0 ≤ 1
    rw [Rat.pow_zero]; exact Rat.le_refl
  have hp := npos (show 1 ≤ N by omega)
  have := pow_le_Es (ndiv h N) N
  rwa [show (N : Rat) * (t / N) = t by grind] at this
theorem Es_le_pow {x : Rat} (hx : 0 ≤ x) (h1 : x ≤ 1) (n : Nat) : ∀ j : Nat, Es n (j * x) * (1 - x) ^ j ≤ 1
  | 0 => by
    rw [show ((0 : Nat) : Rat) * x = 0 by rw [show ((0 : Nat) : Rat) = 0 from rfl]; grind, Es_zero]; simp
  | j + 1 => by
    have ih := Es_le_pow hx h1 n j
    have h0 : 0 ≤ (j : Rat) * x := rmul_nonneg (natc0 j) hx
    have h2 := Es_add_le h0 hx n
    rw [natc, Rat.pow_succ, show ((j : Rat) + 1) * x = j * x + x by grind]
    have h3 : 0 ≤ (1 - x) ^ j := Rat.pow_nonneg (by grind)
    have h4 := Rat.mul_le_mul_of_nonneg_right (show Es n (j * x + x) * (1 - x) ≤ Es n (j * x) by grind) h3
    grind
theorem Es_le_cN {t : Rat} (h : 0 ≤ t) (n : Nat) {N : Nat} (hN : 1 ≤ N) (ht : t ≤ N) : Es n t * (1 - t * t / N) ≤ cN N t := by
  have hp := npos hN
  have hx := ndiv h N
  have e : (N : Rat) * (t / N) = t := by grind
  have hx1 : t / N ≤ 1 := scale_le hp (by rw [Rat.div_mul_cancel (by grind)]; grind)
  have h1 := Es_le_pow hx hx1 n N
  rw [e] at h1
  have h2 := bern (x := -(t / N * (t / N))) (by
    have := rmul_le hx1 hx1 hx (by decide)
    grind) N
  have h3 : (1 + -(t / N * (t / N))) ^ N = (1 - t / N) ^ N * (1 + t / N) ^ N := by
    rw [← rmul_pow]; congr 1; grind
  have h4 : (N : Rat) * (t / N * (t / N)) = t * t / N := by grind
  rw [h3] at h2
  have h5 : (1 : Rat) - t * t / N ≤ (1 - t / N) ^ N * (1 + t / N) ^ N := by grind
  have h6 := Rat.mul_le_mul_of_nonneg_left h5 (show 0 ≤ Es n t by have := Es_ge1 h n; grind)
  have h7 := Rat.mul_le_mul_of_nonneg_right h1 (show 0 ≤ (1 + t / (N : Rat)) ^ N from Rat.pow_nonneg (by grind))
  show _ ≤ (1 + t / (N : Rat)) ^ N
  grind
theorem R.sum_lo {t : Rat} (h : 0 ≤ t) (n : Nat) : R 0 t (Es n t) 1 := fun th h0 h1 =>
  ((Ev.ratio (t * t) h1).and (Ev.ratio t h1)).mono fun N ⟨⟨hN, _, z⟩, _, ht, _⟩ => by
    rw [cN_zero]
    have h2 := Es_le_cN h n hN ht
    have h3 := Rat.mul_le_mul_of_nonneg_right z (show 0 ≤ Es n t by have := Es_ge1 h n; grind)
    grind
theorem R.sum_hi {t q : Rat} (h : 0 ≤ t) (hq : ∀ n, Es n t ≤ q) : R t 0 1 q := fun th h0 h1 => Ev.all fun N => by
  rw [cN_zero]
  have h2 := cN_le_Es h N
  have h3 := hq N
  have h4 := cN_ge1 h N
  have h5 := Rat.mul_le_mul_of_nonneg_right (Rat.le_of_lt h1) (show 0 ≤ cN N t by grind)
  grind
def pp (t : Rat) : Rat := if 0 ≤ t then t else 0
theorem pp_nonneg (t : Rat) : 0 ≤ pp t := by unfold pp; split; assumption; exact Rat.le_refl
theorem pp_sub (t : Rat) : pp t = t + pp (-t) := by unfold pp; split <;> split <;> grind
def XL (v t : Rat) : Prop := R (pp (-t)) (pp t) v 1
def XU (t v : Rat) : Prop := R (pp t) (pp (-t)) 1 v
theorem R.shift {a b a' b' p q : Rat} (h : R a b p q) (e : a + b' = a' + b) (ha : 0 ≤ a) (hb : 0 ≤ b) (ha' : 0 ≤ a') (hb' : 0 ≤ b') (hp : 0 ≤ p) (hq : 0 ≤ q) : R a' b' p q := by
  have h1 := h.mul (R.of_le (a := b') (p := 1) (q := 1) hb' (by decide) Rat.le_refl) ha hb' hb hb' hp (by decide) hq (by decide)
  rw [e, Rat.add_comm b b', Rat.mul_one, Rat.mul_one] at h1
  exact h1.cancel ha' hb' hb hp hq
theorem XL.of {a b v : Rat} (h : R a b v 1) (ha : 0 ≤ a) (hb : 0 ≤ b) (hv : 0 ≤ v) : XL v (b - a) :=
  h.shift (by have := pp_sub (b - a); grind) ha hb (pp_nonneg _) (pp_nonneg _) hv (by decide)
theorem XU.of {a b v : Rat} (h : R a b 1 v) (ha : 0 ≤ a) (hb : 0 ≤ b) (hv : 0 ≤ v) : XU (a - b) v :=
  h.shift (by have := pp_sub (a - b); grind) ha hb (pp_nonneg _) (pp_nonneg _) (by decide) hv
theorem XL.le {v t w : Rat} (h : XL v t) (k : XU t w) (hv : 0 ≤ v) (hw : 0 ≤ w) : v ≤ w := by
  have h1 := h.mul k (pp_nonneg _) (pp_nonneg _) (pp_nonneg _) (pp_nonneg _) hv (by decide) (by decide) hw
  rw [Rat.mul_one, Rat.one_mul, Rat.add_comm (pp (-t))] at h1
  have h2 : R (0 + (pp t + pp (-t))) (0 + (pp t + pp (-t))) v w := by rwa [Rat.zero_add]
  exact (h2.cancel Rat.le_refl Rat.le_refl (by have := pp_nonneg t; have := pp_nonneg (-t); grind) hv hw).base hv
theorem XL.mul {v t w u : Rat} (h : XL v t) (k : XL w u) (hv : 0 ≤ v) (hw : 0 ≤ w) : XL (v * w) (t + u) := by
  have h1 := R.mul h k (pp_nonneg _) (pp_nonneg _) (pp_nonneg _) (pp_nonneg _) hv hw (by decide) (by decide)
  have h2 := XL.of (by simpa using h1) (by have := pp_nonneg (-t); have := pp_nonneg (-u); grind) (by have := pp_nonneg t; have := pp_nonneg u; grind) (rmul_nonneg hv hw)
  rwa [show pp t + pp u - (pp (-t) + pp (-u)) = t + u by have := pp_sub t; have := pp_sub u; grind] at h2
theorem XU.mul {v t w u : Rat} (h : XU t v) (k : XU u w) (hv : 0 ≤ v) (hw : 0 ≤ w) : XU (t + u) (v * w) := by
  have h1 := R.mul h k (pp_nonneg _) (pp_nonneg _) (pp_nonneg _) (pp_nonneg _) (by decide) (by decide) hv hw
  have h2 := XU.of (by simpa using h1) (by have := pp_nonneg t; have := pp_nonneg u; grind) (by have := pp_nonneg (-t); have := pp_nonneg (-u); grind) (rmul_nonneg hv hw)
  rwa [show pp t + pp u - (pp (-t) + pp (-u)) = t + u by have := pp_sub t; have := pp_sub u; grind] at h2
theorem XL.mono {v t w u : Rat} (h : XL v t) (h1 : t ≤ u) (h2 : w ≤ v) (hw : 0 ≤ w) : XL w u :=
  R.mono h (by unfold pp; split <;> split <;> grind) (by unfold pp; split <;> split <;> grind) h2 Rat.le_refl (pp_nonneg _) (pp_nonneg _) hw (by decide)
theorem XU.mono {v t w u : Rat} (h : XU t v) (h1 : u ≤ t) (h2 : v ≤ w) (hv : 0 ≤ v) : XU u w :=
  R.mono h (by unfold pp; split <;> split <;> grind) (by unfold pp; split <;> split <;> grind) Rat.le_refl h2 (pp_nonneg _) (pp_nonneg _) (by decide) hv
theorem XL.closed {v t : Rat} (h : ∀ th : Rat, 0 < th → th < 1 → XL (th * v) t) (hv : 0 ≤ v) : XL v t := R.closed h (pp_nonneg _) hv
theorem XU.closed {v t : Rat} (h : ∀ th : Rat, 0 < th → th < 1 → XU t (v / th)) (hv : 0 ≤ v) : XU t v := R.closed (fun th h0 h1 s h2 h3 => (h th h0 h1 s h2 h3).mono fun N x => by
  have h4 := Rat.mul_le_mul_of_nonneg_left x (Rat.le_of_lt h0)
  have h5 : th * (cN N (pp (-t)) * (v / th)) = cN N (pp (-t)) * v := by grind
  grind) (pp_nonneg _) (by decide)
theorem XL.inv {v t : Rat} (h : XL v t) (hv : 0 < v) : XU (-t) (1 / v) := fun th h0 h1 => (h th h0 h1).mono fun N x => by
  rw [show - -t = t by grind]
  refine scale_le hv ?_
  have : cN N (pp t) * (1 / v) * v = cN N (pp t) := by grind
  rw [this]
  grind
theorem XU.inv {v t : Rat} (h : XU t v) (hv : 0 < v) : XL (1 / v) (-t) := fun th h0 h1 => (h th h0 h1).mono fun N x => by
  rw [show - -t = t by grind]
  refine scale_le hv ?_
  have : th * (cN N (pp t) * (1 / v)) * v = th * cN N (pp t) := by grind
  rw [this]
  grind
theorem XL.zero : XL 1 0 := by
  have := XL.of (a := 0) (b := 0) (v := 1) (R.of_le Rat.le_refl (by decide) Rat.le_refl) Rat.le_refl Rat.le_refl (by decide)
  rwa [show (0 : Rat) - 0 = 0 by grind] at this
theorem XU.zero : XU 0 1 := by
  have := XU.of (a := 0) (b := 0) (v := 1) (R.of_le Rat.le_refl (by decide) Rat.le_refl) Rat.le_refl Rat.le_refl (by decide)
  rwa [show (0 : Rat) - 0 = 0 by grind] at this
theorem XL.pow {v t : Rat} (h : XL v t) (hv : 0 ≤ v) (n : Nat) : XL (v ^ n) (n * t) := by
  induction n with
  | zero =>
    rw [show ((0 : Nat) : Rat) * t = 0 by rw [show ((0 : Nat) : Rat) = 0 from rfl]; grind, Rat.pow_zero]
    exact XL.zero
  | succ n ih =>
    rw [natc, Rat.pow_succ, show ((n : Rat) + 1) * t = n * t + t by grind]
    exact ih.mul h (Rat.pow_nonneg hv) hv
theorem XU.pow {v t : Rat} (h : XU t v) (hv : 0 ≤ v) (n : Nat) : XU (n * t) (v ^ n) := by
  induction n with
  | zero =>
    rw [show ((0 : Nat) : Rat) * t = 0 by rw [show ((0 : Nat) : Rat) = 0 from rfl]; grind, Rat.pow_zero]
    exact XU.zero
  | succ n ih =>
    rw [natc, Rat.pow_succ, show ((n : Rat) + 1) * t = n * t + t by grind]
    exact ih.mul h (Rat.pow_nonneg hv) hv
theorem pp_of {t : Rat} (h : 0 ≤ t) : pp t = t := if_pos h
theorem pp_neg {t : Rat} (h : 0 ≤ t) : pp (-t) = 0 := by unfold pp; split <;> grind
theorem XL.sum {t v : Rat} (h : 0 ≤ t) (n : Nat) (hv : v ≤ Es n t) (h0 : 0 ≤ v) : XL v t := by
  unfold XL
  rw [pp_of h, pp_neg h]
  exact (R.sum_lo h n).mono Rat.le_refl Rat.le_refl hv Rat.le_refl Rat.le_refl h h0 (by decide)
theorem XU.sum {t v : Rat} (h : 0 ≤ t) (hv : ∀ n, Es n t ≤ v) : XU t v := by
  unfold XU
  rw [pp_of h, pp_neg h]
  exact R.sum_hi h hv
theorem XL.one_add {t : Rat} (h : 0 ≤ t) : XL (1 + t) t := XL.sum h 1 (by
  show 1 + t ≤ 1 + Et 1 t
  have h1 := Et_step 0 t
  have e0 : ∀ t, Et 0 t = 1 := fun _ => rfl
  rw [e0] at h1
  have : ((0 : Nat) : Rat) = 0 := rfl
  have e1 : Et (0 + 1) t = Et 1 t := rfl
  grind) (by grind)
theorem XU.one_sub {t : Rat} (h : 0 ≤ t) (h1 : t < 1) : XU t (1 / (1 - t)) := by
  unfold XU
  rw [pp_of h, pp_neg h]
  intro th h2 h3
  refine (Ev.ge 1).mono fun N hN => ?_
  rw [cN_zero]
  have hp := npos hN
  have e : (N : Rat) * (t / N) = t := by grind
  have h4 := bern_up (ndiv h N) (n := N) (by grind)
  rw [e] at h4
  have h5 : cN N t * (1 - t) ≤ 1 := h4
  have h6 := cN_ge1 h N
  refine scale_le (c := 1 - t) (by grind) ?_
  have h7 : 1 * (1 / (1 - t)) * (1 - t) = 1 := by grind
  rw [h7]
  have h8 := Rat.mul_le_mul_of_nonneg_right (Rat.le_of_lt h3) (show 0 ≤ cN N t * (1 - t) from rmul_nonneg (by grind) (by grind))
  grind
theorem rle_of_eq {a b : Rat} (h : a = b) : a ≤ b := h ▸ Rat.le_refl
def As : Nat → Rat → Rat
  | 0, _ => 0
  | n + 1, y => As n y + y ^ (2 * n + 1) / ((2 * n + 1 : Nat) : Rat)
def Gs : Nat → Rat → Rat
  | 0, _ => 0
  | n + 1, y => Gs n y + y ^ (2 * n)
theorem pow_two_mul (y : Rat) (n : Nat) : y ^ (2 * (n + 1)) = y ^ (2 * n) * (y * y) := by
  rw [show 2 * (n + 1) = 2 * n + 1 + 1 by omega, Rat.pow_succ, Rat.pow_succ]; grind
theorem Gs_eq (y : Rat) (n : Nat) : Gs n y * (1 - y * y) = 1 - y ^ (2 * n) := by
  induction n with
  | zero => simp [Gs]; grind
  | succ n ih =>
    show (Gs n y + y ^ (2 * n)) * (1 - y * y) = _
    rw [pow_two_mul]; grind
theorem pow_diff_le {a b : Rat} (h0 : 0 ≤ a) (h : a ≤ b) (j : Nat) : b ^ (j + 1) - a ^ (j + 1) ≤ ((j : Rat) + 1) * ((b - a) * b ^ j) := by
  induction j with
  | zero => simp; grind
  | succ j ih =>
    rw [Rat.pow_succ b (j + 1), Rat.pow_succ a (j + 1), natc]
    have h1 := Rat.mul_le_mul_of_nonneg_right ih (show 0 ≤ b by grind)
    have h2 := rpow_le h0 h (j + 1)
    have h3 := Rat.mul_le_mul_of_nonneg_left h2 (show 0 ≤ b - a by grind)
    rw [Rat.pow_succ b j, Rat.pow_succ a j] at *
    grind
theorem pow_diff_ge {a b : Rat} (h0 : 0 ≤ a) (h : a ≤ b) (j : Nat) : ((j : Rat) + 1) * ((b - a) * a ^ j) ≤ b ^ (j + 1) - a ^ (j + 1) := by
  induction j with
  | zero => simp; grind
  | succ j ih =>
    rw [Rat.pow_succ b (j + 1), Rat.pow_succ a (j + 1), natc]
    have h1 := Rat.mul_le_mul_of_nonneg_right ih h0
    have h2 := rpow_le h0 h (j + 1)
    have h3 := Rat.mul_le_mul_of_nonneg_left h2 (show 0 ≤ b - a by grind)
    rw [Rat.pow_succ b j, Rat.pow_succ a j] at *
    grind
theorem term_le {a b : Rat} (h0 : 0 ≤ a) (h : a ≤ b) (n : Nat) : b ^ (2 * n + 1) / ((2 * n + 1 : Nat) : Rat) - a ^ (2 * n + 1) / ((2 * n + 1 : Nat) : Rat) ≤ (b - a) * b ^ (2 * n) := by
  have h1 := pow_diff_le h0 h (2 * n)
  have hp := n1pos (2 * n)
  rw [natc]
  refine scale_le hp ?_
  generalize b ^ (2 * n + 1) = B at *
  generalize a ^ (2 * n + 1) = A at *
  generalize b ^ (2 * n) = C at *
  generalize ((2 * n : Nat) : Rat) + 1 = c at *
  have e1 : (B / c - A / c) * c = B - A := by grind
  rw [e1]; grind
theorem term_ge {a b : Rat} (h0 : 0 ≤ a) (h : a ≤ b) (n : Nat) : (b - a) * a ^ (2 * n) ≤ b ^ (2 * n + 1) / ((2 * n + 1 : Nat) : Rat) - a ^ (2 * n + 1) / ((2 * n + 1 : Nat) : Rat) := by
  have h1 := pow_diff_ge h0 h (2 * n)
  have hp := n1pos (2 * n)
  rw [natc]
  refine scale_le hp ?_
  generalize b ^ (2 * n + 1) = B at *
  generalize a ^ (2 * n + 1) = A at *
  generalize a ^ (2 * n) = C at *
  generalize ((2 * n : Nat) : Rat) + 1 = c at *
  have e1 : (B / c - A / c) * c = B - A := by grind
  rw [e1]; grind
theorem As_diff_le {a b : Rat} (h0 : 0 ≤ a) (h : a ≤ b) (n : Nat) : As n b - As n a ≤ (b - a) * Gs n b := by
  induction n with
  | zero => simp [As, Gs]; grind
  | succ n ih =>
    have := term_le h0 h n
    show As n b + _ - (As n a + _) ≤ (b - a) * (Gs n b + b ^ (2 * n))
    grind
theorem As_diff_ge {a b : Rat} (h0 : 0 ≤ a) (h : a ≤ b) (n : Nat) : (b - a) * Gs n a ≤ As n b - As n a := by
  induction n with
  | zero => simp [As, Gs]; grind
  | succ n ih =>
    have := term_ge h0 h n
    show (b - a) * (Gs n a + a ^ (2 * n)) ≤ As n b + _ - (As n a + _)
    grind
theorem As_zero (n : Nat) : As n 0 = 0 := by
  induction n with
  | zero => rfl
  | succ n ih =>
    show As n 0 + (0 : Rat) ^ (2 * n + 1) / _ = 0
    rw [ih, Rat.pow_succ, Rat.div_def]; grind
theorem As_mono {a b : Rat} (h0 : 0 ≤ a) (h : a ≤ b) (n : Nat) : As n a ≤ As n b := by
  have h1 := As_diff_ge h0 h n
  have h2 : 0 ≤ Gs n a := by
    clear h1
    induction n with
    | zero => exact Rat.le_refl
    | succ n ih =>
      have : (0 : Rat) ≤ a ^ (2 * n) := Rat.pow_nonneg h0
      show 0 ≤ Gs n a + a ^ (2 * n)
      grind
  have := rmul_nonneg (show 0 ≤ b - a by grind) h2
  grind
def gR (y : Rat) : Rat := (1 + y) / (1 - y)
theorem gR_pos {y : Rat} (h0 : 0 ≤ y) (h : y ≤ 1 / 3) : 1 ≤ gR y := by
  unfold gR
  refine scale_le (c := 1 - y) (by grind) ?_
  rw [Rat.div_mul_cancel (by grind)]; grind
theorem step_facts {a b : Rat} (h0 : 0 ≤ a) (h : a ≤ b) (hb : b ≤ 1 / 3) :
    ∃ r : Rat, gR b = gR a * r ∧ r * ((1 - b) * (1 + a)) = (1 - b) * (1 + a) + 2 * (b - a) ∧ 1 ≤ r := by
  have h1 : (1 - b) ≠ 0 := by grind
  have h2 : (1 + a) ≠ 0 := by grind
  have h3 : (1 - a) ≠ 0 := by grind
  have hp : 0 < (1 - b) * (1 + a) := Rat.mul_pos (by grind) (by grind)
  refine ⟨(1 + b) * (1 - a) / ((1 - b) * (1 + a)), ?_, ?_, ?_⟩
  · unfold gR
    have h4 : (1 - b) * (1 + a) ≠ 0 := by grind
    grind
  · rw [Rat.div_mul_cancel (by grind)]; grind
  · refine scale_le hp ?_
    rw [Rat.div_mul_cancel (by grind)]; grind
theorem step_up {a b : Rat} (h0 : 0 ≤ a) (h : a ≤ b) (hb : b ≤ 1 / 3) (hh : b - a ≤ 1 / 9) (n : Nat) :
    XU (2 * (As n b - As n a)) (gR b / gR a * (1 + 11 * ((b - a) * (b - a)))) := by
  obtain ⟨r, e1, e2, hr⟩ := step_facts h0 h hb
  have hg := gR_pos h0 (by grind)
  have e3 : gR b / gR a = r := by rw [e1]; grind
  rw [e3]
  have h1 := As_diff_le h0 h n
  have h2 := Gs_eq b n
  have h3 : (0 : Rat) ≤ b ^ (2 * n) := Rat.pow_nonneg (by grind)
  have hbb : b * b ≤ 1 / 9 := by
    have := rmul_le hb hb (by grind) (show (0 : Rat) ≤ 1 / 3 by decide +kernel)
    have : (1 : Rat) / 3 * (1 / 3) = 1 / 9 := by decide +kernel
    grind
  obtain ⟨d, hd⟩ : ∃ d, d = 2 * (As n b - As n a) := ⟨_, rfl⟩
  have hd0 : 0 ≤ d := by have := As_mono h0 h n; grind
  rw [← hd]
  have hG : (b - a) * Gs n b * (1 - b * b) ≤ b - a := by
    have := Rat.mul_le_mul_of_nonneg_left (show Gs n b * (1 - b * b) ≤ 1 by grind) (show 0 ≤ b - a by grind)
    grind
  have hd1 : d * (1 - b * b) ≤ 2 * (b - a) := by
    have h4 := Rat.mul_le_mul_of_nonneg_right h1 (show 0 ≤ 1 - b * b by grind)
    rw [hd]
    clear e1 e2 e3 h1 h2 h3 hd0 hd
    grind
  generalize As n b = AB at *
  generalize As n a = AA at *
  generalize Gs n b = GB at *
  generalize b ^ (2 * n) = BN at *
  clear h1 h2 h3 hd hG
  have hd2 : d ≤ 9 / 4 * (b - a) := by
    have := Rat.mul_le_mul_of_nonneg_left (show (8 : Rat) / 9 ≤ 1 - b * b by grind) hd0
    grind
  have hd3 : d ≤ 1 / 4 := by grind
  -- d is at most r - 1
  have hab : (1 - b) * (1 + a) ≤ 1 - b * b := by
    have := Rat.mul_le_mul_of_nonneg_left (show 1 + a ≤ 1 + b by grind) (show 0 ≤ 1 - b by grind)
    grind
  have hp : 0 < (1 - b) * (1 + a) := Rat.mul_pos (by grind) (by grind)
  have hd4 : d ≤ r - 1 := scale_le hp (by
    have := Rat.mul_le_mul_of_nonneg_left hab hd0
    grind)
  have hx := XU.one_sub hd0 (by grind)
  refine hx.mono Rat.le_refl ?_ (by
    have : (0 : Rat) < 1 - d := by grind
    rw [Rat.div_def]; exact rmul_nonneg (by decide) (Rat.le_of_lt (Rat.inv_pos.2 this)))
  refine scale_le (c := 1 - d) (by grind) ?_
  rw [Rat.div_mul_cancel (by grind)]
  -- 1 ≤ (r + r * 11 h^2) (1 - d)
  obtain ⟨k, hk⟩ : ∃ k, k = b - a := ⟨_, rfl⟩
  rw [← hk] at hd2 ⊢
  have hk0 : 0 ≤ k := by grind
  have hdd : d * d ≤ 81 / 16 * (k * k) := by
    have := rmul_le hd2 hd2 hd0 (by grind)
    grind
  have hkk := rmul_nonneg hk0 hk0
  have h5 : 1 + d + 2 * (d * d) ≤ r * (1 + 11 * (k * k)) := by
    have := Rat.mul_le_mul_of_nonneg_right hr (show 0 ≤ 11 * (k * k) by grind)
    grind
  have h6 := Rat.mul_le_mul_of_nonneg_right h5 (show 0 ≤ 1 - d by grind)
  have h7 := rmul_nonneg hd0 hd0
  have h8 := Rat.mul_le_mul_of_nonneg_right hd3 h7
  grind
theorem step_lo {a b y : Rat} (h0 : 0 ≤ a) (h : a ≤ b) (hb : b ≤ 1 / 3) (hy : a ≤ y) (n : Nat) :
    XL (gR b / gR a * (1 - 5 * ((b - a) * (b - a)) - 3 * ((b - a) * y ^ (2 * n)))) (2 * (As n b - As n a)) ∨ 1 - 5 * ((b - a) * (b - a)) - 3 * ((b - a) * y ^ (2 * n)) < 0 := by
  by_cases hneg : 1 - 5 * ((b - a) * (b - a)) - 3 * ((b - a) * y ^ (2 * n)) < 0
  · exact .inr hneg
  refine .inl ?_
  obtain ⟨r, e1, e2, hr⟩ := step_facts h0 h hb
  have hg := gR_pos h0 (by grind)
  have e3 : gR b / gR a = r := by rw [e1]; grind
  rw [e3]
  have h1 := As_diff_ge h0 h n
  have h2 := Gs_eq a n
  have h3 : a ^ (2 * n) ≤ y ^ (2 * n) := rpow_le h0 hy _
  have h3' : 0 ≤ a ^ (2 * n) := Rat.pow_nonneg h0
  have haa : a * a ≤ 1 / 9 := by
    have := rmul_le (show a ≤ 1 / 3 by grind) (show a ≤ 1 / 3 by grind) h0 (show (0 : Rat) ≤ 1 / 3 by decide +kernel)
    have : (1 : Rat) / 3 * (1 / 3) = 1 / 9 := by decide +kernel
    grind
  have hm := As_mono h0 h n
  have hx := XL.one_add (t := 2 * (As n b - As n a)) (by grind)
  refine hx.mono Rat.le_refl ?_ (rmul_nonneg (by grind) (by grind))
  generalize y ^ (2 * n) = Y at *
  generalize a ^ (2 * n) = AN at *
  generalize As n b = AB at *
  generalize As n a = AA at *
  generalize Gs n a = GA at *
  obtain ⟨k, hk⟩ : ∃ k, k = b - a := ⟨_, rfl⟩
  rw [← hk] at hneg h1 e2 ⊢
  have hk0 : 0 ≤ k := by grind
  have hkk := rmul_nonneg hk0 hk0
  have hkY := rmul_nonneg hk0 (show 0 ≤ Y by grind)
  -- r (1 - w) ≤ r - w, and 2 k GA ≥ r - 1 - w
  have h4 : r * (1 - 5 * (k * k) - 3 * (k * Y)) ≤ r - 5 * (k * k) - 3 * (k * Y) := by
    have := Rat.mul_le_mul_of_nonneg_right hr (show 0 ≤ 5 * (k * k) + 3 * (k * Y) by grind)
    grind
  refine Rat.le_trans h4 ?_
  have hp : 0 < (1 - b) * (1 + a) := Rat.mul_pos (by grind) (by grind)
  have h5 : r - 1 ≤ 2 * (k * GA) + 5 * (k * k) + 3 * (k * Y) := by
    have q0 : (0 : Rat) < 1 - a * a := by grind
    refine scale_le hp (scale_le q0 ?_)
    have q1 : (r - 1) * ((1 - b) * (1 + a)) = 2 * k := by grind
    rw [q1]
    -- 2 k (1 - a a) ≤ (2 k GA + 5 k k + 3 k Y) ((1-b)(1+a)) (1 - a a)
    have q2 : (2 * (k * GA)) * ((1 - b) * (1 + a)) * (1 - a * a) = 2 * k * (1 - AN) * ((1 - b) * (1 + a)) := by grind
    have q3 : (1 - b) * (1 + a) = 1 - a * a - k * (1 + a) := by grind
    have q4 : 2 * k * AN * ((1 - b) * (1 + a)) ≤ 3 * (k * Y) * ((1 - b) * (1 + a)) * (1 - a * a) := by
      have r1 : 2 * k * AN ≤ 2 * (k * Y) := by
        have := Rat.mul_le_mul_of_nonneg_left h3 hk0
        grind
      have r2 : 2 * (k * Y) ≤ 3 * (k * Y) * (1 - a * a) := by
        have := Rat.mul_le_mul_of_nonneg_left (show (8 : Rat) / 9 ≤ 1 - a * a by grind) hkY
        grind
      have := Rat.mul_le_mul_of_nonneg_right (Rat.le_trans r1 r2) (Rat.le_of_lt hp)
      grind
    have q5 : 2 * k * (k * (1 + a)) ≤ 5 * (k * k) * ((1 - b) * (1 + a)) * (1 - a * a) := by
      -- 2 ≤ 5 (1 - b) (1 - a a): 5 * 2/3 * 8/9 = 80/27
      have r1 : (2 : Rat) ≤ 5 * (1 - b) * (1 - a * a) := by
        have := rmul_le (show (2 : Rat) / 3 ≤ 1 - b by grind) (show (8 : Rat) / 9 ≤ 1 - a * a by grind) (by decide +kernel) (by grind)
        have : (2 : Rat) / 3 * (8 / 9) = 16 / 27 := by decide +kernel
        grind
      have := Rat.mul_le_mul_of_nonneg_right r1 (rmul_nonneg hkk (show 0 ≤ 1 + a by grind))
      grind
    have q6 : (2 * (k * GA) + 5 * (k * k) + 3 * (k * Y)) * ((1 - b) * (1 + a)) * (1 - a * a) = 2 * k * ((1 - b) * (1 + a)) - 2 * k * AN * ((1 - b) * (1 + a)) + 5 * (k * k) * ((1 - b) * (1 + a)) * (1 - a * a) + 3 * (k * Y) * ((1 - b) * (1 + a)) * (1 - a * a) := by grind
    rw [q6]
    have q7 : 2 * k * ((1 - b) * (1 + a)) = 2 * k * (1 - a * a) - 2 * k * (k * (1 + a)) := by rw [q3]; grind
    rw [q7]
    grind
  grind
theorem steps_up {k : Rat} (hk : 0 ≤ k) (hh : k ≤ 1 / 9) (n : Nat) : ∀ i : Nat, (i : Rat) * k ≤ 1 / 3 → XU (2 * As n (i * k)) (gR (i * k) * (1 + 11 * (k * k)) ^ i)
  | 0, _ => by
    rw [show ((0 : Nat) : Rat) * k = 0 by rw [show ((0 : Nat) : Rat) = 0 from rfl]; grind, As_zero, Rat.pow_zero]
    have : gR 0 * 1 = 1 := by decide +kernel
    rw [this, show (2 : Rat) * 0 = 0 by grind]
    exact XU.zero
  | i + 1, hi => by
    rw [natc] at hi ⊢
    have e : ((i : Rat) + 1) * k = i * k + k := by grind
    rw [e] at hi ⊢
    have ih := steps_up hk hh n i (by grind)
    have h0 : 0 ≤ (i : Rat) * k := rmul_nonneg (natc0 i) hk
    have hs := step_up h0 (show (i : Rat) * k ≤ i * k + k by grind) hi (by grind) n
    have ga := gR_pos h0 (by grind)
    have gb := gR_pos (show 0 ≤ (i : Rat) * k + k by grind) hi
    have ek : (i : Rat) * k + k - i * k = k := by grind
    rw [ek] at hs
    have hkk := rmul_nonneg hk hk
    have hw : 0 ≤ (1 + 11 * (k * k)) ^ i := Rat.pow_nonneg (by grind)
    have hd : 0 ≤ gR (i * k + k) / gR (i * k) := by
      rw [Rat.div_def]; exact rmul_nonneg (by grind) (Rat.le_of_lt (Rat.inv_pos.2 (by grind)))
    have := ih.mul hs (rmul_nonneg (by grind) hw) (rmul_nonneg hd (by grind))
    rw [show 2 * As n (i * k) + 2 * (As n (i * k + k) - As n (i * k)) = 2 * As n (i * k + k) by grind] at this
    rw [Rat.pow_succ]
    refine this.mono Rat.le_refl (rle_of_eq ?_) (rmul_nonneg (rmul_nonneg (by grind) hw) (rmul_nonneg hd (by grind)))
    generalize (1 + 11 * (k * k)) ^ i = P at *
    grind
theorem steps_lo {k y : Rat} (hk : 0 ≤ k) (n : Nat) (hw : 0 ≤ 1 - 5 * (k * k) - 3 * (k * y ^ (2 * n))) : ∀ i : Nat, (i : Rat) * k ≤ 1 / 3 → (i : Rat) * k ≤ y → XL (gR (i * k) * (1 - 5 * (k * k) - 3 * (k * y ^ (2 * n))) ^ i) (2 * As n (i * k))
  | 0, _, _ => by
    rw [show ((0 : Nat) : Rat) * k = 0 by rw [show ((0 : Nat) : Rat) = 0 from rfl]; grind, As_zero, Rat.pow_zero]
    have : gR 0 * 1 = 1 := by decide +kernel
    rw [this, show (2 : Rat) * 0 = 0 by grind]
    exact XL.zero
  | i + 1, hi, hy => by
    rw [natc] at hi hy ⊢
    have e : ((i : Rat) + 1) * k = i * k + k := by grind
    rw [e] at hi hy ⊢
    have ih := steps_lo hk n hw i (by grind) (by grind)
    have h0 : 0 ≤ (i : Rat) * k := rmul_nonneg (natc0 i) hk
    have hs := step_lo (y := y) h0 (show (i : Rat) * k ≤ i * k + k by grind) hi (by grind) n
    have ga := gR_pos h0 (by grind)
    have gb := gR_pos (show 0 ≤ (i : Rat) * k + k by grind) hi
    have ek : (i : Rat) * k + k - i * k = k := by grind
    rw [ek] at hs
    have hs := hs.resolve_right (by grind)
    have hp : 0 ≤ (1 - 5 * (k * k) - 3 * (k * y ^ (2 * n))) ^ i := Rat.pow_nonneg hw
    have hd : 0 ≤ gR (i * k + k) / gR (i * k) := by
      rw [Rat.div_def]; exact rmul_nonneg (by grind) (Rat.le_of_lt (Rat.inv_pos.2 (by grind)))
    have := ih.mul hs (rmul_nonneg (by grind) hp) (rmul_nonneg hd hw)
    rw [show 2 * As n (i * k) + 2 * (As n (i * k + k) - As n (i * k)) = 2 * As n (i * k + k) by grind] at this
    rw [Rat.pow_succ]
    refine this.mono Rat.le_refl (rle_of_eq ?_) (rmul_nonneg (by grind) (rmul_nonneg hp hw))
    generalize (1 - 5 * (k * k) - 3 * (k * y ^ (2 * n))) ^ i = P at *
    generalize 1 - 5 * (k * k) - 3 * (k * y ^ (2 * n)) = Q at *
    grind
theorem XU.atanh {y : Rat} (h0 : 0 ≤ y) (h : y ≤ 1 / 3) (n : Nat) : XU (2 * As n y) (gR y) := by
  have hg := gR_pos h0 h
  refine XU.closed (fun th t0 t1 => ?_) (by grind)
  obtain ⟨N, hN⟩ := Ev.ratio 11 t1
  obtain ⟨hN1, hN2, hN3⟩ := hN (max N 9) (by omega)
  have hN9 : ((9 : Nat) : Rat) ≤ ((max N 9 : Nat) : Rat) := Rat.natCast_le_natCast.2 (by omega)
  generalize max N 9 = M at *
  have hp := npos hN1
  have e1 : (M : Rat) * (y / M) = y := by grind
  have hk := ndiv h0 M
  have hk9 : y / M ≤ 1 / 9 := scale_le hp (by rw [Rat.div_mul_cancel (by grind)]; have : ((9 : Nat) : Rat) = 9 := rfl; grind)
  have hs := steps_up hk hk9 n M (by rw [e1]; exact h)
  rw [e1] at hs
  refine hs.mono Rat.le_refl ?_ (rmul_nonneg (by grind) (Rat.pow_nonneg (by have := rmul_nonneg hk hk; grind)))
  -- (1 + 11 k k)^M ≤ 1 / (1 - 11 k k M) ≤ 1 / th
  have hkk := rmul_nonneg hk hk
  have e2 : (M : Rat) * (11 * (y / M * (y / M))) = 11 * (y * (y / M)) := by grind
  have h3 : 11 * (y * (y / M)) ≤ 11 / M := by
    refine scale_le hp ?_
    have e3 : 11 * (y * (y / (M : Rat))) * M = 11 * (y * y) := by grind
    rw [e3, Rat.div_mul_cancel (by grind)]
    have := rmul_le h h h0 (show (0 : Rat) ≤ 1 / 3 by decide +kernel)
    have : (1 : Rat) / 3 * (1 / 3) = 1 / 9 := by decide +kernel
    grind
  have h4 := bern_up (x := 11 * (y / M * (y / M))) (by grind) (n := M) (by rw [e2]; grind)
  rw [e2] at h4
  have h5 : th ≤ 1 - 11 * (y * (y / M)) := by grind
  have h6 : (0 : Rat) ≤ (1 + 11 * (y / M * (y / M))) ^ M := Rat.pow_nonneg (by grind)
  have h7 := Rat.mul_le_mul_of_nonneg_left h5 h6
  refine scale_le t0 ?_
  rw [Rat.div_mul_cancel (by grind)]
  have h8 := Rat.mul_le_mul_of_nonneg_left (Rat.le_trans h7 h4) (show 0 ≤ gR y by grind)
  grind
theorem XL.atanh1 {y : Rat} (h0 : 0 ≤ y) (h : y ≤ 1 / 3) (n : Nat) (hn : 3 * y ^ (2 * n) < 1) : XL (gR y * (1 - 3 * y ^ (2 * n))) (2 * As n y) := by
  have hg := gR_pos h0 h
  have hY : 0 ≤ y ^ (2 * n) := Rat.pow_nonneg h0
  refine XL.closed (fun th t0 t1 => ?_) (rmul_nonneg (by grind) (by grind))
  obtain ⟨N, hN⟩ := Ev.ratio (5 / (1 - 3 * y ^ (2 * n))) t1
  obtain ⟨hN1, hN2, hN3⟩ := hN (max N 9) (by omega)
  generalize max N 9 = M at *
  have hp := npos hN1
  have e1 : (M : Rat) * (y / M) = y := by grind
  have hk := ndiv h0 M
  have hkk := rmul_nonneg hk hk
  obtain ⟨u, hu⟩ : ∃ u, u = 1 - 3 * y ^ (2 * n) := ⟨_, rfl⟩
  rw [← hu] at hN2 hN3 ⊢
  have hu0 : 0 < u := by grind
  have hyy : y * y ≤ 1 / 9 := by
    have := rmul_le h h h0 (show (0 : Rat) ≤ 1 / 3 by decide +kernel)
    have : (1 : Rat) / 3 * (1 / 3) = 1 / 9 := by decide +kernel
    grind
  -- M (5 k k + 3 k Y) = 5 y k + 3 y Y ≤ 5 / M + 1 - u
  obtain ⟨w, hw⟩ : ∃ w, w = 5 * (y / M * (y / M)) + 3 * (y / M * y ^ (2 * n)) := ⟨_, rfl⟩
  have hw0 : 0 ≤ w := by
    have := rmul_nonneg hk hY
    grind
  have e2 : (M : Rat) * w = 5 * (y * (y / M)) + 3 * (y * y ^ (2 * n)) := by rw [hw]; grind
  have h3 : 5 * (y * (y / M)) ≤ 5 / M := by
    refine scale_le hp ?_
    have e3 : 5 * (y * (y / (M : Rat))) * M = 5 * (y * y) := by grind
    rw [e3, Rat.div_mul_cancel (by grind)]
    grind
  have h4 : 3 * (y * y ^ (2 * n)) ≤ 1 - u := by
    have := Rat.mul_le_mul_of_nonneg_right h hY
    grind
  have h5 : 5 / (M : Rat) ≤ u * (1 - th) := by
    have h6 : 5 / u / M ≤ 1 - th := by grind
    have h7 := Rat.mul_le_mul_of_nonneg_left h6 (Rat.le_of_lt hu0)
    have e4 : u * (5 / u / (M : Rat)) = 5 / M := by
      have : u ≠ 0 := by grind
      have : (M : Rat) ≠ 0 := by grind
      grind
    rwa [e4] at h7
  have h6 : th * u ≤ 1 - M * w := by rw [e2]; grind
  have hMw : (M : Rat) * w ≤ 1 := by
    have := rmul_nonneg (Rat.le_of_lt t0) (Rat.le_of_lt hu0)
    grind
  have hw1 : w ≤ 1 := by
    have h8 : ((1 : Nat) : Rat) ≤ M := Rat.natCast_le_natCast.2 hN1
    have h9 : (1 : Rat) ≤ M := h8
    have := Rat.mul_le_mul_of_nonneg_right h9 hw0
    grind
  have e5 : 1 - 5 * (y / M * (y / M)) - 3 * (y / M * y ^ (2 * n)) = 1 - w := by rw [hw]; grind
  have hs := steps_lo (y := y) hk n (by rw [e5]; grind) M (by rw [e1]; exact h) (by rw [e1]; exact Rat.le_refl)
  rw [e1, e5] at hs
  have h7 := bern (x := -w) (by grind) M
  rw [show (1 : Rat) + -w = 1 - w by grind] at h7
  refine hs.mono Rat.le_refl ?_ (rmul_nonneg (Rat.le_of_lt t0) (rmul_nonneg (by grind) (Rat.le_of_lt hu0)))
  have h8 := Rat.mul_le_mul_of_nonneg_left (show th * u ≤ (1 - w) ^ M by grind) (show 0 ≤ gR y by grind)
  grind
theorem XL.atanh {y v : Rat} (h0 : 0 ≤ y) (h : y ≤ 1 / 3) (hv : ∀ n, As n y ≤ v) : XL (gR y) (2 * v) := by
  have hg := gR_pos h0 h
  refine XL.closed (fun th t0 t1 => ?_) (by grind)
  -- n with 3 y^(2n) ≤ 1 - th
  obtain ⟨n, hn⟩ := arch (3 / (1 - th))
  have h1 : y ^ (2 * n) * (1 + 2 * n) ≤ 1 := by
    have h2 : y ^ (2 * n) ≤ (1 / 3 : Rat) ^ (2 * n) := rpow_le h0 h _
    have h3 := bern (x := 2) (by decide) (2 * n)
    have h4 : (1 / 3 : Rat) ^ (2 * n) * (1 + 2) ^ (2 * n) = 1 := by
      rw [← rmul_pow]
      have : (1 / 3 : Rat) * (1 + 2) = 1 := by decide +kernel
      rw [this, one_pow']
    have h5 : ((2 * n : Nat) : Rat) = 2 * n := by rw [Rat.natCast_mul]; rfl
    rw [h5] at h3
    have h6 : 0 ≤ y ^ (2 * n) := Rat.pow_nonneg h0
    have h7 := rmul_le h2 h3 (by have := natc0 n; grind) (Rat.pow_nonneg (by decide +kernel))
    have h8 := Rat.mul_le_mul_of_nonneg_left (show 1 + 2 * (n : Rat) ≤ 1 + 2 * n * 2 by have := natc0 n; grind) h6
    grind
  have hY : 0 ≤ y ^ (2 * n) := Rat.pow_nonneg h0
  have h2 : 3 * y ^ (2 * n) ≤ 1 - th := by
    have h3 : 3 / (1 - th) ≤ 1 + 2 * (n : Rat) := by have := natc0 n; grind
    have h4 : 3 ≤ (1 + 2 * (n : Rat)) * (1 - th) := by
      have := Rat.mul_le_mul_of_nonneg_right h3 (show 0 ≤ 1 - th by grind)
      rwa [Rat.div_mul_cancel (by grind)] at this
    have h5 := Rat.mul_le_mul_of_nonneg_left h4 hY
    have h6 := Rat.mul_le_mul_of_nonneg_right h1 (show 0 ≤ 1 - th by grind)
    grind
  have h3 := XL.atanh1 h0 h n (by grind)
  refine h3.mono (by have := hv n; grind) ?_ (rmul_nonneg (Rat.le_of_lt t0) (by grind))
  have := Rat.mul_le_mul_of_nonneg_left (show th ≤ 1 - 3 * y ^ (2 * n) by grind) (show 0 ≤ gR y by grind)
  grind
def cD (a n : Nat) : Nat := a / n + (if a % n = 0 then 0 else 1)
theorem cD_ge {a n : Nat} (hn : 0 < n) : a ≤ cD a n * n := by
  unfold cD
  have h := Nat.div_add_mod a n
  have h2 := Nat.mod_lt a hn
  rw [Nat.add_mul, Nat.mul_comm (a / n)]
  split
  · omega
  · rw [Nat.one_mul]; omega
theorem cD_le {a n b : Nat} (hn : 0 < n) (h : a ≤ b * n) : cD a n ≤ b := by
  unfold cD
  have h1 := Nat.div_add_mod a n
  have h2 : a / n ≤ b := Nat.div_le_of_le_mul (by rw [Nat.mul_comm]; exact h)
  split
  · omega
  · rcases Nat.lt_or_ge (a / n) b with h3 | h3
    · omega
    · have h4 : a / n = b := by omega
      rw [h4, Nat.mul_comm] at h1
      omega
structure PN where
  lo : Nat
  hi : Nat
deriving DecidableEq
def PN.times (p q : PN) (s : Nat) : PN := ⟨p.lo * q.lo / 2 ^ s, cD (p.hi * q.hi) (2 ^ s)⟩
def PN.part (p : PN) (n : Nat) : PN := ⟨p.lo / n, cD p.hi n⟩
def PN.plus (p q : PN) : PN := ⟨p.lo + q.lo, p.hi + q.hi⟩
def PN.rest (p t : PN) : PN := ⟨p.lo, p.hi + (t.hi + t.hi)⟩
def fracS (num den s : Nat) : PN := ⟨num * 2 ^ s / den, cD (num * 2 ^ s) den⟩
def atLoop (s : Nat) (sq : PN) : Nat → PN → PN → Nat → PN × PN
  | 0, sum, term, _ => (sum, term)
  | k + 1, sum, term, n => if term.lo = 0 then (sum, term) else atLoop s sq k (sum.plus (term.part n)) (term.times sq s) (n + 2)
def atR (num den s : Nat) : PN × PN := atLoop s ((fracS num den s).times (fracS num den s) s) (s + 2) ⟨0, 0⟩ (fracS num den s) 1
def atanhS (num den s : Nat) : PN := if num = 0 then ⟨0, 0⟩ else (atR num den s).1.rest (atR num den s).2
def ln2S (s : Nat) : PN := ⟨(atanhS 1 3 s).lo + (atanhS 1 3 s).lo, (atanhS 1 3 s).hi + (atanhS 1 3 s).hi⟩
def exLoop (s : Nat) (x : PN) : Nat → PN → PN → Nat → PN × PN
  | 0, sum, term, _ => (sum, term)
  | k + 1, sum, term, n => if term.lo = 0 ∧ x.hi = 0 then (sum, term) else
    if ((term.times x s).part n).hi ≤ 1 then (sum.plus ((term.times x s).part n), (term.times x s).part n) else
    exLoop s x k (sum.plus ((term.times x s).part n)) ((term.times x s).part n) (n + 1)
def exR (a b s : Nat) : PN × PN := exLoop s ⟨a, b⟩ (s + 2) ⟨2 ^ s, 2 ^ s⟩ ⟨2 ^ s, 2 ^ s⟩ 1
def expN (a b s : Nat) : PN := (exR a b s).1.rest (exR a b s).2
def Hd (S : Rat) (p : PN) (v w : Rat) : Prop := (p.lo : Rat) ≤ v * S ∧ w * S ≤ p.hi
theorem ncast_mul (a b : Nat) : ((a * b : Nat) : Rat) = (a : Rat) * b := Rat.natCast_mul a b
theorem ncast_add (a b : Nat) : ((a + b : Nat) : Rat) = (a : Rat) + b := Rat.natCast_add a b
theorem ncast_le {a b : Nat} (h : a ≤ b) : (a : Rat) ≤ b := Rat.natCast_le_natCast.2 h
theorem div_cast (a n : Nat) : ((a / n : Nat) : Rat) * n ≤ a := by
  rw [← ncast_mul]; exact ncast_le (Nat.div_mul_le_self a n)
theorem cD_cast (a : Nat) {n : Nat} (hn : 0 < n) : (a : Rat) ≤ (cD a n : Rat) * n := by
  rw [← ncast_mul]; exact ncast_le (cD_ge hn)
theorem Hd.plus {S v w v' w' : Rat} {p q : PN} (h : Hd S p v w) (k : Hd S q v' w') : Hd S (p.plus q) (v + v') (w + w') := by
  unfold Hd PN.plus at *
  dsimp only
  rw [ncast_add, ncast_add]
  grind
theorem Hd.times {s : Nat} {v w v' w' : Rat} {p q : PN} (h : Hd ((2 ^ s : Nat) : Rat) p v w) (k : Hd ((2 ^ s : Nat) : Rat) q v' w') (hw : 0 ≤ w) (hw' : 0 ≤ w') : Hd ((2 ^ s : Nat) : Rat) (p.times q s) (v * v') (w * w') := by
  have hp : 0 < 2 ^ s := Nat.two_pow_pos s
  have hS := npos hp
  have h1 := div_cast (p.lo * q.lo) (2 ^ s)
  have h2 := cD_cast (p.hi * q.hi) hp
  unfold Hd PN.times at *
  dsimp only
  generalize p.lo * q.lo / 2 ^ s = A at *
  rw [ncast_mul] at h1 h2
  generalize cD (p.hi * q.hi) (2 ^ s) = B at *
  generalize ((2 ^ s : Nat) : Rat) = S at *
  have e1 := rmul_le h.1 k.1 (natc0 _) (Rat.le_trans (natc0 _) h.1)
  have e2 := rmul_le h.2 k.2 (rmul_nonneg hw' (Rat.le_of_lt hS)) (natc0 _)
  exact ⟨scale_le hS (by grind), scale_le hS (by grind)⟩
theorem Hd.part {S v w : Rat} {p : PN} (h : Hd S p v w) {n : Nat} (hn : 1 ≤ n) : Hd S (p.part n) (v / n) (w / n) := by
  have hN := npos hn
  have h1 := div_cast p.lo n
  have h2 := cD_cast p.hi (show 0 < n from hn)
  unfold Hd PN.part at *
  dsimp only
  generalize p.lo / n = A at *
  generalize cD p.hi n = B at *
  have e1 : v / (n : Rat) * S * n = v * S := by grind
  have e2 : w / (n : Rat) * S * n = w * S := by grind
  exact ⟨scale_le hN (by grind), scale_le hN (by grind)⟩
theorem Hd.frac (num s : Nat) {den : Nat} (hd : 0 < den) : Hd ((2 ^ s : Nat) : Rat) (fracS num den s) ((num : Rat) / den) ((num : Rat) / den) := by
  have hD := npos (show 1 ≤ den from hd)
  have h1 := div_cast (num * 2 ^ s) den
  have h2 := cD_cast (num * 2 ^ s) hd
  unfold Hd fracS
  dsimp only
  rw [ncast_mul] at h1 h2
  generalize num * 2 ^ s / den = A at *
  generalize cD (num * 2 ^ s) den = B at *
  generalize ((2 ^ s : Nat) : Rat) = S at *
  have e1 : (num : Rat) / den * S * den = num * S := by grind
  exact ⟨scale_le hD (by grind), scale_le hD (by grind)⟩
theorem As_tail {y : Rat} (h0 : 0 ≤ y) (h : y ≤ 1 / 3) (n : Nat) : ∀ m, As (n + m) y + 2 * y ^ (2 * (n + m) + 1) ≤ As n y + 2 * y ^ (2 * n + 1)
  | 0 => Rat.le_refl
  | m + 1 => by
    have ih := As_tail h0 h n m
    rw [← Nat.add_assoc]
    generalize n + m = k at *
    show As k y + y ^ (2 * k + 1) / ((2 * k + 1 : Nat) : Rat) + 2 * y ^ (2 * (k + 1) + 1) ≤ _
    refine Rat.le_trans ?_ ih
    have h1 : y ^ (2 * (k + 1) + 1) = y ^ (2 * k + 1) * (y * y) := by
      rw [show 2 * (k + 1) + 1 = 2 * k + 1 + 1 + 1 by omega, Rat.pow_succ, Rat.pow_succ]; grind
    rw [h1]
    have hY : 0 ≤ y ^ (2 * k + 1) := Rat.pow_nonneg h0
    generalize y ^ (2 * k + 1) = Y at *
    have h2 : Y / ((2 * k + 1 : Nat) : Rat) ≤ Y := by
      have hp := npos (show 1 ≤ 2 * k + 1 by omega)
      have h1c : ((1 : Nat) : Rat) ≤ ((2 * k + 1 : Nat) : Rat) := ncast_le (by omega)
      refine scale_le hp ?_
      rw [Rat.div_mul_cancel (by grind)]
      have h3 : (1 : Rat) ≤ ((2 * k + 1 : Nat) : Rat) := h1c
      have := Rat.mul_le_mul_of_nonneg_left h3 hY
      grind
    have h4 : y * y ≤ 1 / 9 := by
      have := rmul_le h h h0 (show (0 : Rat) ≤ 1 / 3 by decide +kernel)
      have : (1 : Rat) / 3 * (1 / 3) = 1 / 9 := by decide +kernel
      grind
    have h5 := Rat.mul_le_mul_of_nonneg_left h4 hY
    grind
theorem As_up {y : Rat} (h0 : 0 ≤ y) (n m : Nat) : As n y ≤ As (n + m) y := by
  induction m with
  | zero => exact Rat.le_refl
  | succ m ih =>
    have h1 := ndiv (Rat.pow_nonneg (n := 2 * (n + m) + 1) h0) (2 * (n + m) + 1)
    show As n y ≤ As (n + m) y + y ^ (2 * (n + m) + 1) / ((2 * (n + m) + 1 : Nat) : Rat)
    grind
theorem As_all {y : Rat} (h0 : 0 ≤ y) (h : y ≤ 1 / 3) (n m : Nat) : As m y ≤ As n y + 2 * y ^ (2 * n + 1) := by
  have hY : ∀ k, 0 ≤ y ^ k := fun k => Rat.pow_nonneg h0
  rcases Nat.le_total n m with hm | hm
  · have h1 := As_tail h0 h n (m - n)
    rw [show n + (m - n) = m by omega] at h1
    have := hY (2 * m + 1)
    grind
  · have h1 := As_up h0 m (n - m)
    rw [show m + (n - m) = n by omega] at h1
    have := hY (2 * n + 1)
    grind
theorem atLoop_sound {s : Nat} {sq : PN} {y : Rat} (h0 : 0 ≤ y) (hq : Hd ((2 ^ s : Nat) : Rat) sq (y * y) (y * y)) : ∀ (f k : Nat) (sum term : PN), Hd ((2 ^ s : Nat) : Rat) sum (As k y) (As k y) → Hd ((2 ^ s : Nat) : Rat) term (y ^ (2 * k + 1)) (y ^ (2 * k + 1)) →
    ∃ j, Hd ((2 ^ s : Nat) : Rat) (atLoop s sq f sum term (2 * k + 1)).1 (As j y) (As j y) ∧ Hd ((2 ^ s : Nat) : Rat) (atLoop s sq f sum term (2 * k + 1)).2 (y ^ (2 * j + 1)) (y ^ (2 * j + 1))
  | 0, k, sum, term, h1, h2 => ⟨k, h1, h2⟩
  | f + 1, k, sum, term, h1, h2 => by
    unfold atLoop
    split
    · exact ⟨k, h1, h2⟩
    · have h3 := atLoop_sound h0 hq f (k + 1) (sum.plus (term.part (2 * k + 1))) (term.times sq s) (h1.plus (h2.part (by omega))) (by
        have h4 := h2.times hq (Rat.pow_nonneg h0) (rmul_nonneg h0 h0)
        have e : y ^ (2 * (k + 1) + 1) = y ^ (2 * k + 1) * (y * y) := by
          rw [show 2 * (k + 1) + 1 = 2 * k + 1 + 1 + 1 by omega, Rat.pow_succ, Rat.pow_succ]; grind
        rwa [e])
      rw [show 2 * (k + 1) + 1 = 2 * k + 1 + 2 by omega] at h3
      obtain ⟨j, h5, h6⟩ := h3
      exact ⟨j, h5, h6⟩
theorem atanhS_sound {num den s : Nat} (hd : 0 < den) (h3 : 3 * num ≤ den) :
    (∃ n, ((atanhS num den s).lo : Rat) ≤ As n ((num : Rat) / den) * ((2 ^ s : Nat) : Rat)) ∧ ∀ n, As n ((num : Rat) / den) * ((2 ^ s : Nat) : Rat) ≤ ((atanhS num den s).hi : Rat) := by
  have hD := npos (show 1 ≤ den from hd)
  have h0 : 0 ≤ (num : Rat) / den := ndiv (natc0 _) _
  have hy : (num : Rat) / den ≤ 1 / 3 := scale_le hD (by
    rw [Rat.div_mul_cancel (by grind)]
    have h := ncast_le h3
    rw [ncast_mul] at h
    have : ((3 : Nat) : Rat) = 3 := rfl
    grind)
  unfold atanhS
  by_cases hn : num = 0
  · rw [if_pos hn]
    subst hn
    have e : ((0 : Nat) : Rat) / den = 0 := by rw [Rat.div_def, show ((0 : Nat) : Rat) = 0 from rfl]; grind
    refine ⟨⟨0, ?_⟩, fun n => ?_⟩
    · rw [e, As_zero, show ((0 : Nat) : Rat) = 0 from rfl]; grind
    · rw [e, As_zero, show ((0 : Nat) : Rat) = 0 from rfl]; grind
  rw [if_neg hn]
  have hf := Hd.frac num s hd
  generalize (num : Rat) / den = y at *
  have hp := npos (show 1 ≤ 2 ^ s from Nat.two_pow_pos s)
  have hz : Hd ((2 ^ s : Nat) : Rat) ⟨0, 0⟩ (As 0 y) (As 0 y) := by
    have e : As 0 y = 0 := rfl
    unfold Hd
    rw [e]
    dsimp only
    have : ((0 : Nat) : Rat) = 0 := rfl
    grind
  obtain ⟨j, h1, h2⟩ := atLoop_sound h0 (hf.times hf h0 h0) (s + 2) 0 ⟨0, 0⟩ (fracS num den s) hz (by
    rw [show 2 * 0 + 1 = 1 from rfl, Rat.pow_one]; exact hf)
  rw [show 2 * 0 + 1 = 1 from rfl] at h1 h2
  unfold atR
  generalize atLoop s ((fracS num den s).times (fracS num den s) s) (s + 2) ⟨0, 0⟩ (fracS num den s) 1 = r at *
  refine ⟨⟨j, h1.1⟩, fun n => ?_⟩
  show _ ≤ ((r.1.hi + (r.2.hi + r.2.hi) : Nat) : Rat)
  rw [ncast_add, ncast_add]
  have h4 := Rat.mul_le_mul_of_nonneg_right (As_all h0 hy j n) (Rat.le_of_lt hp)
  have h5 := h1.2
  have h6 := h2.2
  grind
theorem Et_half {t : Rat} (h0 : 0 ≤ t) (h : t ≤ 1) (n : Nat) : 2 * Et (n + 1 + 1) t ≤ Et (n + 1) t := by
  have h1 := Et_step (n + 1) t
  have h2 := Et_nonneg h0 (n + 1)
  have h3 := Et_nonneg h0 (n + 1 + 1)
  have h4 := Rat.mul_le_mul_of_nonneg_left h h2
  have h5 := natc n
  have h6 : (2 : Rat) ≤ ((n + 1 : Nat) : Rat) + 1 := by have := natc0 n; grind
  have h7 := Rat.mul_le_mul_of_nonneg_left h6 h3
  grind
theorem Es_tail {t : Rat} (h0 : 0 ≤ t) (h : t ≤ 1) (n : Nat) : ∀ m, Es (n + 1 + m) t + Et (n + 1 + m) t ≤ Es (n + 1) t + Et (n + 1) t
  | 0 => Rat.le_refl
  | m + 1 => by
    have ih := Es_tail h0 h n m
    have h1 := Et_half h0 h (n + m)
    rw [show n + m + 1 = n + 1 + m by omega] at h1
    show Es (n + 1 + m) t + Et (n + 1 + m + 1) t + Et (n + 1 + m + 1) t ≤ _
    grind
theorem Es_more {t : Rat} (h0 : 0 ≤ t) (n m : Nat) : Es n t ≤ Es (n + m) t := by
  induction m with
  | zero => exact Rat.le_refl
  | succ m ih => exact Rat.le_trans ih (Es_up h0 (n + m))
theorem Es_all {t : Rat} (h0 : 0 ≤ t) (h : t ≤ 1) (n m : Nat) : Es m t ≤ Es (n + 1) t + Et (n + 1) t := by
  rcases Nat.le_total (n + 1) m with hm | hm
  · have h1 := Es_tail h0 h n (m - (n + 1))
    rw [show n + 1 + (m - (n + 1)) = m by omega] at h1
    have := Et_nonneg h0 m
    grind
  · have h1 := Es_more h0 m (n + 1 - m)
    rw [show m + (n + 1 - m) = n + 1 by omega] at h1
    have := Et_nonneg h0 (n + 1)
    grind
theorem exLoop_sound {s : Nat} {x : PN} {a b : Rat} (ha : 0 ≤ a) (hb : 0 ≤ b) (hx : Hd ((2 ^ s : Nat) : Rat) x a b) : ∀ (f k : Nat) (sum term : PN), Hd ((2 ^ s : Nat) : Rat) sum (Es k a) (Es k b) → Hd ((2 ^ s : Nat) : Rat) term (Et k a) (Et k b) →
    ∃ j, k ≤ j ∧ (0 < f → ¬ (term.lo = 0 ∧ x.hi = 0) → k + 1 ≤ j) ∧ Hd ((2 ^ s : Nat) : Rat) (exLoop s x f sum term (k + 1)).1 (Es j a) (Es j b) ∧ Hd ((2 ^ s : Nat) : Rat) (exLoop s x f sum term (k + 1)).2 (Et j a) (Et j b)
  | 0, k, sum, term, h1, h2 => ⟨k, Nat.le_refl _, fun h => absurd h (Nat.lt_irrefl 0), h1, h2⟩
  | f + 1, k, sum, term, h1, h2 => by
    unfold exLoop
    have h3 : Hd ((2 ^ s : Nat) : Rat) ((term.times x s).part (k + 1)) (Et (k + 1) a) (Et (k + 1) b) :=
      (h2.times hx (Et_nonneg hb k) hb).part (by omega)
    have h4 : Hd ((2 ^ s : Nat) : Rat) (sum.plus ((term.times x s).part (k + 1))) (Es (k + 1) a) (Es (k + 1) b) := h1.plus h3
    split
    · rename_i hc
      exact ⟨k, Nat.le_refl _, fun _ h => absurd hc h, h1, h2⟩
    · split
      · exact ⟨k + 1, Nat.le_succ _, fun _ _ => Nat.le_refl _, h4, h3⟩
      · obtain ⟨j, h5, -, h6, h7⟩ := exLoop_sound ha hb hx f (k + 1) _ _ h4 h3
        exact ⟨j, by omega, fun _ _ => h5, h6, h7⟩
theorem expN_sound {a b s : Nat} (hb : b ≤ 2 ^ s) :
    (∃ n, ((expN a b s).lo : Rat) ≤ Es n ((a : Rat) / ((2 ^ s : Nat) : Rat)) * ((2 ^ s : Nat) : Rat)) ∧ ∀ n, Es n ((b : Rat) / ((2 ^ s : Nat) : Rat)) * ((2 ^ s : Nat) : Rat) ≤ ((expN a b s).hi : Rat) := by
  have hp1 : 1 ≤ 2 ^ s := Nat.two_pow_pos s
  have hp := npos hp1
  have ha0 := ndiv (natc0 a) (2 ^ s)
  have hb0 := ndiv (natc0 b) (2 ^ s)
  have hb1 : (b : Rat) / ((2 ^ s : Nat) : Rat) ≤ 1 := scale_le hp (by
    rw [Rat.div_mul_cancel (by grind)]
    have := ncast_le hb
    grind)
  have hx : Hd ((2 ^ s : Nat) : Rat) ⟨a, b⟩ ((a : Rat) / ((2 ^ s : Nat) : Rat)) ((b : Rat) / ((2 ^ s : Nat) : Rat)) := by
    unfold Hd
    dsimp only
    rw [Rat.div_mul_cancel (by grind), Rat.div_mul_cancel (by grind)]
    exact ⟨Rat.le_refl, Rat.le_refl⟩
  have h1 : ∀ u v : Rat, Hd ((2 ^ s : Nat) : Rat) ⟨2 ^ s, 2 ^ s⟩ (Es 0 u) (Es 0 v) := fun u v => by
    have e : ∀ u, Es 0 u = 1 := fun _ => rfl
    unfold Hd
    rw [e, e]
    dsimp only
    grind
  obtain ⟨j, -, h3, h4, h5⟩ := exLoop_sound ha0 hb0 hx (s + 2) 0 ⟨2 ^ s, 2 ^ s⟩ ⟨2 ^ s, 2 ^ s⟩ (h1 ((a : Rat) / ((2 ^ s : Nat) : Rat)) ((b : Rat) / ((2 ^ s : Nat) : Rat))) (h1 ((a : Rat) / ((2 ^ s : Nat) : Rat)) ((b : Rat) / ((2 ^ s : Nat) : Rat)))
  have hj := h3 (by omega) (fun h => by have := h.1; dsimp only at this; omega)
  rw [Nat.zero_add] at h4 h5
  unfold expN exR
  generalize exLoop s ⟨a, b⟩ (s + 2) ⟨2 ^ s, 2 ^ s⟩ ⟨2 ^ s, 2 ^ s⟩ 1 = r at *
  refine ⟨⟨j, h4.1⟩, fun n => ?_⟩
  show _ ≤ ((r.1.hi + (r.2.hi + r.2.hi) : Nat) : Rat)
  rw [ncast_add, ncast_add]
  obtain ⟨i, rfl⟩ : ∃ i, j = i + 1 := ⟨j - 1, by omega⟩
  have h6 := Rat.mul_le_mul_of_nonneg_right (Es_all hb0 hb1 i n) (Rat.le_of_lt hp)
  have h7 := h4.2
  have h8 := h5.2
  have h9 := natc0 r.2.hi
  grind
theorem exp_lo {a b s : Nat} (hb : b ≤ 2 ^ s) : XL (((expN a b s).lo : Rat) / ((2 ^ s : Nat) : Rat)) ((a : Rat) / ((2 ^ s : Nat) : Rat)) := by
  have hp := npos (show 1 ≤ 2 ^ s from Nat.two_pow_pos s)
  obtain ⟨⟨n, h⟩, -⟩ := expN_sound (a := a) hb
  exact XL.sum (ndiv (natc0 _) _) n (scale_le hp (by rw [Rat.div_mul_cancel (by grind)]; exact h)) (ndiv (natc0 _) _)
theorem exp_hi {a b s : Nat} (hb : b ≤ 2 ^ s) : XU ((b : Rat) / ((2 ^ s : Nat) : Rat)) (((expN a b s).hi : Rat) / ((2 ^ s : Nat) : Rat)) := by
  have hp := npos (show 1 ≤ 2 ^ s from Nat.two_pow_pos s)
  obtain ⟨-, h⟩ := expN_sound (a := a) hb
  exact XU.sum (ndiv (natc0 _) _) fun n => scale_le hp (by rw [Rat.div_mul_cancel (by grind)]; exact h n)
theorem y_facts {num den : Nat} (hd : 0 < den) (h3 : 3 * num ≤ den) : 0 ≤ (num : Rat) / den ∧ (num : Rat) / den ≤ 1 / 3 := by
  have hD := npos (show 1 ≤ den from hd)
  exact ⟨ndiv (natc0 _) _, scale_le hD (by
    rw [Rat.div_mul_cancel (by grind)]
    have h := ncast_le h3
    rw [ncast_mul] at h
    have : ((3 : Nat) : Rat) = 3 := rfl
    grind)⟩
theorem log_lo {num den s : Nat} (hd : 0 < den) (h3 : 3 * num ≤ den) : XU (2 * ((atanhS num den s).lo : Rat) / ((2 ^ s : Nat) : Rat)) (gR ((num : Rat) / den)) := by
  have hp := npos (show 1 ≤ 2 ^ s from Nat.two_pow_pos s)
  obtain ⟨⟨n, h⟩, -⟩ := atanhS_sound (s := s) hd h3
  obtain ⟨h0, hy⟩ := y_facts hd h3
  have hg := gR_pos h0 hy
  exact (XU.atanh h0 hy n).mono (scale_le hp (by rw [Rat.div_mul_cancel (by grind)]; grind)) Rat.le_refl (by grind)
theorem log_hi {num den s : Nat} (hd : 0 < den) (h3 : 3 * num ≤ den) : XL (gR ((num : Rat) / den)) (2 * ((atanhS num den s).hi : Rat) / ((2 ^ s : Nat) : Rat)) := by
  have hp := npos (show 1 ≤ 2 ^ s from Nat.two_pow_pos s)
  obtain ⟨-, h⟩ := atanhS_sound (s := s) hd h3
  obtain ⟨h0, hy⟩ := y_facts hd h3
  have h1 := XL.atanh h0 hy (v := ((atanhS num den s).hi : Rat) / ((2 ^ s : Nat) : Rat)) fun n => scale_le hp (by rw [Rat.div_mul_cancel (by grind)]; exact h n)
  rwa [show 2 * (((atanhS num den s).hi : Rat) / ((2 ^ s : Nat) : Rat)) = 2 * ((atanhS num den s).hi : Rat) / ((2 ^ s : Nat) : Rat) by grind] at h1
theorem ln2_lo (s : Nat) : XU (((ln2S s).lo : Rat) / ((2 ^ s : Nat) : Rat)) 2 := by
  have h := log_lo (num := 1) (den := 3) (s := s) (by decide) (by decide)
  have e : gR (((1 : Nat) : Rat) / ((3 : Nat) : Rat)) = 2 := by decide +kernel
  rw [e] at h
  have e2 : ((ln2S s).lo : Rat) = 2 * ((atanhS 1 3 s).lo : Rat) := by
    show (((atanhS 1 3 s).lo + (atanhS 1 3 s).lo : Nat) : Rat) = _
    rw [ncast_add]; grind
  rwa [e2]
theorem ln2_hi (s : Nat) : XL 2 (((ln2S s).hi : Rat) / ((2 ^ s : Nat) : Rat)) := by
  have h := log_hi (num := 1) (den := 3) (s := s) (by decide) (by decide)
  have e : gR (((1 : Nat) : Rat) / ((3 : Nat) : Rat)) = 2 := by decide +kernel
  rw [e] at h
  have e2 : ((ln2S s).hi : Rat) = 2 * ((atanhS 1 3 s).hi : Rat) := by
    show (((atanhS 1 3 s).hi + (atanhS 1 3 s).hi : Nat) : Rat) = _
    rw [ncast_add]; grind
  rwa [e2]
end Go.Proofs.YtfkgaldbcngliaaGreatDoor.XX
namespace Go.Proofs.YtfkgaldbcngliaaGreatDoor
attribute [local go_sem] Lay2 Lay3 Lay4 Lay5 Lay6 Lay7 Lay8 Lay9 Lay10 Lay11 Lay12 Lay13 Lay14 Lay15 Lay16 Lay17 Lay18 Lay19 Lay20 Lay21 Lay22 Lay26 Lay27 Lay28 Lay29 Lay31 Lay32 Lay33 Lay34 Lay35 Lay41 Lay42 Lay43 Lay47 Lay48 Lay60 Lay61 Lay62 Lay63 Lay64 Lay72 Lay73 Lay74 Lay83 Lay84 Lay86 Lay90 Lay91 Lay92 Lay93 Lay102 Lay103 Lay139 Lay143 Lay149 Lay158 Lay159 Lay160 Lay161 Lay162 Lay174 Lay175 Lay193 Lay207 Lay208 Lay209 Lay210 Lay228 Lay229 Lay237 Lay238 Lay265 Lay287 Lay295 Lay296 Lay297 Lay299 Lay301 Lay302 Lay303 Lay304 Lay305 Lay307 Lay308 Lay310 Lay311 Lay312 Lay315 Lay316 Lay317 qexec_seq qexec_skip qexec_exit qexec_ret qexec_block qexec_loop qexec_range qexec_cond qexec_region qexec_drawn qops_nil qops_none qops_some put_some put_none pblk_exit pblk_other newDsts_nil inlDsts_nil isInl sget_cons sget_nil qval_some qbool_some qgs_bool qgs_und qfree_some qgrd_true qgrd_false qif_true qif_false qval_ite qval_itn qand_true map_ite map_some' map_none' qdo_move qdo_assign qdo_binOp qdo_pick qdo_unOp qdo_convert qdo_extract qdo_makeInterface qdo_field qdo_fieldAddr qdo_alloc qdo_box qdo_build qdo_buildSlice qdo_load qdo_store qdo_nilCheck qdo_makeFunc qdo_makeSlice qdo_slice qdo_indexAddr qdo_call qcont_val qcont_new qcont_st qcont_app0 qcont_app qcont_inl qcont_call njSV_val njSV_nil njSV_row njSV_ptr njSV_sub binV_val binV_nil binV_nn binV_ptr bin_np bin_nnp nilCmp bin_add bin_sub bin_mul bin_quo bin_rem bin_and bin_or bin_xor bin_andNot bin_eql bin_neq bin_lss bin_leq bin_gtr bin_geq bin_shl bin_shr bin_seql bin_sneq bin_sadd bin_beql bin_aeql bin_aneq eqAnd_some eqCells_nil eqCells_cons fieldTypes isStruct eqCell bin_bneq un_not un_neg nj_ite Nat.beq stepA stepR isNew opSV constSV RV.sv allSome E_mu E_own qkeyIn_none qkeyIn_some qkeyAt_none qkeyAt_some Bool.or_false Bool.false_or Bool.or_true Bool.true_or cst setB res resSV pstart startL killL kill1 eraL frzL svPV rvPV rvInt rvSlice rvBytes frzOf close closeL pconv pbuiltin pmax2 partPV setCells fillPV zrow bound newSV PV.cells Bk.cells Bk.with SV.key pres presL_nil presL_tmp presL_cell presC2_some cellPV_ptr presC List.toList_toArray List.size_toArray List.getElem?_drop Nat.mul_one Int.toNat_natCast Nat.not_lt_zero Nat.lt_irrefl decide_true decide_false Nat.not_lt Option.some.injEq PV.lst.injEq PV.int.injEq PV.bool.injEq PV.tuple.injEq List.cons.injEq Option.map_some Option.map_none Option.bind_some Option.toList List.map_cons List.map_nil List.nil_append List.cons_append List.append_nil List.zip_cons_cons List.zip_nil_left List.zip_nil_right List.getElem?_cons_zero List.getElem?_cons_succ List.drop_zero List.drop_succ_cons List.take_succ_cons List.take_zero List.set_cons_zero List.set_cons_succ List.length_cons List.length_nil List.length_set List.replicate_one List.replicate_zero bne_self_eq_false beq_self_eq_true Nat.zero_add Nat.add_zero Nat.zero_mul Bool.false_eq_true Bool.true_eq_false Bool.not_true Bool.not_false and_true true_and false_and and_false or_false false_or or_true true_or not_true_eq_false not_false_eq_true ne_eq gt_iff_lt List.mem_cons List.not_mem_nil
attribute [local go_sem ↓] pseq_normal pseq_ret pseq_exit pblk_normal pblk_ret newDsts_cons inlDsts_cons gdst_zero gdst_succ retQ_normal retQ_ret qneed_nil qneed_cons retM_normal retM_ret endR_normal endR_ret endR_exit
attribute [local go_sem] Int.reduceToNat Int.reduceEq Int.reduceNe Int.reduceLT Int.reduceLE Int.reduceNeg Int.reduceAdd Nat.reduceEqDiff Nat.reduceAdd Nat.reduceSub Nat.reduceMul Nat.reduceLeDiff Nat.reduceLT
attribute [local go_sem ↓] reduceIte reduceCtorEq
section
section
open Go PG Go.Proofs
def RI (p : PV) (i : Iv) : Prop := ∃ (s1 : Bool) (P1 : PV) (e1 : Int) (s2 : Bool) (P2 : PV) (e2 : Int), p = .agg [.bool s1, P1, .int .i64 e1, .bool s2, P2, .int .i64 e2] ∧ RD (DP s1 P1 e1) i.lo ∧ RD (DP s2 P2 e2) i.hi
def Iv.pv (i : Iv) : PV := .agg [.bool i.lo.s, NN i.lo.m, .int .i64 i.lo.e, .bool i.hi.s, NN i.hi.m, .int .i64 i.hi.e]
def Iv.zero : Iv := ⟨.zero, .zero⟩
theorem RI.of {i : Iv} (h1 : RD i.lo.pv i.lo) (h2 : RD i.hi.pv i.hi) : RI i.pv i := ⟨_, _, _, _, _, _, rfl, h1, h2⟩
theorem RI.okI {p : PV} {i : Iv} (h : RI p i) : i.okI := by obtain ⟨_, _, _, _, _, _, _, h1, h2⟩ := h; exact ⟨h1.ok, h2.ok⟩
def Iv.lim (K : Nat) (i : Iv) : Prop := Lim K i.lo ∧ Lim K i.hi
theorem Iv.lim.RI {K : Nat} {i : Iv} (h : i.lim K) (hK : K ≤ 500000) : RI i.pv i := RI.of (h.1.RD hK) (h.2.RD hK)
theorem Iv.lim.mono {K J : Nat} {i : Iv} (h : i.lim K) (hK : K ≤ J) : i.lim J := ⟨h.1.mono hK, h.2.mono hK⟩
theorem Iv.lim.mul {K J : Nat} {i k : Iv} (h1 : i.lim K) (h2 : k.lim J) : (mulI i k).lim (K + J) :=
  mulI_P (P := Lim (K + J)) (h1.1.mul h2.1) (h1.1.mul h2.2) (h1.2.mul h2.1) (h1.2.mul h2.2)
theorem Iv.lim.add {K : Nat} {i k : Iv} (h1 : i.lim K) (h2 : k.lim K) (hK : K ≤ 1000000) : (addI i k).lim (K + 1) := ⟨h1.1.add h2.1 hK, h1.2.add h2.2 hK⟩
theorem Iv.lim.ge {K : Nat} {i : Iv} (h : i.lim K) : i.ge (-(K : Int)) := ⟨h.1.ge, h.2.ge⟩
theorem Iv.lim.okI {K : Nat} {i : Iv} (h : i.lim K) : i.okI := ⟨h.1.ok, h.2.ok⟩
theorem Iv.lim.right {K : Nat} {i : Iv} (h : i.lim K) (hK : K ≤ 1000000) : i.right ↔ cmpD i.lo i.hi ≤ 0 := ⟨fun h => h.2.2, fun hc => ⟨h.1.fits hK, h.2.fits hK, hc⟩⟩
theorem q_can {p : PV} {d : Dy} (h : RD p d) : PC E 160 [p] (.bool (decide d.fits)) := by
  have k1 := r_Bare h
  obtain ⟨s, P, x, e, rfl, -⟩ := h
  refine PC.of_body follows Tryz.func160 (by decide +kernel) rfl (by kernel_rfl) (Nat.le_of_ble_eq_true rfl) (walk ?_)
  unfold okD at k1
  by_cases hf : d.fits
  · rw [if_pos hf] at k1
    rw [decide_eq_true hf]
    simp only [Dy.pv, DP, NN, NL] at k1 ⊢
    simp only [Tryz.f160, go_sem]
    refine qcall_i (k1) ?_; simp only [Tryz.f160, go_sem]
  · rw [if_neg hf] at k1
    rw [decide_eq_false hf]
    simp only [Dy.pv, Dy.zero, DP, NN, NL] at k1 ⊢
    simp only [Tryz.f160, go_sem]
    refine qcall_i (k1) ?_; simp only [Tryz.f160, go_sem]
theorem q_Right {p : PV} {i : Iv} (h : RI p i) : PC E 100 [p] (.bool (decide i.right)) := by
  obtain ⟨s1, P1, e1, s2, P2, e2, rfl, h1, h2⟩ := h
  have k1 := q_can h1
  have k2 := q_can h2
  have k3 := r_Cmp h1 h2
  refine PC.of_body follows Tryz.func100 (by decide +kernel) rfl (by kernel_rfl) (Nat.le_of_ble_eq_true rfl) (walk ?_)
  simp only [DP] at k1 k2 k3
  by_cases f1 : i.lo.fits
  case neg =>
    rw [decide_eq_false f1] at k1
    rw [decide_eq_false (fun h => f1 h.1)]
    simp only [Tryz.f100, go_sem]
    refine qcall_i (k1) ?_; simp only [Tryz.f100, go_sem]
  by_cases f2 : i.hi.fits
  case neg =>
    rw [decide_eq_true f1] at k1
    rw [decide_eq_false f2] at k2
    rw [decide_eq_false (fun h => f2 h.2.1)]
    simp only [Tryz.f100, go_sem]
    refine qcall_i (k1) ?_; simp only [Tryz.f100, go_sem]
    refine qcall_i (k2) ?_; simp only [Tryz.f100, go_sem]
  rw [decide_eq_true f1] at k1
  rw [decide_eq_true f2] at k2
  have e : decide i.right = decide (cmpD i.lo i.hi ≤ 0) := decide_eq_decide.2 ⟨fun h => h.2.2, fun h => ⟨f1, f2, h⟩⟩
  rw [e]
  simp only [Tryz.f100, go_sem]
  refine qcall_i (k1) ?_; simp only [Tryz.f100, go_sem]
  refine qcall_i (k2) ?_; simp only [Tryz.f100, go_sem]
  refine qcall_i (k3) ?_; simp only [Tryz.f100, go_sem]
theorem q_At {s : Bool} {P : PV} {e : Int} : PC E 248 [.agg [.bool s, P, .int .i64 e]] (.agg [.bool s, P, .int .i64 e, .bool s, P, .int .i64 e]) := by
  refine PC.of_body follows Tryz.func248 (by decide +kernel) rfl (by kernel_rfl) (Nat.le_of_ble_eq_true rfl) (walk ?_)
  simp only [Tryz.f248, go_sem]
def ivV (c : Prop) [Decidable c] (i : Iv) : PV := if c then .tuple [i.pv, .int .i64 0] else .tuple [Iv.zero.pv, .int .i64 1]
def pre4 (f : Dy → Dy → Dy) (p q r s : Dy) : Nat → Dy
  | 0 => p
  | 1 => p
  | 2 => f p q
  | 3 => f (f p q) r
  | _ => f (f (f p q) r) s
def cl4 (p q r s : Dy) : PV := .lst 4 [.bool p.s, NN p.m, .int .i64 p.e, .bool q.s, NN q.m, .int .i64 q.e, .bool r.s, NN r.m, .int .i64 r.e, .bool s.s, NN s.m, .int .i64 s.e]
theorem q_MinFunc {p q r s : Dy} (hp : RD p.pv p) (hq : RD q.pv q) (hr : RD r.pv r) (hs : RD s.pv s) : PC E 250 [cl4 p q r s, .clo 101 []] (min4 p q r s).pv := by
  refine PC.of_body follows Tryz.func250 (by decide +kernel) rfl (by kernel_rfl) (Nat.le_of_ble_eq_true rfl) (walk ?_)
  have h2 : RD (minD p q).pv (minD p q) := minD_P (P := fun d => RD d.pv d) hp hq
  have h3 : RD (minD (minD p q) r).pv (minD (minD p q) r) := minD_P (P := fun d => RD d.pv d) h2 hr
  have k1 := r_Cmp hq hp
  have k2 := r_Cmp hr h2
  have k3 := r_Cmp hs h3
  have d1 : minD p q = if cmpD q p < 0 then q else p := rfl
  have d2 : minD (minD p q) r = if cmpD r (minD p q) < 0 then r else (minD p q) := rfl
  have d3 : minD (minD (minD p q) r) s = if cmpD s (minD (minD p q) r) < 0 then s else (minD (minD p q) r) := rfl
  have v1 : IntKind.wrap .i64 2 = 2 := by decide
  have v2 : IntKind.wrap .i64 3 = 3 := by decide
  have v3 : IntKind.wrap .i64 4 = 4 := by decide
  unfold cl4 min4
  simp only [Dy.pv, DP] at k1 k2 k3 ⊢
  simp only [Tryz.f250, Int.cast_ofNat_Int, go_sem]
  refine PLoop.intro (fun i : Nat => ⟨[(0, .val (.lst 4 [.bool p.s, NN p.m, .int .i64 p.e, .bool q.s, NN q.m, .int .i64 q.e, .bool r.s, NN r.m, .int .i64 r.e, .bool s.s, NN s.m, .int .i64 s.e])), (1, .val (.clo 101 [])), (4, .ptr 4 0), (5, .ptr 5 0), (6, .val (.int .i64 i))],
    [(4, (.box [.bool false, .lst 0 [], .int .i64 0], false)), (5, (.box [.bool (pre4 minD p q r s i).s, NN (pre4 minD p q r s i).m, .int .i64 (pre4 minD p q r s i).e], false))]⟩) (fun i => 1 ≤ i ∧ i ≤ 4) (fun i => 4 - i) 1 (by decide) ?_ fun i hi => walk ?_
  · simp [Wk, sget, killL, kill1, SV.key, pre4]
  obtain ⟨hi1, hi2⟩ := hi
  rcases i with _ | _ | _ | _ | _ | i
  · omega
  · simp only [pre4]
    simp only [Tryz.f250, Int.cast_ofNat_Int, v1, v2, v3, go_sem]
    refine qcall_i (k1) ?_; simp only [Tryz.f250, Int.cast_ofNat_Int, v1, v2, v3, go_sem]
    refine qif_d (fun h => ?_) (fun h => ?_)
    · simp only [Tryz.f250, Int.cast_ofNat_Int, v1, v2, v3, go_sem]
      refine ⟨2, by omega, by omega, ?_⟩
      simp only [pre4]
      rw [d1, if_pos h]
      simp [Wk, sget, killL, kill1, SV.key, setCells]
    · simp only [Tryz.f250, Int.cast_ofNat_Int, v1, v2, v3, go_sem]
      refine ⟨2, by omega, by omega, ?_⟩
      simp only [pre4]
      rw [d1, if_neg h]
      simp [Wk, sget, killL, kill1, SV.key]
  · simp only [pre4]
    simp only [Tryz.f250, Int.cast_ofNat_Int, v1, v2, v3, go_sem]
    refine qcall_i (k2) ?_; simp only [Tryz.f250, Int.cast_ofNat_Int, v1, v2, v3, go_sem]
    refine qif_d (fun h => ?_) (fun h => ?_)
    · simp only [Tryz.f250, Int.cast_ofNat_Int, v1, v2, v3, go_sem]
      refine ⟨3, by omega, by omega, ?_⟩
      simp only [pre4]
      rw [d2, if_pos h]
      simp [Wk, sget, killL, kill1, SV.key, setCells]
    · simp only [Tryz.f250, Int.cast_ofNat_Int, v1, v2, v3, go_sem]
      refine ⟨3, by omega, by omega, ?_⟩
      simp only [pre4]
      rw [d2, if_neg h]
      simp [Wk, sget, killL, kill1, SV.key]
  · simp only [pre4]
    simp only [Tryz.f250, Int.cast_ofNat_Int, v1, v2, v3, go_sem]
    refine qcall_i (k3) ?_; simp only [Tryz.f250, Int.cast_ofNat_Int, v1, v2, v3, go_sem]
    refine qif_d (fun h => ?_) (fun h => ?_)
    · simp only [Tryz.f250, Int.cast_ofNat_Int, v1, v2, v3, go_sem]
      refine ⟨4, by omega, by omega, ?_⟩
      simp only [pre4]
      rw [d3, if_pos h]
      simp [Wk, sget, killL, kill1, SV.key, setCells]
    · simp only [Tryz.f250, Int.cast_ofNat_Int, v1, v2, v3, go_sem]
      refine ⟨4, by omega, by omega, ?_⟩
      simp only [pre4]
      rw [d3, if_neg h]
      simp [Wk, sget, killL, kill1, SV.key]
  · simp only [pre4]
    simp only [Tryz.f250, Int.cast_ofNat_Int, go_sem]
    try rfl
  · omega
theorem q_MaxFunc {p q r s : Dy} (hp : RD p.pv p) (hq : RD q.pv q) (hr : RD r.pv r) (hs : RD s.pv s) : PC E 251 [cl4 p q r s, .clo 101 []] (max4 p q r s).pv := by
  refine PC.of_body follows Tryz.func251 (by decide +kernel) rfl (by kernel_rfl) (Nat.le_of_ble_eq_true rfl) (walk ?_)
  have h2 : RD (maxD p q).pv (maxD p q) := maxD_P (P := fun d => RD d.pv d) hp hq
  have h3 : RD (maxD (maxD p q) r).pv (maxD (maxD p q) r) := maxD_P (P := fun d => RD d.pv d) h2 hr
  have k1 := r_Cmp hq hp
  have k2 := r_Cmp hr h2
  have k3 := r_Cmp hs h3
  have d1 : maxD p q = if 0 < cmpD q p then q else p := rfl
  have d2 : maxD (maxD p q) r = if 0 < cmpD r (maxD p q) then r else (maxD p q) := rfl
  have d3 : maxD (maxD (maxD p q) r) s = if 0 < cmpD s (maxD (maxD p q) r) then s else (maxD (maxD p q) r) := rfl
  have v1 : IntKind.wrap .i64 2 = 2 := by decide
  have v2 : IntKind.wrap .i64 3 = 3 := by decide
  have v3 : IntKind.wrap .i64 4 = 4 := by decide
  unfold cl4 max4
  simp only [Dy.pv, DP] at k1 k2 k3 ⊢
  simp only [Tryz.f251, Int.cast_ofNat_Int, go_sem]
  refine PLoop.intro (fun i : Nat => ⟨[(0, .val (.lst 4 [.bool p.s, NN p.m, .int .i64 p.e, .bool q.s, NN q.m, .int .i64 q.e, .bool r.s, NN r.m, .int .i64 r.e, .bool s.s, NN s.m, .int .i64 s.e])), (1, .val (.clo 101 [])), (4, .ptr 4 0), (5, .ptr 5 0), (6, .val (.int .i64 i))],
    [(4, (.box [.bool false, .lst 0 [], .int .i64 0], false)), (5, (.box [.bool (pre4 maxD p q r s i).s, NN (pre4 maxD p q r s i).m, .int .i64 (pre4 maxD p q r s i).e], false))]⟩) (fun i => 1 ≤ i ∧ i ≤ 4) (fun i => 4 - i) 1 (by decide) ?_ fun i hi => walk ?_
  · simp [Wk, sget, killL, kill1, SV.key, pre4]
  obtain ⟨hi1, hi2⟩ := hi
  rcases i with _ | _ | _ | _ | _ | i
  · omega
  · simp only [pre4]
    simp only [Tryz.f251, Int.cast_ofNat_Int, v1, v2, v3, go_sem]
    refine qcall_i (k1) ?_; simp only [Tryz.f251, Int.cast_ofNat_Int, v1, v2, v3, go_sem]
    refine qif_d (fun h => ?_) (fun h => ?_)
    · simp only [Tryz.f251, Int.cast_ofNat_Int, v1, v2, v3, go_sem]
      refine ⟨2, by omega, by omega, ?_⟩
      simp only [pre4]
      rw [d1, if_pos h]
      simp [Wk, sget, killL, kill1, SV.key, setCells]
    · simp only [Tryz.f251, Int.cast_ofNat_Int, v1, v2, v3, go_sem]
      refine ⟨2, by omega, by omega, ?_⟩
      simp only [pre4]
      rw [d1, if_neg h]
      simp [Wk, sget, killL, kill1, SV.key]
  · simp only [pre4]
    simp only [Tryz.f251, Int.cast_ofNat_Int, v1, v2, v3, go_sem]
    refine qcall_i (k2) ?_; simp only [Tryz.f251, Int.cast_ofNat_Int, v1, v2, v3, go_sem]
    refine qif_d (fun h => ?_) (fun h => ?_)
    · simp only [Tryz.f251, Int.cast_ofNat_Int, v1, v2, v3, go_sem]
      refine ⟨3, by omega, by omega, ?_⟩
      simp only [pre4]
      rw [d2, if_pos h]
      simp [Wk, sget, killL, kill1, SV.key, setCells]
    · simp only [Tryz.f251, Int.cast_ofNat_Int, v1, v2, v3, go_sem]
      refine ⟨3, by omega, by omega, ?_⟩
      simp only [pre4]
      rw [d2, if_neg h]
      simp [Wk, sget, killL, kill1, SV.key]
  · simp only [pre4]
    simp only [Tryz.f251, Int.cast_ofNat_Int, v1, v2, v3, go_sem]
    refine qcall_i (k3) ?_; simp only [Tryz.f251, Int.cast_ofNat_Int, v1, v2, v3, go_sem]
    refine qif_d (fun h => ?_) (fun h => ?_)
    · simp only [Tryz.f251, Int.cast_ofNat_Int, v1, v2, v3, go_sem]
      refine ⟨4, by omega, by omega, ?_⟩
      simp only [pre4]
      rw [d3, if_pos h]
      simp [Wk, sget, killL, kill1, SV.key, setCells]
    · simp only [Tryz.f251, Int.cast_ofNat_Int, v1, v2, v3, go_sem]
      refine ⟨4, by omega, by omega, ?_⟩
      simp only [pre4]
      rw [d3, if_neg h]
      simp [Wk, sget, killL, kill1, SV.key]
  · simp only [pre4]
    simp only [Tryz.f251, Int.cast_ofNat_Int, go_sem]
    try rfl
  · omega
theorem q_Mul {p q : PV} {i k : Iv} {K J : Nat} (h : RI p i) (hk : RI q k) (hl : i.lim K) (hl' : k.lim J) (hK : K + J ≤ 32767) : PC E 247 [p, q] (ivV (i.right ∧ k.right) (mulI i k)) := by
  have k1 := q_Right h
  have k2 := q_Right hk
  obtain ⟨s1, P1, e1, s2, P2, e2, rfl, h1, h2⟩ := h
  obtain ⟨t1, Q1, g1, t2, Q2, g2, rfl, h3, h4⟩ := hk
  refine PC.of_body follows Tryz.func247 (by decide +kernel) rfl (by kernel_rfl) (Nat.le_of_ble_eq_true rfl) (walk ?_)
  unfold ivV
  by_cases f1 : i.right
  case neg =>
    rw [decide_eq_false f1] at k1
    rw [if_neg (fun h => f1 h.1)]
    simp only [Tryz.f247, go_sem]
    refine qcall_i (k1) ?_; simp only [Tryz.f247, go_sem]
    try rfl
  rw [decide_eq_true f1] at k1
  by_cases f2 : k.right
  case neg =>
    rw [decide_eq_false f2] at k2
    rw [if_neg (fun h => f2 h.2)]
    simp only [Tryz.f247, go_sem]
    refine qcall_i (k1) ?_; simp only [Tryz.f247, go_sem]
    refine qcall_i (k2) ?_; simp only [Tryz.f247, go_sem]
    try rfl
  rw [decide_eq_true f2] at k2
  rw [if_pos ⟨f1, f2⟩]
  have k3 := r_Mul h1 h3
  have k4 := r_Mul h1 h4
  have k5 := r_Mul h2 h3
  have k6 := r_Mul h2 h4
  rw [mulV_lim hl.1 hl'.1 hK] at k3
  rw [mulV_lim hl.1 hl'.2 hK] at k4
  rw [mulV_lim hl.2 hl'.1 hK] at k5
  rw [mulV_lim hl.2 hl'.2 hK] at k6
  have L3 := (hl.1.mul hl'.1).RD (by omega)
  have L4 := (hl.1.mul hl'.2).RD (by omega)
  have L5 := (hl.2.mul hl'.1).RD (by omega)
  have L6 := (hl.2.mul hl'.2).RD (by omega)
  have k7 := q_MinFunc L3 L4 L5 L6
  have k8 := q_MaxFunc L3 L4 L5 L6
  unfold mulI
  generalize mulS i.lo k.lo = m1 at *
  generalize mulS i.lo k.hi = m2 at *
  generalize mulS i.hi k.lo = m3 at *
  generalize mulS i.hi k.hi = m4 at *
  generalize min4 m1 m2 m3 m4 = mn at *
  generalize max4 m1 m2 m3 m4 = mx at *
  have v1 : IntKind.wrap .i64 1 = 1 := by decide
  have v2 : IntKind.wrap .i64 2 = 2 := by decide
  unfold cl4 at k7 k8
  simp only [Dy.pv, DP] at k3 k4 k5 k6 k7 k8
  simp only [Tryz.f247, go_sem]
  refine qcall_i (k1) ?_; simp only [Tryz.f247, go_sem]
  refine qcall_i (k2) ?_; simp only [Tryz.f247, List.range_zero, List.getD_cons_zero, List.getD_cons_succ, Nat.reduceMod, Int.cast_ofNat_Int, go_sem]
  refine qloop_u 3 ?_
  simp only [Tryz.f247, qunr_succ, Int.cast_ofNat_Int, List.range_zero, List.getD_cons_zero, List.getD_cons_succ, Nat.reduceMod, List.filter_cons, List.filter_nil, v1, v2, go_sem]
  refine qloop_u 3 ?_
  simp only [Tryz.f247, qunr_succ, Int.cast_ofNat_Int, List.range_zero, List.getD_cons_zero, List.getD_cons_succ, Nat.reduceMod, List.filter_cons, List.filter_nil, v1, v2, go_sem]
  refine qcall_i (k3) ?_; simp only [Tryz.f247, qunr_succ, Int.cast_ofNat_Int, List.range_zero, List.getD_cons_zero, List.getD_cons_succ, Nat.reduceMod, List.filter_cons, List.filter_nil, v1, v2, go_sem]
  refine qand_i (by simp [maxLen]) ?_
  simp only [Tryz.f247, qunr_succ, Int.cast_ofNat_Int, List.range_zero, List.getD_cons_zero, List.getD_cons_succ, Nat.reduceMod, List.filter_cons, List.filter_nil, v1, v2, go_sem]
  refine qcall_i (k4) ?_; simp only [Tryz.f247, qunr_succ, Int.cast_ofNat_Int, List.range_zero, List.getD_cons_zero, List.getD_cons_succ, Nat.reduceMod, List.filter_cons, List.filter_nil, v1, v2, go_sem]
  refine qand_i (by simp [maxLen]) ?_
  simp only [Tryz.f247, qunr_succ, Int.cast_ofNat_Int, List.range_zero, List.getD_cons_zero, List.getD_cons_succ, Nat.reduceMod, List.filter_cons, List.filter_nil, v1, v2, go_sem]
  refine qloop_u 3 ?_
  simp only [Tryz.f247, qunr_succ, Int.cast_ofNat_Int, List.range_zero, List.getD_cons_zero, List.getD_cons_succ, Nat.reduceMod, List.filter_cons, List.filter_nil, v1, v2, go_sem]
  refine qcall_i (k5) ?_; simp only [Tryz.f247, qunr_succ, Int.cast_ofNat_Int, List.range_zero, List.getD_cons_zero, List.getD_cons_succ, Nat.reduceMod, List.filter_cons, List.filter_nil, v1, v2, go_sem]
  refine qand_i (by simp [maxLen]) ?_
  simp only [Tryz.f247, qunr_succ, Int.cast_ofNat_Int, List.range_zero, List.getD_cons_zero, List.getD_cons_succ, Nat.reduceMod, List.filter_cons, List.filter_nil, v1, v2, go_sem]
  refine qcall_i (k6) ?_; simp only [Tryz.f247, qunr_succ, Int.cast_ofNat_Int, List.range_zero, List.getD_cons_zero, List.getD_cons_succ, Nat.reduceMod, List.filter_cons, List.filter_nil, v1, v2, go_sem]
  refine qand_i (by simp [maxLen]) ?_
  simp only [Tryz.f247, qunr_succ, Int.cast_ofNat_Int, List.range_zero, List.getD_cons_zero, List.getD_cons_succ, Nat.reduceMod, List.filter_cons, List.filter_nil, v1, v2, go_sem]
  refine qcall_i (k7) ?_; simp only [Tryz.f247, go_sem]
  refine qcall_i (k8) ?_; simp only [Tryz.f247, go_sem]
  try rfl
theorem q_Times {p q : PV} {i : Iv} {d : Dy} {K J : Nat} (h : RI p i) (hd : RD q d) (hl : i.lim K) (hl' : Lim J d) (hK : K + J ≤ 32767) : PC E 235 [p, q] (ivV i.right (mulI i ⟨d, d⟩)) := by
  have hd' := hd
  have h' := h
  obtain ⟨s1, P1, e1, s2, P2, e2, rfl, h1, h2⟩ := h'
  obtain ⟨s, P, x, e, rfl, -⟩ := hd'
  have hk : RI (.agg [.bool s, P, .int .i64 e, .bool s, P, .int .i64 e]) ⟨d, d⟩ := ⟨s, P, e, s, P, e, rfl, hd, hd⟩
  have k1 := q_At (s := s) (P := P) (e := e)
  have k2 := q_Mul h hk hl ⟨hl', hl'⟩ hK
  have hr : Iv.right ⟨d, d⟩ := ⟨hl'.fits (by omega), hl'.fits (by omega), by rw [cmp_self]; decide⟩
  refine PC.of_body follows Tryz.func235 (by decide +kernel) rfl (by kernel_rfl) (Nat.le_of_ble_eq_true rfl) (walk ?_)
  unfold ivV at k2 ⊢
  simp only [DP] at k1 k2 ⊢
  by_cases f : i.right
  · rw [if_pos ⟨f, hr⟩] at k2
    rw [if_pos f]
    simp only [Iv.pv] at k2
    simp only [Tryz.f235, go_sem]
    refine qcall_i (k1) ?_; simp only [Tryz.f235, go_sem]
    refine qcall_i (k2) ?_; simp only [Tryz.f235, go_sem]
    try rfl
  · rw [if_neg (fun h => f h.1)] at k2
    rw [if_neg f]
    simp only [Iv.pv] at k2
    simp only [Tryz.f235, go_sem]
    refine qcall_i (k1) ?_; simp only [Tryz.f235, go_sem]
    refine qcall_i (k2) ?_; simp only [Tryz.f235, go_sem]
    try rfl
end
section
open Go PG Go.Proofs
open XX
theorem cD_bits {a n b : Nat} (hn : 0 < n) (h : bitLen a ≤ b) : bitLen (cD a n) ≤ b + 1 := by
  rw [bitLen_le] at *
  have h1 := Nat.div_le_self a n
  rw [Nat.pow_succ]
  have h2 := Nat.two_pow_pos b
  unfold cD
  generalize a / n = q at *
  split <;> omega
theorem div_bits {a n b : Nat} (h : bitLen a ≤ b) : bitLen (a / n) ≤ b := Nat.le_trans (bitLen_mono (Nat.div_le_self a n)) h
theorem NN0 : NN 0 = .lst 0 [] := rfl
theorem k_mul {p q : PV} {x y : Nat} (h : Num p x) (h' : Num q y) (hb : bitLen x + bitLen y ≤ 65536) : PC E 176 [p, q] (.tuple [NN (x * y), .int .i64 0]) := by
  have h1 := k_prodMul h h' (by omega) (by omega)
  unfold pmV at h1
  by_cases h0 : x = 0 ∨ y = 0
  · rw [if_pos h0] at h1
    rw [show x * y = 0 by rcases h0 with h | h <;> rw [h] <;> simp, NN0]
    exact h1
  · rwa [if_neg h0, if_pos hb] at h1
theorem k_small {x n : Nat} (hb : bitLen x ≤ 900000) (hn : n < W) (h0 : n ≠ 0) : PC E 222 [NN x, u n] (.tuple [NN (x / n), u (x % n), .int .i64 0]) := by
  have h := d_Small (l := dg W x) (ok_dg W2 x) (by have := w_of_bits (x := x) (n := 15625) (by omega); omega) hn h0
  rwa [show vl (dg W x) = x from dv_dg W2 x] at h
theorem u_one : PC E 180 [.int .u64 1] (NN 1) := c_Of 1 (by decide)
theorem u_three : PC E 180 [.int .u64 3] (NN 3) := c_Of 3 (by decide)
theorem s_upShift {x : Nat} (hb : bitLen x ≤ 900000) (s : Nat) : PC E 226 [NN x, .int .i64 s] (NN (cD x (2 ^ s))) := by
  have k1 := k_Shrn (num_bits (x := x) (by omega)) s
  have k3 := k_Add (num_bits (x := x / 2 ^ s) (by have := div_bits (n := 2 ^ s) hb; omega)) (num_bits (x := 1) (by decide))
  have k2 := u_one
  unfold cD
  by_cases h : x % 2 ^ s = 0
  · rw [if_pos h, Nat.add_zero]
    rw [decide_eq_false (fun h' => h' h)] at k1
    simp only [NN, NL] at *
    refine PC.of_body follows Tryz.func226 (by decide +kernel) rfl (by kernel_rfl) (Nat.le_of_ble_eq_true rfl) (walk ?_)
    simp only [Tryz.f226, go_sem]
    refine qcall_i (k1) ?_; simp only [Tryz.f226, go_sem]
    try rfl
  · rw [if_neg h]
    rw [decide_eq_true h] at k1
    simp only [NN, NL] at *
    refine PC.of_body follows Tryz.func226 (by decide +kernel) rfl (by kernel_rfl) (Nat.le_of_ble_eq_true rfl) (walk ?_)
    simp only [Tryz.f226, go_sem]
    refine qcall_i (k1) ?_; simp only [Tryz.f226, go_sem]
    refine qcall_i (k2) ?_; simp only [Tryz.f226, go_sem]
    refine qcall_i (k3) ?_; simp only [Tryz.f226, go_sem]
    try rfl
def pnv (p : PN) : PV := .agg [NN p.lo, NN p.hi]
def PLe (p : PN) (n : Nat) : Prop := bitLen p.lo ≤ n ∧ bitLen p.hi ≤ n
theorem s_scale (s : Int) : PC E 182 [.int .i64 s] (.bool (decide (8 ≤ s) && decide (s ≤ 9000))) := by
  refine PC.of_body follows Tryz.func182 (by decide +kernel) rfl (by kernel_rfl) (Nat.le_of_ble_eq_true rfl) (walk ?_)
  simp only [Tryz.f182, go_sem]
  refine qif_d (fun h => ?_) (fun h => ?_)
  · rw [decide_eq_true (show 8 ≤ s from h)]
    simp only [Tryz.f182, go_sem]
    try rfl
  · rw [decide_eq_false (show ¬ 8 ≤ s from h)]
    simp only [Tryz.f182, go_sem]
    try rfl
theorem p_times {p q : PN} {n : Nat} (hp : PLe p n) (hq : PLe q n) (hn : n ≤ 30000) (s : Nat) : PC E 183 [pnv p, pnv q, .int .i64 s] (pnv (p.times q s)) := by
  have b1 := bitLen_mul_le p.lo q.lo
  have b2 := bitLen_mul_le p.hi q.hi
  obtain ⟨h1, h2⟩ := hp
  obtain ⟨h3, h4⟩ := hq
  have k1 := k_mul (num_bits (x := p.lo) (by omega)) (num_bits (x := q.lo) (by omega)) (by omega)
  have k2 := k_mul (num_bits (x := p.hi) (by omega)) (num_bits (x := q.hi) (by omega)) (by omega)
  have k3 := k_Shrn (num_bits (x := p.lo * q.lo) (by omega)) s
  have k4 := s_upShift (x := p.hi * q.hi) (by omega) s
  unfold pnv PN.times
  dsimp only
  simp only [NN, NL] at *
  refine PC.of_body follows Tryz.func183 (by decide +kernel) rfl (by kernel_rfl) (Nat.le_of_ble_eq_true rfl) (walk ?_)
  simp only [Tryz.f183, go_sem]
  refine qcall_i (k1) ?_; simp only [Tryz.f183, go_sem]
  refine qcall_i (k2) ?_; simp only [Tryz.f183, go_sem]
  refine qcall_i (k3) ?_; simp only [Tryz.f183, go_sem]
  refine qcall_i (k4) ?_; simp only [Tryz.f183, go_sem]
  try rfl
theorem p_by {p : PN} {b n : Nat} (hp : PLe p b) (hb : b ≤ 100000) (hn : n < W) (h0 : n ≠ 0) : PC E 184 [pnv p, .int .u64 n] (pnv (p.part n)) := by
  obtain ⟨h1, h2⟩ := hp
  have k1 := k_small (x := p.lo) (by omega) hn h0
  have k2 := k_small (x := p.hi) (by omega) hn h0
  have k3 := u_one
  have k4 := k_Add (num_bits (x := p.hi / n) (by have := div_bits (n := n) h2; omega)) (num_bits (x := 1) (by decide))
  simp only [u] at k1 k2
  unfold pnv PN.part cD
  dsimp only
  generalize p.lo % n = r1 at *
  by_cases h : p.hi % n = 0
  · rw [if_pos h, Nat.add_zero]
    rw [h] at k2
    simp only [NN, NL] at *
    refine PC.of_body follows Tryz.func184 (by decide +kernel) rfl (by kernel_rfl) (Nat.le_of_ble_eq_true rfl) (walk ?_)
    simp only [Tryz.f184, go_sem]
    refine qcall_i (k1) ?_; simp only [Tryz.f184, go_sem]
    refine qcall_i (k2) ?_; simp only [Tryz.f184, go_sem]
    refine qif_df (by decide) ?_
    simp only [Tryz.f184, go_sem]
    try rfl
  · rw [if_neg h]
    have hr : ((p.hi % n : Nat) : Int) > 0 := by omega
    simp only [NN, NL] at *
    refine PC.of_body follows Tryz.func184 (by decide +kernel) rfl (by kernel_rfl) (Nat.le_of_ble_eq_true rfl) (walk ?_)
    simp only [Tryz.f184, go_sem]
    refine qcall_i (k1) ?_; simp only [Tryz.f184, go_sem]
    refine qcall_i (k2) ?_; simp only [Tryz.f184, go_sem]
    refine qif_dt hr ?_
    simp only [Tryz.f184, go_sem]
    refine qcall_i (k3) ?_; simp only [Tryz.f184, go_sem]
    refine qcall_i (k4) ?_; simp only [Tryz.f184, go_sem]
    try rfl
theorem p_plus {p q : PN} {n : Nat} (hp : PLe p n) (hq : PLe q n) (hn : n ≤ 100000) : PC E 185 [pnv p, pnv q] (pnv (p.plus q)) := by
  obtain ⟨h1, h2⟩ := hp
  obtain ⟨h3, h4⟩ := hq
  have k1 := k_Add (num_bits (x := p.lo) (by omega)) (num_bits (x := q.lo) (by omega))
  have k2 := k_Add (num_bits (x := p.hi) (by omega)) (num_bits (x := q.hi) (by omega))
  unfold pnv PN.plus
  dsimp only
  simp only [NN, NL] at *
  refine PC.of_body follows Tryz.func185 (by decide +kernel) rfl (by kernel_rfl) (Nat.le_of_ble_eq_true rfl) (walk ?_)
  simp only [Tryz.f185, go_sem]
  refine qcall_i (k1) ?_; simp only [Tryz.f185, go_sem]
  refine qcall_i (k2) ?_; simp only [Tryz.f185, go_sem]
  try rfl
theorem p_rest {p q : PN} {n : Nat} (hp : PLe p n) (hq : PLe q n) (hn : n ≤ 100000) : PC E 186 [pnv p, pnv q] (pnv (p.rest q)) := by
  obtain ⟨h1, h2⟩ := hp
  obtain ⟨h3, h4⟩ := hq
  have k1 := k_Add (num_bits (x := q.hi) (by omega)) (num_bits (x := q.hi) (by omega))
  have k2 := k_Add (num_bits (x := p.hi) (by omega)) (num_bits (x := q.hi + q.hi) (by have := bitLen_add h4 h4; omega))
  unfold pnv PN.rest
  dsimp only
  simp only [NN, NL] at *
  refine PC.of_body follows Tryz.func186 (by decide +kernel) rfl (by kernel_rfl) (Nat.le_of_ble_eq_true rfl) (walk ?_)
  simp only [Tryz.f186, go_sem]
  refine qcall_i (k1) ?_; simp only [Tryz.f186, go_sem]
  refine qcall_i (k2) ?_; simp only [Tryz.f186, go_sem]
  try rfl
theorem NN_len {x : Nat} : ∃ l cs, NN x = .lst l cs ∧ (l = 0 ↔ x = 0) := ⟨_, _, rfl, fun h => dg_nil h, fun h => by rw [h]; rfl⟩
theorem s_fraction {x y : Nat} (hx : bitLen x ≤ 5000) (hy : bitLen y ≤ 5000) (h0 : y ≠ 0) {s : Nat} (hs : s ≤ 9000) : PC E 190 [NN x, NN y, .int .i64 s] (pnv (fracS x y s)) := by
  have hb := bitLen_shl_le x s
  have k1 := k_Shln (num_bits (x := x) (by omega)) s (by omega)
  have k2 := k_Div (num_bits (x := x * 2 ^ s) (by omega)) (num_bits (x := y) (by omega)) (by omega) (by omega) h0
  have hd := div_bits (n := y) (Nat.le_refl (bitLen (x * 2 ^ s)))
  have k3 := u_one
  have k4 := k_Add (num_bits (x := x * 2 ^ s / y) (by omega)) (num_bits (x := 1) (by decide))
  unfold pnv fracS cD
  dsimp only
  obtain ⟨l, cs, e, hl⟩ := NN_len (x := x * 2 ^ s % y)
  rw [e] at k2
  by_cases h : x * 2 ^ s % y = 0
  · rw [if_pos h, Nat.add_zero]
    have hl0 := hl.2 h
    subst hl0
    simp only [NN, NL] at *
    refine PC.of_body follows Tryz.func190 (by decide +kernel) rfl (by kernel_rfl) (Nat.le_of_ble_eq_true rfl) (walk ?_)
    simp only [Tryz.f190, go_sem]
    refine qcall_i (k1) ?_; simp only [Tryz.f190, go_sem]
    refine qcall_i (k2) ?_; simp only [Tryz.f190, go_sem]
    refine qif_df (by decide) ?_
    simp only [Tryz.f190, go_sem]
    try rfl
  · rw [if_neg h]
    have hl0 : (l : Int) > 0 := by have : l ≠ 0 := fun h' => h (hl.1 h'); omega
    simp only [NN, NL] at *
    refine PC.of_body follows Tryz.func190 (by decide +kernel) rfl (by kernel_rfl) (Nat.le_of_ble_eq_true rfl) (walk ?_)
    simp only [Tryz.f190, go_sem]
    refine qcall_i (k1) ?_; simp only [Tryz.f190, go_sem]
    refine qcall_i (k2) ?_; simp only [Tryz.f190, go_sem]
    refine qif_dt hl0 ?_
    simp only [Tryz.f190, go_sem]
    refine qcall_i (k3) ?_; simp only [Tryz.f190, go_sem]
    refine qcall_i (k4) ?_; simp only [Tryz.f190, go_sem]
    try rfl
end
section
open Go PG Go.Proofs
open XX
theorem cD_pos {a n : Nat} (hn : 1 ≤ n) : cD a n ≤ a := cD_le hn (Nat.le_mul_of_pos_right a hn)
structure AtJ (s : Nat) (sq : PN) (R : PN × PN) (f : Nat) (sum term : PN) (n : Nat) : Prop where
  res : atLoop s sq f sum term n = R
  lo : term.lo ≤ 2 ^ s
  hi : term.hi ≤ 2 ^ s
  z : term.lo < 2 ^ f
  slo : sum.lo ≤ n * 2 ^ s
  shi : sum.hi ≤ n * 2 ^ s
  c : n + 2 * f = 2 * (s + 2) + 1
  odd : 1 ≤ n
structure SqJ (s : Nat) (sq : PN) : Prop where
  lo : 2 * sq.lo ≤ 2 ^ s
  hi : sq.hi ≤ 2 ^ s
theorem mul_div_le {a b S : Nat} (h : a ≤ S) (hb : 2 * b ≤ S) (hS : 0 < S) : a * b / S ≤ a / 2 := by
  rw [Nat.le_div_iff_mul_le (by decide)]
  have h1 : a * b / S * S ≤ a * b := Nat.div_mul_le_self _ _
  refine Nat.le_of_mul_le_mul_right (c := S) ?_ hS
  have h2 : a * b * 2 ≤ a * S := by rw [Nat.mul_assoc, Nat.mul_comm b 2]; exact Nat.mul_le_mul_left a hb
  have : a * b / S * 2 * S = a * b / S * S * 2 := by rw [Nat.mul_assoc, Nat.mul_assoc, Nat.mul_comm 2 S]
  omega
theorem cD_mul_le {a b S : Nat} (h : a ≤ S) (hb : b ≤ S) (hS : 0 < S) : cD (a * b) S ≤ S := cD_le hS (Nat.mul_le_mul h hb)
theorem AtJ.step {s : Nat} {sq : PN} {R : PN × PN} {f : Nat} {sum term : PN} {n : Nat} (h : AtJ s sq R f sum term n) (hq : SqJ s sq) (h0 : term.lo ≠ 0) :
    ∃ g, f = g + 1 ∧ AtJ s sq R g (sum.plus (term.part n)) (term.times sq s) (n + 2) := by
  have hS := Nat.two_pow_pos s
  cases f with
  | zero => have := h.z; omega
  | succ g =>
    refine ⟨g, rfl, ?_⟩
    have hr := h.res
    unfold atLoop at hr
    rw [if_neg h0] at hr
    have h1 := mul_div_le h.lo hq.lo hS
    have h2 := Nat.div_le_self term.lo n
    have h3 := cD_pos (a := term.hi) h.odd
    have h4 := h.lo
    have h5 := h.hi
    have h6 := h.slo
    have h7 := h.shi
    have e : (n + 2) * 2 ^ s = n * 2 ^ s + 2 * 2 ^ s := Nat.add_mul _ _ _
    exact ⟨hr, Nat.le_trans h1 (by omega), cD_mul_le h.hi hq.hi hS, by
      show term.lo * sq.lo / 2 ^ s < _
      have := h.z
      rw [Nat.pow_succ] at this
      omega, by
      show sum.lo + term.lo / n ≤ _
      rw [e]; omega, by
      show sum.hi + cD term.hi n ≤ _
      rw [e]; omega, by have := h.c; omega, by omega⟩
theorem bits_two {a s : Nat} (h : a ≤ 2 ^ s) : bitLen a ≤ s + 1 := by
  rw [bitLen_le, Nat.pow_succ]
  have := Nat.two_pow_pos s
  omega
theorem bits_mul {a n s : Nat} (h : a ≤ n * 2 ^ s) (hn : n ≤ 20000) : bitLen a ≤ s + 15 := by
  rw [bitLen_le, Nat.pow_add]
  have h1 := Nat.two_pow_pos s
  have h2 : n * 2 ^ s < 2 ^ 15 * 2 ^ s := Nat.mul_lt_mul_of_pos_right (Nat.lt_of_le_of_lt hn (by decide)) h1
  rw [Nat.mul_comm (2 ^ s)]
  omega
theorem AtJ.bits {s : Nat} {sq : PN} {R : PN × PN} {f : Nat} {sum term : PN} {n : Nat} (h : AtJ s sq R f sum term n) (hs : s ≤ 9000) : PLe term 9100 ∧ PLe sum 9100 ∧ n ≤ 18005 := by
  have h1 := bits_two h.lo
  have h2 := bits_two h.hi
  have hc := h.c
  have h3 := bits_mul h.slo (by omega)
  have h4 := bits_mul h.shi (by omega)
  exact ⟨⟨by omega, by omega⟩, ⟨by omega, by omega⟩, by omega⟩
theorem SqJ.bits {s : Nat} {sq : PN} (h : SqJ s sq) (hs : s ≤ 9000) : PLe sq 9100 := by
  have h1 := bits_two (a := sq.lo) (s := s) (by have := h.lo; omega)
  have h2 := bits_two h.hi
  exact ⟨by omega, by omega⟩
theorem at_start {num den s : Nat} (hd : 0 < den) (h3 : 3 * num ≤ den) : SqJ s ((fracS num den s).times (fracS num den s) s) ∧ AtJ s ((fracS num den s).times (fracS num den s) s) (atR num den s) (s + 2) ⟨0, 0⟩ (fracS num den s) 1 := by
  have hS := Nat.two_pow_pos s
  have hlo : 3 * (fracS num den s).lo ≤ 2 ^ s := by
    show 3 * (num * 2 ^ s / den) ≤ 2 ^ s
    have h1 : num * 2 ^ s / den * den ≤ num * 2 ^ s := Nat.div_mul_le_self _ _
    refine Nat.le_of_mul_le_mul_right (c := den) ?_ hd
    have h2 : 3 * num * 2 ^ s ≤ den * 2 ^ s := Nat.mul_le_mul_right _ h3
    rw [Nat.mul_assoc] at h2
    rw [Nat.mul_assoc, Nat.mul_comm (2 ^ s) den]
    omega
  have hhi : (fracS num den s).hi ≤ 2 ^ s := cD_le hd (by
    rw [Nat.mul_comm]
    exact Nat.mul_le_mul_left _ (by omega))
  unfold atR
  generalize fracS num den s = t at *
  have hq : 2 * (t.times t s).lo ≤ 2 ^ s := by
    show 2 * (t.lo * t.lo / 2 ^ s) ≤ 2 ^ s
    have := mul_div_le (a := t.lo) (b := t.lo) (S := 2 ^ s) (by omega) (by omega) hS
    omega
  refine ⟨⟨hq, cD_mul_le hhi hhi hS⟩, ?_⟩
  exact ⟨rfl, by omega, hhi, by rw [Nat.pow_add]; omega, by show 0 ≤ _; omega, by show 0 ≤ _; omega, by omega, by omega⟩
set_option maxHeartbeats 4000000 in
theorem s_Atanh {num den : Nat} (hn : bitLen num ≤ 4096) (hdb : bitLen den ≤ 4096) (hd : 0 < den) (h3 : 3 * num ≤ den) {s : Nat} (h8 : 8 ≤ s) (hs : s ≤ 9000) :
    PC E 114 [NN num, NN den, .int .i64 s] (.tuple [NN (atanhS num den s).lo, NN (atanhS num den s).hi, .int .i64 0]) := by
  have b3 : bitLen 3 = 2 := by decide
  have k1 := u_three
  have k2 := k_mul (num_bits (x := num) (by omega)) (num_bits (x := 3) (by decide)) (by rw [b3]; omega)
  have k3 := s_scale s
  rw [decide_eq_true (show (8 : Int) ≤ s by omega), decide_eq_true (show (s : Int) ≤ 9000 by omega), Bool.and_true] at k3
  have k4 := k_Bits (num_bits (x := num) (by omega))
  have k5 := k_Bits (num_bits (x := den) (by omega))
  have k6 := k_Cmp (num_bits (x := num * 3) (by have := bitLen_mul_le num 3; omega)) (num_bits (x := den) (by omega))
  have kT : PC E 189 [NN num, .int .u64 3] (.tuple [NN (num * 3), .int .i64 0]) := by
    simp only [NN, NL] at k1 k2 ⊢
    refine PC.of_body follows Tryz.func189 (by decide +kernel) rfl (by kernel_rfl) (Nat.le_of_ble_eq_true rfl) (walk ?_)
    simp only [Tryz.f189, go_sem]
    refine qcall_i (k1) ?_; simp only [Tryz.f189, go_sem]
    refine qcall_i (k2) ?_; simp only [Tryz.f189, go_sem]
    try rfl
  have hsg : ¬ sgn ((num * 3 : Nat) : Int) (den : Int) > 0 := by
    have := sgn_le ((num * 3 : Nat) : Int) (den : Int)
    omega
  have hden0 : ¬ (bitLen den : Int) = 0 := by
    have := bitLen_pos (x := den) (by omega)
    omega
  have k7 := s_fraction (x := num) (y := den) (by omega) (by omega) (by omega) hs
  obtain ⟨hq, hJ⟩ := at_start (s := s) hd h3
  unfold atanhS
  by_cases hz : num = 0
  · rw [if_pos hz]
    have hb0 : bitLen num = 0 := by rw [hz]; rfl
    show PC E _ _ (.tuple [.lst 0 [], .lst 0 [], .int .i64 0])
    simp only [NN, NL] at k4 k5 k6 kT ⊢
    refine PC.of_body follows Tryz.func114 (by decide +kernel) rfl (by kernel_rfl) (Nat.le_of_ble_eq_true rfl) (walk ?_)
    simp only [Tryz.f114, go_sem]
    refine qcall_i (kT) ?_; simp only [Tryz.f114, go_sem]
    refine qcall_i (k3) ?_; simp only [Tryz.f114, go_sem]
    refine qcall_i (k4) ?_; simp only [Tryz.f114, go_sem]
    refine qif_df (by omega) ?_
    simp only [Tryz.f114, go_sem]
    refine qcall_i (k5) ?_; simp only [Tryz.f114, go_sem]
    refine qif_df (by omega) ?_
    simp only [Tryz.f114, go_sem]
    refine qcall_i (k5) ?_; simp only [Tryz.f114, go_sem]
    refine qif_df hden0 ?_
    simp only [Tryz.f114, go_sem]
    refine qcall_i (k6) ?_; simp only [Tryz.f114, go_sem]
    refine qif_df hsg ?_
    simp only [Tryz.f114, go_sem]
    refine qcall_i (k4) ?_; simp only [Tryz.f114, go_sem]
    refine qif_dt (by omega) ?_
    simp only [Tryz.f114, go_sem]
    try rfl
  rw [if_neg hz]
  have hnb : ¬ (bitLen num : Int) = 0 := by
    have := bitLen_pos (x := num) hz
    omega
  have hb1 := hJ.bits hs
  have k8 := p_times hb1.1 hb1.1 (by omega) s
  have hqb := hq.bits hs
  generalize fracS num den s = t at *
  generalize t.times t s = sq at *
  generalize atR num den s = R at *
  have kl : ∀ (f : Nat) (sum term : PN) (n : Nat), AtJ s sq R f sum term n →
      PC E 61 [NN term.lo] (.int .i64 (bitLen term.lo)) ∧ PC E 184 [pnv term, .int .u64 n] (pnv (term.part n)) ∧ PC E 185 [pnv sum, pnv (term.part n)] (pnv (sum.plus (term.part n))) ∧
      PC E 183 [pnv term, pnv sq, .int .i64 s] (pnv (term.times sq s)) ∧ PC E 186 [pnv sum, pnv term] (pnv (sum.rest term)) := fun f sum term n hj => by
    obtain ⟨b1, b2, b3⟩ := hj.bits hs
    refine ⟨k_Bits (num_bits (by have := b1.1; omega)), p_by b1 (by omega) (Nat.lt_of_le_of_lt b3 (by decide)) (by have := hj.odd; omega), ?_, p_times b1 hqb (by omega) s, p_rest b2 b1 (by omega)⟩
    have hp : PLe (term.part n) 9101 := ⟨Nat.le_trans (div_bits b1.1) (by omega), cD_bits (by have := hj.odd; omega) b1.2⟩
    exact p_plus ⟨Nat.le_trans b2.1 (by omega), Nat.le_trans b2.2 (by omega)⟩ hp (by omega)
  simp only [pnv, NN, NL] at k4 k5 k6 k7 k8 kT kl ⊢
  refine PC.of_body follows Tryz.func114 (by decide +kernel) rfl (by kernel_rfl) (Nat.le_of_ble_eq_true rfl) (walk ?_)
  simp only [Tryz.f114, go_sem]
  refine qcall_i (kT) ?_; simp only [Tryz.f114, go_sem]
  refine qcall_i (k3) ?_; simp only [Tryz.f114, go_sem]
  refine qcall_i (k4) ?_; simp only [Tryz.f114, go_sem]
  refine qif_df (by omega) ?_
  simp only [Tryz.f114, go_sem]
  refine qcall_i (k5) ?_; simp only [Tryz.f114, go_sem]
  refine qif_df (by omega) ?_
  simp only [Tryz.f114, go_sem]
  refine qcall_i (k5) ?_; simp only [Tryz.f114, go_sem]
  refine qif_df hden0 ?_
  simp only [Tryz.f114, go_sem]
  refine qcall_i (k6) ?_; simp only [Tryz.f114, go_sem]
  refine qif_df hsg ?_
  simp only [Tryz.f114, go_sem]
  refine qcall_i (k4) ?_; simp only [Tryz.f114, go_sem]
  refine qif_df hnb ?_
  simp only [Tryz.f114, go_sem]
  refine qcall_i (k7) ?_; simp only [Tryz.f114, go_sem]
  refine qcall_i (k8) ?_; simp only [Tryz.f114, go_sem]
  clear k1 k2 k3 k4 k5 k6 k7 k8 kT
  refine PLoop.intro (fun i : Nat × PN × PN × Nat => ⟨[(2, .val (.int .i64 s)), (11, .ptr 11 0), (12, .ptr 12 0), (13, .ptr 13 0), (14, .val (.int .u64 i.2.2.2))],
    [(11, (.box [.lst (dg W i.2.2.1.lo).length (U (dg W i.2.2.1.lo)), .lst (dg W i.2.2.1.hi).length (U (dg W i.2.2.1.hi))], false)), (12, (.box [.lst (dg W sq.lo).length (U (dg W sq.lo)), .lst (dg W sq.hi).length (U (dg W sq.hi))], false)),
     (13, (.box [.lst (dg W i.2.1.lo).length (U (dg W i.2.1.lo)), .lst (dg W i.2.1.hi).length (U (dg W i.2.1.hi))], false))]⟩)
    (fun i => AtJ s sq R i.1 i.2.1 i.2.2.1 i.2.2.2) (fun i => i.1) (s + 2, ⟨0, 0⟩, t, 1) hJ ?_ fun i hi => walk ?_
  · simp [Wk, sget, killL, kill1, SV.key]
    try exact ⟨rfl, rfl⟩
  obtain ⟨f, sum, term, n⟩ := i
  dsimp only at hi
  have hstep := hi.step hq
  obtain ⟨l1, l2, l3, l4, l5⟩ := kl f sum term n hi
  obtain ⟨-, -, hn2⟩ := hi.bits hs
  have hres := hi.res
  clear kl
  have wn : IntKind.wrap .u64 ((n : Int) + 2) = ((n + 2 : Nat) : Int) := wrap_nat64 (a := n + 2) (Nat.lt_of_le_of_lt (show n + 2 ≤ 18007 by omega) (by decide))
  simp only [Tryz.f114, go_sem]
  refine qcall_i (l1) ?_; simp only [Tryz.f114, go_sem]
  by_cases h0 : term.lo = 0
  · have hb0 : bitLen term.lo = 0 := by rw [h0]; rfl
    have hR : R = (sum, term) := by
      rw [← hres]
      cases f with
      | zero => rfl
      | succ f => unfold atLoop; rw [if_pos h0]
    refine qif_df (by omega) ?_
    simp only [Tryz.f114, go_sem]
    refine qcall_i (l5) ?_; simp only [Tryz.f114, go_sem]
    subst hR
    exact ⟨⟨rfl, rfl⟩, rfl, rfl⟩
  · refine qif_dt (by have := bitLen_pos (x := term.lo) h0; omega) ?_
    simp only [Tryz.f114, go_sem]
    refine qcall_i (l2) ?_; simp only [Tryz.f114, go_sem]
    refine qcall_i (l3) ?_; simp only [Tryz.f114, go_sem]
    refine qcall_i (l4) ?_; simp only [Tryz.f114, wn, go_sem]
    obtain ⟨g, rfl, hj⟩ := hstep h0
    refine ⟨(g, sum.plus (term.part n), term.times sq s, n + 2), hj, Nat.lt_succ_self g, ?_⟩
    simp [Wk, sget, killL, kill1, SV.key]
end
section
open Go PG Go.Proofs
open XX
theorem atR_J {num den s : Nat} (hd : 0 < den) (h3 : 3 * num ≤ den) : ∃ f n, n ≤ 2 * (s + 2) + 1 ∧ (atR num den s).1.lo ≤ n * 2 ^ s ∧ (atR num den s).1.hi ≤ n * 2 ^ s ∧ (atR num den s).2.hi ≤ 2 ^ s ∧ f = n := by
  obtain ⟨hq, hJ⟩ := at_start (s := s) hd h3
  obtain ⟨sq, hsq⟩ : ∃ sq, sq = (fracS num den s).times (fracS num den s) s := ⟨_, rfl⟩
  rw [← hsq] at hq hJ
  have main : ∀ (f : Nat) (sum term : PN) (n : Nat), AtJ s sq (atR num den s) f sum term n → ∃ n, n ≤ 2 * (s + 2) + 1 ∧ (atR num den s).1.lo ≤ n * 2 ^ s ∧ (atR num den s).1.hi ≤ n * 2 ^ s ∧ (atR num den s).2.hi ≤ 2 ^ s := by
    intro f
    induction f with
    | zero =>
      intro sum term n h
      have e : atR num den s = (sum, term) := h.res.symm
      rw [e]
      exact ⟨n, by have := h.c; omega, h.slo, h.shi, h.hi⟩
    | succ f ih =>
      intro sum term n h
      by_cases h0 : term.lo = 0
      · have e : atR num den s = (sum, term) := by
          rw [← h.res]; unfold atLoop; rw [if_pos h0]
        rw [e]
        exact ⟨n, by have := h.c; omega, h.slo, h.shi, h.hi⟩
      · obtain ⟨g, hg, hj⟩ := h.step hq h0
        obtain rfl : g = f := by omega
        exact ih _ _ _ hj
  obtain ⟨n, h⟩ := main _ _ _ _ hJ
  exact ⟨n, n, h.1, h.2.1, h.2.2.1, h.2.2.2, rfl⟩
theorem atanhS_bits {num den s : Nat} (hd : 0 < den) (h3 : 3 * num ≤ den) (hs : s ≤ 9000) : PLe (atanhS num den s) (s + 16) := by
  unfold atanhS
  by_cases h0 : num = 0
  · rw [if_pos h0]
    exact ⟨Nat.le_trans (show bitLen 0 ≤ 0 by decide) (Nat.zero_le _), Nat.le_trans (show bitLen 0 ≤ 0 by decide) (Nat.zero_le _)⟩
  rw [if_neg h0]
  obtain ⟨f, n, h1, h2, h4, h5, -⟩ := atR_J (s := s) hd h3
  refine ⟨Nat.le_trans (bits_mul h2 (by omega)) (by omega), ?_⟩
  have e : (n + 2) * 2 ^ s = n * 2 ^ s + 2 * 2 ^ s := Nat.add_mul _ _ _
  exact Nat.le_trans (bits_mul (s := s) (n := n + 2) (by show (atR num den s).1.hi + ((atR num den s).2.hi + (atR num den s).2.hi) ≤ _; omega) (by omega)) (by omega)
theorem ln2S_bits {s : Nat} (hs : s ≤ 9000) : PLe (ln2S s) (s + 17) := by
  obtain ⟨h1, h2⟩ := atanhS_bits (num := 1) (den := 3) (s := s) (by decide) (by decide) hs
  exact ⟨bitLen_add h1 h1, bitLen_add h2 h2⟩
theorem s_Ln2 {s : Nat} (h8 : 8 ≤ s) (hs : s ≤ 9000) : PC E 116 [.int .i64 s] (.tuple [NN (ln2S s).lo, NN (ln2S s).hi, .int .i64 0]) := by
  have k1 := u_one
  have k2 := u_three
  have k3 := s_Atanh (num := 1) (den := 3) (by decide) (by decide) (by decide) (by decide) h8 hs
  obtain ⟨h1, h2⟩ := atanhS_bits (num := 1) (den := 3) (s := s) (by decide) (by decide) hs
  have k4 := k_Add (num_bits (x := (atanhS 1 3 s).lo) (by omega)) (num_bits (x := (atanhS 1 3 s).lo) (by omega))
  have k5 := k_Add (num_bits (x := (atanhS 1 3 s).hi) (by omega)) (num_bits (x := (atanhS 1 3 s).hi) (by omega))
  show PC E _ _ (.tuple [NN ((atanhS 1 3 s).lo + (atanhS 1 3 s).lo), NN ((atanhS 1 3 s).hi + (atanhS 1 3 s).hi), .int .i64 0])
  generalize (atanhS 1 3 s).lo = L at *
  generalize (atanhS 1 3 s).hi = H at *
  simp only [NN, NL] at k1 k2 k3 k4 k5 ⊢
  refine PC.of_body follows Tryz.func116 (by decide +kernel) rfl (by kernel_rfl) (Nat.le_of_ble_eq_true rfl) (walk ?_)
  simp only [Tryz.f116, go_sem]
  refine qcall_i (k1) ?_; simp only [Tryz.f116, go_sem]
  refine qcall_i (k2) ?_; simp only [Tryz.f116, go_sem]
  refine qcall_i (k3) ?_; simp only [Tryz.f116, go_sem]
  refine qcall_i (k4) ?_; simp only [Tryz.f116, go_sem]
  refine qcall_i (k5) ?_; simp only [Tryz.f116, go_sem]
  try rfl
structure ExJ (s : Nat) (x : PN) (R : PN × PN) (f : Nat) (sum term : PN) (n : Nat) : Prop where
  res : exLoop s x f sum term n = R
  lo : term.lo ≤ 2 ^ s
  hi : term.hi ≤ 2 ^ s
  slo : sum.lo ≤ n * 2 ^ s
  shi : sum.hi ≤ n * 2 ^ s
  c : n + f = s + 3
  one : 1 ≤ n
  z : n = 1 ∨ (2 ≤ n ∧ 2 ≤ term.hi ∧ term.hi ≤ 2 ^ (f - 1))
theorem ExJ.start {a b s : Nat} : ExJ s ⟨a, b⟩ (exR a b s) (s + 2) ⟨2 ^ s, 2 ^ s⟩ ⟨2 ^ s, 2 ^ s⟩ 1 :=
  ⟨rfl, Nat.le_refl _, Nat.le_refl _, by show 2 ^ s ≤ _; omega, by show 2 ^ s ≤ _; omega, by omega, Nat.le_refl _, .inl rfl⟩
theorem cD_half {a n k : Nat} (hn : 2 ≤ n) (h : a ≤ 2 ^ (k + 1)) : cD a n ≤ 2 ^ k := cD_le (by omega) (by
  rw [Nat.pow_succ] at h
  exact Nat.le_trans h (Nat.mul_le_mul_left _ hn))
theorem ExJ.fuel {s : Nat} {x : PN} {R : PN × PN} {f : Nat} {sum term : PN} {n : Nat} (h : ExJ s x R f sum term n) : ∃ g, f = g + 1 := by
  refine ⟨f - 1, ?_⟩
  rcases h.z with h1 | ⟨-, h1, h2⟩
  · have := h.c; omega
  · rcases Nat.eq_zero_or_pos f with h3 | h3
    · rw [h3] at h2
      have : term.hi ≤ 1 := h2
      omega
    · omega
theorem ExJ.next {s : Nat} {x : PN} {R : PN × PN} {g : Nat} {sum term : PN} {n : Nat} (h : ExJ s x R (g + 1) sum term n) (hx : x.lo ≤ 2 ^ s ∧ x.hi ≤ 2 ^ s) :
    ((term.times x s).part n).lo ≤ 2 ^ s ∧ ((term.times x s).part n).hi ≤ 2 ^ s ∧ (sum.plus ((term.times x s).part n)).lo ≤ (n + 1) * 2 ^ s ∧ (sum.plus ((term.times x s).part n)).hi ≤ (n + 1) * 2 ^ s ∧ (term.times x s).lo ≤ 2 ^ s ∧ (term.times x s).hi ≤ 2 ^ s := by
  have hS := Nat.two_pow_pos s
  have h1 : (term.times x s).lo ≤ 2 ^ s := by
    show term.lo * x.lo / 2 ^ s ≤ _
    refine Nat.div_le_of_le_mul ?_
    exact Nat.mul_le_mul h.lo hx.1
  have h2 : (term.times x s).hi ≤ 2 ^ s := cD_mul_le h.hi hx.2 hS
  generalize term.times x s = t at *
  have h3 : (t.part n).lo ≤ 2 ^ s := Nat.le_trans (Nat.div_le_self _ _) h1
  have h4 : (t.part n).hi ≤ 2 ^ s := Nat.le_trans (cD_pos h.one) h2
  have e : (n + 1) * 2 ^ s = n * 2 ^ s + 2 ^ s := Nat.succ_mul _ _
  have h5 := h.slo
  have h6 := h.shi
  exact ⟨h3, h4, by show sum.lo + _ ≤ _; omega, by show sum.hi + _ ≤ _; omega, h1, h2⟩
theorem ExJ.step {s : Nat} {x : PN} {R : PN × PN} {g : Nat} {sum term : PN} {n : Nat} (h : ExJ s x R (g + 1) sum term n) (hx : x.lo ≤ 2 ^ s ∧ x.hi ≤ 2 ^ s) (h0 : ¬ (term.lo = 0 ∧ x.hi = 0)) (h1 : ¬ ((term.times x s).part n).hi ≤ 1) :
    ExJ s x R g (sum.plus ((term.times x s).part n)) ((term.times x s).part n) (n + 1) := by
  obtain ⟨a1, a2, a3, a4, a5, a6⟩ := h.next hx
  have hr := h.res
  unfold exLoop at hr
  rw [if_neg h0, if_neg h1] at hr
  refine ⟨hr, a1, a2, a3, a4, by have := h.c; omega, by omega, .inr ⟨by have := h.one; omega, by omega, ?_⟩⟩
  have hS := Nat.two_pow_pos s
  rcases h.z with h2 | ⟨hn, h2, h3⟩
  · have := h.c
    rw [show g - 1 = s by omega]
    exact a2
  · have h4 : (term.times x s).hi ≤ 2 ^ (g - 1 + 1) := by
      have hg : 1 ≤ g := by
        rcases Nat.eq_zero_or_pos g with h5 | h5
        · rw [h5] at h3
          have : term.hi ≤ 1 := h3
          omega
        · exact h5
      rw [show g - 1 + 1 = g by omega]
      refine Nat.le_trans (cD_le hS (Nat.mul_le_mul_left _ hx.2)) ?_
      simpa using h3
    exact cD_half hn h4
theorem bitLen_two2 (n : Nat) : bitLen (2 ^ n) ≤ n + 1 := (bitLen_le _ _).2 (Nat.pow_lt_pow_right (by decide) (Nat.lt_succ_self n))
theorem bits_le_one (x : Nat) : (bitLen x ≤ 1) ↔ x ≤ 1 := by rw [bitLen_le]; omega
set_option maxHeartbeats 4000000 in
theorem s_Exp {a b s : Nat} (h8 : 8 ≤ s) (hs : s ≤ 9000) (ha : bitLen a ≤ 100000) (hbb : bitLen b ≤ 100000) :
    PC E 111 [NN a, NN b, .int .i64 s] (if a ≤ b ∧ b ≤ 2 ^ s then .tuple [NN (expN a b s).lo, NN (expN a b s).hi, .int .i64 0] else .tuple [.lst 0 [], .lst 0 [], .int .i64 1]) := by
  have k1 := s_scale s
  rw [decide_eq_true (show (8 : Int) ≤ s by omega), decide_eq_true (show (s : Int) ≤ 9000 by omega), Bool.and_true] at k1
  have k2 := k_Cmp (num_bits (x := a) (by omega)) (num_bits (x := b) (by omega))
  have k3 := u_one
  have k4 := k_Shln (num_bits (x := 1) (by decide)) s (by have : bitLen 1 = 1 := by decide
                                                          omega)
  rw [Nat.one_mul] at k4
  have k5 := k_Cmp (num_bits (x := b) (by omega)) (num_bits (x := 2 ^ s) (by have := bitLen_two2 s; omega))
  have g2 := sgn_pos (a : Int) (b : Int)
  have g5 := sgn_pos (b : Int) ((2 ^ s : Nat) : Int)
  by_cases hab : a ≤ b
  case neg =>
    rw [if_neg (fun h => hab h.1)]
    simp only [NN, NL] at k2 ⊢
    refine PC.of_body follows Tryz.func111 (by decide +kernel) rfl (by kernel_rfl) (Nat.le_of_ble_eq_true rfl) (walk ?_)
    simp only [Tryz.f111, go_sem]
    refine qcall_i (k1) ?_; simp only [Tryz.f111, go_sem]
    refine qcall_i (k2) ?_; simp only [Tryz.f111, go_sem]
    refine qif_dt (by omega) ?_
    simp only [Tryz.f111, go_sem]
    try rfl
  by_cases hbS : b ≤ 2 ^ s
  case neg =>
    rw [if_neg (fun h => hbS h.2)]
    simp only [NN, NL] at k2 k3 k4 k5 ⊢
    refine PC.of_body follows Tryz.func111 (by decide +kernel) rfl (by kernel_rfl) (Nat.le_of_ble_eq_true rfl) (walk ?_)
    simp only [Tryz.f111, go_sem]
    refine qcall_i (k1) ?_; simp only [Tryz.f111, go_sem]
    refine qcall_i (k2) ?_; simp only [Tryz.f111, go_sem]
    refine qif_df (by omega) ?_
    simp only [Tryz.f111, go_sem]
    refine qcall_i (k3) ?_; simp only [Tryz.f111, go_sem]
    refine qcall_i (k4) ?_; simp only [Tryz.f111, go_sem]
    refine qcall_i (k5) ?_; simp only [Tryz.f111, go_sem]
    refine qif_dt (by omega) ?_
    simp only [Tryz.f111, go_sem]
    try rfl
  rw [if_pos ⟨hab, hbS⟩]
  have k6 := k_Bare (num_bits (x := a) (by omega))
  have k7 := k_Bare (num_bits (x := b) (by omega))
  have hJ := ExJ.start (a := a) (b := b) (s := s)
  have hx : (PN.mk a b).lo ≤ 2 ^ s ∧ (PN.mk a b).hi ≤ 2 ^ s := ⟨by show a ≤ _; omega, hbS⟩
  unfold expN
  have hf2 : ¬ sgn (a : Int) (b : Int) > 0 := by omega
  have hf5 : ¬ sgn (b : Int) ((2 ^ s : Nat) : Int) > 0 := by omega
  generalize sgn (a : Int) (b : Int) = g1 at *
  generalize sgn (b : Int) ((2 ^ s : Nat) : Int) = g4 at *
  generalize exR a b s = R at *
  have kl : ∀ (f : Nat) (sum term : PN) (n : Nat), ExJ s ⟨a, b⟩ R f sum term n → ∃ g, f = g + 1 ∧
      PC E 61 [NN term.lo] (.int .i64 (bitLen term.lo)) ∧ PC E 61 [NN b] (.int .i64 (bitLen b)) ∧ PC E 183 [pnv term, pnv ⟨a, b⟩, .int .i64 s] (pnv (term.times ⟨a, b⟩ s)) ∧
      PC E 184 [pnv (term.times ⟨a, b⟩ s), .int .u64 n] (pnv ((term.times ⟨a, b⟩ s).part n)) ∧ PC E 185 [pnv sum, pnv ((term.times ⟨a, b⟩ s).part n)] (pnv (sum.plus ((term.times ⟨a, b⟩ s).part n))) ∧
      PC E 61 [NN ((term.times ⟨a, b⟩ s).part n).hi] (.int .i64 (bitLen ((term.times ⟨a, b⟩ s).part n).hi)) ∧
      PC E 186 [pnv sum, pnv term] (pnv (sum.rest term)) ∧ PC E 186 [pnv (sum.plus ((term.times ⟨a, b⟩ s).part n)), pnv ((term.times ⟨a, b⟩ s).part n)] (pnv ((sum.plus ((term.times ⟨a, b⟩ s).part n)).rest ((term.times ⟨a, b⟩ s).part n))) ∧
      (¬ (term.lo = 0 ∧ b = 0) → ¬ ((term.times ⟨a, b⟩ s).part n).hi ≤ 1 → ExJ s ⟨a, b⟩ R g (sum.plus ((term.times ⟨a, b⟩ s).part n)) ((term.times ⟨a, b⟩ s).part n) (n + 1)) ∧
      R = (if term.lo = 0 ∧ b = 0 then (sum, term) else if ((term.times ⟨a, b⟩ s).part n).hi ≤ 1 then (sum.plus ((term.times ⟨a, b⟩ s).part n), (term.times ⟨a, b⟩ s).part n) else exLoop s ⟨a, b⟩ g (sum.plus ((term.times ⟨a, b⟩ s).part n)) ((term.times ⟨a, b⟩ s).part n) (n + 1)) ∧ n ≤ 9003 := fun f sum term n hj => by
    obtain ⟨g, rfl⟩ := hj.fuel
    obtain ⟨a1, a2, a3, a4, a5, a6⟩ := hj.next hx
    have hst := hj.step hx
    have hc := hj.c
    have hone := hj.one
    have hr := hj.res
    unfold exLoop at hr
    have b1 := bits_two hj.lo
    have b2 := bits_two hj.hi
    have b3 := bits_mul hj.slo (by omega)
    have b4 := bits_mul hj.shi (by omega)
    have b5 := bits_two a1
    have b6 := bits_two a2
    have b7 := bits_mul a3 (by omega)
    have b8 := bits_mul a4 (by omega)
    have b9 := bits_two a5
    have b10 := bits_two a6
    have b11 := bits_two hx.1
    have b12 := bits_two hx.2
    dsimp only at b11 b12
    have pt : PLe term 9100 := ⟨by omega, by omega⟩
    have ps : PLe sum 9100 := ⟨by omega, by omega⟩
    have p1 : PLe (term.times ⟨a, b⟩ s) 9100 := ⟨by omega, by omega⟩
    have p2 : PLe ((term.times ⟨a, b⟩ s).part n) 9100 := ⟨by omega, by omega⟩
    have p3 : PLe (sum.plus ((term.times ⟨a, b⟩ s).part n)) 9100 := ⟨by omega, by omega⟩
    refine ⟨g, rfl, k_Bits (num_bits (by omega)), k_Bits (num_bits (by omega)), p_times pt ⟨by show bitLen a ≤ _; omega, by show bitLen b ≤ _; omega⟩ (by omega) s, p_by p1 (by omega) (Nat.lt_of_le_of_lt (show n ≤ 9003 by omega) (by decide)) (by omega), p_plus ps p2 (by omega), k_Bits (num_bits (by omega)), p_rest ps pt (by omega), p_rest p3 p2 (by omega), hst, hr.symm, by omega⟩
  simp only [pnv, NN, NL] at k2 k3 k4 k5 k6 k7 kl ⊢
  refine PC.of_body follows Tryz.func111 (by decide +kernel) rfl (by kernel_rfl) (Nat.le_of_ble_eq_true rfl) (walk ?_)
  simp only [Tryz.f111, go_sem]
  refine qcall_i (k1) ?_; simp only [Tryz.f111, go_sem]
  refine qcall_i (k2) ?_; simp only [Tryz.f111, go_sem]
  refine qif_df hf2 ?_
  simp only [Tryz.f111, go_sem]
  refine qcall_i (k3) ?_; simp only [Tryz.f111, go_sem]
  refine qcall_i (k4) ?_; simp only [Tryz.f111, go_sem]
  refine qcall_i (k5) ?_; simp only [Tryz.f111, go_sem]
  refine qif_df hf5 ?_
  simp only [Tryz.f111, go_sem]
  refine qcall_i (k6) ?_; simp only [Tryz.f111, go_sem]
  refine qcall_i (k7) ?_; simp only [Tryz.f111, go_sem]
  clear k1 k2 k3 k4 k5 k6 k7
  refine PLoop.intro (fun i : Nat × PN × PN × Nat => ⟨[(2, .val (.int .i64 s)), (11, .ptr 11 0), (12, .ptr 12 0), (13, .ptr 13 0), (14, .val (.int .u64 i.2.2.2))],
    [(11, (.box [.lst (dg W a).length (U (dg W a)), .lst (dg W b).length (U (dg W b))], false)), (12, (.box [.lst (dg W i.2.1.lo).length (U (dg W i.2.1.lo)), .lst (dg W i.2.1.hi).length (U (dg W i.2.1.hi))], false)),
     (13, (.box [.lst (dg W i.2.2.1.lo).length (U (dg W i.2.2.1.lo)), .lst (dg W i.2.2.1.hi).length (U (dg W i.2.2.1.hi))], false))]⟩)
    (fun i => ExJ s ⟨a, b⟩ R i.1 i.2.1 i.2.2.1 i.2.2.2) (fun i => i.1) (s + 2, ⟨2 ^ s, 2 ^ s⟩, ⟨2 ^ s, 2 ^ s⟩, 1) hJ ?_ fun i hi => walk ?_
  · simp [Wk, sget, killL, kill1, SV.key]
  obtain ⟨f, sum, term, n⟩ := i
  dsimp only at hi
  obtain ⟨g, rfl, l1, l2, l3, l4, l5, l6, l7, l8, l9, l10, l11⟩ := kl f sum term n hi
  clear kl
  have wn : IntKind.wrap .u64 ((n : Int) + 1) = ((n + 1 : Nat) : Int) := wrap_nat64 (a := n + 1) (Nat.lt_of_le_of_lt (show n + 1 ≤ 9004 by omega) (by decide))
  have c1 := bitLen_le term.lo 9001
  have c2 := bitLen_le b 9001
  have q1 := bits_two hi.lo
  have q2 := bits_two hx.2
  dsimp only at q2
  have wb : IntKind.wrap .i64 ((bitLen term.lo : Int) + (bitLen b : Int)) = (bitLen term.lo : Int) + (bitLen b : Int) := wrap64 (by omega) (by omega)
  have z1 : bitLen term.lo = 0 ↔ term.lo = 0 := ⟨fun h => Decidable.byContradiction fun h' => by have := bitLen_pos h'; omega, fun h => by rw [h]; rfl⟩
  have z2 : bitLen b = 0 ↔ b = 0 := ⟨fun h => Decidable.byContradiction fun h' => by have := bitLen_pos h'; omega, fun h => by rw [h]; rfl⟩
  simp only [Tryz.f111, go_sem]
  refine qcall_i (l1) ?_; simp only [Tryz.f111, go_sem]
  refine qcall_i (l2) ?_; simp only [Tryz.f111, wb, go_sem]
  by_cases h0 : term.lo = 0 ∧ b = 0
  · rw [if_pos h0] at l10
    refine qif_df (by omega) ?_
    simp only [Tryz.f111, go_sem]
    refine qcall_i (l7) ?_; simp only [Tryz.f111, go_sem]
    subst l10
    exact ⟨⟨rfl, rfl⟩, rfl, rfl⟩
  rw [if_neg h0] at l10
  refine qif_dt (by omega) ?_
  simp only [Tryz.f111, go_sem]
  refine qcall_i (l3) ?_; simp only [Tryz.f111, go_sem]
  refine qcall_i (l4) ?_; simp only [Tryz.f111, go_sem]
  refine qcall_i (l5) ?_; simp only [Tryz.f111, go_sem]
  refine qcall_i (l6) ?_; simp only [Tryz.f111, go_sem]
  have hb1 := bits_le_one ((term.times ⟨a, b⟩ s).part n).hi
  by_cases h1 : ((term.times ⟨a, b⟩ s).part n).hi ≤ 1
  · rw [if_pos h1] at l10
    refine qif_dt (by omega) ?_
    simp only [Tryz.f111, go_sem]
    refine qcall_i (l8) ?_; simp only [Tryz.f111, go_sem]
    subst l10
    exact ⟨⟨rfl, rfl⟩, rfl, rfl⟩
  · have hj := l9 h0 h1
    refine qif_df (by omega) ?_
    simp only [Tryz.f111, wn, go_sem]
    refine ⟨(g, sum.plus ((term.times ⟨a, b⟩ s).part n), (term.times ⟨a, b⟩ s).part n, n + 1), hj, Nat.lt_succ_self g, ?_⟩
    simp [Wk, sget, killL, kill1, SV.key]
def withinS (lo hi : Nat) (s : Int) (neg : Bool) : Iv := if 0 < cmpD (mkD neg lo (-s)) (mkD neg hi (-s)) then ⟨mkD neg hi (-s), mkD neg lo (-s)⟩ else ⟨mkD neg lo (-s), mkD neg hi (-s)⟩
theorem withinS_lim {lo hi n J : Nat} {s : Int} (neg : Bool) (h1 : bitLen lo ≤ n) (h2 : bitLen hi ≤ n) (hs : -(J : Int) ≤ s ∧ s ≤ J) (hJ : n + J ≤ 1000000) : (withinS lo hi s neg).lim (n + J) := by
  have a1 : Lim (n + J) (mkD neg lo (-s)) := Lim.mk h1 (by omega) hJ
  have a2 : Lim (n + J) (mkD neg hi (-s)) := Lim.mk h2 (by omega) hJ
  unfold withinS
  split
  · exact ⟨a2, a1⟩
  · exact ⟨a1, a2⟩
theorem okD_of {d : Dy} (h : d.fits) : okD d = .tuple [d.pv, .int .i64 0] := if_pos h
theorem s_Within {lo hi n J : Nat} {s : Int} (neg : Bool) (h1 : bitLen lo ≤ n) (h2 : bitLen hi ≤ n) (hs : -(J : Int) ≤ s ∧ s ≤ J) (hJ : n + J ≤ 400000) : PC E 112 [NN lo, NN hi, .int .i64 s, .bool neg] (withinS lo hi s neg).pv := by
  have a1 : Lim (n + J) (mkD neg lo (-s)) := Lim.mk h1 (by omega) (by omega)
  have a2 : Lim (n + J) (mkD neg hi (-s)) := Lim.mk h2 (by omega) (by omega)
  have k1 := r_Make (num_bits (x := lo) (by omega)) (by omega) neg (-s)
  have k2 := r_Make (num_bits (x := hi) (by omega)) (by omega) neg (-s)
  rw [okD_of (a1.fits (by omega))] at k1
  rw [okD_of (a2.fits (by omega))] at k2
  have k3 := r_Cmp (a1.RD (by omega)) (a2.RD (by omega))
  have wn : IntKind.wrap .i64 (0 - s) = -s := by rw [wrap64 (by omega) (by omega)]; omega
  unfold withinS
  by_cases hc : 0 < cmpD (mkD neg lo (-s)) (mkD neg hi (-s))
  · rw [if_pos hc]
    generalize mkD neg lo (-s) = A at *
    generalize mkD neg hi (-s) = B at *
    simp only [Iv.pv, Dy.pv, DP, NN, NL] at k1 k2 k3 ⊢
    refine PC.of_body follows Tryz.func112 (by decide +kernel) rfl (by kernel_rfl) (Nat.le_of_ble_eq_true rfl) (walk ?_)
    simp only [Tryz.f112, wn, go_sem]
    refine qcall_i (k1) ?_; simp only [Tryz.f112, wn, go_sem]
    refine qcall_i (k2) ?_; simp only [Tryz.f112, wn, go_sem]
    refine qcall_i (k3) ?_; simp only [Tryz.f112, go_sem]
    refine qif_dt hc ?_
    simp only [Tryz.f112, go_sem]
    try rfl
  · rw [if_neg hc]
    generalize mkD neg lo (-s) = A at *
    generalize mkD neg hi (-s) = B at *
    simp only [Iv.pv, Dy.pv, DP, NN, NL] at k1 k2 k3 ⊢
    refine PC.of_body follows Tryz.func112 (by decide +kernel) rfl (by kernel_rfl) (Nat.le_of_ble_eq_true rfl) (walk ?_)
    simp only [Tryz.f112, wn, go_sem]
    refine qcall_i (k1) ?_; simp only [Tryz.f112, wn, go_sem]
    refine qcall_i (k2) ?_; simp only [Tryz.f112, wn, go_sem]
    refine qcall_i (k3) ?_; simp only [Tryz.f112, go_sem]
    refine qif_df hc ?_
    simp only [Tryz.f112, go_sem]
    try rfl
end
section
open Go PG Go.Proofs
open XX
def nUp (m : Nat) : Bool := decide (3 * 2 ^ (bitLen m - 1) ≤ 2 * m)
def nOne (m : Nat) : Nat := if nUp m = true then 2 ^ (bitLen m - 1) + 2 ^ (bitLen m - 1) else 2 ^ (bitLen m - 1)
def nE (d : Dy) : Int := if nUp d.m = true then d.top + 1 else d.top
def nDen (m : Nat) : Nat := m + nOne m
def nNum (m : Nat) : Nat := if m < nOne m then nOne m - m else m - nOne m
def nNeg (m : Nat) : Bool := decide (m < nOne m)
structure LgOk (d : Dy) : Prop where
  ok : d.ok
  pos : d.s = false
  m0 : d.m ≠ 0
  bits : bitLen d.m ≤ 4000
  top : -1048576 ≤ d.top ∧ d.top ≤ 1048576
theorem LgOk.e {d : Dy} (h : LgOk d) : -1052576 ≤ d.e ∧ d.e ≤ 1048576 := by
  have h1 := h.top
  have h2 := h.bits
  have h3 := bitLen_pos h.m0
  unfold Dy.top at h1
  rw [if_neg h.m0] at h1
  omega
theorem LgOk.fits {d : Dy} (h : LgOk d) : d.fits := by
  have := h.e
  constructor <;> omega
theorem LgOk.sg {d : Dy} (h : LgOk d) : d.sg = 1 := by
  unfold Dy.sg; rw [if_neg h.m0, h.pos]; rfl
theorem m_range {m : Nat} (h : m ≠ 0) : 2 ^ (bitLen m - 1) ≤ m ∧ m < 2 * 2 ^ (bitLen m - 1) := by
  have h1 := bitLen_pos h
  have h2 := (bitLen_le m (bitLen m)).1 (Nat.le_refl _)
  have h3 : ¬ m < 2 ^ (bitLen m - 1) := fun h' => by
    have := (bitLen_le m (bitLen m - 1)).2 h'
    omega
  refine ⟨by omega, ?_⟩
  rw [show 2 * 2 ^ (bitLen m - 1) = 2 ^ (bitLen m) by rw [Nat.mul_comm, ← Nat.pow_succ]; congr 1; omega]
  exact h2
theorem near_facts {m : Nat} (h : m ≠ 0) : 0 < nDen m ∧ 3 * nNum m ≤ nDen m := by
  obtain ⟨h1, h2⟩ := m_range h
  unfold nDen nNum nOne nUp
  generalize 2 ^ (bitLen m - 1) = P at *
  by_cases hu : 3 * P ≤ 2 * m
  · rw [decide_eq_true hu, if_pos rfl]
    constructor
    · omega
    · split <;> omega
  · rw [decide_eq_false hu, if_neg (by decide)]
    constructor
    · omega
    · split <;> omega
theorem near_bits {m n : Nat} (h : m ≠ 0) (hb : bitLen m ≤ n) : bitLen (nOne m) ≤ n + 1 ∧ bitLen (nDen m) ≤ n + 2 ∧ bitLen (nNum m) ≤ n + 1 := by
  obtain ⟨h1, h2⟩ := m_range h
  have hO : nOne m ≤ m + m := by unfold nOne; split <;> omega
  have b1 := bitLen_add hb hb
  have b2 := bitLen_add b1 b1
  refine ⟨Nat.le_trans (bitLen_mono hO) b1, Nat.le_trans (bitLen_mono (show nDen m ≤ m + m + (m + m) by unfold nDen; omega)) b2, Nat.le_trans (bitLen_mono (show nNum m ≤ m + m by unfold nNum; split <;> omega)) b1⟩
theorem bit1 : bitLen 1 = 1 := by decide
set_option maxHeartbeats 4000000 in
theorem g_Near {p : PV} {d : Dy} (h : RD p d) (hl : LgOk d) : PC E 113 [p] (.tuple [NN (nNum d.m), NN (nDen d.m), .bool (nNeg d.m), .int .i64 (nE d), .bool true]) := by
  have k1 := r_Bare h
  rw [okD_of hl.fits] at k1
  have hR : RD d.pv d := RD.fit hl.ok (by have := hl.bits; omega) hl.fits
  have k2 := r_Top hR
  rw [decide_eq_true hl.m0] at k2
  have k3 := r_Sign hR
  rw [hl.sg] at k3
  have hb := hl.bits
  have hb0 := bitLen_pos hl.m0
  have ht := hl.top
  have k4 := k_Bits (num_bits (x := d.m) (by omega))
  have k5 := u_one
  have k6 := k_Shln (num_bits (x := 1) (by decide)) (bitLen d.m - 1) (by rw [bit1]; omega)
  rw [Nat.one_mul] at k6
  have hP : bitLen (2 ^ (bitLen d.m - 1)) ≤ 4001 := Nat.le_trans (bitLen_two2 _) (by omega)
  obtain ⟨n1, n2, n3⟩ := near_bits hl.m0 hb
  have k7 := k_Add (num_bits (x := d.m) (by omega)) (num_bits (x := d.m) (by omega))
  have k8 := k_Add (num_bits (x := 2 ^ (bitLen d.m - 1)) (by omega)) (num_bits (x := 2 ^ (bitLen d.m - 1)) (by omega))
  have bA := bitLen_add (x := 2 ^ (bitLen d.m - 1)) (y := 2 ^ (bitLen d.m - 1)) hP hP
  have k9 := k_Add (num_bits (x := 2 ^ (bitLen d.m - 1)) (by omega)) (num_bits (x := 2 ^ (bitLen d.m - 1) + 2 ^ (bitLen d.m - 1)) (by omega))
  have bB := bitLen_add (x := 2 ^ (bitLen d.m - 1)) (y := 2 ^ (bitLen d.m - 1) + 2 ^ (bitLen d.m - 1)) (n := 4002) (by omega) bA
  have bM := bitLen_add (x := d.m) (y := d.m) hb hb
  have k10 := k_Cmp (num_bits (x := d.m + d.m) (by omega)) (num_bits (x := 2 ^ (bitLen d.m - 1) + (2 ^ (bitLen d.m - 1) + 2 ^ (bitLen d.m - 1))) (by omega))
  have wb : IntKind.wrap .i64 ((bitLen d.m : Int) - 1) = ((bitLen d.m - 1 : Nat) : Int) := by rw [wrap64 (by omega) (by omega)]; omega
  have wt : IntKind.wrap .i64 (d.top + 1) = d.top + 1 := wrap64 (by omega) (by omega)
  have hg : (sgn ((d.m + d.m : Nat) : Int) ((2 ^ (bitLen d.m - 1) + (2 ^ (bitLen d.m - 1) + 2 ^ (bitLen d.m - 1)) : Nat) : Int) ≥ 0) ↔ 3 * 2 ^ (bitLen d.m - 1) ≤ 2 * d.m := by
    have := sgn_neg ((d.m + d.m : Nat) : Int) ((2 ^ (bitLen d.m - 1) + (2 ^ (bitLen d.m - 1) + 2 ^ (bitLen d.m - 1)) : Nat) : Int)
    generalize sgn ((d.m + d.m : Nat) : Int) ((2 ^ (bitLen d.m - 1) + (2 ^ (bitLen d.m - 1) + 2 ^ (bitLen d.m - 1)) : Nat) : Int) = g at *
    generalize 2 ^ (bitLen d.m - 1) = P at *
    constructor <;> intro h' <;> omega
  -- the fraction
  have k11 := k_Add (num_bits (x := d.m) (by omega)) (num_bits (x := nOne d.m) (by omega))
  have k12 : d.m < nOne d.m → PC E 188 [NN d.m, NN (nOne d.m)] (.tuple [.lst 0 [], .int .i64 1]) := fun hlt => k_Sub_lt (num_bits (by omega)) (num_bits (by omega)) hlt
  have k13 : d.m < nOne d.m → PC E 188 [NN (nOne d.m), NN d.m] (.tuple [NN (nOne d.m - d.m), .int .i64 0]) := fun hlt => k_Sub (num_bits (by omega)) (num_bits (by omega)) (by omega)
  have k14 : ¬ d.m < nOne d.m → PC E 188 [NN d.m, NN (nOne d.m)] (.tuple [NN (d.m - nOne d.m), .int .i64 0]) := fun hlt => k_Sub (num_bits (by omega)) (num_bits (by omega)) (by omega)
  obtain ⟨s, q, x, e, rfl, -⟩ := h
  have hE : nE d = if nUp d.m = true then d.top + 1 else d.top := rfl
  have hO : nOne d.m = if nUp d.m = true then 2 ^ (bitLen d.m - 1) + 2 ^ (bitLen d.m - 1) else 2 ^ (bitLen d.m - 1) := rfl
  have hU : nUp d.m = decide (3 * 2 ^ (bitLen d.m - 1) ≤ 2 * d.m) := rfl
  have hN : nNum d.m = if d.m < nOne d.m then nOne d.m - d.m else d.m - nOne d.m := rfl
  have hD : nDen d.m = d.m + nOne d.m := rfl
  have hG : nNeg d.m = decide (d.m < nOne d.m) := rfl
  rw [hE, hN, hD, hG]
  obtain ⟨R, hR'⟩ : ∃ R, R = PV.tuple [NN (if d.m < nOne d.m then nOne d.m - d.m else d.m - nOne d.m), NN (d.m + nOne d.m), .bool (decide (d.m < nOne d.m)), .int .i64 (if nUp d.m = true then d.top + 1 else d.top), .bool true] := ⟨_, rfl⟩
  rw [← hR']
  clear hE hN hD hG n1 n2 n3 bA bB bM hP
  generalize nOne d.m = O at *
  generalize hpp : 2 ^ (bitLen d.m - 1) = P at *
  simp only [DP, Dy.pv, NN, NL] at k1 k2 k3 k4 k5 k6 k7 k8 k9 k10 k11 k12 k13 k14 hR' ⊢
  refine PC.of_body follows Tryz.func113 (by decide +kernel) rfl (by kernel_rfl) (Nat.le_of_ble_eq_true rfl) (walk ?_)
  simp only [Tryz.f113, go_sem]
  refine qcall_i (k1) ?_; simp only [Tryz.f113, go_sem]
  refine qcall_i (k2) ?_; simp only [Tryz.f113, go_sem]
  refine qcall_i (k3) ?_; simp only [Tryz.f113, go_sem]
  refine qcall_i (k4) ?_; simp only [Tryz.f113, go_sem]
  refine qif_df (by omega) ?_
  simp only [Tryz.f113, go_sem]
  refine qif_df (by omega) ?_
  simp only [Tryz.f113, go_sem]
  refine qif_df (by omega) ?_
  simp only [Tryz.f113, go_sem]
  refine qcall_i (k4) ?_; simp only [Tryz.f113, wb, go_sem]
  refine qcall_i (k5) ?_; simp only [Tryz.f113, go_sem]
  refine qcall_i (k6) ?_; simp only [Tryz.f113, go_sem]
  refine qcall_i (k7) ?_; simp only [Tryz.f113, go_sem]
  refine qcall_i (k8) ?_; simp only [Tryz.f113, go_sem]
  refine qcall_i (k9) ?_; simp only [Tryz.f113, go_sem]
  refine qcall_i (k10) ?_; simp only [Tryz.f113, go_sem]
  by_cases hu : 3 * P ≤ 2 * d.m
  · rw [decide_eq_true hu] at hU
    rw [hU, if_pos rfl] at hO
    rw [hU, if_pos rfl] at hR'
    subst hO
    refine qif_dt (hg.2 hu) ?_
    simp only [Tryz.f113, go_sem]
    refine qcall_i (k8) ?_; simp only [Tryz.f113, wt, go_sem]
    refine qcall_i (k11) ?_; simp only [Tryz.f113, go_sem]
    by_cases hlt : d.m < P + P
    · rw [decide_eq_true hlt, if_pos hlt] at hR'
      subst hR'
      have q1 := k12 hlt
      have q2 := k13 hlt
      refine qcall_i (q1) ?_; simp only [Tryz.f113, go_sem]
      refine qcall_i (q2) ?_; simp only [Tryz.f113, go_sem]
      try rfl
    · rw [decide_eq_false hlt, if_neg hlt] at hR'
      subst hR'
      have q1 := k14 hlt
      refine qcall_i (q1) ?_; simp only [Tryz.f113, go_sem]
      try rfl
  · rw [decide_eq_false hu] at hU
    rw [hU, if_neg Bool.false_ne_true] at hO
    rw [hU, if_neg Bool.false_ne_true] at hR'
    subst hO
    refine qif_df (fun h' => hu (hg.1 h')) ?_
    simp only [Tryz.f113, go_sem]
    refine qcall_i (k11) ?_; simp only [Tryz.f113, go_sem]
    by_cases hlt : d.m < O
    · rw [decide_eq_true hlt, if_pos hlt] at hR'
      subst hR'
      have q1 := k12 hlt
      have q2 := k13 hlt
      refine qcall_i (q1) ?_; simp only [Tryz.f113, go_sem]
      refine qcall_i (q2) ?_; simp only [Tryz.f113, go_sem]
      try rfl
    · rw [decide_eq_false hlt, if_neg hlt] at hR'
      subst hR'
      have q1 := k14 hlt
      refine qcall_i (q1) ?_; simp only [Tryz.f113, go_sem]
      try rfl
end
section
open Go PG Go.Proofs
open XX
theorem k_times {x n : Nat} (hx : bitLen x ≤ 60000) (hn : n < W) : PC E 189 [NN x, .int .u64 n] (.tuple [NN (x * n), .int .i64 0]) := by
  have k1 := c_Of n hn
  have hb : bitLen n ≤ 64 := (bitLen_le _ _).2 hn
  have k2 := k_mul (num_bits (x := x) (by omega)) (num_bits (x := n) (by omega)) (by omega)
  simp only [u, NN, NL] at k1 k2 ⊢
  refine PC.of_body follows Tryz.func189 (by decide +kernel) rfl (by kernel_rfl) (Nat.le_of_ble_eq_true rfl) (walk ?_)
  simp only [Tryz.f189, go_sem]
  refine qcall_i (k1) ?_; simp only [Tryz.f189, go_sem]
  refine qcall_i (k2) ?_; simp only [Tryz.f189, go_sem]
  try rfl
def partV (lo hi : Nat) (neg : Bool) : PV := .agg [NN lo, NN hi, .bool neg]
theorem g_times {lo hi : Nat} (h1 : bitLen lo ≤ 30000) (h2 : bitLen hi ≤ 30000) {n : Int} (hn : -1073741824 ≤ n ∧ n ≤ 1073741824) :
    PC E 115 [NN lo, NN hi, .int .i64 n] (partV (lo * n.natAbs) (hi * n.natAbs) (decide (n < 0))) := by
  have hW : n.natAbs < W := Nat.lt_of_le_of_lt (show n.natAbs ≤ 1073741824 by omega) (by decide)
  have k1 := k_times (x := lo) (n := n.natAbs) (by omega) hW
  have k2 := k_times (x := hi) (n := n.natAbs) (by omega) hW
  have wn : IntKind.wrap .i64 (0 - n) = -n := by rw [wrap64 (by omega) (by omega)]; omega
  have wu := wrap_nat64 hW
  unfold partV
  simp only [NN, NL] at k1 k2 ⊢
  by_cases h : n < 0
  · rw [decide_eq_true h]
    have e : -n = ((n.natAbs : Nat) : Int) := by omega
    refine PC.of_body follows Tryz.func115 (by decide +kernel) rfl (by kernel_rfl) (Nat.le_of_ble_eq_true rfl) (walk ?_)
    simp only [Tryz.f115, go_sem]
    refine qif_dt h ?_
    simp only [Tryz.f115, wn, e, wu, go_sem]
    refine qcall_i (k1) ?_; simp only [Tryz.f115, wn, e, wu, go_sem]
    refine qcall_i (k2) ?_; simp only [Tryz.f115, wn, e, wu, go_sem]
    simp only [decide_eq_true h]
    try exact ⟨⟨rfl, rfl⟩, rfl, rfl⟩
    try rfl
  · rw [decide_eq_false h]
    obtain ⟨k, rfl⟩ : ∃ k : Nat, n = k := ⟨n.natAbs, by omega⟩
    simp only [Int.natAbs_natCast] at k1 k2 wu ⊢
    refine PC.of_body follows Tryz.func115 (by decide +kernel) rfl (by kernel_rfl) (Nat.le_of_ble_eq_true rfl) (walk ?_)
    simp only [Tryz.f115, go_sem]
    refine qif_df h ?_
    simp only [Tryz.f115, wu, go_sem]
    refine qcall_i (k1) ?_; simp only [Tryz.f115, wu, go_sem]
    refine qcall_i (k2) ?_; simp only [Tryz.f115, wu, go_sem]
    simp only [decide_eq_false h]
    try exact ⟨⟨rfl, rfl⟩, rfl, rfl⟩
    try rfl
theorem g_ends {lo hi n J : Nat} {s : Int} (neg : Bool) (h1 : bitLen lo ≤ n) (h2 : bitLen hi ≤ n) (hs : -(J : Int) ≤ s ∧ s ≤ J) (hJ : n + J ≤ 400000) :
    PC E 117 [partV lo hi neg, .int .i64 s] (withinS lo hi s neg).pv := by
  have k1 := s_Within neg h1 h2 hs hJ
  unfold partV
  generalize withinS lo hi s neg = R at *
  simp only [Iv.pv, NN, NL] at k1 ⊢
  refine PC.of_body follows Tryz.func117 (by decide +kernel) rfl (by kernel_rfl) (Nat.le_of_ble_eq_true rfl) (walk ?_)
  simp only [Tryz.f117, go_sem]
  refine qcall_i (k1) ?_; simp only [Tryz.f117, go_sem]
  try rfl
def logX (d : Dy) (s : Nat) : Iv := withinS ((atanhS (nNum d.m) (nDen d.m) s).lo * 2) ((atanhS (nNum d.m) (nDen d.m) s).hi * 2) s (nNeg d.m)
def logY (d : Dy) (s : Nat) : Iv := withinS ((ln2S s).lo * (nE d).natAbs) ((ln2S s).hi * (nE d).natAbs) s (decide (nE d < 0))
def logS (d : Dy) (s : Nat) : Iv := addI (logX d s) (logY d s)
theorem nE_range {d : Dy} (hl : LgOk d) : -1048576 ≤ nE d ∧ nE d ≤ 1048577 := by
  have := hl.top
  unfold nE
  split <;> omega
theorem mul_bits {x y a b : Nat} (h1 : bitLen x ≤ a) (h2 : bitLen y ≤ b) : bitLen (x * y) ≤ a + b := Nat.le_trans (bitLen_mul_le x y) (by omega)
theorem logX_bits {d : Dy} (hl : LgOk d) {s : Nat} (hs : s ≤ 9000) : bitLen ((atanhS (nNum d.m) (nDen d.m) s).lo * 2) ≤ 9050 ∧ bitLen ((atanhS (nNum d.m) (nDen d.m) s).hi * 2) ≤ 9050 := by
  obtain ⟨h1, h2⟩ := near_facts hl.m0
  obtain ⟨b1, b2⟩ := atanhS_bits (s := s) h1 h2 hs
  exact ⟨Nat.le_trans (mul_bits b1 (show bitLen 2 ≤ 2 by decide)) (by omega), Nat.le_trans (mul_bits b2 (show bitLen 2 ≤ 2 by decide)) (by omega)⟩
theorem logY_bits {d : Dy} (hl : LgOk d) {s : Nat} (hs : s ≤ 9000) : bitLen ((ln2S s).lo * (nE d).natAbs) ≤ 9050 ∧ bitLen ((ln2S s).hi * (nE d).natAbs) ≤ 9050 := by
  have he := nE_range hl
  obtain ⟨b1, b2⟩ := ln2S_bits hs
  have b3 : bitLen (nE d).natAbs ≤ 21 := (bitLen_le _ _).2 (Nat.lt_of_le_of_lt (show (nE d).natAbs ≤ 1048577 by omega) (by decide))
  exact ⟨Nat.le_trans (mul_bits b1 b3) (by omega), Nat.le_trans (mul_bits b2 b3) (by omega)⟩
theorem logX_lim {d : Dy} (hl : LgOk d) {s : Nat} (hs : s ≤ 9000) : (logX d s).lim 18050 := by
  obtain ⟨b1, b2⟩ := logX_bits hl hs
  exact withinS_lim (n := 9050) (J := 9000) _ b1 b2 ⟨by omega, by omega⟩ (by decide)
theorem logY_lim {d : Dy} (hl : LgOk d) {s : Nat} (hs : s ≤ 9000) : (logY d s).lim 18050 := by
  obtain ⟨b1, b2⟩ := logY_bits hl hs
  exact withinS_lim (n := 9050) (J := 9000) _ b1 b2 ⟨by omega, by omega⟩ (by decide)
theorem logS_lim {d : Dy} (hl : LgOk d) {s : Nat} (hs : s ≤ 9000) : (logS d s).lim 18051 := (logX_lim hl hs).add (logY_lim hl hs) (by decide)
set_option maxHeartbeats 4000000 in
theorem g_Log {p : PV} {d : Dy} (h : RD p d) (hl : LgOk d) {s : Nat} (h8 : 8 ≤ s) (hs : s ≤ 9000) : PC E 58 [p, .int .i64 s] (.tuple [(logS d s).pv, .int .i64 0]) := by
  have k1 := g_Near h hl
  obtain ⟨h1, h2⟩ := near_facts hl.m0
  obtain ⟨c1, c2, c3⟩ := near_bits hl.m0 hl.bits
  have k2 := s_Atanh (num := nNum d.m) (den := nDen d.m) (by omega) (by omega) h1 h2 h8 hs
  obtain ⟨b1, b2⟩ := atanhS_bits (s := s) h1 h2 hs
  have k3 := g_times (lo := (atanhS (nNum d.m) (nDen d.m) s).lo) (hi := (atanhS (nNum d.m) (nDen d.m) s).hi) (by omega) (by omega) (n := 2) (by decide)
  have k4 := s_Ln2 h8 hs
  obtain ⟨b3, b4⟩ := ln2S_bits hs
  obtain ⟨x1, x2⟩ := logX_bits hl hs
  obtain ⟨y1, y2⟩ := logY_bits hl hs
  have he := nE_range hl
  have k5 := g_ends (n := 9050) (J := 9000) (s := s) (nNeg d.m) x1 x2 ⟨by omega, by omega⟩ (by decide)
  have k6 := g_times (lo := (ln2S s).lo) (hi := (ln2S s).hi) (by omega) (by omega) (n := nE d) (by omega)
  have k7 := g_ends (n := 9050) (J := 9000) (s := s) (decide (nE d < 0)) y1 y2 ⟨by omega, by omega⟩ (by decide)
  have lX := logX_lim hl hs
  have lY := logY_lim hl hs
  have k8 := r_Add (lX.1.RD (by decide)) (lY.1.RD (by decide))
  rw [addV_lim lX.1 lY.1 (by decide)] at k8
  have k9 := r_Add (lX.2.RD (by decide)) (lY.2.RD (by decide))
  rw [addV_lim lX.2 lY.2 (by decide)] at k9
  have e2 : (2 : Int).natAbs = 2 := rfl
  rw [e2, show decide ((2 : Int) < 0) = false from rfl] at k3
  have eX : withinS ((atanhS (nNum d.m) (nDen d.m) s).lo * 2) ((atanhS (nNum d.m) (nDen d.m) s).hi * 2) s (nNeg d.m) = logX d s := rfl
  have eY : withinS ((ln2S s).lo * (nE d).natAbs) ((ln2S s).hi * (nE d).natAbs) s (decide (nE d < 0)) = logY d s := rfl
  rw [eX] at k5
  rw [eY] at k7
  show PC E _ _ (.tuple [(Iv.mk (addS (logX d s).lo (logY d s).lo) (addS (logX d s).hi (logY d s).hi)).pv, .int .i64 0])
  clear eX eY lX lY x1 x2 y1 y2 b1 b2 b3 b4 c1 c2 c3
  generalize logX d s = X at *
  generalize logY d s = Y at *
  generalize addS X.lo Y.lo = L at *
  generalize addS X.hi Y.hi = H at *
  generalize decide (nE d < 0) = ng at *
  generalize (ln2S s).lo * (nE d).natAbs = A1 at *
  generalize (ln2S s).hi * (nE d).natAbs = A2 at *
  generalize (ln2S s).lo = A3 at *
  generalize (ln2S s).hi = A4 at *
  generalize (atanhS (nNum d.m) (nDen d.m) s).lo * 2 = A5 at *
  generalize (atanhS (nNum d.m) (nDen d.m) s).hi * 2 = A6 at *
  generalize (atanhS (nNum d.m) (nDen d.m) s).lo = A7 at *
  generalize (atanhS (nNum d.m) (nDen d.m) s).hi = A8 at *
  generalize nNum d.m = A9 at *
  generalize nDen d.m = A10 at *
  generalize nNeg d.m = A11 at *
  generalize nE d = A12 at *
  obtain ⟨s0, q, x, e, rfl, -⟩ := h
  simp only [partV, Iv.pv, Dy.pv, DP, NN, NL] at k1 k2 k3 k4 k5 k6 k7 k8 k9 ⊢
  refine PC.of_body follows Tryz.func58 (by decide +kernel) rfl (by kernel_rfl) (Nat.le_of_ble_eq_true rfl) (walk ?_)
  simp only [Tryz.f58, go_sem]
  refine qcall_i (k1) ?_; simp only [Tryz.f58, go_sem]
  refine qcall_i (k2) ?_; simp only [Tryz.f58, go_sem]
  refine qcall_i (k3) ?_; simp only [Tryz.f58, go_sem]
  refine qcall_i (k4) ?_; simp only [Tryz.f58, go_sem]
  refine qcall_i (k5) ?_; simp only [Tryz.f58, go_sem]
  refine qcall_i (k6) ?_; simp only [Tryz.f58, go_sem]
  refine qcall_i (k7) ?_; simp only [Tryz.f58, go_sem]
  refine qcall_i (k8) ?_; simp only [Tryz.f58, go_sem]
  refine qcall_i (k9) ?_; simp only [Tryz.f58, go_sem]
  try rfl
end
end
section
section
open Go PG Go.Proofs
open XX
theorem atLoop_lo {s : Nat} {sq : PN} : ∀ (f : Nat) (sum term : PN) (n : Nat), sum.lo ≤ (atLoop s sq f sum term n).1.lo
  | 0, sum, term, n => Nat.le_refl _
  | f + 1, sum, term, n => by
    unfold atLoop
    split
    · exact Nat.le_refl _
    · refine Nat.le_trans ?_ (atLoop_lo f (sum.plus (term.part n)) (term.times sq s) (n + 2))
      exact Nat.le_add_right _ _
theorem ln2_big {s : Nat} (h8 : 8 ≤ s) : 2 ^ (s - 1) ≤ (ln2S s).lo ∧ (ln2S s).lo ≤ (ln2S s).hi := by
  have hS : 2 ^ s = 4 * 2 ^ (s - 2) := by
    rw [show s = s - 2 + 2 by omega, Nat.pow_add, Nat.mul_comm]
    simp
  have hp := Nat.two_pow_pos (s - 2)
  have h0 : 2 ^ (s - 2) ≤ 2 ^ s / 3 := by
    rw [Nat.le_div_iff_mul_le (by decide), hS]; omega
  have h1 : 2 ^ s / 3 ≤ (atanhS 1 3 s).lo := by
    unfold atanhS
    rw [if_neg (by decide)]
    show _ ≤ (atR 1 3 s).1.lo
    unfold atR
    have hf : (fracS 1 3 s).lo = 2 ^ s / 3 := by show 1 * 2 ^ s / 3 = _; rw [Nat.one_mul]
    unfold atLoop
    rw [if_neg (by rw [hf]; omega)]
    refine Nat.le_trans ?_ (atLoop_lo _ _ _ _)
    show _ ≤ 0 + (fracS 1 3 s).lo / 1
    rw [hf, Nat.div_one]; omega
  constructor
  · show _ ≤ (atanhS 1 3 s).lo + (atanhS 1 3 s).lo
    have : 2 ^ (s - 1) = 2 * 2 ^ (s - 2) := by
      rw [show s - 1 = s - 2 + 1 by omega, Nat.pow_succ, Nat.mul_comm]
    omega
  · obtain ⟨⟨n, h2⟩, h3⟩ := atanhS_sound (num := 1) (den := 3) (s := s) (by decide) (by decide)
    have h4 := Rat.natCast_le_natCast.1 (Rat.le_trans h2 (h3 n))
    show (atanhS 1 3 s).lo + (atanhS 1 3 s).lo ≤ (atanhS 1 3 s).hi + (atanhS 1 3 s).hi
    omega
def exRight (d : Dy) : Bool := decide (bitLen d.m ≤ 20000) && decide (-20000 ≤ d.e) && decide (d.top < 12)
theorem exRight_of {d : Dy} (h : exRight d = true) : bitLen d.m ≤ 20000 ∧ -20000 ≤ d.e ∧ d.top < 12 := by
  unfold exRight at h
  rw [Bool.and_eq_true, Bool.and_eq_true, decide_eq_true_eq, decide_eq_true_eq, decide_eq_true_eq] at h
  exact ⟨h.1.1, h.1.2, h.2⟩
theorem x_right {p : PV} {d : Dy} {K : Nat} (h : RD p d) (hl : Lim K d) (hK : K ≤ 200000) : PC E 172 [p] (.bool (exRight d)) := by
  have k1 := r_Bare h
  rw [okD_of (hl.fits (by omega))] at k1
  have hR : RD d.pv d := hl.RD (by omega)
  have k2 := r_Top hR
  have k3 := k_Bits (num_bits (x := d.m) (by have := hl.bits; omega))
  unfold exRight
  generalize decide (d.m ≠ 0) = b0 at *
  generalize d.top = T at *
  obtain ⟨s, q, x, e, rfl, -⟩ := h
  simp only [DP, Dy.pv, NN, NL] at k1 k2 k3 ⊢
  by_cases h1 : (bitLen d.m : Int) ≤ 20000
  · by_cases h2 : d.e ≥ -20000
    · rw [decide_eq_true (show bitLen d.m ≤ 20000 by omega), decide_eq_true (show -20000 ≤ d.e from h2)]
      refine PC.of_body follows Tryz.func172 (by decide +kernel) rfl (by kernel_rfl) (Nat.le_of_ble_eq_true rfl) (walk ?_)
      simp only [Tryz.f172, go_sem]
      refine qcall_i (k1) ?_; simp only [Tryz.f172, go_sem]
      refine qcall_i (k2) ?_; simp only [Tryz.f172, go_sem]
      refine qcall_i (k3) ?_; simp only [Tryz.f172, go_sem]
      refine qif_dt h1 ?_
      simp only [Tryz.f172, go_sem]
      refine qif_dt h2 ?_
      simp only [Tryz.f172, go_sem]
      try simp
    · rw [decide_eq_true (show bitLen d.m ≤ 20000 by omega), decide_eq_false (show ¬ -20000 ≤ d.e from h2)]
      refine PC.of_body follows Tryz.func172 (by decide +kernel) rfl (by kernel_rfl) (Nat.le_of_ble_eq_true rfl) (walk ?_)
      simp only [Tryz.f172, go_sem]
      refine qcall_i (k1) ?_; simp only [Tryz.f172, go_sem]
      refine qcall_i (k2) ?_; simp only [Tryz.f172, go_sem]
      refine qcall_i (k3) ?_; simp only [Tryz.f172, go_sem]
      refine qif_dt h1 ?_
      simp only [Tryz.f172, go_sem]
      refine qif_df h2 ?_
      simp only [Tryz.f172, go_sem]
      try simp
  · rw [decide_eq_false (show ¬ bitLen d.m ≤ 20000 by omega)]
    refine PC.of_body follows Tryz.func172 (by decide +kernel) rfl (by kernel_rfl) (Nat.le_of_ble_eq_true rfl) (walk ?_)
    simp only [Tryz.f172, go_sem]
    refine qcall_i (k1) ?_; simp only [Tryz.f172, go_sem]
    refine qcall_i (k2) ?_; simp only [Tryz.f172, go_sem]
    refine qcall_i (k3) ?_; simp only [Tryz.f172, go_sem]
    refine qif_df h1 ?_
    simp only [Tryz.f172, go_sem]
    try simp
def unitsS (d : Dy) (s : Nat) (above : Bool) : Nat := if 0 ≤ d.e + s then d.m * 2 ^ (d.e + s).toNat else d.m / 2 ^ (-d.e - s).toNat + (if d.m % 2 ^ (-d.e - s).toNat ≠ 0 ∧ above = true then 1 else 0)
theorem units_le {d : Dy} (h : exRight d = true) (s : Nat) (a : Bool) : unitsS d s a ≤ 2 ^ (s + 12) := by
  obtain ⟨h1, h2, h3⟩ := exRight_of h
  unfold unitsS
  by_cases hm : d.m = 0
  · rw [hm]
    split
    · rw [Nat.zero_mul]; exact Nat.zero_le _
    · rw [Nat.zero_div, Nat.zero_mod, if_neg (by simp)]; exact Nat.zero_le _
  have h4 : d.top = bitLen d.m - 1 + d.e := by unfold Dy.top; rw [if_neg hm]
  have h5 := (bitLen_le d.m (bitLen d.m)).1 (Nat.le_refl _)
  have h0 := bitLen_pos hm
  split
  · rename_i hk
    refine Nat.le_of_lt (Nat.lt_of_lt_of_le (Nat.mul_lt_mul_of_pos_right h5 (Nat.two_pow_pos _)) ?_)
    rw [← Nat.pow_add]
    exact Nat.pow_le_pow_right (by decide) (by omega)
  · rename_i hk
    have h6 : d.m / 2 ^ (-d.e - s).toNat < 2 ^ (s + 12) := by
      rw [Nat.div_lt_iff_lt_mul (Nat.two_pow_pos _), ← Nat.pow_add]
      exact Nat.lt_of_lt_of_le h5 (Nat.pow_le_pow_right (by decide) (by omega))
    split <;> omega
theorem x_units {p : PV} {d : Dy} (h : RD p d) (hl : exRight d = true) (hf : d.fits) {s : Nat} (hs : s ≤ 9000) (a : Bool) : PC E 220 [p, .int .i64 s, .bool a] (NN (unitsS d s a)) := by
  obtain ⟨h1, h2, h3⟩ := exRight_of hl
  have hb := units_le hl s a
  have k1 := r_Bare h
  rw [okD_of hf] at k1
  have hfe := hf.2
  have ht : d.m ≠ 0 → (bitLen d.m : Int) - 1 + d.e < 12 := fun hm => by unfold Dy.top at h3; rw [if_neg hm] at h3; exact h3
  have we : IntKind.wrap .i64 (d.e + (s : Int)) = d.e + s := wrap64 (by omega) (by omega)
  have wn : IntKind.wrap .i64 (0 - d.e) = -d.e := by rw [wrap64 (by omega) (by omega)]; omega
  have wm : IntKind.wrap .i64 (-d.e - (s : Int)) = -d.e - s := wrap64 (by omega) (by omega)
  obtain ⟨s0, q, x, e, rfl, -⟩ := h
  unfold unitsS at hb ⊢
  by_cases hk : 0 ≤ d.e + s
  · rw [if_pos hk]
    have k2 : PC E 63 [NN d.m, .int .i64 (d.e + s)] (.tuple [NN (d.m * 2 ^ (d.e + s).toNat), .int .i64 0]) := by
      have hm0 : d.m = 0 ∨ d.m ≠ 0 := by omega
      rcases hm0 with hm0 | hm0
      · refine PC.cast (k_Shl (num_bits (x := d.m) (by omega)) (d.e + s) (by omega)) ?_
        unfold shlV
        rw [if_neg (by omega), if_pos hm0, hm0, Nat.zero_mul]; rfl
      · have := k_Shln (num_bits (x := d.m) (by omega)) (d.e + s).toNat (by have := ht hm0; omega)
        rwa [show (((d.e + s).toNat : Nat) : Int) = d.e + s by omega] at this
    generalize d.m * 2 ^ (d.e + s).toNat = R at *
    simp only [DP, Dy.pv, NN, NL] at k1 k2 ⊢
    refine PC.of_body follows Tryz.func220 (by decide +kernel) rfl (by kernel_rfl) (Nat.le_of_ble_eq_true rfl) (walk ?_)
    simp only [Tryz.f220, go_sem]
    refine qcall_i (k1) ?_; simp only [Tryz.f220, we, go_sem]
    refine qif_dt hk ?_
    simp only [Tryz.f220, we, go_sem]
    refine qcall_i (k2) ?_; simp only [Tryz.f220, go_sem]
    try exact ⟨rfl, rfl⟩
    try rfl
  · rw [if_neg hk] at hb ⊢
    have k2 := k_Shrn (num_bits (x := d.m) (by omega)) (-d.e - s).toNat
    rw [show (((-d.e - s).toNat : Nat) : Int) = -d.e - s by omega] at k2
    have bq := div_bits (n := 2 ^ (-d.e - s).toNat) h1
    have k3 := u_one
    have k4 := k_Add (num_bits (x := d.m / 2 ^ (-d.e - s).toNat) (by omega)) (num_bits (x := 1) (by decide))
    by_cases hr : d.m % 2 ^ (-d.e - s).toNat ≠ 0
    · rw [decide_eq_true hr] at k2
      cases a with
      | true =>
        rw [if_pos ⟨hr, rfl⟩]
        generalize d.m / 2 ^ (-d.e - s).toNat = R at *
        simp only [DP, Dy.pv, NN, NL] at k1 k2 k3 k4 ⊢
        refine PC.of_body follows Tryz.func220 (by decide +kernel) rfl (by kernel_rfl) (Nat.le_of_ble_eq_true rfl) (walk ?_)
        simp only [Tryz.f220, go_sem]
        refine qcall_i (k1) ?_; simp only [Tryz.f220, we, go_sem]
        refine qif_df hk ?_
        simp only [Tryz.f220, wn, wm, go_sem]
        refine qcall_i (k2) ?_; simp only [Tryz.f220, go_sem]
        refine qcall_i (k3) ?_; simp only [Tryz.f220, go_sem]
        refine qcall_i (k4) ?_; simp only [Tryz.f220, go_sem]
        try exact ⟨rfl, rfl⟩
        try rfl
      | false =>
        rw [if_neg (fun h => Bool.false_ne_true h.2), Nat.add_zero]
        generalize d.m / 2 ^ (-d.e - s).toNat = R at *
        simp only [DP, Dy.pv, NN, NL] at k1 k2 k3 k4 ⊢
        refine PC.of_body follows Tryz.func220 (by decide +kernel) rfl (by kernel_rfl) (Nat.le_of_ble_eq_true rfl) (walk ?_)
        simp only [Tryz.f220, go_sem]
        refine qcall_i (k1) ?_; simp only [Tryz.f220, we, go_sem]
        refine qif_df hk ?_
        simp only [Tryz.f220, wn, wm, go_sem]
        refine qcall_i (k2) ?_; simp only [Tryz.f220, go_sem]
        try exact ⟨rfl, rfl⟩
        try rfl
    · rw [decide_eq_false hr] at k2
      rw [if_neg (fun h => hr h.1), Nat.add_zero]
      generalize d.m / 2 ^ (-d.e - s).toNat = R at *
      simp only [DP, Dy.pv, NN, NL] at k1 k2 k3 k4 ⊢
      refine PC.of_body follows Tryz.func220 (by decide +kernel) rfl (by kernel_rfl) (Nat.le_of_ble_eq_true rfl) (walk ?_)
      simp only [Tryz.f220, go_sem]
      refine qcall_i (k1) ?_; simp only [Tryz.f220, we, go_sem]
      refine qif_df hk ?_
      simp only [Tryz.f220, wn, wm, go_sem]
      refine qcall_i (k2) ?_; simp only [Tryz.f220, go_sem]
      try exact ⟨rfl, rfl⟩
      try rfl
def nbv (n : Bool × Nat) : PV := .agg [.bool n.1, NN n.2]
def floorS (d : Dy) (s : Nat) : Bool × Nat := (decide (d.sg < 0), unitsS d s (decide (d.sg < 0)))
def ceilS (d : Dy) (s : Nat) : Bool × Nat := (decide (d.sg < 0), unitsS d s (!decide (d.sg < 0)))
def plusS (n : Bool × Nat) (m : Nat) : Bool × Nat := if n.1 = true then (if n.2 ≤ m then (false, m - n.2) else (true, n.2 - m)) else (false, n.2 + m)
def minusS (n : Bool × Nat) (m : Nat) : Bool × Nat := if n.1 = true then (true, n.2 + m) else (if m ≤ n.2 then (false, n.2 - m) else (true, m - n.2))
theorem x_floor {p : PV} {d : Dy} (h : RD p d) (hl : exRight d = true) (hf : d.fits) {s : Nat} (hs : s ≤ 9000) : PC E 173 [p, .int .i64 s] (nbv (floorS d s)) := by
  have k1 := r_Sign h
  have k2 := x_units h hl hf hs (decide (d.sg < 0))
  unfold nbv floorS
  dsimp only
  generalize unitsS d s (decide (d.sg < 0)) = R at *
  obtain ⟨s0, q, x, e, rfl, -⟩ := h
  simp only [DP, Dy.pv, NN, NL] at k1 k2 ⊢
  refine PC.of_body follows Tryz.func173 (by decide +kernel) rfl (by kernel_rfl) (Nat.le_of_ble_eq_true rfl) (walk ?_)
  simp only [Tryz.f173, go_sem]
  refine qcall_i (k1) ?_; simp only [Tryz.f173, go_sem]
  refine qcall_i (k2) ?_; simp only [Tryz.f173, go_sem]
  try rfl
theorem x_ceil {p : PV} {d : Dy} (h : RD p d) (hl : exRight d = true) (hf : d.fits) {s : Nat} (hs : s ≤ 9000) : PC E 174 [p, .int .i64 s] (nbv (ceilS d s)) := by
  have k1 := r_Sign h
  have k2 := x_units h hl hf hs (!decide (d.sg < 0))
  unfold nbv ceilS
  dsimp only
  generalize unitsS d s (!decide (d.sg < 0)) = R at *
  obtain ⟨s0, q, x, e, rfl, -⟩ := h
  simp only [DP, Dy.pv, NN, NL] at k1 k2 ⊢
  refine PC.of_body follows Tryz.func174 (by decide +kernel) rfl (by kernel_rfl) (Nat.le_of_ble_eq_true rfl) (walk ?_)
  simp only [Tryz.f174, go_sem]
  refine qcall_i (k1) ?_; simp only [Tryz.f174, go_sem]
  refine qcall_i (k2) ?_; simp only [Tryz.f174, go_sem]
  try rfl
theorem x_plus {n : Bool × Nat} {m : Nat} (h1 : bitLen n.2 ≤ 100000) (h2 : bitLen m ≤ 100000) : PC E 177 [nbv n, NN m] (nbv (plusS n m)) := by
  obtain ⟨ng, n⟩ := n
  dsimp only at h1
  have k1 := k_Add (num_bits (x := n) (by omega)) (num_bits (x := m) (by omega))
  unfold nbv plusS
  dsimp only
  cases ng with
  | false =>
    simp only [NN, NL, Bool.false_eq_true, if_false] at k1 ⊢
    refine PC.of_body follows Tryz.func177 (by decide +kernel) rfl (by kernel_rfl) (Nat.le_of_ble_eq_true rfl) (walk ?_)
    simp only [Tryz.f177, go_sem]
    refine qcall_i (k1) ?_; simp only [Tryz.f177, go_sem]
    try rfl
  | true =>
    rw [if_pos rfl]
    by_cases hle : n ≤ m
    · rw [if_pos hle]
      have k2 := k_Sub (num_bits (x := m) (by omega)) (num_bits (x := n) (by omega)) hle
      simp only [NN, NL] at k2 ⊢
      refine PC.of_body follows Tryz.func177 (by decide +kernel) rfl (by kernel_rfl) (Nat.le_of_ble_eq_true rfl) (walk ?_)
      simp only [Tryz.f177, go_sem]
      refine qcall_i (k2) ?_; simp only [Tryz.f177, go_sem]
      try rfl
    · rw [if_neg hle]
      have k2 := k_Sub_lt (num_bits (x := m) (by omega)) (num_bits (x := n) (by omega)) (by omega)
      have k3 := k_Sub (num_bits (x := n) (by omega)) (num_bits (x := m) (by omega)) (by omega)
      simp only [NN, NL] at k2 k3 ⊢
      refine PC.of_body follows Tryz.func177 (by decide +kernel) rfl (by kernel_rfl) (Nat.le_of_ble_eq_true rfl) (walk ?_)
      simp only [Tryz.f177, go_sem]
      refine qcall_i (k2) ?_; simp only [Tryz.f177, go_sem]
      refine qcall_i (k3) ?_; simp only [Tryz.f177, go_sem]
      try rfl
theorem x_minus {n : Bool × Nat} {m : Nat} (h1 : bitLen n.2 ≤ 100000) (h2 : bitLen m ≤ 100000) : PC E 179 [nbv n, NN m] (nbv (minusS n m)) := by
  obtain ⟨ng, n⟩ := n
  dsimp only at h1
  have k1 := k_Add (num_bits (x := n) (by omega)) (num_bits (x := m) (by omega))
  unfold nbv minusS
  dsimp only
  cases ng with
  | true =>
    simp only [NN, NL, if_true] at k1 ⊢
    refine PC.of_body follows Tryz.func179 (by decide +kernel) rfl (by kernel_rfl) (Nat.le_of_ble_eq_true rfl) (walk ?_)
    simp only [Tryz.f179, go_sem]
    refine qcall_i (k1) ?_; simp only [Tryz.f179, go_sem]
    try rfl
  | false =>
    rw [if_neg Bool.false_ne_true]
    by_cases hle : m ≤ n
    · rw [if_pos hle]
      have k2 := k_Sub (num_bits (x := n) (by omega)) (num_bits (x := m) (by omega)) hle
      simp only [NN, NL] at k2 ⊢
      refine PC.of_body follows Tryz.func179 (by decide +kernel) rfl (by kernel_rfl) (Nat.le_of_ble_eq_true rfl) (walk ?_)
      simp only [Tryz.f179, go_sem]
      refine qcall_i (k2) ?_; simp only [Tryz.f179, go_sem]
      try rfl
    · rw [if_neg hle]
      have k2 := k_Sub_lt (num_bits (x := n) (by omega)) (num_bits (x := m) (by omega)) (by omega)
      have k3 := k_Sub (num_bits (x := m) (by omega)) (num_bits (x := n) (by omega)) (by omega)
      simp only [NN, NL] at k2 k3 ⊢
      refine PC.of_body follows Tryz.func179 (by decide +kernel) rfl (by kernel_rfl) (Nat.le_of_ble_eq_true rfl) (walk ?_)
      simp only [Tryz.f179, go_sem]
      refine qcall_i (k2) ?_; simp only [Tryz.f179, go_sem]
      refine qcall_i (k3) ?_; simp only [Tryz.f179, go_sem]
      try rfl
theorem k_Up {x y : Nat} (hx : bitLen x ≤ 900000) (hy : bitLen y ≤ 900000) (h0 : y ≠ 0) : PC E 175 [NN x, NN y] (.tuple [NN (cD x y), .int .i64 0]) := by
  have k1 := k_Div (num_bits (x := x) (by omega)) (num_bits (x := y) (by omega)) (by omega) (by omega) h0
  have hd := div_bits (n := y) hx
  have k2 := u_one
  have k3 := k_Add (num_bits (x := x / y) (by omega)) (num_bits (x := 1) (by decide))
  unfold cD
  obtain ⟨l, cs, e, hl⟩ := NN_len (x := x % y)
  rw [e] at k1
  by_cases h : x % y = 0
  · rw [if_pos h, Nat.add_zero]
    have hl0 := hl.2 h
    subst hl0
    simp only [NN, NL] at k1 k2 k3 ⊢
    refine PC.of_body follows Tryz.func175 (by decide +kernel) rfl (by kernel_rfl) (Nat.le_of_ble_eq_true rfl) (walk ?_)
    simp only [Tryz.f175, go_sem]
    refine qcall_i (k1) ?_; simp only [Tryz.f175, go_sem]
    try (refine qif_dt (by decide) ?_)
    try simp only [Tryz.f175, go_sem]
    try exact ⟨rfl, rfl⟩
    try rfl
  · rw [if_neg h]
    have hl0 : ¬ (l : Int) = 0 := by have : l ≠ 0 := fun h' => h (hl.1 h'); omega
    simp only [NN, NL] at k1 k2 k3 ⊢
    refine PC.of_body follows Tryz.func175 (by decide +kernel) rfl (by kernel_rfl) (Nat.le_of_ble_eq_true rfl) (walk ?_)
    simp only [Tryz.f175, go_sem]
    refine qcall_i (k1) ?_; simp only [Tryz.f175, go_sem]
    refine qif_df hl0 ?_
    simp only [Tryz.f175, go_sem]
    refine qcall_i (k2) ?_; simp only [Tryz.f175, go_sem]
    refine qcall_i (k3) ?_; simp only [Tryz.f175, go_sem]
    try exact ⟨rfl, rfl⟩
    try rfl
end
section
open Go PG Go.Proofs
open XX
def splitK (i : Iv) (s : Nat) : Int × Nat × Nat :=
  if (floorS i.lo s).1 = true then
    (-(cD (floorS i.lo s).2 (ln2S s).lo : Int), (plusS (floorS i.lo s) (cD (floorS i.lo s).2 (ln2S s).lo * (ln2S s).lo)).2, (plusS (ceilS i.hi s) (cD (floorS i.lo s).2 (ln2S s).lo * (ln2S s).hi)).2)
  else (((floorS i.lo s).2 / (ln2S s).hi : Nat), (floorS i.lo s).2 % (ln2S s).hi, (minusS (ceilS i.hi s) ((floorS i.lo s).2 / (ln2S s).hi * (ln2S s).lo)).2)
def splitOk (i : Iv) (s : Nat) : Prop := exRight i.lo = true ∧ exRight i.hi = true ∧ cmpD i.lo i.hi ≤ 0 ∧ (splitK i s).2.2 ≤ 2 ^ s
instance (i : Iv) (s : Nat) : Decidable (splitOk i s) := inferInstanceAs (Decidable (_ ∧ _))
theorem small_W {q : Nat} (h : q ≤ 8192) : q < W := Nat.lt_of_le_of_lt h (by decide)
set_option maxHeartbeats 4000000 in
theorem x_Split {p : PV} {i : Iv} {K : Nat} (h : RI p i) (hl : i.lim K) (hK : K ≤ 200000) {s : Nat} (h8 : 8 ≤ s) (hs : s ≤ 8900) :
    PC E 110 [p, .int .i64 s] (if splitOk i s then .tuple [.int .i64 (splitK i s).1, NN (splitK i s).2.1, NN (splitK i s).2.2, .int .i64 0] else .tuple [.int .i64 0, .lst 0 [], .lst 0 [], .int .i64 1]) := by
  obtain ⟨s1, P1, e1, s2, P2, e2, rfl, h1, h2⟩ := h
  have k1 := x_right h1 hl.1 hK
  have k2 := x_right h2 hl.2 hK
  have k3 := r_Cmp h1 h2
  by_cases r1 : exRight i.lo = true
  case neg =>
    rw [if_neg (fun h : splitOk i s => r1 h.1)]
    rw [Bool.not_eq_true] at r1
    rw [r1] at k1
    simp only [DP] at k1
    refine PC.of_body follows Tryz.func110 (by decide +kernel) rfl (by kernel_rfl) (Nat.le_of_ble_eq_true rfl) (walk ?_)
    simp only [Tryz.f110, go_sem]
    refine qif_df (by omega) ?_
    simp only [Tryz.f110, go_sem]
    refine qif_df (by omega) ?_
    simp only [Tryz.f110, go_sem]
    refine qcall_i (k1) ?_; simp only [Tryz.f110, go_sem]
    try rfl
  by_cases r2 : exRight i.hi = true
  case neg =>
    rw [if_neg (fun h : splitOk i s => r2 h.2.1)]
    rw [Bool.not_eq_true] at r2
    rw [r1] at k1
    rw [r2] at k2
    simp only [DP] at k1 k2
    refine PC.of_body follows Tryz.func110 (by decide +kernel) rfl (by kernel_rfl) (Nat.le_of_ble_eq_true rfl) (walk ?_)
    simp only [Tryz.f110, go_sem]
    refine qif_df (by omega) ?_
    simp only [Tryz.f110, go_sem]
    refine qif_df (by omega) ?_
    simp only [Tryz.f110, go_sem]
    refine qcall_i (k1) ?_; simp only [Tryz.f110, go_sem]
    refine qcall_i (k2) ?_; simp only [Tryz.f110, go_sem]
    try rfl
  by_cases r3 : cmpD i.lo i.hi ≤ 0
  case neg =>
    rw [if_neg (fun h : splitOk i s => r3 h.2.2.1)]
    rw [r1] at k1
    rw [r2] at k2
    simp only [DP] at k1 k2 k3
    refine PC.of_body follows Tryz.func110 (by decide +kernel) rfl (by kernel_rfl) (Nat.le_of_ble_eq_true rfl) (walk ?_)
    simp only [Tryz.f110, go_sem]
    refine qif_df (by omega) ?_
    simp only [Tryz.f110, go_sem]
    refine qif_df (by omega) ?_
    simp only [Tryz.f110, go_sem]
    refine qcall_i (k1) ?_; simp only [Tryz.f110, go_sem]
    refine qcall_i (k2) ?_; simp only [Tryz.f110, go_sem]
    refine qcall_i (k3) ?_; simp only [Tryz.f110, go_sem]
    refine qif_dt (by omega) ?_
    simp only [Tryz.f110, go_sem]
    try rfl
  have hL : (floorS i.lo s).2 ≤ 2 ^ (s + 12) := units_le r1 s _
  have hH : (ceilS i.hi s).2 ≤ 2 ^ (s + 12) := units_le r2 s _
  obtain ⟨b1, b2⟩ := ln2_big h8
  obtain ⟨b3, b4⟩ := ln2S_bits (s := s) (by omega)
  have hp1 := Nat.two_pow_pos (s - 1)
  have h13 : 2 ^ (s + 12) = 8192 * 2 ^ (s - 1) := by
    rw [show s + 12 = 13 + (s - 1) by omega, Nat.pow_add]
  have bL : bitLen (floorS i.lo s).2 ≤ s + 13 := by
    rw [bitLen_le, show s + 13 = s + 12 + 1 by omega, Nat.pow_succ]
    have := Nat.two_pow_pos (s + 12)
    omega
  have bH : bitLen (ceilS i.hi s).2 ≤ s + 13 := by
    rw [bitLen_le, show s + 13 = s + 12 + 1 by omega, Nat.pow_succ]
    have := Nat.two_pow_pos (s + 12)
    omega
  have k4 := s_Ln2 h8 (by omega)
  have k5 := x_floor h1 r1 (hl.1.fits (by omega)) (s := s) (by omega)
  have k6 := x_ceil h2 r2 (hl.2.fits (by omega)) (s := s) (by omega)
  have k7 := u_one
  have k8 := k_Shln (num_bits (x := 1) (by decide)) s (by rw [bit1]; omega)
  rw [Nat.one_mul] at k8
  have hb2s := bitLen_two2 s
  rw [r1] at k1
  rw [r2] at k2
  -- both cases of the sign, as one
  have main : ∀ (c : Bool) (q x y : Nat), (floorS i.lo s).1 = c → q ≤ 8192 →
      (c = true → PC E 175 [NN (floorS i.lo s).2, NN (ln2S s).lo] (.tuple [NN q, .int .i64 0])) →
      (c = false → PC E 178 [NN (floorS i.lo s).2, NN (ln2S s).hi] (.tuple [NN q, NN x, .int .i64 0])) →
      splitK i s = (if c = true then -(q : Int) else (q : Int), x, y) →
      (c = true → x = (plusS (floorS i.lo s) (q * (ln2S s).lo)).2 ∧ y = (plusS (ceilS i.hi s) (q * (ln2S s).hi)).2) →
      (c = false → y = (minusS (ceilS i.hi s) (q * (ln2S s).lo)).2) →
      PC E 110 [.agg [.bool s1, P1, .int .i64 e1, .bool s2, P2, .int .i64 e2], .int .i64 s] (if y ≤ 2 ^ s then .tuple [.int .i64 (if c = true then -(q : Int) else (q : Int)), NN x, NN y, .int .i64 0] else .tuple [.int .i64 0, .lst 0 [], .lst 0 [], .int .i64 1]) := by
    intro c q x y hc hq kU kD hsp hx hy
    have hqW := small_W hq
    have bq : bitLen q ≤ 14 := (bitLen_le _ _).2 (Nat.lt_of_le_of_lt hq (by decide))
    have k9 := k_Small (num_bits (x := q) (by omega))
    rw [if_pos hqW, decide_eq_true hqW] at k9
    have wq : IntKind.wrap .i64 (q : Int) = q := wrap64 (by omega) (by omega)
    have wq2 : IntKind.wrap .i64 (0 - (q : Int)) = -(q : Int) := by rw [wrap64 (by omega) (by omega)]; omega
    have m1 := k_mul (num_bits (x := q) (by omega)) (num_bits (x := (ln2S s).lo) (by omega)) (by omega)
    have m2 := k_mul (num_bits (x := q) (by omega)) (num_bits (x := (ln2S s).hi) (by omega)) (by omega)
    have n1 := mul_bits bq b3
    have n2 := mul_bits bq b4
    have yb : bitLen y ≤ 100000 := by
      cases c with
      | true =>
        rw [(hx rfl).2]
        unfold plusS
        split
        · split
          · exact Nat.le_trans (bitLen_mono (Nat.sub_le _ _)) (by omega)
          · exact Nat.le_trans (bitLen_mono (Nat.sub_le _ _)) (by omega)
        · exact Nat.le_trans (bitLen_add (n := 20000) (by omega) (by omega)) (by omega)
      | false =>
        rw [hy rfl]
        unfold minusS
        split
        · exact Nat.le_trans (bitLen_add (n := 20000) (by omega) (by omega)) (by omega)
        · split
          · exact Nat.le_trans (bitLen_mono (Nat.sub_le _ _)) (by omega)
          · exact Nat.le_trans (bitLen_mono (Nat.sub_le _ _)) (by omega)
    have k10 := k_Cmp (num_bits (x := y) (by omega)) (num_bits (x := 2 ^ s) (by omega))
    have hg := sgn_pos (y : Int) ((2 ^ s : Nat) : Int)
    cases c with
    | true =>
      obtain ⟨hx1, hx2⟩ := hx rfl
      have kUp := kU rfl
      have k11 := x_plus (n := floorS i.lo s) (m := q * (ln2S s).lo) (by omega) (by omega)
      have k12 := x_plus (n := ceilS i.hi s) (m := q * (ln2S s).hi) (by omega) (by omega)
      obtain ⟨X, hX⟩ : ∃ X, X = plusS (floorS i.lo s) (q * (ln2S s).lo) := ⟨_, rfl⟩
      obtain ⟨Y, hY⟩ : ∃ Y, Y = plusS (ceilS i.hi s) (q * (ln2S s).hi) := ⟨_, rfl⟩
      rw [← hX] at hx1 k11
      rw [← hY] at hx2 k12
      subst hx1
      subst hx2
      obtain ⟨R, hR⟩ : ∃ R, R = (if Y.2 ≤ 2 ^ s then PV.tuple [.int .i64 (if true = true then -(q : Int) else (q : Int)), NN X.2, NN Y.2, .int .i64 0] else .tuple [.int .i64 0, .lst 0 [], .lst 0 [], .int .i64 1]) := ⟨_, rfl⟩
      rw [← hR]
      rw [if_pos rfl] at hR
      unfold nbv at k5 k6 k11 k12
      rw [hc] at k5 k11
      generalize (floorS i.lo s).2 = L at *
      generalize ceilS i.hi s = Hc at *
      generalize (ln2S s).lo = c1 at *
      generalize (ln2S s).hi = c2 at *
      generalize q * c1 = m1v at *
      generalize q * c2 = m2v at *
      clear hsp hx hy kU kD hX hY
      simp only [DP, u, NN, NL] at k1 k2 k3 k4 k5 k6 k7 k8 k9 k10 k11 k12 m1 m2 kUp hR ⊢
      refine PC.of_body follows Tryz.func110 (by decide +kernel) rfl (by kernel_rfl) (Nat.le_of_ble_eq_true rfl) (walk ?_)
      simp only [Tryz.f110, go_sem]
      refine qif_df (by omega) ?_
      simp only [Tryz.f110, go_sem]
      refine qif_df (by omega) ?_
      simp only [Tryz.f110, go_sem]
      refine qcall_i (k1) ?_; simp only [Tryz.f110, go_sem]
      refine qcall_i (k2) ?_; simp only [Tryz.f110, go_sem]
      refine qcall_i (k3) ?_; simp only [Tryz.f110, go_sem]
      refine qif_df (by omega) ?_
      simp only [Tryz.f110, go_sem]
      refine qcall_i (k4) ?_; simp only [Tryz.f110, go_sem]
      refine qcall_i (k5) ?_; simp only [Tryz.f110, go_sem]
      refine qcall_i (k6) ?_; simp only [Tryz.f110, go_sem]
      refine qcall_i (kUp) ?_; simp only [Tryz.f110, go_sem]
      refine qcall_i (k9) ?_; simp only [Tryz.f110, wq, wq2, go_sem]
      refine qcall_i (m1) ?_; simp only [Tryz.f110, go_sem]
      refine qcall_i (m2) ?_; simp only [Tryz.f110, go_sem]
      refine qcall_i (k11) ?_; simp only [Tryz.f110, go_sem]
      refine qcall_i (k12) ?_; simp only [Tryz.f110, go_sem]
      refine qcall_i (k7) ?_; simp only [Tryz.f110, go_sem]
      refine qcall_i (k8) ?_; simp only [Tryz.f110, go_sem]
      refine qcall_i (k10) ?_; simp only [Tryz.f110, go_sem]
      by_cases hle : Y.2 ≤ 2 ^ s
      · rw [if_pos hle] at hR
        subst hR
        refine qif_df (by omega) ?_
        simp only [Tryz.f110, go_sem]
        try exact ⟨⟨rfl, rfl⟩, rfl, rfl⟩
        try rfl
      · rw [if_neg hle] at hR
        subst hR
        refine qif_dt (by omega) ?_
        simp only [Tryz.f110, go_sem]
        try rfl
    | false =>
      have hy1 := hy rfl
      have kDv := kD rfl
      have k11 := x_minus (n := ceilS i.hi s) (m := q * (ln2S s).lo) (by omega) (by omega)
      obtain ⟨Y, hY⟩ : ∃ Y, Y = minusS (ceilS i.hi s) (q * (ln2S s).lo) := ⟨_, rfl⟩
      rw [← hY] at hy1 k11
      subst hy1
      obtain ⟨R, hR⟩ : ∃ R, R = (if Y.2 ≤ 2 ^ s then PV.tuple [.int .i64 (if false = true then -(q : Int) else (q : Int)), NN x, NN Y.2, .int .i64 0] else .tuple [.int .i64 0, .lst 0 [], .lst 0 [], .int .i64 1]) := ⟨_, rfl⟩
      rw [← hR]
      rw [if_neg Bool.false_ne_true] at hR
      unfold nbv at k5 k6 k11
      rw [hc] at k5
      generalize (floorS i.lo s).2 = L at *
      generalize ceilS i.hi s = Hc at *
      generalize (ln2S s).lo = c1 at *
      generalize (ln2S s).hi = c2 at *
      generalize q * c1 = m1v at *
      clear hsp hx hy kU kD hY
      simp only [DP, u, NN, NL] at k1 k2 k3 k4 k5 k6 k7 k8 k9 k10 k11 m1 kDv hR ⊢
      refine PC.of_body follows Tryz.func110 (by decide +kernel) rfl (by kernel_rfl) (Nat.le_of_ble_eq_true rfl) (walk ?_)
      simp only [Tryz.f110, go_sem]
      refine qif_df (by omega) ?_
      simp only [Tryz.f110, go_sem]
      refine qif_df (by omega) ?_
      simp only [Tryz.f110, go_sem]
      refine qcall_i (k1) ?_; simp only [Tryz.f110, go_sem]
      refine qcall_i (k2) ?_; simp only [Tryz.f110, go_sem]
      refine qcall_i (k3) ?_; simp only [Tryz.f110, go_sem]
      refine qif_df (by omega) ?_
      simp only [Tryz.f110, go_sem]
      refine qcall_i (k4) ?_; simp only [Tryz.f110, go_sem]
      refine qcall_i (k5) ?_; simp only [Tryz.f110, go_sem]
      refine qcall_i (k6) ?_; simp only [Tryz.f110, go_sem]
      refine qcall_i (kDv) ?_; simp only [Tryz.f110, go_sem]
      refine qcall_i (k9) ?_; simp only [Tryz.f110, wq, wq2, go_sem]
      refine qcall_i (m1) ?_; simp only [Tryz.f110, go_sem]
      refine qcall_i (k11) ?_; simp only [Tryz.f110, go_sem]
      refine qcall_i (k7) ?_; simp only [Tryz.f110, go_sem]
      refine qcall_i (k8) ?_; simp only [Tryz.f110, go_sem]
      refine qcall_i (k10) ?_; simp only [Tryz.f110, go_sem]
      by_cases hle : Y.2 ≤ 2 ^ s
      · rw [if_pos hle] at hR
        subst hR
        refine qif_df (by omega) ?_
        simp only [Tryz.f110, go_sem]
        try exact ⟨⟨rfl, rfl⟩, rfl, rfl⟩
        try rfl
      · rw [if_neg hle] at hR
        subst hR
        refine qif_dt (by omega) ?_
        simp only [Tryz.f110, go_sem]
        try rfl
  by_cases hc : (floorS i.lo s).1 = true
  · have hsp : splitK i s = (-(cD (floorS i.lo s).2 (ln2S s).lo : Int), (plusS (floorS i.lo s) (cD (floorS i.lo s).2 (ln2S s).lo * (ln2S s).lo)).2, (plusS (ceilS i.hi s) (cD (floorS i.lo s).2 (ln2S s).lo * (ln2S s).hi)).2) := by
      unfold splitK; rw [if_pos hc]
    have kU := k_Up (x := (floorS i.lo s).2) (y := (ln2S s).lo) (by omega) (by omega) (by omega)
    have hq : cD (floorS i.lo s).2 (ln2S s).lo ≤ 8192 := cD_le (by omega) (Nat.le_trans hL (by rw [h13]; exact Nat.mul_le_mul_left _ b1))
    have := main true _ _ _ hc hq (fun _ => kU) (fun h => absurd h (by decide)) hsp (fun _ => ⟨rfl, rfl⟩) (fun h => absurd h (by decide))
    have hY : (splitK i s).2.2 = (plusS (ceilS i.hi s) (cD (floorS i.lo s).2 (ln2S s).lo * (ln2S s).hi)).2 := by rw [hsp]
    have hO : splitOk i s ↔ (plusS (ceilS i.hi s) (cD (floorS i.lo s).2 (ln2S s).lo * (ln2S s).hi)).2 ≤ 2 ^ s := ⟨fun h => by have := h.2.2.2; rwa [hY] at this, fun h => ⟨r1, r2, r3, by rw [hY]; exact h⟩⟩
    rw [hsp]
    refine PC.cast this ?_
    rw [if_pos (rfl : true = true)]
    by_cases hle : (plusS (ceilS i.hi s) (cD (floorS i.lo s).2 (ln2S s).lo * (ln2S s).hi)).2 ≤ 2 ^ s
    · rw [if_pos hle, if_pos (hO.2 hle)]
    · rw [if_neg hle, if_neg (fun h => hle (hO.1 h))]
  · have hsp : splitK i s = ((((floorS i.lo s).2 / (ln2S s).hi : Nat) : Int), (floorS i.lo s).2 % (ln2S s).hi, (minusS (ceilS i.hi s) ((floorS i.lo s).2 / (ln2S s).hi * (ln2S s).lo)).2) := by
      unfold splitK; rw [if_neg hc]
    have kD := k_Div (num_bits (x := (floorS i.lo s).2) (by omega)) (num_bits (x := (ln2S s).hi) (by omega)) (by omega) (by omega) (by omega)
    have hq : (floorS i.lo s).2 / (ln2S s).hi ≤ 8192 := Nat.div_le_of_le_mul (by
      rw [Nat.mul_comm]
      exact Nat.le_trans hL (by rw [h13]; exact Nat.mul_le_mul_left _ (by omega)))
    have := main false _ _ _ (by rw [Bool.not_eq_true] at hc; exact hc) hq (fun h => absurd h (by decide)) (fun _ => kD) hsp (fun h => absurd h (by decide)) (fun _ => rfl)
    have hY : (splitK i s).2.2 = (minusS (ceilS i.hi s) ((floorS i.lo s).2 / (ln2S s).hi * (ln2S s).lo)).2 := by rw [hsp]
    have hO : splitOk i s ↔ (minusS (ceilS i.hi s) ((floorS i.lo s).2 / (ln2S s).hi * (ln2S s).lo)).2 ≤ 2 ^ s := ⟨fun h => by have := h.2.2.2; rwa [hY] at this, fun h => ⟨r1, r2, r3, by rw [hY]; exact h⟩⟩
    rw [hsp]
    refine PC.cast this ?_
    rw [if_neg (Bool.false_ne_true)]
    by_cases hle : (minusS (ceilS i.hi s) ((floorS i.lo s).2 / (ln2S s).hi * (ln2S s).lo)).2 ≤ 2 ^ s
    · rw [if_pos hle, if_pos (hO.2 hle)]
    · rw [if_neg hle, if_neg (fun h => hle (hO.1 h))]
def expPN (a b s : Nat) : PN := if a ≤ b ∧ b ≤ 2 ^ s then expN a b s else ⟨0, 0⟩
def expI (i : Iv) (s : Nat) : Iv := withinS (expPN (splitK i s).2.1 (splitK i s).2.2 s).lo (expPN (splitK i s).2.1 (splitK i s).2.2 s).hi ((s : Int) - (splitK i s).1) false
theorem exR_bits {a b s : Nat} (hx : a ≤ 2 ^ s ∧ b ≤ 2 ^ s) : ∃ n, n ≤ s + 3 ∧ (exR a b s).1.lo ≤ n * 2 ^ s ∧ (exR a b s).1.hi ≤ n * 2 ^ s ∧ (exR a b s).2.hi ≤ 2 ^ s := by
  have main : ∀ (f : Nat) (sum term : PN) (n : Nat), ExJ s ⟨a, b⟩ (exR a b s) f sum term n → ∃ n, n ≤ s + 3 ∧ (exR a b s).1.lo ≤ n * 2 ^ s ∧ (exR a b s).1.hi ≤ n * 2 ^ s ∧ (exR a b s).2.hi ≤ 2 ^ s := by
    intro f
    induction f with
    | zero =>
      intro sum term n h
      obtain ⟨g, hg⟩ := h.fuel
      omega
    | succ f ih =>
      intro sum term n h
      obtain ⟨a1, a2, a3, a4, -, -⟩ := h.next hx
      have hr := h.res
      have hc := h.c
      unfold exLoop at hr
      by_cases h0 : term.lo = 0 ∧ b = 0
      · rw [if_pos h0] at hr
        rw [← hr]
        exact ⟨n, by omega, h.slo, h.shi, h.hi⟩
      rw [if_neg h0] at hr
      by_cases h1 : ((term.times ⟨a, b⟩ s).part n).hi ≤ 1
      · rw [if_pos h1] at hr
        rw [← hr]
        exact ⟨n + 1, by omega, a3, a4, a2⟩
      · exact ih _ _ _ (h.step hx h0 h1)
  exact main _ _ _ _ ExJ.start
theorem expPN_bits {a b s : Nat} (hs : s ≤ 9000) : PLe (expPN a b s) (s + 16) := by
  unfold expPN
  split
  · rename_i h
    obtain ⟨n, h1, h2, h3, h4⟩ := exR_bits (a := a) (b := b) (s := s) ⟨by omega, h.2⟩
    have e : (n + 2) * 2 ^ s = n * 2 ^ s + 2 * 2 ^ s := Nat.add_mul _ _ _
    unfold expN
    refine ⟨Nat.le_trans (bits_mul h2 (by omega)) (by omega), Nat.le_trans (bits_mul (s := s) (n := n + 2) (by show (exR a b s).1.hi + ((exR a b s).2.hi + (exR a b s).2.hi) ≤ _; omega) (by omega)) (by omega)⟩
  · exact ⟨Nat.le_trans (show bitLen 0 ≤ 0 by decide) (Nat.zero_le _), Nat.le_trans (show bitLen 0 ≤ 0 by decide) (Nat.zero_le _)⟩
theorem splitK_range {i : Iv} {s : Nat} (h8 : 8 ≤ s) (h : splitOk i s) : -8192 ≤ (splitK i s).1 ∧ (splitK i s).1 ≤ 8192 := by
  obtain ⟨r1, r2, -, -⟩ := h
  have hL : (floorS i.lo s).2 ≤ 2 ^ (s + 12) := units_le r1 s _
  obtain ⟨b1, b2⟩ := ln2_big h8
  have hp1 := Nat.two_pow_pos (s - 1)
  have h13 : 2 ^ (s + 12) = 8192 * 2 ^ (s - 1) := by
    rw [show s + 12 = 13 + (s - 1) by omega, Nat.pow_add]
  have hq : cD (floorS i.lo s).2 (ln2S s).lo ≤ 8192 := cD_le (by omega) (Nat.le_trans hL (by rw [h13]; exact Nat.mul_le_mul_left _ b1))
  have hq2 : (floorS i.lo s).2 / (ln2S s).hi ≤ 8192 := Nat.div_le_of_le_mul (by
    rw [Nat.mul_comm]
    exact Nat.le_trans hL (by rw [h13]; exact Nat.mul_le_mul_left _ (by omega)))
  unfold splitK
  generalize (floorS i.lo s).2 / (ln2S s).hi = q2 at *
  split <;> dsimp only <;> omega
theorem expI_lim {i : Iv} {s : Nat} (h8 : 8 ≤ s) (hs : s ≤ 8900) (h : splitOk i s) : (expI i s).lim 26200 := by
  obtain ⟨b1, b2⟩ := expPN_bits (a := (splitK i s).2.1) (b := (splitK i s).2.2) (s := s) (by omega)
  have hk := splitK_range h8 h
  exact withinS_lim (n := 9000) (J := 17200) _ (by omega) (by omega) ⟨by omega, by omega⟩ (by decide)
theorem splitK_bits {i : Iv} {s : Nat} (h8 : 8 ≤ s) (hs : s ≤ 8900) (h : splitOk i s) : bitLen (splitK i s).2.1 ≤ 10000 ∧ bitLen (splitK i s).2.2 ≤ 10000 := by
  have hy := h.2.2.2
  refine ⟨?_, Nat.le_trans (bitLen_mono hy) (by have := bitLen_two2 s; omega)⟩
  have hL : (floorS i.lo s).2 ≤ 2 ^ (s + 12) := units_le h.1 s _
  obtain ⟨b1, b2⟩ := ln2_big h8
  obtain ⟨b3, b4⟩ := ln2S_bits (s := s) (by omega)
  have hp1 := Nat.two_pow_pos (s - 1)
  have h13 : 2 ^ (s + 12) = 8192 * 2 ^ (s - 1) := by
    rw [show s + 12 = 13 + (s - 1) by omega, Nat.pow_add]
  have hq : cD (floorS i.lo s).2 (ln2S s).lo ≤ 8192 := cD_le (by omega) (Nat.le_trans hL (by rw [h13]; exact Nat.mul_le_mul_left _ b1))
  have bq : bitLen (cD (floorS i.lo s).2 (ln2S s).lo) ≤ 14 := (bitLen_le _ _).2 (Nat.lt_of_le_of_lt hq (by decide))
  have bL : bitLen (floorS i.lo s).2 ≤ s + 13 := by
    rw [bitLen_le, show s + 13 = s + 12 + 1 by omega, Nat.pow_succ]
    have := Nat.two_pow_pos (s + 12)
    omega
  unfold splitK
  split
  · rename_i hc
    dsimp only
    have := mul_bits bq b3
    unfold plusS
    rw [if_pos hc]
    split
    · exact Nat.le_trans (bitLen_mono (Nat.sub_le _ _)) (by omega)
    · exact Nat.le_trans (bitLen_mono (Nat.sub_le _ _)) (by omega)
  · dsimp only
    exact Nat.le_trans (bitLen_mono (Nat.mod_le _ _)) (by omega)
theorem x_Exp {p : PV} {i : Iv} {K : Nat} (h : RI p i) (hl : i.lim K) (hK : K ≤ 200000) {s : Nat} (h8 : 8 ≤ s) (hs : s ≤ 8900) :
    PC E 56 [p, .int .i64 s] (if splitOk i s then .tuple [(expI i s).pv, .int .i64 0] else .tuple [Iv.zero.pv, .int .i64 1]) := by
  have k1 := x_Split h hl hK h8 hs
  by_cases ho : splitOk i s
  case neg =>
    rw [if_neg ho] at k1 ⊢
    obtain ⟨s1, P1, e1, s2, P2, e2, rfl, h1, h2⟩ := h
    simp only [Iv.pv, Iv.zero, Dy.zero, NN0] at k1 ⊢
    refine PC.of_body follows Tryz.func56 (by decide +kernel) rfl (by kernel_rfl) (Nat.le_of_ble_eq_true rfl) (walk ?_)
    simp only [Tryz.f56, go_sem]
    refine qcall_i (k1) ?_; simp only [Tryz.f56, go_sem]
    try rfl
  rw [if_pos ho] at k1 ⊢
  obtain ⟨c1, c2⟩ := splitK_bits h8 hs ho
  have hk := splitK_range h8 ho
  have k2 := s_Exp (a := (splitK i s).2.1) (b := (splitK i s).2.2) h8 (by omega) (by omega) (by omega)
  obtain ⟨b1, b2⟩ := expPN_bits (a := (splitK i s).2.1) (b := (splitK i s).2.2) (s := s) (by omega)
  have k3 := s_Within (n := 9000) (J := 17200) (s := (s : Int) - (splitK i s).1) false (show bitLen (expPN (splitK i s).2.1 (splitK i s).2.2 s).lo ≤ 9000 by omega) (show bitLen (expPN (splitK i s).2.1 (splitK i s).2.2 s).hi ≤ 9000 by omega) ⟨by omega, by omega⟩ (by decide)
  have wk : IntKind.wrap .i64 ((s : Int) - (splitK i s).1) = (s : Int) - (splitK i s).1 := wrap64 (by omega) (by omega)
  have ke : ∃ er : Int, PC E 111 [NN (splitK i s).2.1, NN (splitK i s).2.2, .int .i64 s] (.tuple [NN (expPN (splitK i s).2.1 (splitK i s).2.2 s).lo, NN (expPN (splitK i s).2.1 (splitK i s).2.2 s).hi, .int .i64 er]) := by
    unfold expPN
    by_cases hc : (splitK i s).2.1 ≤ (splitK i s).2.2 ∧ (splitK i s).2.2 ≤ 2 ^ s
    · rw [if_pos hc] at k2 ⊢
      exact ⟨0, k2⟩
    · rw [if_neg hc] at k2 ⊢
      exact ⟨1, k2⟩
  obtain ⟨er, k4⟩ := ke
  unfold expI
  generalize withinS (expPN (splitK i s).2.1 (splitK i s).2.2 s).lo (expPN (splitK i s).2.1 (splitK i s).2.2 s).hi ((s : Int) - (splitK i s).1) false = R at *
  generalize (expPN (splitK i s).2.1 (splitK i s).2.2 s).lo = A at *
  generalize (expPN (splitK i s).2.1 (splitK i s).2.2 s).hi = B at *
  obtain ⟨s1, P1, e1, s2, P2, e2, rfl, h1, h2⟩ := h
  generalize (splitK i s).2.1 = a at *
  generalize (splitK i s).2.2 = b at *
  generalize (splitK i s).1 = k at *
  clear k2
  simp only [Iv.pv, NN, NL] at k1 k3 k4 ⊢
  refine PC.of_body follows Tryz.func56 (by decide +kernel) rfl (by kernel_rfl) (Nat.le_of_ble_eq_true rfl) (walk ?_)
  simp only [Tryz.f56, go_sem]
  refine qcall_i (k1) ?_; simp only [Tryz.f56, go_sem]
  refine qcall_i (k4) ?_; simp only [Tryz.f56, wk, go_sem]
  refine qcall_i (k3) ?_; simp only [Tryz.f56, go_sem]
  try rfl
end
section
open Go PG Go.Proofs
open XX
def sgnD (d : Dy) (neg : Bool) : Dy := if neg = true then d.neg else d
theorem sgnD_lim {K : Nat} {d : Dy} (h : Lim K d) (neg : Bool) : Lim K (sgnD d neg) := by
  unfold sgnD; split
  · exact h.neg
  · exact h
theorem sgnD_m {d : Dy} {neg : Bool} : (sgnD d neg).m = d.m := by
  unfold sgnD Dy.neg
  split
  · split
    · rename_i h; rw [h]; rfl
    · rfl
  · rfl
theorem r_MinusF {p : PV} {d : Dy} (h : RD p d) (hf : d.fits) : PC E 102 [p] d.neg.pv := by
  obtain ⟨r, -, h2, h3⟩ := r_Minus h
  rw [h2 hf] at h3
  exact h3
theorem d_signed {p : PV} {d : Dy} (h : RD p d) (hf : d.fits) (neg : Bool) : ∃ q, RD q (sgnD d neg) ∧ PC E 170 [p, .bool neg] q := by
  have k1 := r_MinusF h hf
  cases neg with
  | true =>
    refine ⟨d.neg.pv, RD.fit (neg_ok h.ok) (by
      have := h.bits
      unfold Dy.neg
      split
      · exact Nat.le_trans (show bitLen 0 ≤ 0 by decide) (Nat.zero_le _)
      · exact this) (by
      unfold Dy.neg
      split
      · decide
      · exact hf), ?_⟩
    obtain ⟨s, q, x, e, rfl, -⟩ := h
    simp only [Dy.pv, DP, NN, NL] at k1 ⊢
    refine PC.of_body follows Tryz.func170 (by decide +kernel) rfl (by kernel_rfl) (Nat.le_of_ble_eq_true rfl) (walk ?_)
    simp only [Tryz.f170, go_sem]
    refine qcall_i (k1) ?_; simp only [Tryz.f170, go_sem]
    try rfl
  | false =>
    refine ⟨p, h, ?_⟩
    obtain ⟨s, q, x, e, rfl, -⟩ := h
    simp only [DP]
    refine PC.of_body follows Tryz.func170 (by decide +kernel) rfl (by kernel_rfl) (Nat.le_of_ble_eq_true rfl) (walk ?_)
    simp only [Tryz.f170, go_sem]
    try rfl
def decR (i : Iv) : Prop := i.right ∧ 0 < i.lo.sg
instance (i : Iv) : Decidable (decR i) := inferInstanceAs (Decidable (_ ∧ _))
theorem d_right {p : PV} {i : Iv} (h : RI p i) {dir : Int} (hd : 0 ≤ dir ∧ dir ≤ 3) : PC E 169 [p, .int .i64 dir] (.bool (decide (decR i))) := by
  have k1 := q_Right h
  obtain ⟨s1, P1, e1, s2, P2, e2, rfl, h1, h2⟩ := h
  have k2 := r_Sign h1
  simp only [DP] at k2
  refine PC.of_body follows Tryz.func169 (by decide +kernel) rfl (by kernel_rfl) (Nat.le_of_ble_eq_true rfl) (walk ?_)
  by_cases hr : i.right
  case neg =>
    rw [decide_eq_false hr] at k1
    rw [decide_eq_false (fun h : decR i => hr h.1)]
    simp only [Tryz.f169, go_sem]
    refine qcall_i (k1) ?_; simp only [Tryz.f169, go_sem]
    try rfl
  rw [decide_eq_true hr] at k1
  by_cases hs : 0 < i.lo.sg
  case neg =>
    rw [decide_eq_false (fun h : decR i => hs h.2)]
    simp only [Tryz.f169, go_sem]
    refine qcall_i (k1) ?_; simp only [Tryz.f169, go_sem]
    refine qcall_i (k2) ?_; simp only [Tryz.f169, go_sem]
    refine qif_df (by omega) ?_
    simp only [Tryz.f169, go_sem]
    try rfl
  rw [decide_eq_true (show decR i from ⟨hr, hs⟩)]
  simp only [Tryz.f169, go_sem]
  refine qcall_i (k1) ?_; simp only [Tryz.f169, go_sem]
  refine qcall_i (k2) ?_; simp only [Tryz.f169, go_sem]
  refine qif_dt (by omega) ?_
  simp only [Tryz.f169, go_sem]
  refine qif_dt (by omega) ?_
  simp only [Tryz.f169, go_sem]
  try (simp; omega)
def roundS (i : Iv) (neg : Bool) (dir : Int) : Option (Nat × Nat) :=
  if (decR i ∧ ¬ (i.lo.fits ∧ brkP i.lo) ∧ ¬ (i.hi.fits ∧ brkP i.hi)) ∧ toS (sgnD i.lo neg) false dir = toS (sgnD i.hi neg) false dir then some (toS (sgnD i.lo neg) false dir) else none
def bfoPV (o : Option (Nat × Nat)) : PV := match o with
  | some r => .tuple [u r.1, .int .u8 r.2, .bool true]
  | none => .tuple [u 0, .int .u8 0, .bool false]
theorem toE_of {d : Dy} {dir : Int} (hf : d.fits) (hd : 0 ≤ dir ∧ dir ≤ 3) : toE d false dir := ⟨hf, hd.1, hd.2, fun h => absurd h.1 (by decide)⟩
set_option maxHeartbeats 2000000 in
theorem d_Round {p : PV} {i : Iv} {K : Nat} (h : RI p i) (hl : i.lim K) (hK : K ≤ 200000) (neg : Bool) {dir : Int} (hd : 0 ≤ dir ∧ dir ≤ 3) :
    PC E 108 [p, .bool neg, .int .i64 dir] (bfoPV (roundS i neg dir)) := by
  have k1 := d_right h hd
  obtain ⟨s1, P1, e1, s2, P2, e2, rfl, h1, h2⟩ := h
  have k2 := c_Break h1
  have k3 := c_Break h2
  have f1 := hl.1.fits (by omega)
  have f2 := hl.2.fits (by omega)
  obtain ⟨q1, g1, k4⟩ := d_signed h1 f1 neg
  obtain ⟨q2, g2, k5⟩ := d_signed h2 f2 neg
  have l1 := sgnD_lim hl.1 neg
  have l2 := sgnD_lim hl.2 neg
  have k6 := r_To g1 (by have := l1.bits; omega) false dir
  have k7 := r_To g2 (by have := l2.bits; omega) false dir
  rw [if_pos (toE_of (l1.fits (by omega)) hd)] at k6
  rw [if_pos (toE_of (l2.fits (by omega)) hd)] at k7
  unfold roundS
  obtain ⟨s3, P3, x3, e3, rfl, -⟩ := g1
  obtain ⟨s4, P4, x4, e4, rfl, -⟩ := g2
  generalize toS (sgnD i.lo neg) false dir = A at *
  generalize toS (sgnD i.hi neg) false dir = B at *
  obtain ⟨a1, a2⟩ := A
  obtain ⟨b1, b2⟩ := B
  by_cases c1 : decR i
  case neg =>
    rw [if_neg (fun h => c1 h.1.1)]
    rw [decide_eq_false c1] at k1
    simp only [DP, bfoPV, u] at k1 ⊢
    refine PC.of_body follows Tryz.func108 (by decide +kernel) rfl (by kernel_rfl) (Nat.le_of_ble_eq_true rfl) (walk ?_)
    simp only [Tryz.f108, go_sem]
    refine qcall_i (k1) ?_; simp only [Tryz.f108, go_sem]
    try rfl
  rw [decide_eq_true c1] at k1
  by_cases c2 : i.lo.fits ∧ brkP i.lo
  case pos =>
    rw [if_neg (fun h => h.1.2.1 c2)]
    rw [decide_eq_true c2] at k2
    simp only [DP, bfoPV, u] at k1 k2 ⊢
    refine PC.of_body follows Tryz.func108 (by decide +kernel) rfl (by kernel_rfl) (Nat.le_of_ble_eq_true rfl) (walk ?_)
    simp only [Tryz.f108, go_sem]
    refine qcall_i (k1) ?_; simp only [Tryz.f108, go_sem]
    refine qcall_i (k2) ?_; simp only [Tryz.f108, go_sem]
    try rfl
  rw [decide_eq_false c2] at k2
  by_cases c3 : i.hi.fits ∧ brkP i.hi
  case pos =>
    rw [if_neg (fun h => h.1.2.2 c3)]
    rw [decide_eq_true c3] at k3
    simp only [DP, bfoPV, u] at k1 k2 k3 ⊢
    refine PC.of_body follows Tryz.func108 (by decide +kernel) rfl (by kernel_rfl) (Nat.le_of_ble_eq_true rfl) (walk ?_)
    simp only [Tryz.f108, go_sem]
    refine qcall_i (k1) ?_; simp only [Tryz.f108, go_sem]
    refine qcall_i (k2) ?_; simp only [Tryz.f108, go_sem]
    refine qcall_i (k3) ?_; simp only [Tryz.f108, go_sem]
    try rfl
  rw [decide_eq_false c3] at k3
  dsimp only at k6 k7
  by_cases c4 : a1 = b1
  case neg =>
    rw [if_neg (fun h => c4 (Prod.mk.inj h.2).1)]
    simp only [DP, bfoPV, u] at k1 k2 k3 k4 k5 k6 k7 ⊢
    refine PC.of_body follows Tryz.func108 (by decide +kernel) rfl (by kernel_rfl) (Nat.le_of_ble_eq_true rfl) (walk ?_)
    simp only [Tryz.f108, go_sem]
    refine qcall_i (k1) ?_; simp only [Tryz.f108, go_sem]
    refine qcall_i (k2) ?_; simp only [Tryz.f108, go_sem]
    refine qcall_i (k3) ?_; simp only [Tryz.f108, go_sem]
    refine qcall_i (k4) ?_; simp only [Tryz.f108, go_sem]
    refine qcall_i (k6) ?_; simp only [Tryz.f108, go_sem]
    refine qcall_i (k5) ?_; simp only [Tryz.f108, go_sem]
    refine qcall_i (k7) ?_; simp only [Tryz.f108, go_sem]
    refine qif_dt (by omega) ?_
    simp only [Tryz.f108, go_sem]
    try rfl
  by_cases c5 : a2 = b2
  case neg =>
    rw [if_neg (fun h => c5 (Prod.mk.inj h.2).2)]
    simp only [DP, bfoPV, u] at k1 k2 k3 k4 k5 k6 k7 ⊢
    refine PC.of_body follows Tryz.func108 (by decide +kernel) rfl (by kernel_rfl) (Nat.le_of_ble_eq_true rfl) (walk ?_)
    simp only [Tryz.f108, go_sem]
    refine qcall_i (k1) ?_; simp only [Tryz.f108, go_sem]
    refine qcall_i (k2) ?_; simp only [Tryz.f108, go_sem]
    refine qcall_i (k3) ?_; simp only [Tryz.f108, go_sem]
    refine qcall_i (k4) ?_; simp only [Tryz.f108, go_sem]
    refine qcall_i (k6) ?_; simp only [Tryz.f108, go_sem]
    refine qcall_i (k5) ?_; simp only [Tryz.f108, go_sem]
    refine qcall_i (k7) ?_; simp only [Tryz.f108, go_sem]
    refine qif_df (by omega) ?_
    simp only [Tryz.f108, go_sem]
    refine qif_dt (by omega) ?_
    simp only [Tryz.f108, go_sem]
    try rfl
  subst c4 c5
  rw [if_pos ⟨⟨c1, c2, c3⟩, rfl⟩]
  simp only [DP, bfoPV, u] at k1 k2 k3 k4 k5 k6 k7 ⊢
  refine PC.of_body follows Tryz.func108 (by decide +kernel) rfl (by kernel_rfl) (Nat.le_of_ble_eq_true rfl) (walk ?_)
  simp only [Tryz.f108, go_sem]
  refine qcall_i (k1) ?_; simp only [Tryz.f108, go_sem]
  refine qcall_i (k2) ?_; simp only [Tryz.f108, go_sem]
  refine qcall_i (k3) ?_; simp only [Tryz.f108, go_sem]
  refine qcall_i (k4) ?_; simp only [Tryz.f108, go_sem]
  refine qcall_i (k6) ?_; simp only [Tryz.f108, go_sem]
  refine qcall_i (k5) ?_; simp only [Tryz.f108, go_sem]
  refine qcall_i (k7) ?_; simp only [Tryz.f108, go_sem]
  try (refine qif_df (by omega) ?_)
  try simp only [Tryz.f108, go_sem]
  try (refine qif_df (by omega) ?_)
  try simp only [Tryz.f108, go_sem]
  try rfl
def dwn (neg : Bool) (dir : Int) : Bool := decide (dir = 1) || ((decide (dir = 3) && !neg) || (decide (dir = 2) && neg))
theorem d_down (neg : Bool) (dir : Int) : PC E 171 [.bool neg, .int .i64 dir] (.bool (dwn neg dir)) := by
  obtain ⟨R, hR⟩ : ∃ R, R = PV.bool (dwn neg dir) := ⟨_, rfl⟩
  rw [← hR]
  unfold dwn at hR
  refine PC.of_body follows Tryz.func171 (by decide +kernel) rfl (by kernel_rfl) (Nat.le_of_ble_eq_true rfl) (walk ?_)
  simp only [Tryz.f171, go_sem]
  refine qif_d (fun h1 => ?_) (fun h1 => ?_)
  · rw [decide_eq_true h1] at hR
    simp only [Tryz.f171, go_sem]
    rw [hR]; rfl
  rw [decide_eq_false h1] at hR
  simp only [Tryz.f171, go_sem]
  refine qif_d (fun h3 => ?_) (fun h3 => ?_)
  · rw [decide_eq_true h3, decide_eq_false (show ¬ dir = 2 by omega)] at hR
    cases neg
    · simp only [Tryz.f171, go_sem]
      rw [hR]; rfl
    · simp only [Tryz.f171, go_sem]
      refine qif_df (by omega) ?_
      simp only [Tryz.f171, go_sem]
      rw [hR]; rfl
  rw [decide_eq_false h3] at hR
  simp only [Tryz.f171, go_sem]
  refine qif_d (fun h2 => ?_) (fun h2 => ?_)
  · rw [decide_eq_true h2] at hR
    simp only [Tryz.f171, go_sem]
    rw [hR]; cases neg <;> rfl
  rw [decide_eq_false h2] at hR
  simp only [Tryz.f171, go_sem]
  rw [hR]; rfl
def looseD (i : Iv) (neg : Bool) (dir : Int) : Dy := sgnD (if dwn neg dir = true then i.hi else i.lo) neg
def looseS (i : Iv) (neg : Bool) (dir : Int) : Option (Nat × Nat) := if decR i then some (toS (looseD i neg dir) true dir) else none
theorem sg_m0 {d : Dy} (h : 0 < d.sg) : d.m ≠ 0 := fun h0 => by unfold Dy.sg at h; rw [if_pos h0] at h; omega
theorem decR_hi {i : Iv} (h : decR i) : 0 < i.hi.sg := by
  refine Int.not_le.1 fun hle => ?_
  have h1 := h.1.2.2
  have h3 := h.2
  rw [cmpD_sg (.inl (by omega))] at h1
  have := (sgn_pos i.lo.sg i.hi.sg).2 (by omega)
  omega
theorem d_Loose {p : PV} {i : Iv} {K : Nat} (h : RI p i) (hl : i.lim K) (hK : K ≤ 200000) (neg : Bool) {dir : Int} (hd : 0 ≤ dir ∧ dir ≤ 3) :
    PC E 109 [p, .bool neg, .int .i64 dir] (bfoPV (looseS i neg dir)) := by
  have k1 := d_right h hd
  have k2 := d_down neg dir
  obtain ⟨s1, P1, e1, s2, P2, e2, rfl, h1, h2⟩ := h
  unfold looseS looseD
  by_cases c1 : decR i
  case neg =>
    rw [if_neg c1]
    rw [decide_eq_false c1] at k1
    simp only [bfoPV, u] at k1 ⊢
    refine PC.of_body follows Tryz.func109 (by decide +kernel) rfl (by kernel_rfl) (Nat.le_of_ble_eq_true rfl) (walk ?_)
    simp only [Tryz.f109, go_sem]
    refine qcall_i (k1) ?_; simp only [Tryz.f109, go_sem]
    try rfl
  rw [if_pos c1]
  rw [decide_eq_true c1] at k1
  have m1 := sg_m0 c1.2
  have m2 := sg_m0 (decR_hi c1)
  cases hdw : dwn neg dir with
  | true =>
    rw [hdw] at k2
    rw [if_pos rfl]
    obtain ⟨q2, g2, k5⟩ := d_signed h2 (hl.2.fits (by omega)) neg
    have l2 := sgnD_lim hl.2 neg
    have k7 := r_To g2 (by have := l2.bits; omega) true dir
    rw [if_pos ⟨l2.fits (by omega), hd.1, hd.2, fun h => m2 (by have := h.2; rwa [sgnD_m] at this)⟩] at k7
    generalize toS (sgnD i.hi neg) true dir = A at *
    obtain ⟨a1, a2⟩ := A
    obtain ⟨s4, P4, x4, e4, rfl, -⟩ := g2
    simp only [DP, bfoPV, u] at k1 k5 k7 ⊢
    refine PC.of_body follows Tryz.func109 (by decide +kernel) rfl (by kernel_rfl) (Nat.le_of_ble_eq_true rfl) (walk ?_)
    simp only [Tryz.f109, go_sem]
    refine qcall_i (k1) ?_; simp only [Tryz.f109, go_sem]
    refine qcall_i (k2) ?_; simp only [Tryz.f109, go_sem]
    refine qcall_i (k5) ?_; simp only [Tryz.f109, go_sem]
    refine qcall_i (k7) ?_; simp only [Tryz.f109, go_sem]
    try rfl
  | false =>
    rw [hdw] at k2
    rw [if_neg Bool.false_ne_true]
    obtain ⟨q2, g2, k5⟩ := d_signed h1 (hl.1.fits (by omega)) neg
    have l2 := sgnD_lim hl.1 neg
    have k7 := r_To g2 (by have := l2.bits; omega) true dir
    rw [if_pos ⟨l2.fits (by omega), hd.1, hd.2, fun h => m1 (by have := h.2; rwa [sgnD_m] at this)⟩] at k7
    generalize toS (sgnD i.lo neg) true dir = A at *
    obtain ⟨a1, a2⟩ := A
    obtain ⟨s4, P4, x4, e4, rfl, -⟩ := g2
    simp only [DP, bfoPV, u] at k1 k5 k7 ⊢
    refine PC.of_body follows Tryz.func109 (by decide +kernel) rfl (by kernel_rfl) (Nat.le_of_ble_eq_true rfl) (walk ?_)
    simp only [Tryz.f109, go_sem]
    refine qcall_i (k1) ?_; simp only [Tryz.f109, go_sem]
    refine qcall_i (k2) ?_; simp only [Tryz.f109, go_sem]
    refine qcall_i (k5) ?_; simp only [Tryz.f109, go_sem]
    refine qcall_i (k7) ?_; simp only [Tryz.f109, go_sem]
    try rfl
end
section
open Go PG Go.Proofs
open XX
def nearD : Dy := mkD false 1 (-60)
def boundS (z : Iv) (sign : Int) : Int :=
  if sign = 0 ∨ ¬ z.right then 0 else if 0 ≤ cmpD z.lo (norm 710 0) then 1 else if cmpD z.hi (norm (-746) 0) ≤ 0 then 2 else if sign = 1 ∧ cmpD z.hi nearD < 0 then 3 else if sign = -1 ∧ 0 < cmpD z.lo nearD.neg then 4 else 0
theorem near_RD : RD (DP false (.lst 1 [.int .u64 1]) (-60)) nearD := RD.one (x := 1) (by decide)
set_option maxHeartbeats 2000000 in
theorem b_Of {p : PV} {z : Iv} {K : Nat} (h : RI p z) (hl : z.lim K) (hK : K ≤ 200000) (sign : Int) : PC E 51 [p, .int .i64 sign] (.int .i64 (boundS z sign)) := by
  have k1 := q_Right h
  obtain ⟨s1, P1, e1, s2, P2, e2, rfl, h1, h2⟩ := h
  have k2 := c_dOf 710 (by decide) (by decide)
  have k3 := c_dOf (-746) (by decide) (by decide)
  have g2 : RD (norm 710 0).pv (norm 710 0) := (Lim.norm (K := 20) (z := 710) (by decide) (by decide)).RD (by decide)
  have g3 : RD (norm (-746) 0).pv (norm (-746) 0) := (Lim.norm (K := 20) (z := -746) (by decide) (by decide)).RD (by decide)
  have k4 := r_Cmp h1 g2
  have k5 := r_Cmp h2 g3
  have k6 := r_Cmp h2 near_RD
  have k7 := r_MinusF near_RD (by decide)
  have g4 : RD nearD.neg.pv nearD.neg := RD.fit (neg_ok near_RD.ok) (by decide) (by decide)
  have k8 := r_Cmp h1 g4
  obtain ⟨R, hR⟩ : ∃ R, R = PV.int .i64 (boundS z sign) := ⟨_, rfl⟩
  rw [← hR]
  unfold boundS at hR
  generalize nearD.neg = N1 at *
  generalize nearD = N0 at *
  generalize norm 710 0 = N2 at *
  generalize norm (-746) 0 = N3 at *
  simp only [DP, Dy.pv, NN, NL] at k2 k3 k4 k5 k6 k7 k8
  refine PC.of_body follows Tryz.func51 (by decide +kernel) rfl (by kernel_rfl) (Nat.le_of_ble_eq_true rfl) (walk ?_)
  simp only [Tryz.f51, go_sem]
  by_cases c0 : sign = 0
  · rw [if_pos (.inl c0)] at hR
    subst hR
    refine qif_dt c0 ?_
    simp only [Tryz.f51, go_sem]
    try rfl
  refine qif_df c0 ?_
  simp only [Tryz.f51, go_sem]
  by_cases c1 : z.right
  case neg =>
    rw [decide_eq_false c1] at k1
    rw [if_pos (.inr c1)] at hR
    subst hR
    refine qcall_i (k1) ?_; simp only [Tryz.f51, go_sem]
    try rfl
  rw [decide_eq_true c1] at k1
  rw [if_neg (fun h => h.elim c0 (fun h => h c1))] at hR
  refine qcall_i (k1) ?_; simp only [Tryz.f51, go_sem]
  refine qcall_i (k2) ?_; simp only [Tryz.f51, go_sem]
  refine qcall_i (k4) ?_; simp only [Tryz.f51, go_sem]
  by_cases c2 : 0 ≤ cmpD z.lo N2
  · rw [if_pos c2] at hR
    subst hR
    refine qif_dt c2 ?_
    simp only [Tryz.f51, go_sem]
    try rfl
  rw [if_neg c2] at hR
  refine qif_df c2 ?_
  simp only [Tryz.f51, go_sem]
  refine qcall_i (k3) ?_; simp only [Tryz.f51, go_sem]
  refine qcall_i (k5) ?_; simp only [Tryz.f51, go_sem]
  by_cases c3 : cmpD z.hi N3 ≤ 0
  · rw [if_pos c3] at hR
    subst hR
    refine qif_dt c3 ?_
    simp only [Tryz.f51, go_sem]
    try rfl
  rw [if_neg c3] at hR
  refine qif_df c3 ?_
  simp only [Tryz.f51, go_sem]
  by_cases c4 : sign = 1
  · refine qif_dt c4 ?_
    simp only [Tryz.f51, go_sem]
    refine qcall_i (k6) ?_; simp only [Tryz.f51, go_sem]
    by_cases c5 : cmpD z.hi N0 < 0
    · rw [if_pos ⟨c4, c5⟩] at hR
      subst hR
      refine qif_dt c5 ?_
      simp only [Tryz.f51, go_sem]
      try rfl
    · rw [if_neg (fun h => c5 h.2), if_neg (fun h => by omega)] at hR
      subst hR
      refine qif_df c5 ?_
      simp only [Tryz.f51, go_sem]
      refine qif_df (by omega) ?_
      simp only [Tryz.f51, go_sem]
      try rfl
  rw [if_neg (fun h => c4 h.1)] at hR
  refine qif_df c4 ?_
  simp only [Tryz.f51, go_sem]
  by_cases c6 : sign = -1
  · refine qif_dt c6 ?_
    simp only [Tryz.f51, go_sem]
    refine qcall_i (k7) ?_; simp only [Tryz.f51, go_sem]
    refine qcall_i (k8) ?_; simp only [Tryz.f51, go_sem]
    by_cases c7 : 0 < cmpD z.lo N1
    · rw [if_pos ⟨c6, c7⟩] at hR
      subst hR
      refine qif_dt c7 ?_
      simp only [Tryz.f51, go_sem]
      try rfl
    · rw [if_neg (fun h => c7 h.2)] at hR
      subst hR
      refine qif_df c7 ?_
      simp only [Tryz.f51, go_sem]
      try rfl
  · rw [if_neg (fun h => c6 h.1)] at hR
    subst hR
    refine qif_df c6 ?_
    simp only [Tryz.f51, go_sem]
    try rfl
def classS (c : Int) (neg : Bool) (dir : Int) : Nat × Nat :=
  if c = 1 then (withS neg (if dir = 0 ∨ upw dir neg = true then INF else MAX), 5) else if c = 2 then (withS neg (if upw dir neg = true then 1 else 0), 3)
  else if c = 3 then toS (mkD neg 1 0) true dir else toS (mkD neg 18014398509481983 (-54)) true dir
set_option maxHeartbeats 2000000 in
theorem b_Result {c : Int} (hc : 1 ≤ c ∧ c ≤ 4) (neg : Bool) {dir : Int} (hd : 0 ≤ dir ∧ dir ≤ 3) : PC E 53 [.int .i64 c, .bool neg, .int .i64 dir] (bfoPV (some (classS c neg dir))) := by
  have k1 := c_Over neg dir
  have k2 := c_Under neg dir
  have g1 : RD (DP neg (.lst 1 [.int .u64 1]) 0) (mkD neg 1 0) := RD.one (x := 1) (by decide)
  have g2 : RD (DP neg (.lst 1 [.int .u64 18014398509481983]) (-54)) (mkD neg 18014398509481983 (-54)) := RD.one (x := 18014398509481983) (by decide)
  have k3 := r_To g1 (by cases neg <;> decide) true dir
  have k4 := r_To g2 (by cases neg <;> decide) true dir
  rw [if_pos ⟨by cases neg <;> decide, hd.1, hd.2, fun h => absurd h.2 (by cases neg <;> decide)⟩] at k3 k4
  obtain ⟨R, hR⟩ : ∃ R, R = bfoPV (some (classS c neg dir)) := ⟨_, rfl⟩
  rw [← hR]
  unfold bfoPV classS at hR
  generalize toS (mkD neg 1 0) true dir = A3 at *
  generalize toS (mkD neg 18014398509481983 (-54)) true dir = A4 at *
  generalize withS neg (if dir = 0 ∨ upw dir neg = true then INF else MAX) = A1 at *
  generalize withS neg (if upw dir neg = true then 1 else 0) = A2 at *
  obtain ⟨a1, a2⟩ := A3
  obtain ⟨b1, b2⟩ := A4
  simp only [DP, u] at k1 k2 k3 k4 hR
  refine PC.of_body follows Tryz.func53 (by decide +kernel) rfl (by kernel_rfl) (Nat.le_of_ble_eq_true rfl) (walk ?_)
  simp only [Tryz.f53, go_sem]
  refine qif_df (by omega) ?_
  simp only [Tryz.f53, go_sem]
  refine qif_df (by omega) ?_
  simp only [Tryz.f53, List.range_zero, List.getD_cons_zero, List.getD_cons_succ, Nat.reduceMod, go_sem]
  by_cases c1 : c = 1
  · rw [if_pos c1] at hR
    subst hR
    refine qif_dt c1 ?_
    simp only [Tryz.f53, go_sem]
    refine qcall_i (k1) ?_; simp only [Tryz.f53, go_sem]
    try rfl
  rw [if_neg c1] at hR
  refine qif_df c1 ?_
  simp only [Tryz.f53, go_sem]
  by_cases c2 : c = 2
  · rw [if_pos c2] at hR
    subst hR
    refine qif_dt c2 ?_
    simp only [Tryz.f53, go_sem]
    refine qcall_i (k2) ?_; simp only [Tryz.f53, go_sem]
    try rfl
  rw [if_neg c2] at hR
  refine qif_df c2 ?_
  simp only [Tryz.f53, go_sem]
  by_cases c3 : c = 3
  · rw [if_pos c3] at hR
    subst hR
    refine qif_dt c3 ?_
    simp only [Tryz.f53, List.range_zero, List.getD_cons_zero, List.getD_cons_succ, Nat.reduceMod, go_sem]
    refine qcall_i (k3) ?_; simp only [Tryz.f53, go_sem]
    try rfl
  rw [if_neg c3] at hR
  subst hR
  refine qif_df c3 ?_
  simp only [Tryz.f53, go_sem]
  refine qif_dt (by omega) ?_
  simp only [Tryz.f53, List.range_zero, List.getD_cons_zero, List.getD_cons_succ, Nat.reduceMod, go_sem]
  refine qcall_i (k4) ?_; simp only [Tryz.f53, go_sem]
  try rfl
end
end
section
section
open Go PG Go.Proofs
open XX
def planL : Nat → Nat → Nat → List Nat
  | 0, _, t => [t]
  | f + 1, n, t => if n < t then n :: planL f (2 * n) t else [t]
def planOk (f t : Int) : Prop := 32 ≤ f ∧ f ≤ t ∧ 64 ≤ t ∧ t ≤ 8192
instance (f t : Int) : Decidable (planOk f t) := inferInstanceAs (Decidable (_ ∧ _))
def planS (f t : Int) : List Nat := planL 8 f.toNat t.toNat
def IL (l : List Nat) : List PV := l.map fun n : Nat => PV.int .i64 (n : Int)
theorem planL_len : ∀ f n t, (planL f n t).length ≤ f + 1
  | 0, n, t => Nat.le_refl _
  | f + 1, n, t => by
    unfold planL
    split
    · have := planL_len f (2 * n) t
      simp; omega
    · simp
theorem planL_range : ∀ f n t, 32 ≤ n → 32 ≤ t → ∀ x ∈ planL f n t, 32 ≤ x ∧ x ≤ t
  | 0, n, t, hn, ht, x, hx => by
    unfold planL at hx
    rw [List.mem_singleton] at hx; omega
  | f + 1, n, t, hn, ht, x, hx => by
    unfold planL at hx
    split at hx
    · rename_i h
      rcases List.mem_cons.1 hx with h1 | h1
      · omega
      · exact planL_range f (2 * n) t (by omega) ht x h1
    · rw [List.mem_singleton] at hx; omega
theorem planS_range {f t : Int} (h : planOk f t) {x : Nat} (hx : x ∈ planS f t) : 32 ≤ x ∧ (x : Int) ≤ t ∧ x ≤ 8192 := by
  obtain ⟨h1, h2, h3, h4⟩ := h
  have := planL_range 8 f.toNat t.toNat (by omega) (by omega) x hx
  omega
set_option maxHeartbeats 2000000 in
theorem c_Plan (f t : Int) : PC E 99 [.int .i64 f, .int .i64 t] (if planOk f t then .tuple [.lst (planS f t).length (IL (planS f t)), .int .i64 0] else .tuple [.lst 0 [], .int .i64 1]) := by
  obtain ⟨R, hR⟩ : ∃ R, R = (if planOk f t then PV.tuple [.lst (planS f t).length (IL (planS f t)), .int .i64 0] else .tuple [.lst 0 [], .int .i64 1]) := ⟨_, rfl⟩
  rw [← hR]
  refine PC.of_body follows Tryz.func99 (by decide +kernel) rfl (by kernel_rfl) (Nat.le_of_ble_eq_true rfl) (walk ?_)
  simp only [Tryz.f99, go_sem]
  by_cases c1 : f < 32
  · rw [if_neg (fun h => by have := h.1; omega)] at hR
    subst hR
    refine qif_dt c1 ?_
    simp only [Tryz.f99, go_sem]
    try rfl
  refine qif_df c1 ?_
  simp only [Tryz.f99, go_sem]
  by_cases c2 : f > t
  · rw [if_neg (fun h => by have := h.2.1; omega)] at hR
    subst hR
    refine qif_dt c2 ?_
    simp only [Tryz.f99, go_sem]
    try rfl
  refine qif_df c2 ?_
  simp only [Tryz.f99, go_sem]
  by_cases c3 : t < 64
  · rw [if_neg (fun h => by have := h.2.2.1; omega)] at hR
    subst hR
    refine qif_dt c3 ?_
    simp only [Tryz.f99, go_sem]
    try rfl
  refine qif_df c3 ?_
  simp only [Tryz.f99, go_sem]
  by_cases c4 : t > 8192
  · rw [if_neg (fun h => by have := h.2.2.2; omega)] at hR
    subst hR
    refine qif_dt c4 ?_
    simp only [Tryz.f99, go_sem]
    try rfl
  refine qif_df c4 ?_
  simp only [Tryz.f99, go_sem]
  rw [if_pos ⟨by omega, by omega, by omega, by omega⟩] at hR
  have eP : planS f t = planL 8 f.toNat t.toNat := rfl
  have hlen := planL_len 8 f.toNat t.toNat
  rw [← eP] at hlen
  obtain ⟨T, rfl⟩ : ∃ T : Nat, t = T := ⟨t.toNat, by omega⟩
  obtain ⟨F, rfl⟩ : ∃ F : Nat, f = F := ⟨f.toNat, by omega⟩
  rw [Int.toNat_natCast, Int.toNat_natCast] at eP
  generalize planS (F : Int) (T : Int) = P at *
  refine PLoop.nilrow 6 32 (by decide) 3 1 rfl ?_
  refine PLoop.intro (fun i : List Nat × Nat × Nat => ⟨[(1, .val (.int .i64 T)), (6, .row 32), (7, .val (.int .i64 i.2.1))], [(32, (.row 3 1 i.1.length (IL i.1), false))]⟩)
    (fun i => i.1 ++ planL i.2.2 i.2.1 T = P ∧ T ≤ i.2.1 * 2 ^ i.2.2 ∧ i.1.length + i.2.2 = 8 ∧ i.2.1 ≤ 16384) (fun i => i.2.2) ([], F, 8) ⟨eP.symm, by show T ≤ F * 256; omega, rfl, by dsimp only; omega⟩ ?_ fun i hi => walk ?_
  · simp [Wk, sget, killL, kill1, SV.key, IL]
  obtain ⟨l, n, fu⟩ := i
  dsimp only at hi ⊢
  obtain ⟨h1, h2, h3, h4⟩ := hi
  have wn : IntKind.wrap .i64 ((n : Int) * 2) = ((2 * n : Nat) : Int) := by rw [wrap64 (by omega) (by omega)]; omega
  have hmx : maxLen = 9223372036854775807 := rfl
  simp only [Tryz.f99, go_sem]
  refine qif_d (fun h => ?_) (fun h => ?_)
  · obtain ⟨g, rfl⟩ : ∃ g, fu = g + 1 := ⟨fu - 1, by
      rcases Nat.eq_zero_or_pos fu with h0 | h0
      · subst h0; omega
      · omega⟩
    unfold planL at h1
    rw [if_pos (by omega)] at h1
    simp only [Tryz.f99, List.range_zero, List.getD_cons_zero, List.getD_cons_succ, Nat.reduceMod, wn, go_sem]
    refine qand_i (by rw [hmx]; omega) ?_
    simp only [Tryz.f99, List.range_zero, List.getD_cons_zero, List.getD_cons_succ, Nat.reduceMod, wn, go_sem]
    have h5 : T ≤ 2 * n * 2 ^ g := by
      rw [Nat.pow_succ] at h2
      rw [Nat.mul_comm 2 n, Nat.mul_assoc, Nat.mul_comm 2]
      exact h2
    have h6 : l ++ [n] ++ planL g (2 * n) T = P := by rw [List.append_assoc]; exact h1
    refine ⟨(l ++ [n], 2 * n, g), ⟨h6, h5, by dsimp only; rw [List.length_append, List.length_singleton]; omega, by dsimp only; omega⟩, by dsimp only; omega, ?_⟩
    simp [Wk, sget, killL, kill1, SV.key, IL]
  · have e : planL fu n T = [T] := by
      cases fu with
      | zero => rfl
      | succ g => unfold planL; rw [if_neg (by omega)]
    rw [e] at h1
    simp only [Tryz.f99, List.range_zero, List.getD_cons_zero, List.getD_cons_succ, Nat.reduceMod, go_sem]
    refine qand_i (by rw [hmx]; omega) ?_
    simp only [Tryz.f99, List.range_zero, List.getD_cons_zero, List.getD_cons_succ, Nat.reduceMod, go_sem]
    subst h1
    subst hR
    simp [IL]
end
section
open Go PG Go.Proofs Go.RowKit
open XX
def ansC (v : (Nat × Nat) × Iv) : List PV := [.int .u64 (v.1.1 : Nat), .int .u8 (v.1.2 : Nat), .int .i64 0, .bool v.2.lo.s, NN v.2.lo.m, .int .i64 v.2.lo.e, .bool v.2.hi.s, NN v.2.hi.m, .int .i64 v.2.hi.e]
def ans0 : (Nat × Nat) × Iv := ((0, 0), Iv.zero)
def goS (A : Nat → (Nat × Nat) × Iv) (ok : Nat → Bool) : List Nat → ((Nat × Nat) × Iv) → Nat → Nat → (((Nat × Nat) × Iv) × Nat × Nat) × Nat
  | [], v, b, t => ((v, b, t), 2)
  | n :: l, v, b, t => if ok n = true then ((A n, n, t + 1), 0) else goS A ok l (A n) n (t + 1)
def runC (r : (((Nat × Nat) × Iv) × Nat × Nat) × Nat) : List PV := ansC r.1.1 ++ [.int .i64 (r.1.2.1 : Nat), .int .i64 (r.1.2.2 : Nat), .int .i64 (r.2 : Nat)]
theorem func_nil {P : Program} (w : World) {t : TypeId} {d : TypeDesc} {ps rs : Array TypeId} (ht : P.underlying t = some d) (hd : ∃ a b c, d = .func a b c) {f : Fn} {xs ys : Array Value} (x y : Operand) :
    (do eqGuard .eql t x y (.func f xs ys) .nilFunc; binOp .eql t (.func f xs ys) .nilFunc : Sem Value).run P w = .ok (.bool false) w := by
  obtain ⟨a, b, c, rfl⟩ := hd
  have h : ∀ d : Nat, (Op.equalIn (d + 1) t (.func f xs ys) .nilFunc).run P w = .ok false w := fun d => by
    simp [Op.equalIn, run_underlying ht]
  simp only [binOp]
  simp [eqGuard, Op.equal, Op.maxDepth, h 9999]
theorem step_atV {ops : Array Oper} {i : Nat} {o : Oper} {s s' : PS} (ho : ops[i]? = some o) (hg : o.guard = none) (hs : StepP E o s s') : StepI E ops i s s' := ⟨o, ho, by rw [hg]; exact hs⟩
theorem nfq_ops {N : Nat} {wk : Gh} {w0 : Fm} {Pr0 : Nat → Nat → Prop} {m : Nat → Value} {Pr : Nat → Nat → Prop} {a : Act} {w : World} {Q : Exit → Act → World → Prop} {t0 t1 : TypeId} {p0 p1 : String} {f0 f1 : Array Edge} {τ : List (Nat × SV)} {σ : List (Nat × (Bk × Bool))} {f : FuncId} {cs : List PV} (hN : 26 ≤ N)
    (hr : Rel E N wk w0 Pr0 (ES.den ⟨τ, σ⟩) m Pr a w) (h2 : sget τ 2 = some (.val (.clo f cs)))
    (hQ : ∀ m' Pr' a' w', Rel E N wk w0 Pr0 (ES.den ⟨(14, .val (.bool false)) :: (13, .val (.clo f cs)) :: τ, σ⟩) m' Pr' a' w' → Q .normal a' w') :
    wpOpsIn (RF none) 0 E.P #[⟨some 13, .move (.tmp 2), t0, p0, f0, none⟩, ⟨some 14, .binOp .eql 215 (.tmp 13) (.const .nilFunc) 215, t1, p1, f1, none⟩] Q [0, 1] a w := by
  obtain ⟨o0, h0⟩ : ∃ o : Oper, o = ⟨some 13, .move (.tmp 2), t0, p0, f0, none⟩ := ⟨_, rfl⟩
  obtain ⟨o1, h1⟩ : ∃ o : Oper, o = ⟨some 14, .binOp .eql 215 (.tmp 13) (.const .nilFunc) 215, t1, p1, f1, none⟩ := ⟨_, rfl⟩
  rw [← h0, ← h1]
  have hds : dstsOk N #[o0, o1] = true := by
    subst h0 h1
    rw [dstsOk, ← Array.all_toList]
    simp only [List.all_cons, List.all_nil, Bool.and_true, Bool.and_eq_true, decide_eq_true_eq]
    exact ⟨(by omega : 13 < N), (by omega : 14 < N)⟩
  have nm : ∀ (i : Nat) (o : Oper) (s : PS), #[o0, o1][i]? = some o → isNew o.op = false → NMs #[o0, o1] [i] s := fun i o s ho hn j hj o' ho' hn' => by
    rw [List.mem_singleton] at hj
    subst hj
    rw [ho] at ho'
    cases ho'
    rw [hn] at hn'
    cases hn'
  rw [wpOpsIn_cons]
  refine stepI_sound (s' := ES.den ⟨(13, .val (.clo f cs)) :: τ, σ⟩) hds hr (nm 0 o0 _ rfl (by rw [h0]; rfl)) (step_atV (o := o0) rfl (by rw [h0]) ?_) fun m1 Pr1 a1 w1 hr1 => ?_
  · rw [h0]
    show StepP E ⟨some 13, .move (.tmp 2), t0, p0, f0, none⟩ _ _
    unfold StepP
    refine (if_pos (show isA (Op.move (Operand.tmp 2)) = true from rfl)).mpr ⟨.val (.clo f cs), ?_, rfl⟩
    show stepA E (Op.move (Operand.tmp 2)) (opSV E (sget τ)) = _
    simp only [stepA, opSV, h2]
  rw [wpOpsIn_cons]
  unfold wpOpIn
  have e1 : (#[o0, o1] : Array Oper)[1]? = some o1 := rfl
  rw [e1]
  simp only
  rw [if_pos (by rw [h1]; simp [Region.wanted]), h1]
  obtain ⟨xv, hxv, ex⟩ := hr1.tmp 13 (.val (.clo f cs)) rfl
  have ev : a1.eval (.tmp 13) = xv := by simp only [Act.eval, getD_of hxv]
  obtain ⟨d, hty, hd⟩ : ∃ d, Tryz.prog.underlying 215 = some d ∧ ∃ a b c, d = .func a b c := ⟨_, Tryz.underlying215, _, _, _, rfl⟩
  have hrun : (execOp a1.eval ⟨some 14, .binOp .eql 215 (.tmp 13) (.const .nilFunc) 215, t1, p1, f1, none⟩).run E.P w1 = .ok (.value (.bool false)) w1 := by
    simp only [execOp]
    rw [ev, show a1.eval (.const .nilFunc) = .nilFunc from rfl]
    have ex' : Rep _ (.clo f cs) xv := ex
    obtain ⟨xs, rfl, -⟩ := ex'.clo_inv
    rw [Sem.run_bind, show E.P = Tryz.prog from rfl, func_nil w1 (ps := #[]) (rs := #[]) hty hd]
    rfl
  refine wpIn_of_wp (fun c hc => by cases hc) (val_step hr1 (fun d hd => by cases hd; exact Nat.lt_of_lt_of_le (by decide) hN) hrun (v := .val (.bool false)) (Rep.bool false) fun m2 Pr2 a2 w2 hr2 => ?_)
  exact hQ m2 Pr2 a2 w2 hr2
theorem IL_get (P : List Nat) (i : Nat) (h : i < P.length) : (IL P)[i]? = some (.int .i64 ((P.getD i 0 : Nat) : Int)) := by
  unfold IL
  rw [List.getElem?_map, List.getD_eq_getElem?_getD, List.getElem?_eq_getElem h]
  rfl
set_option maxHeartbeats 4000000 in
theorem c_Go {f : Nat} (hmu : E.mu f = false) {cs : List PV} {A : Nat → (Nat × Nat) × Iv} {ok : Nat → Bool} {P : List Nat} (hl : P.length ≤ 1000) (hk : ∀ n ∈ P, PC E f (.int .i64 (n : Nat) :: cs) (.tuple [.agg (ansC (A n)), .bool (ok n)])) :
    PC E 154 [.lst P.length (IL P), .np, .clo f cs] (.tuple [.agg (runC (goS A ok P ans0 0 0)), .int .i64 0]) := by
  have hk' : ∀ i, i < P.length → PC E f (.int .i64 ((P.getD i 0 : Nat) : Int) :: cs) (.tuple [.agg (ansC (A (P.getD i 0))), .bool (ok (P.getD i 0))]) := fun i hi =>
    hk _ (by rw [List.getD_eq_getElem?_getD, List.getElem?_eq_getElem hi]; exact List.getElem_mem _)
  have hg := IL_get P
  have hdr : ∀ i, i < P.length → P.drop i = P.getD i 0 :: P.drop (i + 1) := fun i hi => by
    rw [List.getD_eq_getElem?_getD, List.getElem?_eq_getElem hi]
    exact List.drop_eq_getElem_cons hi
  have hd0 : P.drop P.length = [] := List.drop_length
  have hR0 : goS A ok (P.drop 0) ans0 0 0 = goS A ok P ans0 0 0 := by rw [List.drop_zero]
  rw [E_mu] at hmu
  generalize goS A ok P ans0 0 0 = R at *
  obtain ⟨X, hX⟩ : ∃ X : Nat → Nat, ∀ i, P.getD i 0 = X i := ⟨_, fun _ => rfl⟩
  simp only [hX] at hg hk' hdr
  clear hk hX
  generalize IL P = IP at *
  generalize hn : P.length = n at *
  refine PC.of_sem Tryz.func154 (by decide +kernel) rfl (Nat.le_of_ble_eq_true rfl) ?_
  refine PSem.cut follows (by kernel_rfl) 2 (fun _ : Unit => ⟨[(0, .val (.lst n IP)), (1, .val .np), (2, .val (.clo f cs)), (6, .ptr 6 0), (7, .val (.int .i64 0)), (8, .ptr 8 0)], [(6, (.box (ansC ans0 ++ [.int .i64 0, .int .i64 0, .int .i64 0]), false)), (8, (.box (ansC ans0 ++ [.int .i64 0, .int .i64 0, .int .i64 0]), false))]⟩) (fun _ => True) ?_ (fun _ _ => ?_)
  · simp only [Tryz.f154, hmu, qfirst_succ, qfirst_zero, after_succ, after_zero, go_sem]
    try refine ⟨(), ?_⟩
    simp [Wk, sget, killL, kill1, SV.key, ansC, ans0, Iv.zero, Dy.zero, NN0]
  · intro wk w0 Pr0 m Pr act w hr
    simp only [after_succ, after_zero]
    refine wpIn_seq (wpIn_seq (wpIn_region (nfq_ops (N := 49) (by decide) hr rfl fun m1 Pr1 a1 w1 hr1 => ?_)))
    have hv := (hr1.opSV (x := .tmp 14) (v := .val (.bool false)) rfl : Rep _ _ _).bool_inv
    refine wpIn_cond_false hv (wpIn_skip ?_)
    refine PSem.last follows (by kernel_rfl) ?_ wk w0 Pr0 m1 Pr1 a1 w1 hr1
    simp only [ansC, ans0, Iv.zero, Dy.zero, List.cons_append, List.nil_append]
    simp only [Tryz.f154, hmu, go_sem]
    refine PLoop.intro (fun i : Nat × ((Nat × Nat) × Iv) × Nat × Nat => ⟨[(1, .val .np), (2, .val (.clo f cs)), (6, .ptr 6 0), (8, .ptr 8 0), (17, .val (.lst n IP)), (18, .val (.int .i64 n)), (19, .val (.int .i64 i.1))],
      [(6, (.box (ansC ans0 ++ [.int .i64 0, .int .i64 0, .int .i64 0]), false)), (8, (.box (ansC i.2.1 ++ [.int .i64 (i.2.2.1 : Nat), .int .i64 (i.2.2.2 : Nat), .int .i64 2]), false))]⟩)
      (fun i => i.1 ≤ n ∧ goS A ok (P.drop i.1) i.2.1 i.2.2.1 i.2.2.2 = R ∧ i.2.2.2 = i.1) (fun i => n - i.1) (0, ans0, 0, 0) ⟨Nat.zero_le _, hR0, rfl⟩ ?_ fun i hi => walk ?_
    · simp [Wk, sget, killL, kill1, SV.key, ansC, ans0, Iv.zero, Dy.zero, NN0]
    obtain ⟨i, v, b, t⟩ := i
    dsimp only at hi ⊢
    obtain ⟨hi, hgo, rfl⟩ := hi
    have wi : IntKind.wrap .i64 ((t : Int) + 1) = ((t + 1 : Nat) : Int) := by rw [wrap64 (by omega) (by omega)]; omega
    simp only [ansC, ans0, Iv.zero, Dy.zero, List.cons_append, List.nil_append]
    simp only [Tryz.f154, go_sem]
    refine qif_d (fun h => ?_) (fun h => ?_)
    · have hin : t < n := by omega
      have x1 := hg t hin
      have k1 := hk' t hin
      rw [hdr t hin] at hgo
      unfold goS at hgo
      generalize X t = x at *
      cases hok : ok x with
      | true =>
        rw [hok, if_pos rfl] at hgo
        rw [hok] at k1
        subst hgo
        simp only [ansC] at k1
        simp only [Tryz.f154, hmu, go_sem]
        refine qand_i (by first | omega | (simp [V_length, U_length, tab_length, maxLen]; done) | (simp [V_length, U_length, tab_length, maxLen]; omega) | (refine ⟨?_, ?_⟩ <;> first | omega | (simp [V_length, U_length, tab_length, maxLen]; done) | (simp [V_length, U_length, tab_length, maxLen]; omega))) ?_; simp only [Tryz.f154, hmu, go_sem]
        refine qval_i (congrArg (Option.map _) x1) ?_
        simp only [Tryz.f154, hmu, nilCmp, go_sem]
        refine qcall_i (k1) ?_; simp only [Tryz.f154, hmu, wi, go_sem]
        simp [runC, ansC]
      | false =>
        rw [hok, if_neg Bool.false_ne_true] at hgo
        rw [hok] at k1
        simp only [ansC] at k1
        simp only [Tryz.f154, hmu, go_sem]
        refine qand_i (by first | omega | (simp [V_length, U_length, tab_length, maxLen]; done) | (simp [V_length, U_length, tab_length, maxLen]; omega) | (refine ⟨?_, ?_⟩ <;> first | omega | (simp [V_length, U_length, tab_length, maxLen]; done) | (simp [V_length, U_length, tab_length, maxLen]; omega))) ?_; simp only [Tryz.f154, hmu, go_sem]
        refine qval_i (congrArg (Option.map _) x1) ?_
        simp only [Tryz.f154, hmu, nilCmp, go_sem]
        refine qcall_i (k1) ?_; simp only [Tryz.f154, hmu, wi, go_sem]
        refine ⟨(t + 1, A x, x, t + 1), ⟨by omega, hgo, rfl⟩, by dsimp only; omega, ?_⟩
        simp [Wk, sget, killL, kill1, SV.key, ansC, ans0, Iv.zero, Dy.zero, NN0]
    · have hin : t = n := by omega
      subst hin
      rw [hd0] at hgo
      unfold goS at hgo
      subst hgo
      simp only [Tryz.f154, go_sem]
      simp [runC, ansC]
end
section
open Go PG Go.Proofs
open XX
structure Ask where
  x : Dy
  y : Dy
  n : Nat
  neg : Bool
  dir : Int
  f : Int
  t : Int
def RA (p : PV) (a : Ask) : Prop := ∃ (s1 : Bool) (P1 : PV) (e1 : Int) (s2 : Bool) (P2 : PV) (e2 : Int),
  p = .agg [.bool s1, P1, .int .i64 e1, .bool s2, P2, .int .i64 e2, .int .u64 (a.n : Nat), .bool a.neg, .int .i64 a.dir, .int .i64 a.f, .int .i64 a.t] ∧ RD (DP s1 P1 e1) a.x ∧ RD (DP s2 P2 e2) a.y
structure AskOk (a : Ask) : Prop where
  x : LgOk a.x
  xl : -2200 ≤ a.x.top ∧ a.x.top ≤ 2200
  xb : bitLen a.x.m ≤ 2400
  y : a.y.ok
  y0 : a.y.m ≠ 0
  yb : bitLen a.y.m ≤ 64
  yt : -1100 ≤ a.y.top ∧ a.y.top ≤ 1100
  n1 : 1 ≤ a.n
  nW : a.n < W
  dir : 0 ≤ a.dir ∧ a.dir ≤ 3
  plan : planOk a.f a.t
theorem top_eq {d : Dy} (h : d.m ≠ 0) : d.top = bitLen d.m - 1 + d.e := by unfold Dy.top; rw [if_neg h]
theorem lim_top {K : Nat} {d : Dy} (ho : d.ok) (h0 : d.m ≠ 0) (he : -(K : Int) ≤ d.e) (ht : d.top < K) : Lim K d := by
  refine ⟨ho, .inr he, Nat.lt_of_lt_of_le (top_at h0 he).2 (Nat.pow_le_pow_right (by decide) (by omega))⟩
theorem AskOk.xLim {a : Ask} (h : AskOk a) : Lim 4700 a.x := by
  have h1 := h.xl
  have h2 := h.xb
  have h3 := bitLen_pos h.x.m0
  have h4 := top_eq h.x.m0
  exact lim_top h.x.ok h.x.m0 (by omega) (by omega)
theorem AskOk.yLim {a : Ask} (h : AskOk a) : Lim 1200 a.y := by
  have h1 := h.yt
  have h2 := h.yb
  have h3 := bitLen_pos h.y0
  have h4 := top_eq h.y0
  exact lim_top h.y h.y0 (by omega) (by omega)
theorem o_short {p : PV} {d : Dy} {K : Nat} (h : RD p d) (hl : Lim K d) (hK : K ≤ 200000) {b mt : Int} (hb : (bitLen d.m : Int) ≤ b) (ht : -mt ≤ d.top ∧ d.top ≤ mt) (hm : mt ≤ 1073741824) : PC E 212 [p, .int .i64 b, .int .i64 mt] (.bool true) := by
  have k1 := r_Bare h
  rw [okD_of (hl.fits (by omega))] at k1
  have hR : RD d.pv d := hl.RD (by omega)
  have k2 := r_Top hR
  have k3 := k_Bits (num_bits (x := d.m) (by have := hl.bits; omega))
  have wn : IntKind.wrap .i64 (0 - mt) = -mt := by rw [wrap64 (by omega) (by omega)]; omega
  generalize decide (d.m ≠ 0) = b0 at *
  generalize d.top = T at *
  obtain ⟨s, q, x, e, rfl, -⟩ := h
  simp only [DP, Dy.pv, NN, NL] at k1 k2 k3 ⊢
  refine PC.of_body follows Tryz.func212 (by decide +kernel) rfl (by kernel_rfl) (Nat.le_of_ble_eq_true rfl) (walk ?_)
  simp only [Tryz.f212, go_sem]
  refine qcall_i (k1) ?_; simp only [Tryz.f212, go_sem]
  refine qcall_i (k2) ?_; simp only [Tryz.f212, go_sem]
  refine qcall_i (k3) ?_; simp only [Tryz.f212, go_sem]
  refine qif_dt hb ?_
  simp only [Tryz.f212, wn, go_sem]
  refine qif_dt (by omega) ?_
  simp only [Tryz.f212, go_sem]
  simp; omega
theorem o_Right {p : PV} {a : Ask} (h : RA p a) (ha : AskOk a) : PC E 151 [p] (.bool true) := by
  obtain ⟨s1, P1, e1, s2, P2, e2, rfl, h1, h2⟩ := h
  have k1 := c_Plan a.f a.t
  rw [if_pos ha.plan] at k1
  have k2 := o_short h1 ha.xLim (by decide) (b := 4000) (mt := 1048576) (by have := ha.x.bits; omega) (by have := ha.x.top; omega) (by decide)
  have k3 := r_Sign h1
  rw [ha.x.sg] at k3
  have k4 := o_short h2 ha.yLim (by decide) (b := 64) (mt := 1100) (by have := ha.yb; omega) (by have := ha.yt; omega) (by decide)
  have hn := ha.n1
  have hd := ha.dir
  generalize (planS a.f a.t).length = L at *
  generalize IL (planS a.f a.t) = IP at *
  simp only [DP] at k1 k2 k3 k4
  refine PC.of_body follows Tryz.func151 (by decide +kernel) rfl (by kernel_rfl) (Nat.le_of_ble_eq_true rfl) (walk ?_)
  simp only [Tryz.f151, go_sem]
  refine qcall_i (k1) ?_; simp only [Tryz.f151, go_sem]
  refine qcall_i (k2) ?_; simp only [Tryz.f151, go_sem]
  refine qcall_i (k3) ?_; simp only [Tryz.f151, go_sem]
  refine qcall_i (k4) ?_; simp only [Tryz.f151, go_sem]
  refine qif_dt (by omega) ?_
  simp only [Tryz.f151, go_sem]
  refine qif_dt (by omega) ?_
  simp only [Tryz.f151, go_sem]
  simp; omega
def scS (y : Dy) (b : Nat) : Nat := min (b + 64 + (max (y.top + 1) 0).toNat) 8900
theorem o_scale {p : PV} {a : Ask} (h : RA p a) (ha : AskOk a) {b : Nat} (hb : b ≤ 8192) : PC E 234 [p, .int .i64 b] (.int .i64 (scS a.y b)) := by
  obtain ⟨s1, P1, e1, s2, P2, e2, rfl, h1, h2⟩ := h
  have k1 := r_Top h2
  rw [decide_eq_true ha.y0] at k1
  have ht := ha.yt
  have hR : ((scS a.y b : Nat) : Int) = min ((b : Int) + 64 + max (a.y.top + 1) 0) 8900 := by unfold scS; omega
  rw [hR]
  generalize a.y.top = T at *
  have w1 : IntKind.wrap .i64 ((b : Int) + 64) = (b : Int) + 64 := wrap64 (by omega) (by omega)
  have w2 : IntKind.wrap .i64 (T + 1) = T + 1 := wrap64 (by omega) (by omega)
  have w3 : IntKind.wrap .i64 ((b : Int) + 64 + max (T + 1) 0) = (b : Int) + 64 + max (T + 1) 0 := wrap64 (by omega) (by omega)
  simp only [DP] at k1
  refine PC.of_body follows Tryz.func234 (by decide +kernel) rfl (by kernel_rfl) (Nat.le_of_ble_eq_true rfl) (walk ?_)
  simp only [Tryz.f234, go_sem]
  refine qcall_i (k1) ?_; simp only [Tryz.f234, w1, w2, w3, go_sem]
  try rfl
def awayD (d : Dy) (dn : Bool) : Bool := d.s == dn
def divM (d : Dy) (s : Nat) (aw : Bool) : Nat := if 0 ≤ d.e + s then d.m * 2 ^ (d.e + s).toNat else d.m / 2 ^ (-d.e - s).toNat + (if d.m % 2 ^ (-d.e - s).toNat ≠ 0 ∧ aw = true then 1 else 0)
def divQ (d : Dy) (n s : Nat) (aw : Bool) : Nat := divM d s aw / n + (if divM d s aw % n ≠ 0 ∧ aw = true then 1 else 0)
def divD (d : Dy) (n s : Nat) (dn : Bool) : Dy := mkD d.s (divQ d n s (awayD d dn)) (-(s : Int))
theorem divM_bits {K : Nat} {d : Dy} (h : Lim K d) (hK : 1 ≤ K) (s : Nat) (aw : Bool) : bitLen (divM d s aw) ≤ 2 * K + s + 1 := by
  unfold divM
  split
  · rename_i hk
    by_cases hm : d.m = 0
    · rw [hm, Nat.zero_mul]; exact Nat.le_trans (show bitLen 0 ≤ 0 by decide) (Nat.zero_le _)
    have h1 := bitLen_shl_le d.m (d.e + s).toNat
    have h2 := h.top_lt hm
    have h3 := top_eq hm
    omega
  · refine Nat.le_trans (bitLen_mono (y := d.m / 2 ^ (-d.e - s).toNat + 1) (by split <;> omega)) ?_
    have := bitLen_add (x := d.m / 2 ^ (-d.e - s).toNat) (y := 1) (n := 2 * K + s) (Nat.le_trans (div_bits h.bits) (by omega)) (by rw [bit1]; omega)
    omega
theorem divQ_bits {K : Nat} {d : Dy} (h : Lim K d) (hK : 1 ≤ K) (n s : Nat) (aw : Bool) : bitLen (divQ d n s aw) ≤ 2 * K + s + 2 := by
  have h1 := divM_bits h hK s aw
  unfold divQ
  refine Nat.le_trans (bitLen_mono (y := divM d s aw / n + 1) (by split <;> omega)) ?_
  exact bitLen_add (Nat.le_trans (div_bits h1) (Nat.le_refl _)) (by rw [bit1]; omega)
theorem divD_lim {K : Nat} {d : Dy} (h : Lim K d) (hK : 1 ≤ K) (hK2 : K ≤ 100000) (n : Nat) {s : Nat} (hs : s ≤ 9000) (dn : Bool) : Lim (2 * K + 18002) (divD d n s dn) := by
  have h1 := divQ_bits h hK n s (awayD d dn)
  exact Lim.mono (Lim.mk (n := 2 * K + s + 2) (J := 9000) h1 (by omega) (by omega)) (by omega)
set_option maxHeartbeats 2000000 in
theorem o_divided {p : PV} {d : Dy} {K : Nat} (h : RD p d) (hl : Lim K d) (hK1 : 1 ≤ K) (hK : K ≤ 26000) {n : Nat} (hn : n < W) (h0 : n ≠ 0) {s : Nat} (hs : s ≤ 9000) {dir : Int} :
    PC E 236 [p, .int .u64 n, .int .i64 s, .int .i64 dir] (divD d n s (decide (dir = 3))).pv := by
  have k1 := r_Bare h
  rw [okD_of (hl.fits (by omega))] at k1
  have he := hl.e0
  have hbt := hl.bits
  have we : IntKind.wrap .i64 (d.e + (s : Int)) = d.e + s := wrap64 (by omega) (by omega)
  have wn : IntKind.wrap .i64 (0 - d.e) = -d.e := by rw [wrap64 (by omega) (by omega)]; omega
  have wm : IntKind.wrap .i64 (-d.e - (s : Int)) = -d.e - s := wrap64 (by omega) (by omega)
  have ws : IntKind.wrap .i64 (0 - (s : Int)) = -(s : Int) := by rw [wrap64 (by omega) (by omega)]; omega
  have hmb := divM_bits hl hK1 s (awayD d (decide (dir = 3)))
  have hqb := divQ_bits hl hK1 n s (awayD d (decide (dir = 3)))
  have hlim := divD_lim hl hK1 (by omega) n hs (decide (dir = 3))
  have kk1 := k_small (x := divM d s (awayD d (decide (dir = 3)))) (by omega) hn h0
  have k2 := u_one
  have kk2 := k_Add (num_bits (x := divM d s (awayD d (decide (dir = 3))) / n) (by have := div_bits (n := n) hmb; omega)) (num_bits (x := 1) (by decide))
  have kk3 := r_Make (num_bits (x := divQ d n s (awayD d (decide (dir = 3)))) (by omega)) (by omega) d.s (-(s : Int))
  have eM : mkD d.s (divQ d n s (awayD d (decide (dir = 3)))) (-(s : Int)) = divD d n s (decide (dir = 3)) := rfl
  rw [eM, okD_of (hlim.fits (by omega))] at kk3
  have eQ : divQ d n s (awayD d (decide (dir = 3))) = divM d s (awayD d (decide (dir = 3))) / n + (if divM d s (awayD d (decide (dir = 3))) % n ≠ 0 ∧ awayD d (decide (dir = 3)) = true then 1 else 0) := rfl
  generalize divD d n s (decide (dir = 3)) = OUT at *
  have haw2 : (d.s == decide (dir = 3)) = awayD d (decide (dir = 3)) := rfl
  generalize awayD d (decide (dir = 3)) = aw at *
  have eM2 : divM d s aw = if 0 ≤ d.e + s then d.m * 2 ^ (d.e + s).toNat else d.m / 2 ^ (-d.e - s).toNat + (if d.m % 2 ^ (-d.e - s).toNat ≠ 0 ∧ aw = true then 1 else 0) := rfl
  generalize divQ d n s aw = Q at *
  generalize divM d s aw = M at *
  obtain ⟨s0, q, x, e, rfl, -⟩ := h
  have hrest : aw = false ∨ M % n = 0 → Q = M / n := fun h => by
    rw [eQ]
    rcases h with h | h
    · rw [h, if_neg (fun h => Bool.false_ne_true h.2), Nat.add_zero]
    · rw [if_neg (fun h' => h'.1 h), Nat.add_zero]
  have hrest2 : aw = true → M % n ≠ 0 → Q = M / n + 1 := fun h h' => by rw [eQ, if_pos ⟨h', h⟩]
  by_cases hk : 0 ≤ d.e + s
  · rw [if_pos hk] at eM2
    have k3 : PC E 63 [NN d.m, .int .i64 (d.e + s)] (.tuple [NN M, .int .i64 0]) := by
      rw [eM2]
      by_cases hm0 : d.m = 0
      · refine PC.cast (k_Shl (num_bits (x := d.m) (by omega)) (d.e + s) (by omega)) ?_
        unfold shlV
        rw [if_neg (by omega), if_pos hm0, hm0, Nat.zero_mul]; rfl
      · have h2 := hl.top_lt hm0
        have h3 := top_eq hm0
        have := k_Shln (num_bits (x := d.m) (by omega)) (d.e + s).toNat (by omega)
        rwa [show (((d.e + s).toNat : Nat) : Int) = d.e + s by omega] at this
    by_cases hr : M % n = 0
    · rw [hrest (.inr hr)] at kk3
      rw [hr] at kk1
      simp only [DP, Dy.pv, u, NN, NL] at k1 k2 k3 kk1 kk2 kk3 ⊢
      refine PC.of_body follows Tryz.func236 (by decide +kernel) rfl (by kernel_rfl) (Nat.le_of_ble_eq_true rfl) (walk ?_)
      simp only [Tryz.f236, go_sem]
      refine qcall_i (k1) ?_; simp only [Tryz.f236, we, haw2, ws, go_sem]
      refine qif_dt hk ?_
      simp only [Tryz.f236, we, haw2, go_sem]
      refine qcall_i (k3) ?_; simp only [Tryz.f236, go_sem]
      refine qcall_i (kk1) ?_; simp only [Tryz.f236, go_sem]
      try (refine qif_df (by decide) ?_)
      try simp only [Tryz.f236, ws, go_sem]
      refine qcall_i (kk3) ?_; simp only [Tryz.f236, go_sem]
      try rfl
    · cases aw with
      | false =>
        rw [hrest (.inl rfl)] at kk3
        simp only [DP, Dy.pv, u, NN, NL] at k1 k2 k3 kk1 kk2 kk3 ⊢
        refine PC.of_body follows Tryz.func236 (by decide +kernel) rfl (by kernel_rfl) (Nat.le_of_ble_eq_true rfl) (walk ?_)
        simp only [Tryz.f236, go_sem]
        refine qcall_i (k1) ?_; simp only [Tryz.f236, we, haw2, ws, go_sem]
        refine qif_dt hk ?_
        simp only [Tryz.f236, we, haw2, go_sem]
        refine qcall_i (k3) ?_; simp only [Tryz.f236, go_sem]
        refine qcall_i (kk1) ?_; simp only [Tryz.f236, go_sem]
        refine qif_dt (by omega) ?_
        simp only [Tryz.f236, ws, go_sem]
        refine qcall_i (kk3) ?_; simp only [Tryz.f236, go_sem]
        try rfl
      | true =>
        rw [hrest2 rfl hr] at kk3
        simp only [DP, Dy.pv, u, NN, NL] at k1 k2 k3 kk1 kk2 kk3 ⊢
        refine PC.of_body follows Tryz.func236 (by decide +kernel) rfl (by kernel_rfl) (Nat.le_of_ble_eq_true rfl) (walk ?_)
        simp only [Tryz.f236, go_sem]
        refine qcall_i (k1) ?_; simp only [Tryz.f236, we, haw2, ws, go_sem]
        refine qif_dt hk ?_
        simp only [Tryz.f236, we, haw2, go_sem]
        refine qcall_i (k3) ?_; simp only [Tryz.f236, go_sem]
        refine qcall_i (kk1) ?_; simp only [Tryz.f236, go_sem]
        refine qif_dt (by omega) ?_
        simp only [Tryz.f236, ws, go_sem]
        refine qcall_i (k2) ?_; simp only [Tryz.f236, go_sem]
        refine qcall_i (kk2) ?_; simp only [Tryz.f236, ws, go_sem]
        refine qcall_i (kk3) ?_; simp only [Tryz.f236, go_sem]
        try rfl
  · rw [if_neg hk] at eM2
    have k3 := k_Shrn (num_bits (x := d.m) (by omega)) (-d.e - s).toNat
    rw [show (((-d.e - s).toNat : Nat) : Int) = -d.e - s by omega] at k3
    have bq := div_bits (n := 2 ^ (-d.e - s).toNat) hbt
    have k4 := k_Add (num_bits (x := d.m / 2 ^ (-d.e - s).toNat) (by omega)) (num_bits (x := 1) (by decide))
    generalize d.m / 2 ^ (-d.e - s).toNat = R at *
    generalize hrr : d.m % 2 ^ (-d.e - s).toNat = RR at *
    cases aw with
    | false =>
      rw [if_neg (fun h => Bool.false_ne_true h.2), Nat.add_zero] at eM2
      subst eM2
      rw [hrest (.inl rfl)] at kk3
      generalize decide (RR ≠ 0) = bb at *
      by_cases hr : M % n = 0
      · rw [hr] at kk1
        simp only [DP, Dy.pv, u, NN, NL] at k1 k2 k3 kk1 kk2 kk3 ⊢
        refine PC.of_body follows Tryz.func236 (by decide +kernel) rfl (by kernel_rfl) (Nat.le_of_ble_eq_true rfl) (walk ?_)
        simp only [Tryz.f236, go_sem]
        refine qcall_i (k1) ?_; simp only [Tryz.f236, we, haw2, ws, go_sem]
        refine qif_df hk ?_
        simp only [Tryz.f236, wn, wm, haw2, go_sem]
        refine qcall_i (k3) ?_; simp only [Tryz.f236, go_sem]
        cases bb
        · simp only [Tryz.f236, go_sem]
          refine qcall_i (kk1) ?_; simp only [Tryz.f236, go_sem]
          try (refine qif_df (by decide) ?_)
          try simp only [Tryz.f236, ws, go_sem]
          refine qcall_i (kk3) ?_; simp only [Tryz.f236, go_sem]
          try rfl
        · simp only [Tryz.f236, go_sem]
          refine qcall_i (kk1) ?_; simp only [Tryz.f236, go_sem]
          try (refine qif_df (by decide) ?_)
          try simp only [Tryz.f236, ws, go_sem]
          refine qcall_i (kk3) ?_; simp only [Tryz.f236, go_sem]
          try rfl
      · simp only [DP, Dy.pv, u, NN, NL] at k1 k2 k3 kk1 kk2 kk3 ⊢
        refine PC.of_body follows Tryz.func236 (by decide +kernel) rfl (by kernel_rfl) (Nat.le_of_ble_eq_true rfl) (walk ?_)
        simp only [Tryz.f236, go_sem]
        refine qcall_i (k1) ?_; simp only [Tryz.f236, we, haw2, ws, go_sem]
        refine qif_df hk ?_
        simp only [Tryz.f236, wn, wm, haw2, go_sem]
        refine qcall_i (k3) ?_; simp only [Tryz.f236, go_sem]
        cases bb
        · simp only [Tryz.f236, go_sem]
          refine qcall_i (kk1) ?_; simp only [Tryz.f236, go_sem]
          refine qif_dt (by omega) ?_
          simp only [Tryz.f236, ws, go_sem]
          refine qcall_i (kk3) ?_; simp only [Tryz.f236, go_sem]
          try rfl
        · simp only [Tryz.f236, go_sem]
          refine qcall_i (kk1) ?_; simp only [Tryz.f236, go_sem]
          refine qif_dt (by omega) ?_
          simp only [Tryz.f236, ws, go_sem]
          refine qcall_i (kk3) ?_; simp only [Tryz.f236, go_sem]
          try rfl
    | true =>
      by_cases hz : RR = 0
      · rw [if_neg (fun h => h.1 hz), Nat.add_zero] at eM2
        subst eM2
        rw [decide_eq_false (fun h => h hz)] at k3
        by_cases hr : M % n = 0
        · rw [hrest (.inr hr)] at kk3
          rw [hr] at kk1
          simp only [DP, Dy.pv, u, NN, NL] at k1 k2 k3 kk1 kk2 kk3 ⊢
          refine PC.of_body follows Tryz.func236 (by decide +kernel) rfl (by kernel_rfl) (Nat.le_of_ble_eq_true rfl) (walk ?_)
          simp only [Tryz.f236, go_sem]
          refine qcall_i (k1) ?_; simp only [Tryz.f236, we, haw2, ws, go_sem]
          refine qif_df hk ?_
          simp only [Tryz.f236, wn, wm, haw2, go_sem]
          refine qcall_i (k3) ?_; simp only [Tryz.f236, go_sem]
          refine qcall_i (kk1) ?_; simp only [Tryz.f236, go_sem]
          try (refine qif_df (by decide) ?_)
          try simp only [Tryz.f236, ws, go_sem]
          refine qcall_i (kk3) ?_; simp only [Tryz.f236, go_sem]
          try rfl
        · rw [hrest2 rfl hr] at kk3
          simp only [DP, Dy.pv, u, NN, NL] at k1 k2 k3 kk1 kk2 kk3 ⊢
          refine PC.of_body follows Tryz.func236 (by decide +kernel) rfl (by kernel_rfl) (Nat.le_of_ble_eq_true rfl) (walk ?_)
          simp only [Tryz.f236, go_sem]
          refine qcall_i (k1) ?_; simp only [Tryz.f236, we, haw2, ws, go_sem]
          refine qif_df hk ?_
          simp only [Tryz.f236, wn, wm, haw2, go_sem]
          refine qcall_i (k3) ?_; simp only [Tryz.f236, go_sem]
          refine qcall_i (kk1) ?_; simp only [Tryz.f236, go_sem]
          refine qif_dt (by omega) ?_
          simp only [Tryz.f236, ws, go_sem]
          refine qcall_i (k2) ?_; simp only [Tryz.f236, go_sem]
          refine qcall_i (kk2) ?_; simp only [Tryz.f236, ws, go_sem]
          refine qcall_i (kk3) ?_; simp only [Tryz.f236, go_sem]
          try rfl
      · rw [if_pos ⟨hz, rfl⟩] at eM2
        subst eM2
        rw [decide_eq_true hz] at k3
        by_cases hr : (R + 1) % n = 0
        · rw [hrest (.inr hr)] at kk3
          rw [hr] at kk1
          simp only [DP, Dy.pv, u, NN, NL] at k1 k2 k3 k4 kk1 kk2 kk3 ⊢
          refine PC.of_body follows Tryz.func236 (by decide +kernel) rfl (by kernel_rfl) (Nat.le_of_ble_eq_true rfl) (walk ?_)
          simp only [Tryz.f236, go_sem]
          refine qcall_i (k1) ?_; simp only [Tryz.f236, we, haw2, ws, go_sem]
          refine qif_df hk ?_
          simp only [Tryz.f236, wn, wm, haw2, go_sem]
          refine qcall_i (k3) ?_; simp only [Tryz.f236, go_sem]
          refine qcall_i (k2) ?_; simp only [Tryz.f236, go_sem]
          refine qcall_i (k4) ?_; simp only [Tryz.f236, go_sem]
          refine qcall_i (kk1) ?_; simp only [Tryz.f236, go_sem]
          try (refine qif_df (by decide) ?_)
          try simp only [Tryz.f236, ws, go_sem]
          refine qcall_i (kk3) ?_; simp only [Tryz.f236, go_sem]
          try rfl
        · rw [hrest2 rfl hr] at kk3
          simp only [DP, Dy.pv, u, NN, NL] at k1 k2 k3 k4 kk1 kk2 kk3 ⊢
          refine PC.of_body follows Tryz.func236 (by decide +kernel) rfl (by kernel_rfl) (Nat.le_of_ble_eq_true rfl) (walk ?_)
          simp only [Tryz.f236, go_sem]
          refine qcall_i (k1) ?_; simp only [Tryz.f236, we, haw2, ws, go_sem]
          refine qif_df hk ?_
          simp only [Tryz.f236, wn, wm, haw2, go_sem]
          refine qcall_i (k3) ?_; simp only [Tryz.f236, go_sem]
          refine qcall_i (k2) ?_; simp only [Tryz.f236, go_sem]
          refine qcall_i (k4) ?_; simp only [Tryz.f236, go_sem]
          refine qcall_i (kk1) ?_; simp only [Tryz.f236, go_sem]
          refine qif_dt (by omega) ?_
          simp only [Tryz.f236, ws, go_sem]
          refine qcall_i (k2) ?_; simp only [Tryz.f236, go_sem]
          refine qcall_i (kk2) ?_; simp only [Tryz.f236, ws, go_sem]
          refine qcall_i (kk3) ?_; simp only [Tryz.f236, go_sem]
          try rfl
end
section
open Go PG Go.Proofs
open XX
theorem withinS_le (lo hi : Nat) (s : Int) (neg : Bool) : cmpD (withinS lo hi s neg).lo (withinS lo hi s neg).hi ≤ 0 := by
  unfold withinS
  split
  · rename_i h
    dsimp only
    rw [cmp_swap]; omega
  · rename_i h
    dsimp only
    omega
theorem addI_le {i k : Iv} {K : Nat} (h1 : i.lim K) (h2 : k.lim K) (hK : K ≤ 900000) (c1 : cmpD i.lo i.hi ≤ 0) (c2 : cmpD k.lo k.hi ≤ 0) : cmpD (addI i k).lo (addI i k).hi ≤ 0 := by
  have l3 := h1.add h2 (by omega)
  rw [cmp_val_le] at c1 c2 ⊢
  show (addS i.lo k.lo).val ≤ (addS i.hi k.hi).val
  rw [h1.1.val_add h2.1 (by omega), h1.2.val_add h2.2 (by omega)]
  grind
theorem logS_right {d : Dy} (hl : LgOk d) {s : Nat} (hs : s ≤ 9000) : (logS d s).right :=
  ((logS_lim hl hs).right (by decide)).2 (addI_le (logX_lim hl hs) (logY_lim hl hs) (by decide) (withinS_le _ _ _ _) (withinS_le _ _ _ _))
def zI (a : Ask) (b : Nat) : Iv := mulI (logS a.x (scS a.y b)) ⟨a.y, a.y⟩
def zS (a : Ask) (b : Nat) : Iv := if 1 < a.n then ⟨divD (zI a b).lo a.n (scS a.y b) true, divD (zI a b).hi a.n (scS a.y b) false⟩ else zI a b
theorem scS_range {y : Dy} {b : Nat} (hb : 32 ≤ b) : 96 ≤ scS y b ∧ scS y b ≤ 8900 := by unfold scS; omega
theorem zI_lim {a : Ask} (h : AskOk a) {b : Nat} (hb : 32 ≤ b) : (zI a b).lim 19251 := by
  have := scS_range (y := a.y) hb
  have h1 := (logS_lim h.x (s := scS a.y b) (by omega)).mul (k := ⟨a.y, a.y⟩) (J := 1200) ⟨h.yLim, h.yLim⟩
  exact h1.mono (by omega)
theorem zS_lim {a : Ask} (h : AskOk a) {b : Nat} (hb : 32 ≤ b) : (zS a b).lim 56504 := by
  have hz := zI_lim h hb
  have := scS_range (y := a.y) hb
  have h1 : Lim 19251 (zI a b).lo := hz.1
  have h2 : Lim 19251 (zI a b).hi := hz.2
  have a1 := divD_lim h1 (by decide) (by decide) a.n (s := scS a.y b) (by omega) true
  have a2 := divD_lim h2 (by decide) (by decide) a.n (s := scS a.y b) (by omega) false
  have b1 : Lim 56504 (divD (zI a b).lo a.n (scS a.y b) true) := a1
  have b2 : Lim 56504 (divD (zI a b).hi a.n (scS a.y b) false) := a2
  have b3 : Lim 56504 (zI a b).lo := h1.mono (by decide)
  have b4 : Lim 56504 (zI a b).hi := h2.mono (by decide)
  unfold zS
  generalize divD (zI a b).lo a.n (scS a.y b) true = D1 at *
  generalize divD (zI a b).hi a.n (scS a.y b) false = D2 at *
  generalize zI a b = Z at *
  by_cases hn : 1 < a.n
  · rw [if_pos hn]; exact ⟨b1, b2⟩
  · rw [if_neg hn]; exact ⟨b3, b4⟩
set_option maxHeartbeats 2000000 in
theorem o_Log {p : PV} {a : Ask} (h : RA p a) (ha : AskOk a) {b : Nat} (hb : 32 ≤ b) (hb2 : b ≤ 8192) : PC E 214 [p, .int .i64 b] (.tuple [(zS a b).pv, .int .i64 (scS a.y b : Nat), .int .i64 0]) := by
  have k1 := o_Right h ha
  have k2 := o_scale h ha hb2
  obtain ⟨s1, P1, e1, s2, P2, e2, rfl, h1, h2⟩ := h
  have hsc := scS_range (y := a.y) hb
  have k3 := g_Log h1 ha.x (s := scS a.y b) (by omega) (by omega)
  have lL := logS_lim ha.x (s := scS a.y b) (by omega)
  have k4 := q_Times (lL.RI (by decide)) h2 lL ha.yLim (by decide)
  unfold ivV at k4
  rw [if_pos (logS_right ha.x (by omega))] at k4
  have eZ : mulI (logS a.x (scS a.y b)) ⟨a.y, a.y⟩ = zI a b := rfl
  rw [eZ] at k4
  have lZ := zI_lim ha hb
  have hn0 := ha.n1
  have rZ := lZ.RI (by decide)
  have k5 := o_divided (lZ.1.RD (by decide)) lZ.1 (by decide) (by decide) ha.nW (by omega) (s := scS a.y b) (by omega) (dir := 3)
  have k6 := o_divided (lZ.2.RD (by decide)) lZ.2 (by decide) (by decide) ha.nW (by omega) (s := scS a.y b) (by omega) (dir := 2)
  rw [show decide ((3 : Int) = 3) = true from rfl] at k5
  rw [show decide ((2 : Int) = 3) = false from rfl] at k6
  unfold zS
  generalize logS a.x (scS a.y b) = L at *
  generalize divD (zI a b).lo a.n (scS a.y b) true = Q1 at *
  generalize divD (zI a b).hi a.n (scS a.y b) false = Q2 at *
  generalize zI a b = Z at *
  generalize scS a.y b = sc at *
  simp only [DP, Dy.pv, Iv.pv, NN, NL] at k1 k2 k3 k4 k5 k6 ⊢
  by_cases hn : 1 < a.n
  · rw [if_pos hn]
    refine PC.of_body follows Tryz.func214 (by decide +kernel) rfl (by kernel_rfl) (Nat.le_of_ble_eq_true rfl) (walk ?_)
    simp only [Tryz.f214, go_sem]
    refine qcall_i (k1) ?_; simp only [Tryz.f214, go_sem]
    refine qif_df (by omega) ?_
    simp only [Tryz.f214, go_sem]
    refine qif_df (by omega) ?_
    simp only [Tryz.f214, go_sem]
    refine qcall_i (k2) ?_; simp only [Tryz.f214, go_sem]
    refine qcall_i (k3) ?_; simp only [Tryz.f214, go_sem]
    refine qcall_i (k4) ?_; simp only [Tryz.f214, go_sem]
    refine qif_dt (by omega) ?_
    simp only [Tryz.f214, go_sem]
    refine qcall_i (k5) ?_; simp only [Tryz.f214, go_sem]
    refine qcall_i (k6) ?_; simp only [Tryz.f214, go_sem]
    try rfl
  · rw [if_neg hn]
    refine PC.of_body follows Tryz.func214 (by decide +kernel) rfl (by kernel_rfl) (Nat.le_of_ble_eq_true rfl) (walk ?_)
    simp only [Tryz.f214, go_sem]
    refine qcall_i (k1) ?_; simp only [Tryz.f214, go_sem]
    refine qif_df (by omega) ?_
    simp only [Tryz.f214, go_sem]
    refine qif_df (by omega) ?_
    simp only [Tryz.f214, go_sem]
    refine qcall_i (k2) ?_; simp only [Tryz.f214, go_sem]
    refine qcall_i (k3) ?_; simp only [Tryz.f214, go_sem]
    refine qcall_i (k4) ?_; simp only [Tryz.f214, go_sem]
    refine qif_df (by omega) ?_
    simp only [Tryz.f214, go_sem]
    try rfl
def sgS (a : Ask) : Int := a.y.sg * cmpD a.x (norm 1 0)
theorem sg_in (d : Dy) : -1 ≤ d.sg ∧ d.sg ≤ 1 := by unfold Dy.sg; split <;> (try split) <;> omega
theorem o_Sign {p : PV} {a : Ask} (h : RA p a) (ha : AskOk a) : PC E 153 [p] (.int .i64 (sgS a)) := by
  have k1 := o_Right h ha
  obtain ⟨s1, P1, e1, s2, P2, e2, rfl, h1, h2⟩ := h
  have k2 := r_Sign h2
  have k3 := c_dOf 1 (by decide) (by decide)
  have g3 : RD (norm 1 0).pv (norm 1 0) := (Lim.norm (K := 20) (z := 1) (by decide) (by decide)).RD (by decide)
  have k4 := r_Cmp h1 g3
  have hs := sg_in a.y
  have hc : -1 ≤ cmpD a.x (norm 1 0) ∧ cmpD a.x (norm 1 0) ≤ 1 := sgn_range _ _
  unfold sgS
  generalize cmpD a.x (norm 1 0) = c at *
  generalize a.y.sg = y at *
  generalize norm 1 0 = N at *
  have w : IntKind.wrap .i64 (y * c) = y * c := by
    have h1 : y = -1 ∨ y = 0 ∨ y = 1 := by omega
    have h2 : c = -1 ∨ c = 0 ∨ c = 1 := by omega
    rcases h1 with rfl | rfl | rfl <;> rcases h2 with rfl | rfl | rfl <;> decide
  simp only [DP, Dy.pv, NN, NL] at k1 k2 k3 k4
  refine PC.of_body follows Tryz.func153 (by decide +kernel) rfl (by kernel_rfl) (Nat.le_of_ble_eq_true rfl) (walk ?_)
  simp only [Tryz.f153, go_sem]
  refine qcall_i (k1) ?_; simp only [Tryz.f153, go_sem]
  refine qcall_i (k2) ?_; simp only [Tryz.f153, go_sem]
  refine qcall_i (k3) ?_; simp only [Tryz.f153, go_sem]
  refine qcall_i (k4) ?_; simp only [Tryz.f153, w, go_sem]
  try rfl
def tryS (a : Ask) (sign : Int) (b : Nat) : ((Nat × Nat) × Iv) × Bool :=
  if boundS (zS a b) sign ≠ 0 then ((classS (boundS (zS a b) sign) a.neg a.dir, Iv.zero), true)
  else if splitOk (zS a b) (scS a.y b) then
    match roundS (expI (zS a b) (scS a.y b)) a.neg a.dir with
    | some r => ((r, expI (zS a b) (scS a.y b)), true)
    | none => (((0, 0), expI (zS a b) (scS a.y b)), false)
  else (((0, 0), Iv.zero), false)
theorem boundS_range (z : Iv) (sign : Int) : 0 ≤ boundS z sign ∧ boundS z sign ≤ 4 := by
  unfold boundS
  repeat' split
  all_goals omega
set_option maxHeartbeats 2000000 in
theorem o_try {p : PV} {a : Ask} (h : RA p a) (ha : AskOk a) (sign : Int) {b : Nat} (hb : 32 ≤ b) (hb2 : b ≤ 8192) : PC E 156 [p, .int .i64 sign, .int .i64 b] (.tuple [.agg (ansC (tryS a sign b).1), .bool (tryS a sign b).2]) := by
  have k1 := o_Log h ha hb hb2
  have lz := zS_lim ha hb
  have hsc := scS_range (y := a.y) hb
  have k2 := b_Of (lz.RI (by decide)) lz (by decide) sign
  have hbr := boundS_range (zS a b) sign
  obtain ⟨s1, P1, e1, s2, P2, e2, rfl, h1, h2⟩ := h
  have hdir := ha.dir
  obtain ⟨R, hR⟩ : ∃ R, R = PV.tuple [.agg (ansC (tryS a sign b).1), .bool (tryS a sign b).2] := ⟨_, rfl⟩
  rw [← hR]
  unfold tryS at hR
  by_cases hc : boundS (zS a b) sign ≠ 0
  · rw [if_pos hc] at hR
    have k3 := b_Result (c := boundS (zS a b) sign) (by omega) a.neg hdir
    generalize classS (boundS (zS a b) sign) a.neg a.dir = C at *
    generalize boundS (zS a b) sign = B at *
    generalize zS a b = Z at *
    obtain ⟨c1, c2⟩ := C
    simp only [DP, Dy.pv, Iv.pv, NN, NL, bfoPV, u, ansC, Iv.zero, Dy.zero] at k1 k2 k3 hR
    refine PC.of_body follows Tryz.func156 (by decide +kernel) rfl (by kernel_rfl) (Nat.le_of_ble_eq_true rfl) (walk ?_)
    simp only [Tryz.f156, go_sem]
    refine qcall_i (k1) ?_; simp only [Tryz.f156, go_sem]
    refine qcall_i (k2) ?_; simp only [Tryz.f156, go_sem]
    refine qif_dt hc ?_
    simp only [Tryz.f156, go_sem]
    refine qcall_i (k3) ?_; simp only [Tryz.f156, go_sem]
    first | (rw [hR]; done) | (rw [hR]; rfl)
  rw [if_neg hc] at hR
  have k3 := x_Exp (lz.RI (by decide)) lz (by decide) (s := scS a.y b) (by omega) (by omega)
  by_cases ho : splitOk (zS a b) (scS a.y b)
  · rw [if_pos ho] at hR k3
    have lE := expI_lim (i := zS a b) (s := scS a.y b) (by omega) (by omega) ho
    have k4 := d_Round (lE.RI (by decide)) lE (by decide) a.neg hdir
    generalize roundS (expI (zS a b) (scS a.y b)) a.neg a.dir = O at *
    generalize expI (zS a b) (scS a.y b) = X at *
    generalize boundS (zS a b) sign = B at *
    generalize zS a b = Z at *
    cases O with
    | some r =>
      obtain ⟨r1, r2⟩ := r
      simp only [DP, Dy.pv, Iv.pv, NN, NL, bfoPV, u, ansC] at k1 k2 k3 k4 hR
      refine PC.of_body follows Tryz.func156 (by decide +kernel) rfl (by kernel_rfl) (Nat.le_of_ble_eq_true rfl) (walk ?_)
      simp only [Tryz.f156, go_sem]
      refine qcall_i (k1) ?_; simp only [Tryz.f156, go_sem]
      refine qcall_i (k2) ?_; simp only [Tryz.f156, go_sem]
      refine qif_df hc ?_
      simp only [Tryz.f156, go_sem]
      refine qcall_i (k3) ?_; simp only [Tryz.f156, go_sem]
      refine qcall_i (k4) ?_; simp only [Tryz.f156, go_sem]
      first | (rw [hR]; done) | (rw [hR]; rfl)
    | none =>
      simp only [DP, Dy.pv, Iv.pv, NN, NL, bfoPV, u, ansC] at k1 k2 k3 k4 hR
      refine PC.of_body follows Tryz.func156 (by decide +kernel) rfl (by kernel_rfl) (Nat.le_of_ble_eq_true rfl) (walk ?_)
      simp only [Tryz.f156, go_sem]
      refine qcall_i (k1) ?_; simp only [Tryz.f156, go_sem]
      refine qcall_i (k2) ?_; simp only [Tryz.f156, go_sem]
      refine qif_df hc ?_
      simp only [Tryz.f156, go_sem]
      refine qcall_i (k3) ?_; simp only [Tryz.f156, go_sem]
      refine qcall_i (k4) ?_; simp only [Tryz.f156, go_sem]
      first | (rw [hR]; done) | (rw [hR]; rfl)
  · rw [if_neg ho] at hR k3
    generalize boundS (zS a b) sign = B at *
    generalize zS a b = Z at *
    simp only [DP, Dy.pv, Iv.pv, NN, NL, u, ansC, Iv.zero, Dy.zero] at k1 k2 k3 hR
    refine PC.of_body follows Tryz.func156 (by decide +kernel) rfl (by kernel_rfl) (Nat.le_of_ble_eq_true rfl) (walk ?_)
    simp only [Tryz.f156, go_sem]
    refine qcall_i (k1) ?_; simp only [Tryz.f156, go_sem]
    refine qcall_i (k2) ?_; simp only [Tryz.f156, go_sem]
    refine qif_df hc ?_
    simp only [Tryz.f156, go_sem]
    refine qcall_i (k3) ?_; simp only [Tryz.f156, go_sem]
    first | (rw [hR]; done) | (rw [hR]; rfl)
end
end
end Go.Proofs.YtfkgaldbcngliaaGreatDoor
