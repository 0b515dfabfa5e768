import Derived.Test.YtfkgaldbcngliaaGreatDoorI3
section
set_option maxRecDepth 100000
namespace Go.Proofs.YtfkgaldbcngliaaGreatDoor.XX
def Ev (P : Nat → Prop) : Prop := ∃ k, ∀ N, k ≤ N → P N
theorem Ev.and {P Q : Nat → Prop} (h : Ev P) (k : Ev Q) : Ev fun N => P N ∧ Q N := by
  obtain ⟨a, h⟩ := h
  obtain ⟨b, k⟩ := k
  exact ⟨max a b, fun N hN => ⟨h N (by omega), k N (by omega)⟩⟩
theorem Ev.mono {P Q : Nat → Prop} (h : Ev P) (k : ∀ N, P N → Q N) : Ev Q := by
  obtain ⟨a, h⟩ := h
  exact ⟨a, fun N hN => k N (h N hN)⟩
theorem Ev.ge (n : Nat) : Ev fun N => n ≤ N := ⟨n, fun _ hN => hN⟩
theorem Ev.all {P : Nat → Prop} (h : ∀ N, P N) : Ev P := ⟨0, fun N _ => h N⟩
theorem rmul_le {a b c d : Rat} (h1 : a ≤ b) (h2 : c ≤ d) (h3 : 0 ≤ c) (h4 : 0 ≤ b) : a * c ≤ b * d :=
  Rat.le_trans (Rat.mul_le_mul_of_nonneg_right h1 h3) (Rat.mul_le_mul_of_nonneg_left h2 h4)
theorem rpow_le {x y : Rat} (h0 : 0 ≤ x) (h : x ≤ y) (n : Nat) : x ^ n ≤ y ^ n := by
  induction n with
  | zero => rw [Rat.pow_zero, Rat.pow_zero]; exact Rat.le_refl
  | succ n ih =>
    rw [Rat.pow_succ, Rat.pow_succ]
    exact rmul_le ih h h0 (Rat.pow_nonneg (Rat.le_trans h0 h))
theorem rmul_pow (x y : Rat) (n : Nat) : (x * y) ^ n = x ^ n * y ^ n := by
  induction n with
  | zero => simp
  | succ n ih => rw [Rat.pow_succ, Rat.pow_succ, Rat.pow_succ, ih]; grind
theorem one_pow' (n : Nat) : (1 : Rat) ^ n = 1 := by
  induction n with
  | zero => simp
  | succ n ih => rw [Rat.pow_succ, ih]; simp
theorem rpow_le_one {x : Rat} (h0 : 0 ≤ x) (h : x ≤ 1) (n : Nat) : x ^ n ≤ 1 := by
  have := rpow_le h0 h n
  rwa [one_pow'] at this
theorem one_le_rpow {x : Rat} (h : 1 ≤ x) (n : Nat) : 1 ≤ x ^ n := by
  have := rpow_le (by decide) h n
  rwa [one_pow'] at this
theorem rmul_nonneg {a b : Rat} (h : 0 ≤ a) (k : 0 ≤ b) : 0 ≤ a * b := Rat.mul_nonneg h k
theorem natc (n : Nat) : ((n + 1 : Nat) : Rat) = (n : Rat) + 1 := by rw [Rat.natCast_add]; rfl
theorem natc0 (n : Nat) : (0 : Rat) ≤ (n : Rat) := Rat.natCast_nonneg
theorem bern {x : Rat} (hx : -1 ≤ x) (n : Nat) : 1 + n * x ≤ (1 + x) ^ n := by
  induction n with
  | zero => rw [Rat.pow_zero, show ((0 : Nat) : Rat) = 0 from rfl]; grind
  | succ n ih =>
    rw [Rat.pow_succ, natc]
    have h1 : (0 : Rat) ≤ 1 + x := by grind
    have h2 := Rat.mul_le_mul_of_nonneg_right ih h1
    have h3 : 0 ≤ (n : Rat) * (x * x) := rmul_nonneg (natc0 n) (by
      rcases Rat.le_total (a := 0) (b := x) with h | h
      · exact rmul_nonneg h h
      · have := rmul_nonneg (a := -x) (b := -x) (by grind) (by grind)
        grind)
    grind
theorem bern_up {x : Rat} (h0 : 0 ≤ x) {n : Nat} (h1 : n * x ≤ 1) : (1 + x) ^ n * (1 - n * x) ≤ 1 := by
  by_cases hn : n = 0
  · subst hn; rw [Rat.pow_zero, show ((0 : Nat) : Rat) = 0 from rfl]; grind
  have hn1 : (1 : Rat) ≤ n := by
    have : ((1 : Nat) : Rat) ≤ n := Rat.natCast_le_natCast.2 (by omega)
    exact this
  have hx : x ≤ 1 := by
    have := Rat.mul_le_mul_of_nonneg_right hn1 h0
    grind
  have h2 := bern (x := -x) (by grind) n
  have h3 : ((1 + x) * (1 - x)) ^ n ≤ 1 := rpow_le_one (rmul_nonneg (by grind) (by grind)) (by have := rmul_nonneg h0 h0; grind) n
  rw [rmul_pow] at h3
  have h4 : (1 : Rat) - n * x ≤ (1 - x) ^ n := by
    have e : (1 : Rat) + -x = 1 - x := by grind
    rw [e] at h2
    grind
  have h5 : (0 : Rat) ≤ (1 + x) ^ n := Rat.pow_nonneg (by grind)
  exact Rat.le_trans (Rat.mul_le_mul_of_nonneg_left h4 h5) h3
theorem arch (x : Rat) : ∃ n : Nat, x < n := ⟨(x.floor + 1).toNat, by
  have h1 := Rat.lt_floor_add_one x
  have h2 : (x.floor + 1 : Int) ≤ ((x.floor + 1).toNat : Int) := by omega
  have h3 := Rat.intCast_le_intCast.2 h2
  have h4 : (((x.floor + 1).toNat : Int) : Rat) = (((x.floor + 1).toNat : Nat) : Rat) := rfl
  rw [h4] at h3
  grind⟩
def cN (N : Nat) (t : Rat) : Rat := (1 + t / N) ^ N
theorem ndiv {t : Rat} (h : 0 ≤ t) (N : Nat) : 0 ≤ t / N := by
  rw [Rat.div_def]
  refine rmul_nonneg h ?_
  by_cases hN : N = 0
  · subst hN; simp
  · exact Rat.le_of_lt (Rat.inv_pos.2 (by
      have : ((0 : Nat) : Rat) < N := Rat.natCast_lt_natCast.2 (by omega)
      exact this))
theorem npos {N : Nat} (h : 1 ≤ N) : (0 : Rat) < N := by
  have : ((0 : Nat) : Rat) < N := Rat.natCast_lt_natCast.2 (by omega)
  exact this
theorem cN_ge1 {t : Rat} (h : 0 ≤ t) (N : Nat) : 1 ≤ cN N t := one_le_rpow (by have := ndiv h N; grind) N
theorem cN_zero (N : Nat) : cN N 0 = 1 := by
  unfold cN
  have : (1 : Rat) + 0 / N = 1 := by rw [Rat.div_def]; grind
  rw [this, one_pow']
theorem cN_mono {a b : Rat} (h0 : 0 ≤ a) (h : a ≤ b) (N : Nat) : cN N a ≤ cN N b := by
  refine rpow_le (by have := ndiv h0 N; grind) ?_ N
  have h1 := ndiv (t := b - a) (by grind) N
  rw [Rat.div_def] at *
  grind
theorem cN_add_le {a b : Rat} (ha : 0 ≤ a) (hb : 0 ≤ b) (N : Nat) : cN N (a + b) ≤ cN N a * cN N b := by
  unfold cN
  rw [← rmul_pow]
  have h1 := ndiv ha N
  have h2 := ndiv hb N
  have h3 : (a + b) / (N : Rat) = a / N + b / N := by simp only [Rat.div_def]; grind
  have h4 := rmul_nonneg h1 h2
  rw [h3]
  refine rpow_le (by grind) (by grind) N
theorem cN_mul_le {a b : Rat} (ha : 0 ≤ a) (hb : 0 ≤ b) {N : Nat} (h : a * b ≤ N) (hN : 1 ≤ N) : cN N a * cN N b * (1 - a * b / N) ≤ cN N (a + b) := by
  have hp := npos hN
  have h1 := ndiv ha N
  have h2 := ndiv hb N
  have h12 := rmul_nonneg h1 h2
  have h3 : (a + b) / (N : Rat) = a / N + b / N := by simp only [Rat.div_def]; grind
  have e1 : (N : Rat) * (a / N * (b / N)) = a * b / N := by grind
  have h4 : (N : Rat) * (a / N * (b / N)) ≤ 1 := by
    rw [e1]
    exact Rat.le_of_mul_le_mul_right (c := (N : Rat)) (by rw [Rat.div_mul_cancel (by grind)]; grind) hp
  have h5 := bern_up h12 h4
  rw [e1] at h5
  unfold cN
  rw [← rmul_pow, h3]
  generalize a / (N : Rat) = x at *
  generalize b / (N : Rat) = y at *
  have h0 : (0 : Rat) ≤ 1 - a * b / N := by rw [← e1]; grind
  have h6 : ((1 + x) * (1 + y)) ^ N ≤ ((1 + (x + y)) * (1 + x * y)) ^ N := rpow_le (rmul_nonneg (by grind) (by grind)) (by
    have := rmul_nonneg h12 (show (0 : Rat) ≤ x + y by grind)
    grind) N
  rw [rmul_pow (1 + (x + y))] at h6
  have h7 : (0 : Rat) ≤ (1 + (x + y)) ^ N := Rat.pow_nonneg (by grind)
  refine Rat.le_trans (Rat.mul_le_mul_of_nonneg_right h6 h0) ?_
  rw [Rat.mul_assoc]
  refine Rat.le_trans (Rat.mul_le_mul_of_nonneg_left h5 h7) ?_
  rw [Rat.mul_one]
  exact Rat.le_refl
def R (a b p q : Rat) : Prop := ∀ th : Rat, 0 < th → th < 1 → Ev fun N => th * (cN N a * p) ≤ cN N b * q
theorem half_sq {th : Rat} : th ≤ (1 + th) / 2 * ((1 + th) / 2) := by
  have : 0 ≤ (1 - th) * (1 - th) := by
    rcases Rat.le_total (a := 0) (b := 1 - th) with h | h
    · exact rmul_nonneg h h
    · have := rmul_nonneg (a := -(1 - th)) (b := -(1 - th)) (by grind) (by grind)
      grind
  grind
theorem half_in {th : Rat} (h0 : 0 < th) (h1 : th < 1) : 0 < (1 + th) / 2 ∧ (1 + th) / 2 < 1 := by grind
theorem R.of_le {a p q : Rat} (ha : 0 ≤ a) (hp : 0 ≤ p) (h : p ≤ q) : R a a p q := fun th h0 h1 => Ev.all fun N => by
  have h2 := cN_ge1 ha N
  have h3 := rmul_nonneg (show (0 : Rat) ≤ cN N a by grind) hp
  have h4 := Rat.mul_le_mul_of_nonneg_left h (show (0 : Rat) ≤ cN N a by grind)
  have h5 := Rat.mul_le_mul_of_nonneg_right (Rat.le_of_lt h1) h3
  grind
theorem R.trans {a b c p q r : Rat} (h : R a b p q) (k : R b c q r) (ha : 0 ≤ a) (hp : 0 ≤ p) : R a c p r := fun th h0 h1 => by
  obtain ⟨h2, h3⟩ := half_in h0 h1
  refine ((h _ h2 h3).and (k _ h2 h3)).mono fun N ⟨x, y⟩ => ?_
  have h4 := half_sq (th := th)
  generalize (1 + th) / 2 = t at *
  have h6 := rmul_nonneg (show (0 : Rat) ≤ cN N a by have := cN_ge1 ha N; grind) hp
  have h7 := Rat.mul_le_mul_of_nonneg_right h4 h6
  have h8 := Rat.mul_le_mul_of_nonneg_left x (Rat.le_of_lt h2)
  grind
theorem Ev.ratio (x : Rat) {th : Rat} (h1 : th < 1) : Ev fun N => 1 ≤ N ∧ x ≤ N ∧ th ≤ 1 - x / N := by
  obtain ⟨n, hn⟩ := arch (x / (1 - th))
  obtain ⟨m, hm⟩ := arch x
  refine ⟨max (max n m) 1, fun N hN => ?_⟩
  have hN1 : 1 ≤ N := by omega
  have hp := npos hN1
  have h2 : (n : Rat) ≤ N := Rat.natCast_le_natCast.2 (by omega)
  have h3 : (m : Rat) ≤ N := Rat.natCast_le_natCast.2 (by omega)
  refine ⟨hN1, by grind, ?_⟩
  have h4 : (0 : Rat) < 1 - th := by grind
  have h5 : x / (1 - th) ≤ N := by grind
  have h6 : x ≤ N * (1 - th) := by
    have := Rat.mul_le_mul_of_nonneg_right h5 (Rat.le_of_lt h4)
    rwa [Rat.div_mul_cancel (by grind)] at this
  have h7 : x / N ≤ 1 - th := Rat.le_of_mul_le_mul_right (c := (N : Rat)) (by rw [Rat.div_mul_cancel (by grind)]; grind) hp
  grind
theorem R.mul {a b p q a' b' p' q' : Rat} (h : R a b p q) (k : R a' b' p' q') (ha : 0 ≤ a) (ha' : 0 ≤ a') (hb : 0 ≤ b) (hb' : 0 ≤ b') (hp : 0 ≤ p) (hp' : 0 ≤ p') (hq : 0 ≤ q) (hq' : 0 ≤ q') :
    R (a + a') (b + b') (p * p') (q * q') := fun th h0 h1 => by
  obtain ⟨h2, h3⟩ := half_in h0 h1
  have h4 := half_sq (th := th)
  generalize (1 + th) / 2 = s at *
  obtain ⟨h5, h6⟩ := half_in h2 h3
  have h7 := half_sq (th := s)
  generalize (1 + s) / 2 = t at *
  refine (((h _ h5 h6).and (k _ h5 h6)).and (Ev.ratio (b * b') h3)).mono fun N ⟨⟨x, y⟩, hN, z1, z2⟩ => ?_
  have e1 := cN_add_le ha ha' N
  have e2 := cN_mul_le hb hb' z1 hN
  have ca : 0 ≤ cN N a := by have := cN_ge1 ha N; grind
  have ca' : 0 ≤ cN N a' := by have := cN_ge1 ha' N; grind
  have cb : 0 ≤ cN N b := by have := cN_ge1 hb N; grind
  have cb' : 0 ≤ cN N b' := by have := cN_ge1 hb' N; grind
  have f1 := rmul_le x y (rmul_nonneg (Rat.le_of_lt h5) (rmul_nonneg ca' hp')) (rmul_nonneg cb hq)
  have f2 := Rat.mul_le_mul_of_nonneg_right e1 (rmul_nonneg hp hp')
  have f3 := Rat.mul_le_mul_of_nonneg_right e2 (rmul_nonneg hq hq')
  have f4 := Rat.mul_le_mul_of_nonneg_left z2 (rmul_nonneg (rmul_nonneg cb cb') (rmul_nonneg hq hq'))
  -- th * (c(a+a') p p') ≤ s * s * (ca ca' p p') ≤ s * t * t (..) ≤ s * (cb q cb' q')
  have g1 : 0 ≤ cN N a * cN N a' * (p * p') := rmul_nonneg (rmul_nonneg ca ca') (rmul_nonneg hp hp')
  have g2 : th * (cN N (a + a') * (p * p')) ≤ s * s * (cN N a * cN N a' * (p * p')) := by
    have g3 := Rat.mul_le_mul_of_nonneg_left f2 (Rat.le_of_lt h0)
    have g4 := Rat.mul_le_mul_of_nonneg_right h4 g1
    grind
  have g5 : s * s * (cN N a * cN N a' * (p * p')) ≤ s * (t * t * (cN N a * cN N a' * (p * p'))) := by
    have g6 := Rat.mul_le_mul_of_nonneg_left (Rat.mul_le_mul_of_nonneg_right h7 g1) (Rat.le_of_lt h2)
    grind
  have g7 : s * (t * t * (cN N a * cN N a' * (p * p'))) ≤ s * (cN N b * cN N b' * (q * q')) := by
    refine Rat.mul_le_mul_of_nonneg_left ?_ (Rat.le_of_lt h2)
    grind
  have g8 : s * (cN N b * cN N b' * (q * q')) ≤ cN N (b + b') * (q * q') := by grind
  exact Rat.le_trans g2 (Rat.le_trans g5 (Rat.le_trans g7 g8))
theorem R.cancel {a b c p q : Rat} (h : R (a + c) (b + c) p q) (ha : 0 ≤ a) (hb : 0 ≤ b) (hc : 0 ≤ c) (hp : 0 ≤ p) (hq : 0 ≤ q) : R a b p q := fun th h0 h1 => by
  obtain ⟨h2, h3⟩ := half_in h0 h1
  have h4 := half_sq (th := th)
  generalize (1 + th) / 2 = s at *
  refine ((h _ h2 h3).and (Ev.ratio (a * c) h3)).mono fun N ⟨x, hN, z1, z2⟩ => ?_
  have e1 := cN_add_le hb hc N
  have e2 := cN_mul_le ha hc z1 hN
  have ca : 0 ≤ cN N a := by have := cN_ge1 ha N; grind
  have cc : 0 < cN N c := by have := cN_ge1 hc N; grind
  have cb : 0 ≤ cN N b := by have := cN_ge1 hb N; grind
  have f2 := Rat.mul_le_mul_of_nonneg_right e1 hq
  have f3 := Rat.mul_le_mul_of_nonneg_right e2 hp
  have g0 : 0 ≤ cN N a * cN N c * p := rmul_nonneg (rmul_nonneg ca (Rat.le_of_lt cc)) hp
  have f4 := Rat.mul_le_mul_of_nonneg_left z2 g0
  refine Rat.le_of_mul_le_mul_right (c := cN N c) ?_ cc
  have g1 := Rat.mul_le_mul_of_nonneg_right h4 g0
  have g2 : s * (s * (cN N a * cN N c * p)) ≤ s * (cN N (a + c) * p) := Rat.mul_le_mul_of_nonneg_left (by grind) (Rat.le_of_lt h2)
  grind
theorem lim_le {p q : Rat} (h : ∀ th : Rat, 0 < th → th < 1 → th * p ≤ q) (hp : 0 ≤ p) : p ≤ q := by
  refine Rat.not_lt.1 fun hlt => ?_
  have hq : 0 ≤ q := by
    have := h (1 / 2) (by decide +kernel) (by decide +kernel)
    grind
  have hp' : 0 < p := by grind
  have e : (p + q) / (2 * p) * p = (p + q) / 2 := by grind
  have h1 : (p + q) / (2 * p) < 1 := by
    rw [Rat.div_lt_iff (by grind)]; grind
  have h2 : 0 < (p + q) / (2 * p) := by
    rw [Rat.lt_div_iff (by grind)]; grind
  have := h _ h2 h1
  rw [e] at this
  grind
theorem R.base {p q : Rat} (h : R 0 0 p q) (hp : 0 ≤ p) : p ≤ q := lim_le (fun th h0 h1 => by
  obtain ⟨k, hk⟩ := h th h0 h1
  have : th * (cN k 0 * p) ≤ cN k 0 * q := hk k (Nat.le_refl _)
  rw [cN_zero] at this
  grind) hp
theorem R.closed {a b p q : Rat} (h : ∀ th : Rat, 0 < th → th < 1 → R a b (th * p) q) (ha : 0 ≤ a) (hp : 0 ≤ p) : R a b p q := fun th h0 h1 => by
  obtain ⟨h2, h3⟩ := half_in h0 h1
  have h4 := half_sq (th := th)
  generalize (1 + th) / 2 = s at *
  refine (h s h2 h3 s h2 h3).mono fun N x => ?_
  have ca : 0 ≤ cN N a := by have := cN_ge1 ha N; grind
  have := Rat.mul_le_mul_of_nonneg_right h4 (rmul_nonneg ca hp)
  grind
theorem R.mono {a b a' b' p q p' q' : Rat} (h : R a b p q) (h1 : a' ≤ a) (h2 : b ≤ b') (h3 : p' ≤ p) (h4 : q ≤ q') (ha : 0 ≤ a') (hb : 0 ≤ b) (hp : 0 ≤ p') (hq : 0 ≤ q) : R a' b' p' q' := fun th h5 h6 =>
  (h th h5 h6).mono fun N x => by
    have e1 := rmul_le (cN_mono ha h1 N) h3 hp (by have := cN_ge1 (Rat.le_trans ha h1) N; grind)
    have e2 := rmul_le (cN_mono hb h2 N) h4 hq (by have := cN_ge1 (Rat.le_trans hb h2) N; grind)
    have e3 := Rat.mul_le_mul_of_nonneg_left e1 (Rat.le_of_lt h5)
    grind
end Go.Proofs.YtfkgaldbcngliaaGreatDoor.XX
end
section
set_option maxRecDepth 100000
set_option linter.unusedVariables false
namespace Go.Proofs.YtfkgaldbcngliaaGreatDoor.XX
def Et : Nat → Rat → Rat
  | 0, _ => 1
  | n + 1, t => Et n t * t / ((n + 1 : Nat) : Rat)
def Es : Nat → Rat → Rat
  | 0, _ => 1
  | n + 1, t => Es n t + Et (n + 1) t
theorem Et_step (n : Nat) (t : Rat) : Et (n + 1) t * ((n : Rat) + 1) = Et n t * t := by
  show Et n t * t / ((n + 1 : Nat) : Rat) * _ = _
  rw [natc]
  exact Rat.div_mul_cancel (by have := natc0 n; grind)
theorem Et_nonneg {t : Rat} (h : 0 ≤ t) (n : Nat) : 0 ≤ Et n t := by
  induction n with
  | zero => show (0 : Rat) ≤ 1; decide
  | succ n ih => exact ndiv (rmul_nonneg ih h) _
theorem Es_ge1 {t : Rat} (h : 0 ≤ t) (n : Nat) : 1 ≤ Es n t := by
  induction n with
  | zero => exact Rat.le_refl
  | succ n ih =>
    have := Et_nonneg h (n + 1)
    show 1 ≤ Es n t + Et (n + 1) t
    grind
theorem Es_up {t : Rat} (h : 0 ≤ t) (n : Nat) : Es n t ≤ Es (n + 1) t := by
  have := Et_nonneg h (n + 1)
  show Es n t ≤ Es n t + Et (n + 1) t
  grind
theorem scale_le {x y c : Rat} (hc : 0 < c) (h : x * c ≤ y * c) : x ≤ y := Rat.le_of_mul_le_mul_right h hc
theorem n1pos (n : Nat) : (0 : Rat) < (n : Rat) + 1 := by have := natc0 n; grind
theorem Et_add_ge {u x : Rat} (hu : 0 ≤ u) (hx : 0 ≤ x) : ∀ k : Nat, Et (k + 1) u + x * Et k u ≤ Et (k + 1) (u + x)
  | 0 => by
    have h1 := Et_step 0 u
    have h2 := Et_step 0 (u + x)
    have e0 : ∀ t, Et 0 t = 1 := fun _ => rfl
    rw [e0] at *
    have : ((0 : Nat) : Rat) = 0 := rfl
    grind
  | k + 1 => by
    have ih := Et_add_ge hu hx k
    have h1 := Et_step (k + 1) u
    have h2 := Et_step (k + 1) (u + x)
    have h3 := Et_step k u
    have hk := n1pos (k + 1)
    have h4 := Rat.mul_le_mul_of_nonneg_right ih (show 0 ≤ u + x by grind)
    have h5 := rmul_nonneg (rmul_nonneg hx hx) (Et_nonneg hu k)
    refine scale_le hk ?_
    have hc := natc k
    rw [hc] at *
    generalize Et (k + 1 + 1) (u + x) = A at *
    generalize Et (k + 1 + 1) u = B at *
    generalize Et (k + 1) (u + x) = C at *
    generalize Et (k + 1) u = D at *
    generalize Et k u = F at *
    have h6 : x * (D * ((k : Rat) + 1)) = x * (F * u) := by rw [h3]
    grind
theorem Et_add_le {u x : Rat} (hu : 0 ≤ u) (hx : 0 ≤ x) : ∀ k : Nat, Et (k + 1) (u + x) ≤ Et (k + 1) u + x * Et k (u + x)
  | 0 => by
    have h1 := Et_step 0 u
    have h2 := Et_step 0 (u + x)
    have e0 : ∀ t, Et 0 t = 1 := fun _ => rfl
    rw [e0] at *
    have : ((0 : Nat) : Rat) = 0 := rfl
    grind
  | k + 1 => by
    have ih := Et_add_le hu hx k
    have h1 := Et_step (k + 1) u
    have h2 := Et_step (k + 1) (u + x)
    have h3 := Et_step k (u + x)
    have hk := n1pos (k + 1)
    have h4 := Rat.mul_le_mul_of_nonneg_right ih hu
    have h5 := rmul_nonneg (rmul_nonneg hx hx) (Et_nonneg (show 0 ≤ u + x by grind) k)
    refine scale_le hk ?_
    have hc := natc k
    rw [hc] at *
    generalize Et (k + 1 + 1) (u + x) = A at *
    generalize Et (k + 1 + 1) u = B at *
    generalize Et (k + 1) (u + x) = C at *
    generalize Et (k + 1) u = D at *
    generalize Et k (u + x) = F at *
    have h6 : x * (C * ((k : Rat) + 1)) = x * (F * (u + x)) := by rw [h3]
    grind
theorem Es_add_ge {u x : Rat} (hu : 0 ≤ u) (hx : 0 ≤ x) : ∀ n : Nat, Es (n + 1) u + x * Es n u ≤ Es (n + 1) (u + x)
  | 0 => by
    have := Et_add_ge hu hx 0
    show (1 : Rat) + Et 1 u + x * 1 ≤ 1 + Et 1 (u + x)
    have e0 : ∀ t, Et 0 t = 1 := fun _ => rfl
    rw [e0] at this
    grind
  | n + 1 => by
    have ih := Es_add_ge hu hx n
    have := Et_add_ge hu hx (n + 1)
    show Es (n + 1) u + Et (n + 1 + 1) u + x * (Es n u + Et (n + 1) u) ≤ Es (n + 1) (u + x) + Et (n + 1 + 1) (u + x)
    grind
theorem Es_sharp {u x : Rat} (hu : 0 ≤ u) (hx : 0 ≤ x) : ∀ n : Nat, Es (n + 1) (u + x) ≤ Es (n + 1) u + x * Es n (u + x)
  | 0 => by
    have := Et_add_le hu hx 0
    show (1 : Rat) + Et 1 (u + x) ≤ 1 + Et 1 u + x * 1
    have e0 : ∀ t, Et 0 t = 1 := fun _ => rfl
    rw [e0] at this
    grind
  | n + 1 => by
    have ih := Es_sharp hu hx n
    have := Et_add_le hu hx (n + 1)
    show Es (n + 1) (u + x) + Et (n + 1 + 1) (u + x) ≤ Es (n + 1) u + Et (n + 1 + 1) u + x * (Es n (u + x) + Et (n + 1) (u + x))
    grind
theorem Es_add_le {u x : Rat} (hu : 0 ≤ u) (hx : 0 ≤ x) (n : Nat) : Es n (u + x) ≤ Es n u + x * Es n (u + x) := by
  cases n with
  | zero =>
    show (1 : Rat) ≤ 1 + x * 1
    grind
  | succ n =>
    have h1 := Es_sharp hu hx n
    have h2 := Rat.mul_le_mul_of_nonneg_left (Es_up (show 0 ≤ u + x by grind) n) hx
    grind
theorem Es_zero (n : Nat) : Es n 0 = 1 := by
  induction n with
  | zero => rfl
  | succ n ih =>
    have h := Et_step n 0
    have := n1pos n
    have h2 : Et (n + 1) 0 = 0 := by
      have h3 : Et (n + 1) 0 * ((n : Rat) + 1) = 0 := by rw [h]; grind
      rcases Rat.mul_eq_zero.1 h3 with h4 | h4
      · exact h4
      · grind
    show Es n 0 + Et (n + 1) 0 = 1
    rw [ih, h2]; grind
theorem pow_le_Es {x : Rat} (hx : 0 ≤ x) : ∀ j : Nat, (1 + x) ^ j ≤ Es j (j * x)
  | 0 => by simp [Es]
  | j + 1 => by
    have ih := pow_le_Es hx j
    have h0 : 0 ≤ (j : Rat) * x := rmul_nonneg (natc0 j) hx
    have h1 := Es_add_ge h0 hx j
    have h2 := Es_up h0 j
    rw [natc, Rat.pow_succ, show ((j : Rat) + 1) * x = j * x + x by grind]
    have h3 := Rat.mul_le_mul_of_nonneg_right ih (show 0 ≤ 1 + x by grind)
    grind
theorem cN_le_Es {t : Rat} (h : 0 ≤ t) (N : Nat) : cN N t ≤ Es N t := by
  by_cases hN : N = 0
  · subst hN
    show (1 + t / _) ^ 0 ≤ 1
    rw [Rat.pow_zero]; exact Rat.le_refl
  have hp := npos (show 1 ≤ N by omega)
  have := pow_le_Es (ndiv h N) N
  rwa [show (N : Rat) * (t / N) = t by grind] at this
theorem Es_le_pow {x : Rat} (hx : 0 ≤ x) (h1 : x ≤ 1) (n : Nat) : ∀ j : Nat, Es n (j * x) * (1 - x) ^ j ≤ 1
  | 0 => by
    rw [show ((0 : Nat) : Rat) * x = 0 by rw [show ((0 : Nat) : Rat) = 0 from rfl]; grind, Es_zero]; simp
  | j + 1 => by
    have ih := Es_le_pow hx h1 n j
    have h0 : 0 ≤ (j : Rat) * x := rmul_nonneg (natc0 j) hx
    have h2 := Es_add_le h0 hx n
    rw [natc, Rat.pow_succ, show ((j : Rat) + 1) * x = j * x + x by grind]
    have h3 : 0 ≤ (1 - x) ^ j := Rat.pow_nonneg (by grind)
    have h4 := Rat.mul_le_mul_of_nonneg_right (show Es n (j * x + x) * (1 - x) ≤ Es n (j * x) by grind) h3
    grind
theorem Es_le_cN {t : Rat} (h : 0 ≤ t) (n : Nat) {N : Nat} (hN : 1 ≤ N) (ht : t ≤ N) : Es n t * (1 - t * t / N) ≤ cN N t := by
  have hp := npos hN
  have hx := ndiv h N
  have e : (N : Rat) * (t / N) = t := by grind
  have hx1 : t / N ≤ 1 := scale_le hp (by rw [Rat.div_mul_cancel (by grind)]; grind)
  have h1 := Es_le_pow hx hx1 n N
  rw [e] at h1
  have h2 := bern (x := -(t / N * (t / N))) (by
    have := rmul_le hx1 hx1 hx (by decide)
    grind) N
  have h3 : (1 + -(t / N * (t / N))) ^ N = (1 - t / N) ^ N * (1 + t / N) ^ N := by
    rw [← rmul_pow]; congr 1; grind
  have h4 : (N : Rat) * (t / N * (t / N)) = t * t / N := by grind
  rw [h3] at h2
  have h5 : (1 : Rat) - t * t / N ≤ (1 - t / N) ^ N * (1 + t / N) ^ N := by grind
  have h6 := Rat.mul_le_mul_of_nonneg_left h5 (show 0 ≤ Es n t by have := Es_ge1 h n; grind)
  have h7 := Rat.mul_le_mul_of_nonneg_right h1 (show 0 ≤ (1 + t / (N : Rat)) ^ N from Rat.pow_nonneg (by grind))
  show _ ≤ (1 + t / (N : Rat)) ^ N
  grind
theorem R.sum_lo {t : Rat} (h : 0 ≤ t) (n : Nat) : R 0 t (Es n t) 1 := fun th h0 h1 =>
  ((Ev.ratio (t * t) h1).and (Ev.ratio t h1)).mono fun N ⟨⟨hN, _, z⟩, _, ht, _⟩ => by
    rw [cN_zero]
    have h2 := Es_le_cN h n hN ht
    have h3 := Rat.mul_le_mul_of_nonneg_right z (show 0 ≤ Es n t by have := Es_ge1 h n; grind)
    grind
theorem R.sum_hi {t q : Rat} (h : 0 ≤ t) (hq : ∀ n, Es n t ≤ q) : R t 0 1 q := fun th h0 h1 => Ev.all fun N => by
  rw [cN_zero]
  have h2 := cN_le_Es h N
  have h3 := hq N
  have h4 := cN_ge1 h N
  have h5 := Rat.mul_le_mul_of_nonneg_right (Rat.le_of_lt h1) (show 0 ≤ cN N t by grind)
  grind
def pp (t : Rat) : Rat := if 0 ≤ t then t else 0
theorem pp_nonneg (t : Rat) : 0 ≤ pp t := by unfold pp; split; assumption; exact Rat.le_refl
theorem pp_sub (t : Rat) : pp t = t + pp (-t) := by unfold pp; split <;> split <;> grind
def XL (v t : Rat) : Prop := R (pp (-t)) (pp t) v 1
def XU (t v : Rat) : Prop := R (pp t) (pp (-t)) 1 v
theorem R.shift {a b a' b' p q : Rat} (h : R a b p q) (e : a + b' = a' + b) (ha : 0 ≤ a) (hb : 0 ≤ b) (ha' : 0 ≤ a') (hb' : 0 ≤ b') (hp : 0 ≤ p) (hq : 0 ≤ q) : R a' b' p q := by
  have h1 := h.mul (R.of_le (a := b') (p := 1) (q := 1) hb' (by decide) Rat.le_refl) ha hb' hb hb' hp (by decide) hq (by decide)
  rw [e, Rat.add_comm b b', Rat.mul_one, Rat.mul_one] at h1
  exact h1.cancel ha' hb' hb hp hq
theorem XL.of {a b v : Rat} (h : R a b v 1) (ha : 0 ≤ a) (hb : 0 ≤ b) (hv : 0 ≤ v) : XL v (b - a) :=
  h.shift (by have := pp_sub (b - a); grind) ha hb (pp_nonneg _) (pp_nonneg _) hv (by decide)
theorem XU.of {a b v : Rat} (h : R a b 1 v) (ha : 0 ≤ a) (hb : 0 ≤ b) (hv : 0 ≤ v) : XU (a - b) v :=
  h.shift (by have := pp_sub (a - b); grind) ha hb (pp_nonneg _) (pp_nonneg _) (by decide) hv
theorem XL.le {v t w : Rat} (h : XL v t) (k : XU t w) (hv : 0 ≤ v) (hw : 0 ≤ w) : v ≤ w := by
  have h1 := h.mul k (pp_nonneg _) (pp_nonneg _) (pp_nonneg _) (pp_nonneg _) hv (by decide) (by decide) hw
  rw [Rat.mul_one, Rat.one_mul, Rat.add_comm (pp (-t))] at h1
  have h2 : R (0 + (pp t + pp (-t))) (0 + (pp t + pp (-t))) v w := by rwa [Rat.zero_add]
  exact (h2.cancel Rat.le_refl Rat.le_refl (by have := pp_nonneg t; have := pp_nonneg (-t); grind) hv hw).base hv
theorem XL.mul {v t w u : Rat} (h : XL v t) (k : XL w u) (hv : 0 ≤ v) (hw : 0 ≤ w) : XL (v * w) (t + u) := by
  have h1 := R.mul h k (pp_nonneg _) (pp_nonneg _) (pp_nonneg _) (pp_nonneg _) hv hw (by decide) (by decide)
  have h2 := XL.of (by simpa using h1) (by have := pp_nonneg (-t); have := pp_nonneg (-u); grind) (by have := pp_nonneg t; have := pp_nonneg u; grind) (rmul_nonneg hv hw)
  rwa [show pp t + pp u - (pp (-t) + pp (-u)) = t + u by have := pp_sub t; have := pp_sub u; grind] at h2
theorem XU.mul {v t w u : Rat} (h : XU t v) (k : XU u w) (hv : 0 ≤ v) (hw : 0 ≤ w) : XU (t + u) (v * w) := by
  have h1 := R.mul h k (pp_nonneg _) (pp_nonneg _) (pp_nonneg _) (pp_nonneg _) (by decide) (by decide) hv hw
  have h2 := XU.of (by simpa using h1) (by have := pp_nonneg t; have := pp_nonneg u; grind) (by have := pp_nonneg (-t); have := pp_nonneg (-u); grind) (rmul_nonneg hv hw)
  rwa [show pp t + pp u - (pp (-t) + pp (-u)) = t + u by have := pp_sub t; have := pp_sub u; grind] at h2
theorem XL.mono {v t w u : Rat} (h : XL v t) (h1 : t ≤ u) (h2 : w ≤ v) (hw : 0 ≤ w) : XL w u :=
  R.mono h (by unfold pp; split <;> split <;> grind) (by unfold pp; split <;> split <;> grind) h2 Rat.le_refl (pp_nonneg _) (pp_nonneg _) hw (by decide)
theorem XU.mono {v t w u : Rat} (h : XU t v) (h1 : u ≤ t) (h2 : v ≤ w) (hv : 0 ≤ v) : XU u w :=
  R.mono h (by unfold pp; split <;> split <;> grind) (by unfold pp; split <;> split <;> grind) Rat.le_refl h2 (pp_nonneg _) (pp_nonneg _) (by decide) hv
theorem XL.closed {v t : Rat} (h : ∀ th : Rat, 0 < th → th < 1 → XL (th * v) t) (hv : 0 ≤ v) : XL v t := R.closed h (pp_nonneg _) hv
theorem XU.closed {v t : Rat} (h : ∀ th : Rat, 0 < th → th < 1 → XU t (v / th)) (hv : 0 ≤ v) : XU t v := R.closed (fun th h0 h1 s h2 h3 => (h th h0 h1 s h2 h3).mono fun N x => by
  have h4 := Rat.mul_le_mul_of_nonneg_left x (Rat.le_of_lt h0)
  have h5 : th * (cN N (pp (-t)) * (v / th)) = cN N (pp (-t)) * v := by grind
  grind) (pp_nonneg _) (by decide)
theorem XL.inv {v t : Rat} (h : XL v t) (hv : 0 < v) : XU (-t) (1 / v) := fun th h0 h1 => (h th h0 h1).mono fun N x => by
  rw [show - -t = t by grind]
  refine scale_le hv ?_
  have : cN N (pp t) * (1 / v) * v = cN N (pp t) := by grind
  rw [this]
  grind
theorem XU.inv {v t : Rat} (h : XU t v) (hv : 0 < v) : XL (1 / v) (-t) := fun th h0 h1 => (h th h0 h1).mono fun N x => by
  rw [show - -t = t by grind]
  refine scale_le hv ?_
  have : th * (cN N (pp t) * (1 / v)) * v = th * cN N (pp t) := by grind
  rw [this]
  grind
theorem XL.zero : XL 1 0 := by
  have := XL.of (a := 0) (b := 0) (v := 1) (R.of_le Rat.le_refl (by decide) Rat.le_refl) Rat.le_refl Rat.le_refl (by decide)
  rwa [show (0 : Rat) - 0 = 0 by grind] at this
theorem XU.zero : XU 0 1 := by
  have := XU.of (a := 0) (b := 0) (v := 1) (R.of_le Rat.le_refl (by decide) Rat.le_refl) Rat.le_refl Rat.le_refl (by decide)
  rwa [show (0 : Rat) - 0 = 0 by grind] at this
theorem XL.pow {v t : Rat} (h : XL v t) (hv : 0 ≤ v) (n : Nat) : XL (v ^ n) (n * t) := by
  induction n with
  | zero =>
    rw [show ((0 : Nat) : Rat) * t = 0 by rw [show ((0 : Nat) : Rat) = 0 from rfl]; grind, Rat.pow_zero]
    exact XL.zero
  | succ n ih =>
    rw [natc, Rat.pow_succ, show ((n : Rat) + 1) * t = n * t + t by grind]
    exact ih.mul h (Rat.pow_nonneg hv) hv
theorem XU.pow {v t : Rat} (h : XU t v) (hv : 0 ≤ v) (n : Nat) : XU (n * t) (v ^ n) := by
  induction n with
  | zero =>
    rw [show ((0 : Nat) : Rat) * t = 0 by rw [show ((0 : Nat) : Rat) = 0 from rfl]; grind, Rat.pow_zero]
    exact XU.zero
  | succ n ih =>
    rw [natc, Rat.pow_succ, show ((n : Rat) + 1) * t = n * t + t by grind]
    exact ih.mul h (Rat.pow_nonneg hv) hv
theorem pp_of {t : Rat} (h : 0 ≤ t) : pp t = t := if_pos h
theorem pp_neg {t : Rat} (h : 0 ≤ t) : pp (-t) = 0 := by unfold pp; split <;> grind
theorem XL.sum {t v : Rat} (h : 0 ≤ t) (n : Nat) (hv : v ≤ Es n t) (h0 : 0 ≤ v) : XL v t := by
  unfold XL
  rw [pp_of h, pp_neg h]
  exact (R.sum_lo h n).mono Rat.le_refl Rat.le_refl hv Rat.le_refl Rat.le_refl h h0 (by decide)
theorem XU.sum {t v : Rat} (h : 0 ≤ t) (hv : ∀ n, Es n t ≤ v) : XU t v := by
  unfold XU
  rw [pp_of h, pp_neg h]
  exact R.sum_hi h hv
theorem XL.one_add {t : Rat} (h : 0 ≤ t) : XL (1 + t) t := XL.sum h 1 (by
  show 1 + t ≤ 1 + Et 1 t
  have h1 := Et_step 0 t
  have e0 : ∀ t, Et 0 t = 1 := fun _ => rfl
  rw [e0] at h1
  have : ((0 : Nat) : Rat) = 0 := rfl
  have e1 : Et (0 + 1) t = Et 1 t := rfl
  grind) (by grind)
theorem XU.one_sub {t : Rat} (h : 0 ≤ t) (h1 : t < 1) : XU t (1 / (1 - t)) := by
  unfold XU
  rw [pp_of h, pp_neg h]
  intro th h2 h3
  refine (Ev.ge 1).mono fun N hN => ?_
  rw [cN_zero]
  have hp := npos hN
  have e : (N : Rat) * (t / N) = t := by grind
  have h4 := bern_up (ndiv h N) (n := N) (by grind)
  rw [e] at h4
  have h5 : cN N t * (1 - t) ≤ 1 := h4
  have h6 := cN_ge1 h N
  refine scale_le (c := 1 - t) (by grind) ?_
  have h7 : 1 * (1 / (1 - t)) * (1 - t) = 1 := by grind
  rw [h7]
  have h8 := Rat.mul_le_mul_of_nonneg_right (Rat.le_of_lt h3) (show 0 ≤ cN N t * (1 - t) from rmul_nonneg (by grind) (by grind))
  grind
end Go.Proofs.YtfkgaldbcngliaaGreatDoor.XX
end
section
set_option maxRecDepth 100000
set_option linter.unusedVariables false
namespace Go.Proofs.YtfkgaldbcngliaaGreatDoor.XX
theorem rle_of_eq {a b : Rat} (h : a = b) : a ≤ b := h ▸ Rat.le_refl
def As : Nat → Rat → Rat
  | 0, _ => 0
  | n + 1, y => As n y + y ^ (2 * n + 1) / ((2 * n + 1 : Nat) : Rat)
def Gs : Nat → Rat → Rat
  | 0, _ => 0
  | n + 1, y => Gs n y + y ^ (2 * n)
theorem pow_two_mul (y : Rat) (n : Nat) : y ^ (2 * (n + 1)) = y ^ (2 * n) * (y * y) := by
  rw [show 2 * (n + 1) = 2 * n + 1 + 1 by omega, Rat.pow_succ, Rat.pow_succ]; grind
theorem Gs_eq (y : Rat) (n : Nat) : Gs n y * (1 - y * y) = 1 - y ^ (2 * n) := by
  induction n with
  | zero => simp [Gs]; grind
  | succ n ih =>
    show (Gs n y + y ^ (2 * n)) * (1 - y * y) = _
    rw [pow_two_mul]; grind
theorem pow_diff_le {a b : Rat} (h0 : 0 ≤ a) (h : a ≤ b) (j : Nat) : b ^ (j + 1) - a ^ (j + 1) ≤ ((j : Rat) + 1) * ((b - a) * b ^ j) := by
  induction j with
  | zero => simp; grind
  | succ j ih =>
    rw [Rat.pow_succ b (j + 1), Rat.pow_succ a (j + 1), natc]
    have h1 := Rat.mul_le_mul_of_nonneg_right ih (show 0 ≤ b by grind)
    have h2 := rpow_le h0 h (j + 1)
    have h3 := Rat.mul_le_mul_of_nonneg_left h2 (show 0 ≤ b - a by grind)
    rw [Rat.pow_succ b j, Rat.pow_succ a j] at *
    grind
theorem pow_diff_ge {a b : Rat} (h0 : 0 ≤ a) (h : a ≤ b) (j : Nat) : ((j : Rat) + 1) * ((b - a) * a ^ j) ≤ b ^ (j + 1) - a ^ (j + 1) := by
  induction j with
  | zero => simp; grind
  | succ j ih =>
    rw [Rat.pow_succ b (j + 1), Rat.pow_succ a (j + 1), natc]
    have h1 := Rat.mul_le_mul_of_nonneg_right ih h0
    have h2 := rpow_le h0 h (j + 1)
    have h3 := Rat.mul_le_mul_of_nonneg_left h2 (show 0 ≤ b - a by grind)
    rw [Rat.pow_succ b j, Rat.pow_succ a j] at *
    grind
theorem term_le {a b : Rat} (h0 : 0 ≤ a) (h : a ≤ b) (n : Nat) : b ^ (2 * n + 1) / ((2 * n + 1 : Nat) : Rat) - a ^ (2 * n + 1) / ((2 * n + 1 : Nat) : Rat) ≤ (b - a) * b ^ (2 * n) := by
  have h1 := pow_diff_le h0 h (2 * n)
  have hp := n1pos (2 * n)
  rw [natc]
  refine scale_le hp ?_
  generalize b ^ (2 * n + 1) = B at *
  generalize a ^ (2 * n + 1) = A at *
  generalize b ^ (2 * n) = C at *
  generalize ((2 * n : Nat) : Rat) + 1 = c at *
  have e1 : (B / c - A / c) * c = B - A := by grind
  rw [e1]; grind
theorem term_ge {a b : Rat} (h0 : 0 ≤ a) (h : a ≤ b) (n : Nat) : (b - a) * a ^ (2 * n) ≤ b ^ (2 * n + 1) / ((2 * n + 1 : Nat) : Rat) - a ^ (2 * n + 1) / ((2 * n + 1 : Nat) : Rat) := by
  have h1 := pow_diff_ge h0 h (2 * n)
  have hp := n1pos (2 * n)
  rw [natc]
  refine scale_le hp ?_
  generalize b ^ (2 * n + 1) = B at *
  generalize a ^ (2 * n + 1) = A at *
  generalize a ^ (2 * n) = C at *
  generalize ((2 * n : Nat) : Rat) + 1 = c at *
  have e1 : (B / c - A / c) * c = B - A := by grind
  rw [e1]; grind
theorem As_diff_le {a b : Rat} (h0 : 0 ≤ a) (h : a ≤ b) (n : Nat) : As n b - As n a ≤ (b - a) * Gs n b := by
  induction n with
  | zero => simp [As, Gs]; grind
  | succ n ih =>
    have := term_le h0 h n
    show As n b + _ - (As n a + _) ≤ (b - a) * (Gs n b + b ^ (2 * n))
    grind
theorem As_diff_ge {a b : Rat} (h0 : 0 ≤ a) (h : a ≤ b) (n : Nat) : (b - a) * Gs n a ≤ As n b - As n a := by
  induction n with
  | zero => simp [As, Gs]; grind
  | succ n ih =>
    have := term_ge h0 h n
    show (b - a) * (Gs n a + a ^ (2 * n)) ≤ As n b + _ - (As n a + _)
    grind
theorem As_zero (n : Nat) : As n 0 = 0 := by
  induction n with
  | zero => rfl
  | succ n ih =>
    show As n 0 + (0 : Rat) ^ (2 * n + 1) / _ = 0
    rw [ih, Rat.pow_succ, Rat.div_def]; grind
theorem As_mono {a b : Rat} (h0 : 0 ≤ a) (h : a ≤ b) (n : Nat) : As n a ≤ As n b := by
  have h1 := As_diff_ge h0 h n
  have h2 : 0 ≤ Gs n a := by
    clear h1
    induction n with
    | zero => exact Rat.le_refl
    | succ n ih =>
      have : (0 : Rat) ≤ a ^ (2 * n) := Rat.pow_nonneg h0
      show 0 ≤ Gs n a + a ^ (2 * n)
      grind
  have := rmul_nonneg (show 0 ≤ b - a by grind) h2
  grind
def gR (y : Rat) : Rat := (1 + y) / (1 - y)
theorem gR_pos {y : Rat} (h0 : 0 ≤ y) (h : y ≤ 1 / 3) : 1 ≤ gR y := by
  unfold gR
  refine scale_le (c := 1 - y) (by grind) ?_
  rw [Rat.div_mul_cancel (by grind)]; grind
theorem step_facts {a b : Rat} (h0 : 0 ≤ a) (h : a ≤ b) (hb : b ≤ 1 / 3) :
    ∃ r : Rat, gR b = gR a * r ∧ r * ((1 - b) * (1 + a)) = (1 - b) * (1 + a) + 2 * (b - a) ∧ 1 ≤ r := by
  have h1 : (1 - b) ≠ 0 := by grind
  have h2 : (1 + a) ≠ 0 := by grind
  have h3 : (1 - a) ≠ 0 := by grind
  have hp : 0 < (1 - b) * (1 + a) := Rat.mul_pos (by grind) (by grind)
  refine ⟨(1 + b) * (1 - a) / ((1 - b) * (1 + a)), ?_, ?_, ?_⟩
  · unfold gR
    have h4 : (1 - b) * (1 + a) ≠ 0 := by grind
    grind
  · rw [Rat.div_mul_cancel (by grind)]; grind
  · refine scale_le hp ?_
    rw [Rat.div_mul_cancel (by grind)]; grind
theorem step_up {a b : Rat} (h0 : 0 ≤ a) (h : a ≤ b) (hb : b ≤ 1 / 3) (hh : b - a ≤ 1 / 9) (n : Nat) :
    XU (2 * (As n b - As n a)) (gR b / gR a * (1 + 11 * ((b - a) * (b - a)))) := by
  obtain ⟨r, e1, e2, hr⟩ := step_facts h0 h hb
  have hg := gR_pos h0 (by grind)
  have e3 : gR b / gR a = r := by rw [e1]; grind
  rw [e3]
  have h1 := As_diff_le h0 h n
  have h2 := Gs_eq b n
  have h3 : (0 : Rat) ≤ b ^ (2 * n) := Rat.pow_nonneg (by grind)
  have hbb : b * b ≤ 1 / 9 := by
    have := rmul_le hb hb (by grind) (show (0 : Rat) ≤ 1 / 3 by decide +kernel)
    have : (1 : Rat) / 3 * (1 / 3) = 1 / 9 := by decide +kernel
    grind
  obtain ⟨d, hd⟩ : ∃ d, d = 2 * (As n b - As n a) := ⟨_, rfl⟩
  have hd0 : 0 ≤ d := by have := As_mono h0 h n; grind
  rw [← hd]
  have hG : (b - a) * Gs n b * (1 - b * b) ≤ b - a := by
    have := Rat.mul_le_mul_of_nonneg_left (show Gs n b * (1 - b * b) ≤ 1 by grind) (show 0 ≤ b - a by grind)
    grind
  have hd1 : d * (1 - b * b) ≤ 2 * (b - a) := by
    have h4 := Rat.mul_le_mul_of_nonneg_right h1 (show 0 ≤ 1 - b * b by grind)
    rw [hd]
    clear e1 e2 e3 h1 h2 h3 hd0 hd
    grind
  generalize As n b = AB at *
  generalize As n a = AA at *
  generalize Gs n b = GB at *
  generalize b ^ (2 * n) = BN at *
  clear h1 h2 h3 hd hG
  have hd2 : d ≤ 9 / 4 * (b - a) := by
    have := Rat.mul_le_mul_of_nonneg_left (show (8 : Rat) / 9 ≤ 1 - b * b by grind) hd0
    grind
  have hd3 : d ≤ 1 / 4 := by grind
  -- d is at most r - 1
  have hab : (1 - b) * (1 + a) ≤ 1 - b * b := by
    have := Rat.mul_le_mul_of_nonneg_left (show 1 + a ≤ 1 + b by grind) (show 0 ≤ 1 - b by grind)
    grind
  have hp : 0 < (1 - b) * (1 + a) := Rat.mul_pos (by grind) (by grind)
  have hd4 : d ≤ r - 1 := scale_le hp (by
    have := Rat.mul_le_mul_of_nonneg_left hab hd0
    grind)
  have hx := XU.one_sub hd0 (by grind)
  refine hx.mono Rat.le_refl ?_ (by
    have : (0 : Rat) < 1 - d := by grind
    rw [Rat.div_def]; exact rmul_nonneg (by decide) (Rat.le_of_lt (Rat.inv_pos.2 this)))
  refine scale_le (c := 1 - d) (by grind) ?_
  rw [Rat.div_mul_cancel (by grind)]
  -- 1 ≤ (r + r * 11 h^2) (1 - d)
  obtain ⟨k, hk⟩ : ∃ k, k = b - a := ⟨_, rfl⟩
  rw [← hk] at hd2 ⊢
  have hk0 : 0 ≤ k := by grind
  have hdd : d * d ≤ 81 / 16 * (k * k) := by
    have := rmul_le hd2 hd2 hd0 (by grind)
    grind
  have hkk := rmul_nonneg hk0 hk0
  have h5 : 1 + d + 2 * (d * d) ≤ r * (1 + 11 * (k * k)) := by
    have := Rat.mul_le_mul_of_nonneg_right hr (show 0 ≤ 11 * (k * k) by grind)
    grind
  have h6 := Rat.mul_le_mul_of_nonneg_right h5 (show 0 ≤ 1 - d by grind)
  have h7 := rmul_nonneg hd0 hd0
  have h8 := Rat.mul_le_mul_of_nonneg_right hd3 h7
  grind
theorem step_lo {a b y : Rat} (h0 : 0 ≤ a) (h : a ≤ b) (hb : b ≤ 1 / 3) (hy : a ≤ y) (n : Nat) :
    XL (gR b / gR a * (1 - 5 * ((b - a) * (b - a)) - 3 * ((b - a) * y ^ (2 * n)))) (2 * (As n b - As n a)) ∨ 1 - 5 * ((b - a) * (b - a)) - 3 * ((b - a) * y ^ (2 * n)) < 0 := by
  by_cases hneg : 1 - 5 * ((b - a) * (b - a)) - 3 * ((b - a) * y ^ (2 * n)) < 0
  · exact .inr hneg
  refine .inl ?_
  obtain ⟨r, e1, e2, hr⟩ := step_facts h0 h hb
  have hg := gR_pos h0 (by grind)
  have e3 : gR b / gR a = r := by rw [e1]; grind
  rw [e3]
  have h1 := As_diff_ge h0 h n
  have h2 := Gs_eq a n
  have h3 : a ^ (2 * n) ≤ y ^ (2 * n) := rpow_le h0 hy _
  have h3' : 0 ≤ a ^ (2 * n) := Rat.pow_nonneg h0
  have haa : a * a ≤ 1 / 9 := by
    have := rmul_le (show a ≤ 1 / 3 by grind) (show a ≤ 1 / 3 by grind) h0 (show (0 : Rat) ≤ 1 / 3 by decide +kernel)
    have : (1 : Rat) / 3 * (1 / 3) = 1 / 9 := by decide +kernel
    grind
  have hm := As_mono h0 h n
  have hx := XL.one_add (t := 2 * (As n b - As n a)) (by grind)
  refine hx.mono Rat.le_refl ?_ (rmul_nonneg (by grind) (by grind))
  generalize y ^ (2 * n) = Y at *
  generalize a ^ (2 * n) = AN at *
  generalize As n b = AB at *
  generalize As n a = AA at *
  generalize Gs n a = GA at *
  obtain ⟨k, hk⟩ : ∃ k, k = b - a := ⟨_, rfl⟩
  rw [← hk] at hneg h1 e2 ⊢
  have hk0 : 0 ≤ k := by grind
  have hkk := rmul_nonneg hk0 hk0
  have hkY := rmul_nonneg hk0 (show 0 ≤ Y by grind)
  -- r (1 - w) ≤ r - w, and 2 k GA ≥ r - 1 - w
  have h4 : r * (1 - 5 * (k * k) - 3 * (k * Y)) ≤ r - 5 * (k * k) - 3 * (k * Y) := by
    have := Rat.mul_le_mul_of_nonneg_right hr (show 0 ≤ 5 * (k * k) + 3 * (k * Y) by grind)
    grind
  refine Rat.le_trans h4 ?_
  have hp : 0 < (1 - b) * (1 + a) := Rat.mul_pos (by grind) (by grind)
  have h5 : r - 1 ≤ 2 * (k * GA) + 5 * (k * k) + 3 * (k * Y) := by
    have q0 : (0 : Rat) < 1 - a * a := by grind
    refine scale_le hp (scale_le q0 ?_)
    have q1 : (r - 1) * ((1 - b) * (1 + a)) = 2 * k := by grind
    rw [q1]
    -- 2 k (1 - a a) ≤ (2 k GA + 5 k k + 3 k Y) ((1-b)(1+a)) (1 - a a)
    have q2 : (2 * (k * GA)) * ((1 - b) * (1 + a)) * (1 - a * a) = 2 * k * (1 - AN) * ((1 - b) * (1 + a)) := by grind
    have q3 : (1 - b) * (1 + a) = 1 - a * a - k * (1 + a) := by grind
    have q4 : 2 * k * AN * ((1 - b) * (1 + a)) ≤ 3 * (k * Y) * ((1 - b) * (1 + a)) * (1 - a * a) := by
      have r1 : 2 * k * AN ≤ 2 * (k * Y) := by
        have := Rat.mul_le_mul_of_nonneg_left h3 hk0
        grind
      have r2 : 2 * (k * Y) ≤ 3 * (k * Y) * (1 - a * a) := by
        have := Rat.mul_le_mul_of_nonneg_left (show (8 : Rat) / 9 ≤ 1 - a * a by grind) hkY
        grind
      have := Rat.mul_le_mul_of_nonneg_right (Rat.le_trans r1 r2) (Rat.le_of_lt hp)
      grind
    have q5 : 2 * k * (k * (1 + a)) ≤ 5 * (k * k) * ((1 - b) * (1 + a)) * (1 - a * a) := by
      -- 2 ≤ 5 (1 - b) (1 - a a): 5 * 2/3 * 8/9 = 80/27
      have r1 : (2 : Rat) ≤ 5 * (1 - b) * (1 - a * a) := by
        have := rmul_le (show (2 : Rat) / 3 ≤ 1 - b by grind) (show (8 : Rat) / 9 ≤ 1 - a * a by grind) (by decide +kernel) (by grind)
        have : (2 : Rat) / 3 * (8 / 9) = 16 / 27 := by decide +kernel
        grind
      have := Rat.mul_le_mul_of_nonneg_right r1 (rmul_nonneg hkk (show 0 ≤ 1 + a by grind))
      grind
    have q6 : (2 * (k * GA) + 5 * (k * k) + 3 * (k * Y)) * ((1 - b) * (1 + a)) * (1 - a * a) = 2 * k * ((1 - b) * (1 + a)) - 2 * k * AN * ((1 - b) * (1 + a)) + 5 * (k * k) * ((1 - b) * (1 + a)) * (1 - a * a) + 3 * (k * Y) * ((1 - b) * (1 + a)) * (1 - a * a) := by grind
    rw [q6]
    have q7 : 2 * k * ((1 - b) * (1 + a)) = 2 * k * (1 - a * a) - 2 * k * (k * (1 + a)) := by rw [q3]; grind
    rw [q7]
    grind
  grind
theorem steps_up {k : Rat} (hk : 0 ≤ k) (hh : k ≤ 1 / 9) (n : Nat) : ∀ i : Nat, (i : Rat) * k ≤ 1 / 3 → XU (2 * As n (i * k)) (gR (i * k) * (1 + 11 * (k * k)) ^ i)
  | 0, _ => by
    rw [show ((0 : Nat) : Rat) * k = 0 by rw [show ((0 : Nat) : Rat) = 0 from rfl]; grind, As_zero, Rat.pow_zero]
    have : gR 0 * 1 = 1 := by decide +kernel
    rw [this, show (2 : Rat) * 0 = 0 by grind]
    exact XU.zero
  | i + 1, hi => by
    rw [natc] at hi ⊢
    have e : ((i : Rat) + 1) * k = i * k + k := by grind
    rw [e] at hi ⊢
    have ih := steps_up hk hh n i (by grind)
    have h0 : 0 ≤ (i : Rat) * k := rmul_nonneg (natc0 i) hk
    have hs := step_up h0 (show (i : Rat) * k ≤ i * k + k by grind) hi (by grind) n
    have ga := gR_pos h0 (by grind)
    have gb := gR_pos (show 0 ≤ (i : Rat) * k + k by grind) hi
    have ek : (i : Rat) * k + k - i * k = k := by grind
    rw [ek] at hs
    have hkk := rmul_nonneg hk hk
    have hw : 0 ≤ (1 + 11 * (k * k)) ^ i := Rat.pow_nonneg (by grind)
    have hd : 0 ≤ gR (i * k + k) / gR (i * k) := by
      rw [Rat.div_def]; exact rmul_nonneg (by grind) (Rat.le_of_lt (Rat.inv_pos.2 (by grind)))
    have := ih.mul hs (rmul_nonneg (by grind) hw) (rmul_nonneg hd (by grind))
    rw [show 2 * As n (i * k) + 2 * (As n (i * k + k) - As n (i * k)) = 2 * As n (i * k + k) by grind] at this
    rw [Rat.pow_succ]
    refine this.mono Rat.le_refl (rle_of_eq ?_) (rmul_nonneg (rmul_nonneg (by grind) hw) (rmul_nonneg hd (by grind)))
    generalize (1 + 11 * (k * k)) ^ i = P at *
    grind
theorem steps_lo {k y : Rat} (hk : 0 ≤ k) (n : Nat) (hw : 0 ≤ 1 - 5 * (k * k) - 3 * (k * y ^ (2 * n))) : ∀ i : Nat, (i : Rat) * k ≤ 1 / 3 → (i : Rat) * k ≤ y → XL (gR (i * k) * (1 - 5 * (k * k) - 3 * (k * y ^ (2 * n))) ^ i) (2 * As n (i * k))
  | 0, _, _ => by
    rw [show ((0 : Nat) : Rat) * k = 0 by rw [show ((0 : Nat) : Rat) = 0 from rfl]; grind, As_zero, Rat.pow_zero]
    have : gR 0 * 1 = 1 := by decide +kernel
    rw [this, show (2 : Rat) * 0 = 0 by grind]
    exact XL.zero
  | i + 1, hi, hy => by
    rw [natc] at hi hy ⊢
    have e : ((i : Rat) + 1) * k = i * k + k := by grind
    rw [e] at hi hy ⊢
    have ih := steps_lo hk n hw i (by grind) (by grind)
    have h0 : 0 ≤ (i : Rat) * k := rmul_nonneg (natc0 i) hk
    have hs := step_lo (y := y) h0 (show (i : Rat) * k ≤ i * k + k by grind) hi (by grind) n
    have ga := gR_pos h0 (by grind)
    have gb := gR_pos (show 0 ≤ (i : Rat) * k + k by grind) hi
    have ek : (i : Rat) * k + k - i * k = k := by grind
    rw [ek] at hs
    have hs := hs.resolve_right (by grind)
    have hp : 0 ≤ (1 - 5 * (k * k) - 3 * (k * y ^ (2 * n))) ^ i := Rat.pow_nonneg hw
    have hd : 0 ≤ gR (i * k + k) / gR (i * k) := by
      rw [Rat.div_def]; exact rmul_nonneg (by grind) (Rat.le_of_lt (Rat.inv_pos.2 (by grind)))
    have := ih.mul hs (rmul_nonneg (by grind) hp) (rmul_nonneg hd hw)
    rw [show 2 * As n (i * k) + 2 * (As n (i * k + k) - As n (i * k)) = 2 * As n (i * k + k) by grind] at this
    rw [Rat.pow_succ]
    refine this.mono Rat.le_refl (rle_of_eq ?_) (rmul_nonneg (by grind) (rmul_nonneg hp hw))
    generalize (1 - 5 * (k * k) - 3 * (k * y ^ (2 * n))) ^ i = P at *
    generalize 1 - 5 * (k * k) - 3 * (k * y ^ (2 * n)) = Q at *
    grind
theorem XU.atanh {y : Rat} (h0 : 0 ≤ y) (h : y ≤ 1 / 3) (n : Nat) : XU (2 * As n y) (gR y) := by
  have hg := gR_pos h0 h
  refine XU.closed (fun th t0 t1 => ?_) (by grind)
  obtain ⟨N, hN⟩ := Ev.ratio 11 t1
  obtain ⟨hN1, hN2, hN3⟩ := hN (max N 9) (by omega)
  have hN9 : ((9 : Nat) : Rat) ≤ ((max N 9 : Nat) : Rat) := Rat.natCast_le_natCast.2 (by omega)
  generalize max N 9 = M at *
  have hp := npos hN1
  have e1 : (M : Rat) * (y / M) = y := by grind
  have hk := ndiv h0 M
  have hk9 : y / M ≤ 1 / 9 := scale_le hp (by rw [Rat.div_mul_cancel (by grind)]; have : ((9 : Nat) : Rat) = 9 := rfl; grind)
  have hs := steps_up hk hk9 n M (by rw [e1]; exact h)
  rw [e1] at hs
  refine hs.mono Rat.le_refl ?_ (rmul_nonneg (by grind) (Rat.pow_nonneg (by have := rmul_nonneg hk hk; grind)))
  -- (1 + 11 k k)^M ≤ 1 / (1 - 11 k k M) ≤ 1 / th
  have hkk := rmul_nonneg hk hk
  have e2 : (M : Rat) * (11 * (y / M * (y / M))) = 11 * (y * (y / M)) := by grind
  have h3 : 11 * (y * (y / M)) ≤ 11 / M := by
    refine scale_le hp ?_
    have e3 : 11 * (y * (y / (M : Rat))) * M = 11 * (y * y) := by grind
    rw [e3, Rat.div_mul_cancel (by grind)]
    have := rmul_le h h h0 (show (0 : Rat) ≤ 1 / 3 by decide +kernel)
    have : (1 : Rat) / 3 * (1 / 3) = 1 / 9 := by decide +kernel
    grind
  have h4 := bern_up (x := 11 * (y / M * (y / M))) (by grind) (n := M) (by rw [e2]; grind)
  rw [e2] at h4
  have h5 : th ≤ 1 - 11 * (y * (y / M)) := by grind
  have h6 : (0 : Rat) ≤ (1 + 11 * (y / M * (y / M))) ^ M := Rat.pow_nonneg (by grind)
  have h7 := Rat.mul_le_mul_of_nonneg_left h5 h6
  refine scale_le t0 ?_
  rw [Rat.div_mul_cancel (by grind)]
  have h8 := Rat.mul_le_mul_of_nonneg_left (Rat.le_trans h7 h4) (show 0 ≤ gR y by grind)
  grind
theorem XL.atanh1 {y : Rat} (h0 : 0 ≤ y) (h : y ≤ 1 / 3) (n : Nat) (hn : 3 * y ^ (2 * n) < 1) : XL (gR y * (1 - 3 * y ^ (2 * n))) (2 * As n y) := by
  have hg := gR_pos h0 h
  have hY : 0 ≤ y ^ (2 * n) := Rat.pow_nonneg h0
  refine XL.closed (fun th t0 t1 => ?_) (rmul_nonneg (by grind) (by grind))
  obtain ⟨N, hN⟩ := Ev.ratio (5 / (1 - 3 * y ^ (2 * n))) t1
  obtain ⟨hN1, hN2, hN3⟩ := hN (max N 9) (by omega)
  generalize max N 9 = M at *
  have hp := npos hN1
  have e1 : (M : Rat) * (y / M) = y := by grind
  have hk := ndiv h0 M
  have hkk := rmul_nonneg hk hk
  obtain ⟨u, hu⟩ : ∃ u, u = 1 - 3 * y ^ (2 * n) := ⟨_, rfl⟩
  rw [← hu] at hN2 hN3 ⊢
  have hu0 : 0 < u := by grind
  have hyy : y * y ≤ 1 / 9 := by
    have := rmul_le h h h0 (show (0 : Rat) ≤ 1 / 3 by decide +kernel)
    have : (1 : Rat) / 3 * (1 / 3) = 1 / 9 := by decide +kernel
    grind
  -- M (5 k k + 3 k Y) = 5 y k + 3 y Y ≤ 5 / M + 1 - u
  obtain ⟨w, hw⟩ : ∃ w, w = 5 * (y / M * (y / M)) + 3 * (y / M * y ^ (2 * n)) := ⟨_, rfl⟩
  have hw0 : 0 ≤ w := by
    have := rmul_nonneg hk hY
    grind
  have e2 : (M : Rat) * w = 5 * (y * (y / M)) + 3 * (y * y ^ (2 * n)) := by rw [hw]; grind
  have h3 : 5 * (y * (y / M)) ≤ 5 / M := by
    refine scale_le hp ?_
    have e3 : 5 * (y * (y / (M : Rat))) * M = 5 * (y * y) := by grind
    rw [e3, Rat.div_mul_cancel (by grind)]
    grind
  have h4 : 3 * (y * y ^ (2 * n)) ≤ 1 - u := by
    have := Rat.mul_le_mul_of_nonneg_right h hY
    grind
  have h5 : 5 / (M : Rat) ≤ u * (1 - th) := by
    have h6 : 5 / u / M ≤ 1 - th := by grind
    have h7 := Rat.mul_le_mul_of_nonneg_left h6 (Rat.le_of_lt hu0)
    have e4 : u * (5 / u / (M : Rat)) = 5 / M := by
      have : u ≠ 0 := by grind
      have : (M : Rat) ≠ 0 := by grind
      grind
    rwa [e4] at h7
  have h6 : th * u ≤ 1 - M * w := by rw [e2]; grind
  have hMw : (M : Rat) * w ≤ 1 := by
    have := rmul_nonneg (Rat.le_of_lt t0) (Rat.le_of_lt hu0)
    grind
  have hw1 : w ≤ 1 := by
    have h8 : ((1 : Nat) : Rat) ≤ M := Rat.natCast_le_natCast.2 hN1
    have h9 : (1 : Rat) ≤ M := h8
    have := Rat.mul_le_mul_of_nonneg_right h9 hw0
    grind
  have e5 : 1 - 5 * (y / M * (y / M)) - 3 * (y / M * y ^ (2 * n)) = 1 - w := by rw [hw]; grind
  have hs := steps_lo (y := y) hk n (by rw [e5]; grind) M (by rw [e1]; exact h) (by rw [e1]; exact Rat.le_refl)
  rw [e1, e5] at hs
  have h7 := bern (x := -w) (by grind) M
  rw [show (1 : Rat) + -w = 1 - w by grind] at h7
  refine hs.mono Rat.le_refl ?_ (rmul_nonneg (Rat.le_of_lt t0) (rmul_nonneg (by grind) (Rat.le_of_lt hu0)))
  have h8 := Rat.mul_le_mul_of_nonneg_left (show th * u ≤ (1 - w) ^ M by grind) (show 0 ≤ gR y by grind)
  grind
theorem XL.atanh {y v : Rat} (h0 : 0 ≤ y) (h : y ≤ 1 / 3) (hv : ∀ n, As n y ≤ v) : XL (gR y) (2 * v) := by
  have hg := gR_pos h0 h
  refine XL.closed (fun th t0 t1 => ?_) (by grind)
  -- n with 3 y^(2n) ≤ 1 - th
  obtain ⟨n, hn⟩ := arch (3 / (1 - th))
  have h1 : y ^ (2 * n) * (1 + 2 * n) ≤ 1 := by
    have h2 : y ^ (2 * n) ≤ (1 / 3 : Rat) ^ (2 * n) := rpow_le h0 h _
    have h3 := bern (x := 2) (by decide) (2 * n)
    have h4 : (1 / 3 : Rat) ^ (2 * n) * (1 + 2) ^ (2 * n) = 1 := by
      rw [← rmul_pow]
      have : (1 / 3 : Rat) * (1 + 2) = 1 := by decide +kernel
      rw [this, one_pow']
    have h5 : ((2 * n : Nat) : Rat) = 2 * n := by rw [Rat.natCast_mul]; rfl
    rw [h5] at h3
    have h6 : 0 ≤ y ^ (2 * n) := Rat.pow_nonneg h0
    have h7 := rmul_le h2 h3 (by have := natc0 n; grind) (Rat.pow_nonneg (by decide +kernel))
    have h8 := Rat.mul_le_mul_of_nonneg_left (show 1 + 2 * (n : Rat) ≤ 1 + 2 * n * 2 by have := natc0 n; grind) h6
    grind
  have hY : 0 ≤ y ^ (2 * n) := Rat.pow_nonneg h0
  have h2 : 3 * y ^ (2 * n) ≤ 1 - th := by
    have h3 : 3 / (1 - th) ≤ 1 + 2 * (n : Rat) := by have := natc0 n; grind
    have h4 : 3 ≤ (1 + 2 * (n : Rat)) * (1 - th) := by
      have := Rat.mul_le_mul_of_nonneg_right h3 (show 0 ≤ 1 - th by grind)
      rwa [Rat.div_mul_cancel (by grind)] at this
    have h5 := Rat.mul_le_mul_of_nonneg_left h4 hY
    have h6 := Rat.mul_le_mul_of_nonneg_right h1 (show 0 ≤ 1 - th by grind)
    grind
  have h3 := XL.atanh1 h0 h n (by grind)
  refine h3.mono (by have := hv n; grind) ?_ (rmul_nonneg (Rat.le_of_lt t0) (by grind))
  have := Rat.mul_le_mul_of_nonneg_left (show th ≤ 1 - 3 * y ^ (2 * n) by grind) (show 0 ≤ gR y by grind)
  grind
end Go.Proofs.YtfkgaldbcngliaaGreatDoor.XX
end
section
set_option maxRecDepth 100000
set_option linter.unusedVariables false
namespace Go.Proofs.YtfkgaldbcngliaaGreatDoor.XX
def cD (a n : Nat) : Nat := a / n + (if a % n = 0 then 0 else 1)
theorem cD_ge {a n : Nat} (hn : 0 < n) : a ≤ cD a n * n := by
  unfold cD
  have h := Nat.div_add_mod a n
  have h2 := Nat.mod_lt a hn
  rw [Nat.add_mul, Nat.mul_comm (a / n)]
  split
  · omega
  · rw [Nat.one_mul]; omega
theorem cD_le {a n b : Nat} (hn : 0 < n) (h : a ≤ b * n) : cD a n ≤ b := by
  unfold cD
  have h1 := Nat.div_add_mod a n
  have h2 : a / n ≤ b := Nat.div_le_of_le_mul (by rw [Nat.mul_comm]; exact h)
  split
  · omega
  · rcases Nat.lt_or_ge (a / n) b with h3 | h3
    · omega
    · have h4 : a / n = b := by omega
      rw [h4, Nat.mul_comm] at h1
      omega
structure PN where
  lo : Nat
  hi : Nat
deriving DecidableEq
def PN.times (p q : PN) (s : Nat) : PN := ⟨p.lo * q.lo / 2 ^ s, cD (p.hi * q.hi) (2 ^ s)⟩
def PN.part (p : PN) (n : Nat) : PN := ⟨p.lo / n, cD p.hi n⟩
def PN.plus (p q : PN) : PN := ⟨p.lo + q.lo, p.hi + q.hi⟩
def PN.rest (p t : PN) : PN := ⟨p.lo, p.hi + (t.hi + t.hi)⟩
def fracS (num den s : Nat) : PN := ⟨num * 2 ^ s / den, cD (num * 2 ^ s) den⟩
def atLoop (s : Nat) (sq : PN) : Nat → PN → PN → Nat → PN × PN
  | 0, sum, term, _ => (sum, term)
  | k + 1, sum, term, n => if term.lo = 0 then (sum, term) else atLoop s sq k (sum.plus (term.part n)) (term.times sq s) (n + 2)
def atR (num den s : Nat) : PN × PN := atLoop s ((fracS num den s).times (fracS num den s) s) (s + 2) ⟨0, 0⟩ (fracS num den s) 1
def atanhS (num den s : Nat) : PN := if num = 0 then ⟨0, 0⟩ else (atR num den s).1.rest (atR num den s).2
def ln2S (s : Nat) : PN := ⟨(atanhS 1 3 s).lo + (atanhS 1 3 s).lo, (atanhS 1 3 s).hi + (atanhS 1 3 s).hi⟩
def exLoop (s : Nat) (x : PN) : Nat → PN → PN → Nat → PN × PN
  | 0, sum, term, _ => (sum, term)
  | k + 1, sum, term, n => if term.lo = 0 ∧ x.hi = 0 then (sum, term) else
    if ((term.times x s).part n).hi ≤ 1 then (sum.plus ((term.times x s).part n), (term.times x s).part n) else
    exLoop s x k (sum.plus ((term.times x s).part n)) ((term.times x s).part n) (n + 1)
def exR (a b s : Nat) : PN × PN := exLoop s ⟨a, b⟩ (s + 2) ⟨2 ^ s, 2 ^ s⟩ ⟨2 ^ s, 2 ^ s⟩ 1
def expN (a b s : Nat) : PN := (exR a b s).1.rest (exR a b s).2
def Hd (S : Rat) (p : PN) (v w : Rat) : Prop := (p.lo : Rat) ≤ v * S ∧ w * S ≤ p.hi
theorem ncast_mul (a b : Nat) : ((a * b : Nat) : Rat) = (a : Rat) * b := Rat.natCast_mul a b
theorem ncast_add (a b : Nat) : ((a + b : Nat) : Rat) = (a : Rat) + b := Rat.natCast_add a b
theorem ncast_le {a b : Nat} (h : a ≤ b) : (a : Rat) ≤ b := Rat.natCast_le_natCast.2 h
theorem div_cast (a n : Nat) : ((a / n : Nat) : Rat) * n ≤ a := by
  rw [← ncast_mul]; exact ncast_le (Nat.div_mul_le_self a n)
theorem cD_cast (a : Nat) {n : Nat} (hn : 0 < n) : (a : Rat) ≤ (cD a n : Rat) * n := by
  rw [← ncast_mul]; exact ncast_le (cD_ge hn)
theorem Hd.plus {S v w v' w' : Rat} {p q : PN} (h : Hd S p v w) (k : Hd S q v' w') : Hd S (p.plus q) (v + v') (w + w') := by
  unfold Hd PN.plus at *
  dsimp only
  rw [ncast_add, ncast_add]
  grind
theorem Hd.times {s : Nat} {v w v' w' : Rat} {p q : PN} (h : Hd ((2 ^ s : Nat) : Rat) p v w) (k : Hd ((2 ^ s : Nat) : Rat) q v' w') (hw : 0 ≤ w) (hw' : 0 ≤ w') : Hd ((2 ^ s : Nat) : Rat) (p.times q s) (v * v') (w * w') := by
  have hp : 0 < 2 ^ s := Nat.two_pow_pos s
  have hS := npos hp
  have h1 := div_cast (p.lo * q.lo) (2 ^ s)
  have h2 := cD_cast (p.hi * q.hi) hp
  unfold Hd PN.times at *
  dsimp only
  generalize p.lo * q.lo / 2 ^ s = A at *
  rw [ncast_mul] at h1 h2
  generalize cD (p.hi * q.hi) (2 ^ s) = B at *
  generalize ((2 ^ s : Nat) : Rat) = S at *
  have e1 := rmul_le h.1 k.1 (natc0 _) (Rat.le_trans (natc0 _) h.1)
  have e2 := rmul_le h.2 k.2 (rmul_nonneg hw' (Rat.le_of_lt hS)) (natc0 _)
  exact ⟨scale_le hS (by grind), scale_le hS (by grind)⟩
theorem Hd.part {S v w : Rat} {p : PN} (h : Hd S p v w) {n : Nat} (hn : 1 ≤ n) : Hd S (p.part n) (v / n) (w / n) := by
  have hN := npos hn
  have h1 := div_cast p.lo n
  have h2 := cD_cast p.hi (show 0 < n from hn)
  unfold Hd PN.part at *
  dsimp only
  generalize p.lo / n = A at *
  generalize cD p.hi n = B at *
  have e1 : v / (n : Rat) * S * n = v * S := by grind
  have e2 : w / (n : Rat) * S * n = w * S := by grind
  exact ⟨scale_le hN (by grind), scale_le hN (by grind)⟩
theorem Hd.frac (num s : Nat) {den : Nat} (hd : 0 < den) : Hd ((2 ^ s : Nat) : Rat) (fracS num den s) ((num : Rat) / den) ((num : Rat) / den) := by
  have hD := npos (show 1 ≤ den from hd)
  have h1 := div_cast (num * 2 ^ s) den
  have h2 := cD_cast (num * 2 ^ s) hd
  unfold Hd fracS
  dsimp only
  rw [ncast_mul] at h1 h2
  generalize num * 2 ^ s / den = A at *
  generalize cD (num * 2 ^ s) den = B at *
  generalize ((2 ^ s : Nat) : Rat) = S at *
  have e1 : (num : Rat) / den * S * den = num * S := by grind
  exact ⟨scale_le hD (by grind), scale_le hD (by grind)⟩
theorem As_tail {y : Rat} (h0 : 0 ≤ y) (h : y ≤ 1 / 3) (n : Nat) : ∀ m, As (n + m) y + 2 * y ^ (2 * (n + m) + 1) ≤ As n y + 2 * y ^ (2 * n + 1)
  | 0 => Rat.le_refl
  | m + 1 => by
    have ih := As_tail h0 h n m
    rw [← Nat.add_assoc]
    generalize n + m = k at *
    show As k y + y ^ (2 * k + 1) / ((2 * k + 1 : Nat) : Rat) + 2 * y ^ (2 * (k + 1) + 1) ≤ _
    refine Rat.le_trans ?_ ih
    have h1 : y ^ (2 * (k + 1) + 1) = y ^ (2 * k + 1) * (y * y) := by
      rw [show 2 * (k + 1) + 1 = 2 * k + 1 + 1 + 1 by omega, Rat.pow_succ, Rat.pow_succ]; grind
    rw [h1]
    have hY : 0 ≤ y ^ (2 * k + 1) := Rat.pow_nonneg h0
    generalize y ^ (2 * k + 1) = Y at *
    have h2 : Y / ((2 * k + 1 : Nat) : Rat) ≤ Y := by
      have hp := npos (show 1 ≤ 2 * k + 1 by omega)
      have h1c : ((1 : Nat) : Rat) ≤ ((2 * k + 1 : Nat) : Rat) := ncast_le (by omega)
      refine scale_le hp ?_
      rw [Rat.div_mul_cancel (by grind)]
      have h3 : (1 : Rat) ≤ ((2 * k + 1 : Nat) : Rat) := h1c
      have := Rat.mul_le_mul_of_nonneg_left h3 hY
      grind
    have h4 : y * y ≤ 1 / 9 := by
      have := rmul_le h h h0 (show (0 : Rat) ≤ 1 / 3 by decide +kernel)
      have : (1 : Rat) / 3 * (1 / 3) = 1 / 9 := by decide +kernel
      grind
    have h5 := Rat.mul_le_mul_of_nonneg_left h4 hY
    grind
theorem As_up {y : Rat} (h0 : 0 ≤ y) (n m : Nat) : As n y ≤ As (n + m) y := by
  induction m with
  | zero => exact Rat.le_refl
  | succ m ih =>
    have h1 := ndiv (Rat.pow_nonneg (n := 2 * (n + m) + 1) h0) (2 * (n + m) + 1)
    show As n y ≤ As (n + m) y + y ^ (2 * (n + m) + 1) / ((2 * (n + m) + 1 : Nat) : Rat)
    grind
theorem As_all {y : Rat} (h0 : 0 ≤ y) (h : y ≤ 1 / 3) (n m : Nat) : As m y ≤ As n y + 2 * y ^ (2 * n + 1) := by
  have hY : ∀ k, 0 ≤ y ^ k := fun k => Rat.pow_nonneg h0
  rcases Nat.le_total n m with hm | hm
  · have h1 := As_tail h0 h n (m - n)
    rw [show n + (m - n) = m by omega] at h1
    have := hY (2 * m + 1)
    grind
  · have h1 := As_up h0 m (n - m)
    rw [show m + (n - m) = n by omega] at h1
    have := hY (2 * n + 1)
    grind
theorem atLoop_sound {s : Nat} {sq : PN} {y : Rat} (h0 : 0 ≤ y) (hq : Hd ((2 ^ s : Nat) : Rat) sq (y * y) (y * y)) : ∀ (f k : Nat) (sum term : PN), Hd ((2 ^ s : Nat) : Rat) sum (As k y) (As k y) → Hd ((2 ^ s : Nat) : Rat) term (y ^ (2 * k + 1)) (y ^ (2 * k + 1)) →
    ∃ j, Hd ((2 ^ s : Nat) : Rat) (atLoop s sq f sum term (2 * k + 1)).1 (As j y) (As j y) ∧ Hd ((2 ^ s : Nat) : Rat) (atLoop s sq f sum term (2 * k + 1)).2 (y ^ (2 * j + 1)) (y ^ (2 * j + 1))
  | 0, k, sum, term, h1, h2 => ⟨k, h1, h2⟩
  | f + 1, k, sum, term, h1, h2 => by
    unfold atLoop
    split
    · exact ⟨k, h1, h2⟩
    · have h3 := atLoop_sound h0 hq f (k + 1) (sum.plus (term.part (2 * k + 1))) (term.times sq s) (h1.plus (h2.part (by omega))) (by
        have h4 := h2.times hq (Rat.pow_nonneg h0) (rmul_nonneg h0 h0)
        have e : y ^ (2 * (k + 1) + 1) = y ^ (2 * k + 1) * (y * y) := by
          rw [show 2 * (k + 1) + 1 = 2 * k + 1 + 1 + 1 by omega, Rat.pow_succ, Rat.pow_succ]; grind
        rwa [e])
      rw [show 2 * (k + 1) + 1 = 2 * k + 1 + 2 by omega] at h3
      obtain ⟨j, h5, h6⟩ := h3
      exact ⟨j, h5, h6⟩
theorem atanhS_sound {num den s : Nat} (hd : 0 < den) (h3 : 3 * num ≤ den) :
    (∃ n, ((atanhS num den s).lo : Rat) ≤ As n ((num : Rat) / den) * ((2 ^ s : Nat) : Rat)) ∧ ∀ n, As n ((num : Rat) / den) * ((2 ^ s : Nat) : Rat) ≤ ((atanhS num den s).hi : Rat) := by
  have hD := npos (show 1 ≤ den from hd)
  have h0 : 0 ≤ (num : Rat) / den := ndiv (natc0 _) _
  have hy : (num : Rat) / den ≤ 1 / 3 := scale_le hD (by
    rw [Rat.div_mul_cancel (by grind)]
    have h := ncast_le h3
    rw [ncast_mul] at h
    have : ((3 : Nat) : Rat) = 3 := rfl
    grind)
  unfold atanhS
  by_cases hn : num = 0
  · rw [if_pos hn]
    subst hn
    have e : ((0 : Nat) : Rat) / den = 0 := by rw [Rat.div_def, show ((0 : Nat) : Rat) = 0 from rfl]; grind
    refine ⟨⟨0, ?_⟩, fun n => ?_⟩
    · rw [e, As_zero, show ((0 : Nat) : Rat) = 0 from rfl]; grind
    · rw [e, As_zero, show ((0 : Nat) : Rat) = 0 from rfl]; grind
  rw [if_neg hn]
  have hf := Hd.frac num s hd
  generalize (num : Rat) / den = y at *
  have hp := npos (show 1 ≤ 2 ^ s from Nat.two_pow_pos s)
  have hz : Hd ((2 ^ s : Nat) : Rat) ⟨0, 0⟩ (As 0 y) (As 0 y) := by
    have e : As 0 y = 0 := rfl
    unfold Hd
    rw [e]
    dsimp only
    have : ((0 : Nat) : Rat) = 0 := rfl
    grind
  obtain ⟨j, h1, h2⟩ := atLoop_sound h0 (hf.times hf h0 h0) (s + 2) 0 ⟨0, 0⟩ (fracS num den s) hz (by
    rw [show 2 * 0 + 1 = 1 from rfl, Rat.pow_one]; exact hf)
  rw [show 2 * 0 + 1 = 1 from rfl] at h1 h2
  unfold atR
  generalize atLoop s ((fracS num den s).times (fracS num den s) s) (s + 2) ⟨0, 0⟩ (fracS num den s) 1 = r at *
  refine ⟨⟨j, h1.1⟩, fun n => ?_⟩
  show _ ≤ ((r.1.hi + (r.2.hi + r.2.hi) : Nat) : Rat)
  rw [ncast_add, ncast_add]
  have h4 := Rat.mul_le_mul_of_nonneg_right (As_all h0 hy j n) (Rat.le_of_lt hp)
  have h5 := h1.2
  have h6 := h2.2
  grind
theorem Et_half {t : Rat} (h0 : 0 ≤ t) (h : t ≤ 1) (n : Nat) : 2 * Et (n + 1 + 1) t ≤ Et (n + 1) t := by
  have h1 := Et_step (n + 1) t
  have h2 := Et_nonneg h0 (n + 1)
  have h3 := Et_nonneg h0 (n + 1 + 1)
  have h4 := Rat.mul_le_mul_of_nonneg_left h h2
  have h5 := natc n
  have h6 : (2 : Rat) ≤ ((n + 1 : Nat) : Rat) + 1 := by have := natc0 n; grind
  have h7 := Rat.mul_le_mul_of_nonneg_left h6 h3
  grind
theorem Es_tail {t : Rat} (h0 : 0 ≤ t) (h : t ≤ 1) (n : Nat) : ∀ m, Es (n + 1 + m) t + Et (n + 1 + m) t ≤ Es (n + 1) t + Et (n + 1) t
  | 0 => Rat.le_refl
  | m + 1 => by
    have ih := Es_tail h0 h n m
    have h1 := Et_half h0 h (n + m)
    rw [show n + m + 1 = n + 1 + m by omega] at h1
    show Es (n + 1 + m) t + Et (n + 1 + m + 1) t + Et (n + 1 + m + 1) t ≤ _
    grind
theorem Es_more {t : Rat} (h0 : 0 ≤ t) (n m : Nat) : Es n t ≤ Es (n + m) t := by
  induction m with
  | zero => exact Rat.le_refl
  | succ m ih => exact Rat.le_trans ih (Es_up h0 (n + m))
theorem Es_all {t : Rat} (h0 : 0 ≤ t) (h : t ≤ 1) (n m : Nat) : Es m t ≤ Es (n + 1) t + Et (n + 1) t := by
  rcases Nat.le_total (n + 1) m with hm | hm
  · have h1 := Es_tail h0 h n (m - (n + 1))
    rw [show n + 1 + (m - (n + 1)) = m by omega] at h1
    have := Et_nonneg h0 m
    grind
  · have h1 := Es_more h0 m (n + 1 - m)
    rw [show m + (n + 1 - m) = n + 1 by omega] at h1
    have := Et_nonneg h0 (n + 1)
    grind
theorem exLoop_sound {s : Nat} {x : PN} {a b : Rat} (ha : 0 ≤ a) (hb : 0 ≤ b) (hx : Hd ((2 ^ s : Nat) : Rat) x a b) : ∀ (f k : Nat) (sum term : PN), Hd ((2 ^ s : Nat) : Rat) sum (Es k a) (Es k b) → Hd ((2 ^ s : Nat) : Rat) term (Et k a) (Et k b) →
    ∃ j, k ≤ j ∧ (0 < f → ¬ (term.lo = 0 ∧ x.hi = 0) → k + 1 ≤ j) ∧ Hd ((2 ^ s : Nat) : Rat) (exLoop s x f sum term (k + 1)).1 (Es j a) (Es j b) ∧ Hd ((2 ^ s : Nat) : Rat) (exLoop s x f sum term (k + 1)).2 (Et j a) (Et j b)
  | 0, k, sum, term, h1, h2 => ⟨k, Nat.le_refl _, fun h => absurd h (Nat.lt_irrefl 0), h1, h2⟩
  | f + 1, k, sum, term, h1, h2 => by
    unfold exLoop
    have h3 : Hd ((2 ^ s : Nat) : Rat) ((term.times x s).part (k + 1)) (Et (k + 1) a) (Et (k + 1) b) :=
      (h2.times hx (Et_nonneg hb k) hb).part (by omega)
    have h4 : Hd ((2 ^ s : Nat) : Rat) (sum.plus ((term.times x s).part (k + 1))) (Es (k + 1) a) (Es (k + 1) b) := h1.plus h3
    split
    · rename_i hc
      exact ⟨k, Nat.le_refl _, fun _ h => absurd hc h, h1, h2⟩
    · split
      · exact ⟨k + 1, Nat.le_succ _, fun _ _ => Nat.le_refl _, h4, h3⟩
      · obtain ⟨j, h5, -, h6, h7⟩ := exLoop_sound ha hb hx f (k + 1) _ _ h4 h3
        exact ⟨j, by omega, fun _ _ => h5, h6, h7⟩
theorem expN_sound {a b s : Nat} (hb : b ≤ 2 ^ s) :
    (∃ n, ((expN a b s).lo : Rat) ≤ Es n ((a : Rat) / ((2 ^ s : Nat) : Rat)) * ((2 ^ s : Nat) : Rat)) ∧ ∀ n, Es n ((b : Rat) / ((2 ^ s : Nat) : Rat)) * ((2 ^ s : Nat) : Rat) ≤ ((expN a b s).hi : Rat) := by
  have hp1 : 1 ≤ 2 ^ s := Nat.two_pow_pos s
  have hp := npos hp1
  have ha0 := ndiv (natc0 a) (2 ^ s)
  have hb0 := ndiv (natc0 b) (2 ^ s)
  have hb1 : (b : Rat) / ((2 ^ s : Nat) : Rat) ≤ 1 := scale_le hp (by
    rw [Rat.div_mul_cancel (by grind)]
    have := ncast_le hb
    grind)
  have hx : Hd ((2 ^ s : Nat) : Rat) ⟨a, b⟩ ((a : Rat) / ((2 ^ s : Nat) : Rat)) ((b : Rat) / ((2 ^ s : Nat) : Rat)) := by
    unfold Hd
    dsimp only
    rw [Rat.div_mul_cancel (by grind), Rat.div_mul_cancel (by grind)]
    exact ⟨Rat.le_refl, Rat.le_refl⟩
  have h1 : ∀ u v : Rat, Hd ((2 ^ s : Nat) : Rat) ⟨2 ^ s, 2 ^ s⟩ (Es 0 u) (Es 0 v) := fun u v => by
    have e : ∀ u, Es 0 u = 1 := fun _ => rfl
    unfold Hd
    rw [e, e]
    dsimp only
    grind
  obtain ⟨j, -, h3, h4, h5⟩ := exLoop_sound ha0 hb0 hx (s + 2) 0 ⟨2 ^ s, 2 ^ s⟩ ⟨2 ^ s, 2 ^ s⟩ (h1 ((a : Rat) / ((2 ^ s : Nat) : Rat)) ((b : Rat) / ((2 ^ s : Nat) : Rat))) (h1 ((a : Rat) / ((2 ^ s : Nat) : Rat)) ((b : Rat) / ((2 ^ s : Nat) : Rat)))
  have hj := h3 (by omega) (fun h => by have := h.1; dsimp only at this; omega)
  rw [Nat.zero_add] at h4 h5
  unfold expN exR
  generalize exLoop s ⟨a, b⟩ (s + 2) ⟨2 ^ s, 2 ^ s⟩ ⟨2 ^ s, 2 ^ s⟩ 1 = r at *
  refine ⟨⟨j, h4.1⟩, fun n => ?_⟩
  show _ ≤ ((r.1.hi + (r.2.hi + r.2.hi) : Nat) : Rat)
  rw [ncast_add, ncast_add]
  obtain ⟨i, rfl⟩ : ∃ i, j = i + 1 := ⟨j - 1, by omega⟩
  have h6 := Rat.mul_le_mul_of_nonneg_right (Es_all hb0 hb1 i n) (Rat.le_of_lt hp)
  have h7 := h4.2
  have h8 := h5.2
  have h9 := natc0 r.2.hi
  grind
theorem exp_lo {a b s : Nat} (hb : b ≤ 2 ^ s) : XL (((expN a b s).lo : Rat) / ((2 ^ s : Nat) : Rat)) ((a : Rat) / ((2 ^ s : Nat) : Rat)) := by
  have hp := npos (show 1 ≤ 2 ^ s from Nat.two_pow_pos s)
  obtain ⟨⟨n, h⟩, -⟩ := expN_sound (a := a) hb
  exact XL.sum (ndiv (natc0 _) _) n (scale_le hp (by rw [Rat.div_mul_cancel (by grind)]; exact h)) (ndiv (natc0 _) _)
theorem exp_hi {a b s : Nat} (hb : b ≤ 2 ^ s) : XU ((b : Rat) / ((2 ^ s : Nat) : Rat)) (((expN a b s).hi : Rat) / ((2 ^ s : Nat) : Rat)) := by
  have hp := npos (show 1 ≤ 2 ^ s from Nat.two_pow_pos s)
  obtain ⟨-, h⟩ := expN_sound (a := a) hb
  exact XU.sum (ndiv (natc0 _) _) fun n => scale_le hp (by rw [Rat.div_mul_cancel (by grind)]; exact h n)
theorem y_facts {num den : Nat} (hd : 0 < den) (h3 : 3 * num ≤ den) : 0 ≤ (num : Rat) / den ∧ (num : Rat) / den ≤ 1 / 3 := by
  have hD := npos (show 1 ≤ den from hd)
  exact ⟨ndiv (natc0 _) _, scale_le hD (by
    rw [Rat.div_mul_cancel (by grind)]
    have h := ncast_le h3
    rw [ncast_mul] at h
    have : ((3 : Nat) : Rat) = 3 := rfl
    grind)⟩
theorem log_lo {num den s : Nat} (hd : 0 < den) (h3 : 3 * num ≤ den) : XU (2 * ((atanhS num den s).lo : Rat) / ((2 ^ s : Nat) : Rat)) (gR ((num : Rat) / den)) := by
  have hp := npos (show 1 ≤ 2 ^ s from Nat.two_pow_pos s)
  obtain ⟨⟨n, h⟩, -⟩ := atanhS_sound (s := s) hd h3
  obtain ⟨h0, hy⟩ := y_facts hd h3
  have hg := gR_pos h0 hy
  exact (XU.atanh h0 hy n).mono (scale_le hp (by rw [Rat.div_mul_cancel (by grind)]; grind)) Rat.le_refl (by grind)
theorem log_hi {num den s : Nat} (hd : 0 < den) (h3 : 3 * num ≤ den) : XL (gR ((num : Rat) / den)) (2 * ((atanhS num den s).hi : Rat) / ((2 ^ s : Nat) : Rat)) := by
  have hp := npos (show 1 ≤ 2 ^ s from Nat.two_pow_pos s)
  obtain ⟨-, h⟩ := atanhS_sound (s := s) hd h3
  obtain ⟨h0, hy⟩ := y_facts hd h3
  have h1 := XL.atanh h0 hy (v := ((atanhS num den s).hi : Rat) / ((2 ^ s : Nat) : Rat)) fun n => scale_le hp (by rw [Rat.div_mul_cancel (by grind)]; exact h n)
  rwa [show 2 * (((atanhS num den s).hi : Rat) / ((2 ^ s : Nat) : Rat)) = 2 * ((atanhS num den s).hi : Rat) / ((2 ^ s : Nat) : Rat) by grind] at h1
theorem ln2_lo (s : Nat) : XU (((ln2S s).lo : Rat) / ((2 ^ s : Nat) : Rat)) 2 := by
  have h := log_lo (num := 1) (den := 3) (s := s) (by decide) (by decide)
  have e : gR (((1 : Nat) : Rat) / ((3 : Nat) : Rat)) = 2 := by decide +kernel
  rw [e] at h
  have e2 : ((ln2S s).lo : Rat) = 2 * ((atanhS 1 3 s).lo : Rat) := by
    show (((atanhS 1 3 s).lo + (atanhS 1 3 s).lo : Nat) : Rat) = _
    rw [ncast_add]; grind
  rwa [e2]
theorem ln2_hi (s : Nat) : XL 2 (((ln2S s).hi : Rat) / ((2 ^ s : Nat) : Rat)) := by
  have h := log_hi (num := 1) (den := 3) (s := s) (by decide) (by decide)
  have e : gR (((1 : Nat) : Rat) / ((3 : Nat) : Rat)) = 2 := by decide +kernel
  rw [e] at h
  have e2 : ((ln2S s).hi : Rat) = 2 * ((atanhS 1 3 s).hi : Rat) := by
    show (((atanhS 1 3 s).hi + (atanhS 1 3 s).hi : Nat) : Rat) = _
    rw [ncast_add]; grind
  rwa [e2]
end Go.Proofs.YtfkgaldbcngliaaGreatDoor.XX
end
