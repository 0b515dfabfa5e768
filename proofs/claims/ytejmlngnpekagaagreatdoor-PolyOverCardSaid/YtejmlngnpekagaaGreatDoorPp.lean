/- Polynomials: Horner's steps and the sum of powers are worth the same. No program stands here. -/
import Derived.Test.YtejmlngnpekagaaGreatDoorRv
import Derived.Test.YtejmlngnpekagaaGreatDoorFd0
import Derived.Test.YtejmlngnpekagaaGreatDoorIvL
import Derived.Test.YtejmlngnpekagaaGreatDoorLimM
open Go PG Go.Proofs
set_option maxRecDepth 100000
set_option linter.unusedSimpArgs false
set_option linter.unusedVariables false
namespace Go.Proofs.YtejmlngnpekagaaGreatDoor

/-- A polynomial's worth. -/
def polyV (l : List Nat) (x : Rat) : Rat := l.foldr (fun b s => s * x + (fd b).val) 0
theorem polyV_cons (b : Nat) (l : List Nat) (x : Rat) : polyV (b :: l) x = polyV l x * x + (fd b).val := rfl
/-- Horner's steps at an interval. -/
def hornS (l : List Nat) (i : Iv) : Iv := l.foldr (fun b s => addI (mulI s i) ⟨fd0 b, fd0 b⟩) Iv.zero
theorem hornS_cons (b : Nat) (l : List Nat) (i : Iv) : hornS (b :: l) i = addI (mulI (hornS l i) i) ⟨fd0 b, fd0 b⟩ := rfl
def hB (J n : Nat) : Nat := (J + 1) * n + 1154
theorem hB_succ (J n : Nat) : hB J (n + 1) = hB J n + J + 1 := by unfold hB; rw [Nat.mul_succ]; omega
theorem hB_le {J n : Nat} (hJ : J ≤ 1300) (hn : n ≤ 16) : hB J n ≤ 23000 := by
  unfold hB
  have := Nat.mul_le_mul (show J + 1 ≤ 1301 by omega) hn
  omega
theorem pt_right {d : Dy} (hf : d.fits) : Iv.right ⟨d, d⟩ := ⟨hf, hf, by rw [cmp_self]; decide⟩
theorem pt0 (b : Nat) : Iv.right ⟨fd0 b, fd0 b⟩ := pt_right ((fd0_lim b).fits (by decide))
theorem hornS_spec {i : Iv} {J : Nat} (hl : i.lim J) (hJ : J ≤ 1300) : ∀ l : List Nat, l.length ≤ 16 → (hornS l i).lim (hB J l.length) ∧ (hornS l i).right := by
  intro l
  induction l with
  | nil => intro _; exact ⟨⟨Lim.zero _, Lim.zero _⟩, pt_right Dy.zero_fits⟩
  | cons b l ih =>
    intro hn
    rw [List.length_cons] at hn
    obtain ⟨h1, h2⟩ := ih (by omega)
    have hb := hB_le hJ (show l.length ≤ 16 by omega)
    have hm := h1.mul hl
    have hc : Iv.lim (hB J l.length + J) ⟨fd0 b, fd0 b⟩ := by
      have := (fd0_lim b).mono (J := hB J l.length + J) (by unfold hB; omega)
      exact ⟨this, this⟩
    rw [List.length_cons, hB_succ]
    exact ⟨hm.add hc (by omega), addI_right hm hc (by omega) (mulI_right h1 hl (by omega)) (pt0 b)⟩
theorem minD_self (d : Dy) : minD d d = d := by unfold minD; split <;> rfl
theorem maxD_self (d : Dy) : maxD d d = d := by unfold maxD; split <;> rfl
theorem mulI_pt (h d : Dy) : mulI ⟨h, h⟩ ⟨d, d⟩ = ⟨mulS h d, mulS h d⟩ := by
  unfold mulI min4 max4
  simp only [minD_self, maxD_self]
theorem addI_pt (h d : Dy) : addI ⟨h, h⟩ ⟨d, d⟩ = ⟨addS h d, addS h d⟩ := rfl
theorem fd0_fin {b : Nat} (h : fe b < 2047) : fd0 b = fd b := if_pos h
theorem hornS_pt {d : Dy} {J : Nat} (hd : Lim J d) (hJ : J ≤ 1300) : ∀ l : List Nat, l.length ≤ 16 → (∀ b ∈ l, fe b < 2047) → ∃ h, hornS l ⟨d, d⟩ = ⟨h, h⟩ ∧ Lim (hB J l.length) h ∧ h.val = polyV l d.val := by
  intro l
  induction l with
  | nil => intro _ _; exact ⟨.zero, rfl, Lim.zero _, val_zero rfl⟩
  | cons b l ih =>
    intro hn hf
    rw [List.length_cons] at hn
    obtain ⟨h, h1, h2, h3⟩ := ih (by omega) (fun x hx => hf x (List.mem_cons_of_mem _ hx))
    have hb := hB_le hJ (show l.length ≤ 16 by omega)
    have e := fd0_fin (hf b (List.mem_cons_self ..))
    have hm := h2.mul hd
    have hc := (fd_lim b).mono (J := hB J l.length + J) (by unfold hB; omega)
    rw [hornS_cons, h1, mulI_pt, addI_pt, e, List.length_cons, hB_succ]
    refine ⟨_, rfl, hm.add hc (by omega), ?_⟩
    rw [Lim.val_add hm hc (by omega), val_mul, h3, polyV_cons]
theorem hornS_pt0 (x : Dy) : ∀ l : List Nat, ∃ g, hornS l ⟨x, x⟩ = ⟨g, g⟩ := by
  intro l
  induction l with
  | nil => exact ⟨.zero, rfl⟩
  | cons c l ih =>
    obtain ⟨g, hg⟩ := ih
    rw [hornS_cons, hg, mulI_pt, addI_pt]
    exact ⟨_, rfl⟩
theorem hornS_has {i : Iv} {x : Dy} {J : Nat} (hl : i.lim J) (hx : Lim J x) (hJ : J ≤ 1300) (h : i.has x) : ∀ l : List Nat, l.length ≤ 16 → (hornS l i).has (hornS l ⟨x, x⟩).lo := by
  intro l
  induction l with
  | nil => intro _; exact ⟨pt_right Dy.zero_fits, Dy.zero_fits, by show cmpD Dy.zero Dy.zero ≤ 0; decide, by show cmpD Dy.zero Dy.zero ≤ 0; decide⟩
  | cons b l ih =>
    intro hn
    rw [List.length_cons] at hn
    have ih := ih (by omega)
    obtain ⟨h1, h2⟩ := hornS_spec hl hJ l (by omega)
    obtain ⟨g1, g2⟩ := hornS_spec (i := ⟨x, x⟩) ⟨hx, hx⟩ hJ l (by omega)
    have hb := hB_le hJ (show l.length ≤ 16 by omega)
    have hc : Iv.lim (hB J l.length + J) ⟨fd0 b, fd0 b⟩ := by
      have := (fd0_lim b).mono (J := hB J l.length + J) (by unfold hB; omega)
      exact ⟨this, this⟩
    obtain ⟨g, hg⟩ := hornS_pt0 x l
    rw [hg] at ih g1
    rw [hornS_cons, hornS_cons, hg, mulI_pt, addI_pt]
    exact has_add (h1.mul hl) hc (by omega) (g1.1.mul hx) hc.1 (has_mul h1 hl (by omega) g1.1 hx ih h) (has_ends (pt0 b)).1

/-- A power, one by one. -/
def powN (x : Dy) : Nat → Dy
  | 0 => ⟨false, 1, 0⟩
  | k + 1 => mulS (powN x k) x
theorem powN_eq (x : Dy) : ∀ k, powN x k = if k = 0 then ⟨false, 1, 0⟩ else if x.m = 0 then .zero else ⟨x.s && decide (k % 2 = 1), x.m ^ k, x.e * k⟩ := by
  intro k
  induction k with
  | zero => rfl
  | succ k ih =>
    rw [if_neg (by omega)]
    show mulS (powN x k) x = _
    by_cases h0 : x.m = 0
    · rw [if_pos h0]; exact if_pos (.inr h0)
    rw [if_neg h0, ih]
    by_cases hk : k = 0
    · subst hk
      rw [if_pos rfl]
      unfold mulS
      rw [if_neg (by dsimp only; omega)]
      simp
    · rw [if_neg hk, if_neg h0]
      unfold mulS
      rw [if_neg (by dsimp only; have := Nat.pow_pos (n := k) (Nat.pos_of_ne_zero h0); omega)]
      dsimp only
      congr 1
      · rcases Nat.mod_two_eq_zero_or_one k with h | h
        · rw [show (k + 1) % 2 = 1 by omega, h]; cases x.s <;> decide
        · rw [show (k + 1) % 2 = 0 by omega, h]; cases x.s <;> decide
      · rw [show (((k + 1 : Nat)) : Int) = (k : Int) + 1 by omega, Int.mul_add, Int.mul_one]
theorem val_one : (⟨false, 1, 0⟩ : Dy).val = 1 := by decide +kernel
theorem powN_val (x : Dy) : ∀ k, (powN x k).val = x.val ^ k := by
  intro k
  induction k with
  | zero => rw [Rat.pow_zero]; exact val_one
  | succ k ih =>
    show (mulS (powN x k) x).val = _
    rw [val_mul, ih, Rat.pow_succ]
theorem powN_lim {x : Dy} {K : Nat} (hx : LimN K x) : ∀ k, LimN (K * k + 1) (powN x k) := by
  intro k
  induction k with
  | zero =>
    show LimN (K * 0 + 1) ⟨false, 1, 0⟩
    rw [Nat.mul_zero]
    exact ⟨.inr (by decide), by decide, by decide, by decide⟩
  | succ k ih =>
    have := ih.mul hx
    rw [show K * k + 1 + K = K * (k + 1) + 1 by rw [Nat.mul_succ]; omega] at this
    exact this
/-- The sum of coefficients times powers. -/
def sumN (l : List Nat) (x : Dy) : Nat → Dy
  | 0 => .zero
  | k + 1 => addD (sumN l x k) (mulS (fd (l.getD k 0)) (powN x k))
theorem term_lim (l : List Nat) {x : Dy} {K : Nat} (hx : LimN K x) (k : Nat) : LimN (1153 + (K * k + 1)) (mulS (fd (l.getD k 0)) (powN x k)) := (fd_lim _).N.mul (powN_lim hx k)
def sB (K k : Nat) : Nat := (K + 1155) * k + 1
theorem sB_succ (K k : Nat) : sB K (k + 1) = sB K k + K + 1155 := by unfold sB; rw [Nat.mul_succ]; omega
theorem sB_term (K k : Nat) : 1153 + (K * k + 1) ≤ sB K (k + 1) - 1 := by
  unfold sB
  have : (K + 1155) * (k + 1) = K * k + 1155 * k + (K + 1155) := by rw [Nat.mul_succ, Nat.add_mul]
  omega
theorem sumN_lim (l : List Nat) {x : Dy} {K : Nat} (hx : LimN K x) : ∀ k, LimN (sB K k) (sumN l x k) := by
  intro k
  induction k with
  | zero => exact (Lim.zero _).N
  | succ k ih =>
    have h1 := sB_succ K k
    have h2 := sB_term K k
    have := (ih.mono (J := sB K (k + 1) - 1) (by omega)).add ((term_lim l hx k).mono h2)
    rw [show sB K (k + 1) - 1 + 1 = sB K (k + 1) by omega] at this
    exact this
theorem sumN_val (l : List Nat) (x : Dy) : (sumN l x l.length).val = polyV l x.val := by
  have key : ∀ k, k ≤ l.length → (sumN l x k).val + polyV (l.drop k) x.val * x.val ^ k = polyV l x.val := by
    intro k
    induction k with
    | zero =>
      intro _
      rw [List.drop_zero, Rat.pow_zero, Rat.mul_one, show (sumN l x 0).val = 0 from val_zero rfl, Rat.zero_add]
    | succ k ih =>
      intro hk
      have ih := ih (by omega)
      rw [List.drop_eq_getElem_cons (show k < l.length by omega), polyV_cons] at ih
      rw [← ih]
      show (addD (sumN l x k) (mulS (fd (l.getD k 0)) (powN x k))).val + _ = _
      rw [val_addD, val_mul, powN_val, Rat.pow_succ, List.getD_eq_getElem?_getD, List.getElem?_eq_getElem (show k < l.length by omega), Option.getD_some]
      generalize x.val ^ k = p
      generalize polyV (l.drop (k + 1)) x.val = q
      generalize (fd l[k]).val = c
      generalize x.val = y
      generalize (sumN l x k).val = s
      grind
  have := key l.length (Nat.le_refl _)
  rw [List.drop_length] at this
  have e : polyV [] x.val = 0 := rfl
  rw [e, Rat.zero_mul, Rat.add_zero] at this
  exact this
end Go.Proofs.YtejmlngnpekagaaGreatDoor
