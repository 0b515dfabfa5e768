/- Digits to a base: their worth, the digits of a number, and that a list without noughts at its end is the digits of its worth. No program stands here. -/
import Derived.Test.YtflpcgcgeffolaaDoorPgM
set_option linter.unusedVariables false
set_option linter.unusedSimpArgs false
namespace PG

/-- What is left of a list of digits without the noughts at its end. -/
def strip : List Nat → List Nat
  | [] => []
  | d :: l => match strip l with
    | [] => if d = 0 then [] else [d]
    | r => d :: r

theorem strip_snoc0 (l : List Nat) : strip (l ++ [0]) = strip l := by
  induction l with
  | nil => rfl
  | cons d l ih => simp only [List.cons_append, strip, ih]

theorem strip_snoc (l : List Nat) (d : Nat) (hd : d ≠ 0) : strip (l ++ [d]) = l ++ [d] := by
  induction l with
  | nil => simp [strip, hd]
  | cons c l ih =>
    simp only [List.cons_append, strip, ih]
    cases l <;> rfl

def dv (b : Nat) : List Nat → Nat
  | [] => 0
  | d :: l => d + b * dv b l

def Ok (b : Nat) (l : List Nat) : Prop := ∀ d ∈ l, d < b

theorem Ok.tail {b d : Nat} {l : List Nat} (h : Ok b (d :: l)) : Ok b l := fun x hx => h x (List.mem_cons_of_mem _ hx)
theorem Ok.head {b d : Nat} {l : List Nat} (h : Ok b (d :: l)) : d < b := h d (List.mem_cons_self ..)
theorem Ok.nil {b : Nat} : Ok b [] := fun x hx => by cases hx
theorem Ok.cons {b d : Nat} {l : List Nat} (hd : d < b) (h : Ok b l) : Ok b (d :: l) := fun x hx => by
  rcases List.mem_cons.1 hx with rfl | hx
  · exact hd
  · exact h x hx
theorem Ok.append {b : Nat} {l r : List Nat} (hl : Ok b l) (hr : Ok b r) : Ok b (l ++ r) := fun x hx => by
  rcases List.mem_append.1 hx with h | h
  · exact hl x h
  · exact hr x h

def dgF (b : Nat) : Nat → Nat → List Nat
  | 0, _ => []
  | f + 1, n => if n = 0 then [] else n % b :: dgF b f (n / b)
/-- The digits of a number, the lowest first, without noughts at the end. -/
def dg (b n : Nat) : List Nat := dgF b n n

theorem dgF_fuel {b : Nat} (hb : 2 ≤ b) : ∀ (f g n : Nat), n ≤ f → n ≤ g → dgF b f n = dgF b g n
  | 0, g, n, hf, _ => by
    have : n = 0 := by omega
    subst this
    cases g <;> simp [dgF]
  | f + 1, 0, n, _, hg => by
    have : n = 0 := by omega
    subst this
    simp [dgF]
  | f + 1, g + 1, n, hf, hg => by
    simp only [dgF]
    split
    · rfl
    · rename_i h0
      have : n / b < n := Nat.div_lt_self (by omega) hb
      rw [dgF_fuel hb f g (n / b) (by omega) (by omega)]

theorem dg_eq {b : Nat} (hb : 2 ≤ b) (n : Nat) : dg b n = if n = 0 then [] else n % b :: dg b (n / b) := by
  cases n with
  | zero => rfl
  | succ n =>
    have : (n + 1) / b < n + 1 := Nat.div_lt_self (by omega) hb
    simp only [dg, dgF]
    rw [dgF_fuel hb n ((n + 1) / b) _ (by omega) (by omega)]

theorem dg_zero (b : Nat) : dg b 0 = [] := rfl
theorem dg_pos {b : Nat} (hb : 2 ≤ b) {n : Nat} (h : n ≠ 0) : dg b n = n % b :: dg b (n / b) := by rw [dg_eq hb, if_neg h]

theorem dv_dg {b : Nat} (hb : 2 ≤ b) (n : Nat) : dv b (dg b n) = n := by
  induction n using Nat.strongRecOn with
  | _ n ih =>
    rw [dg_eq hb]
    split
    · rename_i h; subst h; rfl
    · rename_i h
      simp only [dv]
      rw [ih (n / b) (Nat.div_lt_self (by omega) hb)]
      exact Nat.mod_add_div n b

theorem ok_dg {b : Nat} (hb : 2 ≤ b) (n : Nat) : Ok b (dg b n) := by
  induction n using Nat.strongRecOn with
  | _ n ih =>
    rw [dg_eq hb]
    split
    · exact Ok.nil
    · exact Ok.cons (Nat.mod_lt _ (by omega)) (ih (n / b) (Nat.div_lt_self (by omega) hb))

/-- Without the noughts at its end a list is the digits of its worth. -/
theorem strip_eq {b : Nat} (hb : 2 ≤ b) : ∀ (l : List Nat), Ok b l → strip l = dg b (dv b l)
  | [], _ => rfl
  | d :: l, h => by
    have ih := strip_eq hb l h.tail
    have hd := h.head
    simp only [strip, dv, ih]
    by_cases h0 : dv b l = 0
    · simp only [h0, dg_zero, Nat.mul_zero, Nat.add_zero]
      split
      · rename_i hd0; subst hd0; rfl
      · rename_i hd0
        rw [dg_pos hb hd0, Nat.mod_eq_of_lt hd, Nat.div_eq_of_lt hd, dg_zero]
    · have hp : d + b * dv b l ≠ 0 := by
        have : 0 < b * dv b l := Nat.mul_pos (by omega) (by omega)
        omega
      rw [dg_pos hb hp, Nat.add_mul_mod_self_left, Nat.mod_eq_of_lt hd, Nat.add_mul_div_left _ _ (by omega), Nat.div_eq_of_lt hd, Nat.zero_add, dg_pos hb h0]

theorem dv_lt {b : Nat} : ∀ (l : List Nat), Ok b l → dv b l < b ^ l.length
  | [], _ => by simp [dv]
  | d :: l, h => by
    have ih := dv_lt l h.tail
    have hd := h.head
    simp only [dv, List.length_cons, Nat.pow_succ]
    calc d + b * dv b l < b + b * dv b l := by omega
      _ = b * (dv b l + 1) := by rw [Nat.mul_add]; omega
      _ ≤ b * b ^ l.length := Nat.mul_le_mul (Nat.le_refl _) ih
      _ = b ^ l.length * b := Nat.mul_comm _ _

theorem dv_append {b : Nat} (l r : List Nat) : dv b (l ++ r) = dv b l + b ^ l.length * dv b r := by
  induction l with
  | nil => simp [dv]
  | cons d l ih =>
    simp only [List.cons_append, dv, ih, List.length_cons, Nat.pow_succ, Nat.mul_add]
    rw [Nat.mul_comm (b ^ l.length) b, Nat.mul_assoc]
    omega

theorem dv_replicate {b : Nat} (n : Nat) : dv b (List.replicate n 0) = 0 := by
  induction n with
  | zero => rfl
  | succ n ih => simp [List.replicate_succ, dv, ih]

theorem dg_length_le {b : Nat} (hb : 2 ≤ b) : ∀ (k n : Nat), (dg b n).length ≤ k ↔ n < b ^ k
  | 0, n => by
    rw [dg_eq hb]
    split
    · rename_i h; simp [h]
    · rename_i h; simp; omega
  | k + 1, n => by
    rw [dg_eq hb]
    split
    · rename_i h; subst h; simp [Nat.pow_pos (show 0 < b by omega)]
    · rw [List.length_cons, Nat.add_le_add_iff_right, dg_length_le hb k, Nat.pow_succ, Nat.div_lt_iff_lt_mul (by omega)]

/-- The digit at a place. -/
theorem dv_get {b : Nat} (hb : 0 < b) : ∀ (l : List Nat), Ok b l → ∀ (i : Nat), l.getD i 0 = dv b l / b ^ i % b
  | [], _, i => by simp [dv]
  | d :: l, h, 0 => by
    simp only [List.getD_cons_zero, dv, Nat.pow_zero, Nat.div_one, Nat.add_mul_mod_self_left]
    rw [Nat.mod_eq_of_lt h.head]
  | d :: l, h, i + 1 => by
    simp only [List.getD_cons_succ, dv]
    rw [dv_get hb l h.tail i, Nat.pow_succ, Nat.mul_comm (b ^ i) b, ← Nat.div_div_eq_div_mul, Nat.add_mul_div_left _ _ hb, Nat.div_eq_of_lt h.head, Nat.zero_add]

/-- So many digits of a number, from the lowest. -/
def tab (b x n : Nat) : List Nat := (List.range n).map fun i => x / b ^ i % b

theorem tab_length (b x n : Nat) : (tab b x n).length = n := by simp [tab]
theorem tab_succ (b x n : Nat) : tab b x (n + 1) = tab b x n ++ [x / b ^ n % b] := by simp [tab, List.range_succ]
theorem ok_tab {b : Nat} (hb : 0 < b) (x n : Nat) : Ok b (tab b x n) := fun d hd => by
  simp only [tab, List.mem_map] at hd
  obtain ⟨i, _, rfl⟩ := hd
  exact Nat.mod_lt _ hb
theorem dv_tab {b : Nat} (x n : Nat) : dv b (tab b x n) = x % b ^ n := by
  induction n with
  | zero => simp [tab, dv, Nat.mod_one]
  | succ n ih => rw [tab_succ, dv_append, ih, tab_length, Nat.pow_succ, Nat.mod_mul]; simp [dv]
theorem strip_tab {b : Nat} (hb : 2 ≤ b) {x n : Nat} (h : x < b ^ n) : strip (tab b x n) = dg b x := by
  rw [strip_eq hb _ (ok_tab (by omega) x n), dv_tab, Nat.mod_eq_of_lt h]

/-- A row that is filled from its start. -/
theorem fill_set {b x n i : Nat} (h : i < n) : (tab b x i ++ List.replicate (n - i) 0).set i (x / b ^ i % b) = tab b x (i + 1) ++ List.replicate (n - (i + 1)) 0 := by
  obtain ⟨k, rfl⟩ : ∃ k, n = i + 1 + k := ⟨n - (i + 1), by omega⟩
  rw [show i + 1 + k - i = k + 1 by omega, show i + 1 + k - (i + 1) = k by omega, List.replicate_succ, tab_succ, List.set_append_right _ _ (by rw [tab_length]; omega), tab_length]
  simp

/-! ### Sums and differences, digit by digit -/
def carry (A B M : Nat) : Nat := (A % M + B % M) / M

theorem carry_digit {A B M W : Nat} (hM : 0 < M) : (A / M % W + B / M % W + carry A B M) % W = (A + B) / M % W := by
  have h : (A + B) / M = A / M + B / M + carry A B M := by
    have e : A + B = (A % M + B % M) + M * (A / M + B / M) := by
      have := Nat.mod_add_div A M
      have := Nat.mod_add_div B M
      rw [Nat.mul_add]
      omega
    rw [e, Nat.add_mul_div_left _ _ hM]
    unfold carry
    omega
  rw [h, Nat.add_mod (A / M + B / M), Nat.add_mod (A / M), Nat.add_mod (A / M % W + B / M % W)]

theorem carry_next {A B M W : Nat} (hM : 0 < M) : (A / M % W + B / M % W + carry A B M) / W = carry A B (M * W) := by
  unfold carry
  rw [Nat.mod_mul, Nat.mod_mul, ← Nat.div_div_eq_div_mul]
  rw [show A % M + M * (A / M % W) + (B % M + M * (B / M % W)) = (A % M + B % M) + M * (A / M % W + B / M % W) by rw [Nat.mul_add]; omega, Nat.add_mul_div_left _ _ hM]
  congr 1
  omega

theorem carry_le {A B M : Nat} (hM : 0 < M) : carry A B M ≤ 1 := by
  unfold carry
  have h1 := Nat.mod_lt A hM
  have h2 := Nat.mod_lt B hM
  have : (A % M + B % M) / M < 2 := (Nat.div_lt_iff_lt_mul hM).2 (by omega)
  omega

theorem carry_one (A B : Nat) : carry A B 1 = 0 := by simp [carry, Nat.mod_one]

def borrow (A B M : Nat) : Nat := if A % M < B % M then 1 else 0

theorem borrow_spec {A B M : Nat} (hM : 0 < M) (h : B ≤ A) : A / M = (A - B) / M + B / M + borrow A B M := by
  have ea := Nat.mod_add_div A M
  have eb := Nat.mod_add_div B M
  have ha := Nat.mod_lt A hM
  have hb := Nat.mod_lt B hM
  unfold borrow
  split
  · rename_i hlt
    have hq : B / M < A / M := by
      rcases Nat.lt_or_ge (B / M) (A / M) with h' | h'
      · exact h'
      · have := Nat.mul_le_mul_left M h'
        omega
    have e : A - B = (A % M + M - B % M) + M * (A / M - B / M - 1) := by
      obtain ⟨k, hk⟩ : ∃ k, A / M = B / M + 1 + k := ⟨A / M - B / M - 1, by omega⟩
      rw [hk] at ea ⊢
      rw [show B / M + 1 + k - B / M - 1 = k by omega]
      rw [Nat.mul_add, Nat.mul_add] at ea
      omega
    rw [e, Nat.add_mul_div_left _ _ hM, Nat.div_eq_of_lt (show A % M + M - B % M < M by omega)]
    omega
  · rename_i hge
    have hq : B / M ≤ A / M := Nat.div_le_div_right h
    have e : A - B = (A % M - B % M) + M * (A / M - B / M) := by
      obtain ⟨k, hk⟩ : ∃ k, A / M = B / M + k := ⟨A / M - B / M, by omega⟩
      rw [hk] at ea ⊢
      rw [show B / M + k - B / M = k by omega]
      rw [Nat.mul_add] at ea
      omega
    rw [e, Nat.add_mul_div_left _ _ hM, Nat.div_eq_of_lt (show A % M - B % M < M by omega)]
    omega

theorem borrow_digit {A B M W : Nat} (hM : 0 < M) (h : B ≤ A) (hW : 0 < W) : (A / M % W + W + W - B / M % W - borrow A B M) % W = (A - B) / M % W := by
  have e := borrow_spec hM h
  have ha := Nat.mod_add_div (A / M) W
  have hb := Nat.mod_add_div (B / M) W
  have hc := Nat.mod_add_div ((A - B) / M) W
  have h1 := Nat.mod_lt (A / M) hW
  have h2 := Nat.mod_lt (B / M) hW
  have h3 := Nat.mod_lt ((A - B) / M) hW
  have h4 : borrow A B M ≤ 1 := by unfold borrow; split <;> omega
  generalize hx : (A - B) / M % W = x at *
  generalize A / M % W = a at *
  generalize B / M % W = bb at *
  generalize borrow A B M = br at *
  generalize (A - B) / M / W = r at *
  generalize A / M / W = p at *
  generalize B / M / W = q at *
  -- a + W p = x + W r + bb + W q + br
  have e2 : a + W * p = x + W * r + (bb + W * q) + br := by omega
  have : a + W + W - bb - br + W * p = x + W * (r + q + 2) := by rw [Nat.mul_add, Nat.mul_add]; omega
  have h5 := congrArg (· % W) this
  simp only [Nat.add_mul_mod_self_left] at h5
  rw [h5]
  exact Nat.mod_eq_of_lt h3

theorem borrow_next {A B M W : Nat} (hM : 0 < M) : borrow A B (M * W) = if A / M % W < B / M % W + borrow A B M then 1 else 0 := by
  have ha := Nat.mod_lt A hM
  have hb := Nat.mod_lt B hM
  unfold borrow
  rw [Nat.mod_mul, Nat.mod_mul]
  generalize A % M = a0 at *
  generalize B % M = b0 at *
  generalize A / M % W = a1 at *
  generalize B / M % W = b1 at *
  have key : a0 + M * a1 < b0 + M * b1 ↔ a1 < b1 + (if a0 < b0 then 1 else 0) := by
    rcases Nat.lt_trichotomy a1 b1 with h | h | h
    · have := Nat.mul_le_mul_left M (show a1 + 1 ≤ b1 from h)
      rw [Nat.mul_add] at this
      constructor
      · intro _; split <;> omega
      · intro _; omega
    · subst h
      split <;> omega
    · have := Nat.mul_le_mul_left M (show b1 + 1 ≤ a1 from h)
      rw [Nat.mul_add] at this
      constructor
      · intro _; omega
      · intro h'; split at h' <;> omega
  by_cases hk : a0 + M * a1 < b0 + M * b1
  · rw [if_pos hk, if_pos (key.1 hk)]
  · rw [if_neg hk, if_neg (fun h => hk (key.2 h))]

theorem borrow_one (A B : Nat) : borrow A B 1 = 0 := by simp [borrow, Nat.mod_one]
end PG
