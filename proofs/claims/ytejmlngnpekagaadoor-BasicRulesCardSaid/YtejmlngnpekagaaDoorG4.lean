/- Several parts in one text. -/
import Derived.Test.YtejmlngnpekagaaDoorG3
import Derived.Laws.MathBits
import Derived.Laws.Bits64b
import Derived.Lib.TrailingZeros
import Derived.Test.YtejmlngnpekagaaDoorPgN
import Derived.Shelf.Spec.BitsCarry
import Derived.RangeFuncBox
import Derived.RangeFuncLeaves
import Derived.OwnWalkIn
import Derived.TacticsInMore
import Derived.LoopNIn
import Derived.LoopIn
/- Digits to a base: their worth, the digits of a number, and that a list without noughts at its end is the digits of its worth. No program stands here. -/
section
set_option linter.unusedVariables false
set_option linter.unusedSimpArgs false
namespace PG

/-- What is left of a list of digits without the noughts at its end. -/
def strip : List Nat → List Nat
  | [] => []
  | d :: l => match strip l with
    | [] => if d = 0 then [] else [d]
    | r => d :: r

theorem strip_snoc0 (l : List Nat) : strip (l ++ [0]) = strip l := by
  induction l with
  | nil => rfl
  | cons d l ih => simp only [List.cons_append, strip, ih]

theorem strip_snoc (l : List Nat) (d : Nat) (hd : d ≠ 0) : strip (l ++ [d]) = l ++ [d] := by
  induction l with
  | nil => simp [strip, hd]
  | cons c l ih =>
    simp only [List.cons_append, strip, ih]
    cases l <;> rfl

def dv (b : Nat) : List Nat → Nat
  | [] => 0
  | d :: l => d + b * dv b l

def Ok (b : Nat) (l : List Nat) : Prop := ∀ d ∈ l, d < b

theorem Ok.tail {b d : Nat} {l : List Nat} (h : Ok b (d :: l)) : Ok b l := fun x hx => h x (List.mem_cons_of_mem _ hx)
theorem Ok.head {b d : Nat} {l : List Nat} (h : Ok b (d :: l)) : d < b := h d (List.mem_cons_self ..)
theorem Ok.nil {b : Nat} : Ok b [] := fun x hx => by cases hx
theorem Ok.cons {b d : Nat} {l : List Nat} (hd : d < b) (h : Ok b l) : Ok b (d :: l) := fun x hx => by
  rcases List.mem_cons.1 hx with rfl | hx
  · exact hd
  · exact h x hx
theorem Ok.append {b : Nat} {l r : List Nat} (hl : Ok b l) (hr : Ok b r) : Ok b (l ++ r) := fun x hx => by
  rcases List.mem_append.1 hx with h | h
  · exact hl x h
  · exact hr x h

def dgF (b : Nat) : Nat → Nat → List Nat
  | 0, _ => []
  | f + 1, n => if n = 0 then [] else n % b :: dgF b f (n / b)
/-- The digits of a number, the lowest first, without noughts at the end. -/
def dg (b n : Nat) : List Nat := dgF b n n

theorem dgF_fuel {b : Nat} (hb : 2 ≤ b) : ∀ (f g n : Nat), n ≤ f → n ≤ g → dgF b f n = dgF b g n
  | 0, g, n, hf, _ => by
    have : n = 0 := by omega
    subst this
    cases g <;> simp [dgF]
  | f + 1, 0, n, _, hg => by
    have : n = 0 := by omega
    subst this
    simp [dgF]
  | f + 1, g + 1, n, hf, hg => by
    simp only [dgF]
    split
    · rfl
    · rename_i h0
      have : n / b < n := Nat.div_lt_self (by omega) hb
      rw [dgF_fuel hb f g (n / b) (by omega) (by omega)]

theorem dg_eq {b : Nat} (hb : 2 ≤ b) (n : Nat) : dg b n = if n = 0 then [] else n % b :: dg b (n / b) := by
  cases n with
  | zero => rfl
  | succ n =>
    have : (n + 1) / b < n + 1 := Nat.div_lt_self (by omega) hb
    simp only [dg, dgF]
    rw [dgF_fuel hb n ((n + 1) / b) _ (by omega) (by omega)]

theorem dg_zero (b : Nat) : dg b 0 = [] := rfl
theorem dg_pos {b : Nat} (hb : 2 ≤ b) {n : Nat} (h : n ≠ 0) : dg b n = n % b :: dg b (n / b) := by rw [dg_eq hb, if_neg h]

theorem dv_dg {b : Nat} (hb : 2 ≤ b) (n : Nat) : dv b (dg b n) = n := by
  induction n using Nat.strongRecOn with
  | _ n ih =>
    rw [dg_eq hb]
    split
    · rename_i h; subst h; rfl
    · rename_i h
      simp only [dv]
      rw [ih (n / b) (Nat.div_lt_self (by omega) hb)]
      exact Nat.mod_add_div n b

theorem ok_dg {b : Nat} (hb : 2 ≤ b) (n : Nat) : Ok b (dg b n) := by
  induction n using Nat.strongRecOn with
  | _ n ih =>
    rw [dg_eq hb]
    split
    · exact Ok.nil
    · exact Ok.cons (Nat.mod_lt _ (by omega)) (ih (n / b) (Nat.div_lt_self (by omega) hb))

/-- Without the noughts at its end a list is the digits of its worth. -/
theorem strip_eq {b : Nat} (hb : 2 ≤ b) : ∀ (l : List Nat), Ok b l → strip l = dg b (dv b l)
  | [], _ => rfl
  | d :: l, h => by
    have ih := strip_eq hb l h.tail
    have hd := h.head
    simp only [strip, dv, ih]
    by_cases h0 : dv b l = 0
    · simp only [h0, dg_zero, Nat.mul_zero, Nat.add_zero]
      split
      · rename_i hd0; subst hd0; rfl
      · rename_i hd0
        rw [dg_pos hb hd0, Nat.mod_eq_of_lt hd, Nat.div_eq_of_lt hd, dg_zero]
    · have hp : d + b * dv b l ≠ 0 := by
        have : 0 < b * dv b l := Nat.mul_pos (by omega) (by omega)
        omega
      rw [dg_pos hb hp, Nat.add_mul_mod_self_left, Nat.mod_eq_of_lt hd, Nat.add_mul_div_left _ _ (by omega), Nat.div_eq_of_lt hd, Nat.zero_add, dg_pos hb h0]

theorem dv_lt {b : Nat} : ∀ (l : List Nat), Ok b l → dv b l < b ^ l.length
  | [], _ => by simp [dv]
  | d :: l, h => by
    have ih := dv_lt l h.tail
    have hd := h.head
    simp only [dv, List.length_cons, Nat.pow_succ]
    calc d + b * dv b l < b + b * dv b l := by omega
      _ = b * (dv b l + 1) := by rw [Nat.mul_add]; omega
      _ ≤ b * b ^ l.length := Nat.mul_le_mul (Nat.le_refl _) ih
      _ = b ^ l.length * b := Nat.mul_comm _ _

theorem dv_append {b : Nat} (l r : List Nat) : dv b (l ++ r) = dv b l + b ^ l.length * dv b r := by
  induction l with
  | nil => simp [dv]
  | cons d l ih =>
    simp only [List.cons_append, dv, ih, List.length_cons, Nat.pow_succ, Nat.mul_add]
    rw [Nat.mul_comm (b ^ l.length) b, Nat.mul_assoc]
    omega

theorem dv_replicate {b : Nat} (n : Nat) : dv b (List.replicate n 0) = 0 := by
  induction n with
  | zero => rfl
  | succ n ih => simp [List.replicate_succ, dv, ih]

theorem dg_length_le {b : Nat} (hb : 2 ≤ b) : ∀ (k n : Nat), (dg b n).length ≤ k ↔ n < b ^ k
  | 0, n => by
    rw [dg_eq hb]
    split
    · rename_i h; simp [h]
    · rename_i h; simp; omega
  | k + 1, n => by
    rw [dg_eq hb]
    split
    · rename_i h; subst h; simp [Nat.pow_pos (show 0 < b by omega)]
    · rw [List.length_cons, Nat.add_le_add_iff_right, dg_length_le hb k, Nat.pow_succ, Nat.div_lt_iff_lt_mul (by omega)]

/-- The digit at a place. -/
theorem dv_get {b : Nat} (hb : 0 < b) : ∀ (l : List Nat), Ok b l → ∀ (i : Nat), l.getD i 0 = dv b l / b ^ i % b
  | [], _, i => by simp [dv]
  | d :: l, h, 0 => by
    simp only [List.getD_cons_zero, dv, Nat.pow_zero, Nat.div_one, Nat.add_mul_mod_self_left]
    rw [Nat.mod_eq_of_lt h.head]
  | d :: l, h, i + 1 => by
    simp only [List.getD_cons_succ, dv]
    rw [dv_get hb l h.tail i, Nat.pow_succ, Nat.mul_comm (b ^ i) b, ← Nat.div_div_eq_div_mul, Nat.add_mul_div_left _ _ hb, Nat.div_eq_of_lt h.head, Nat.zero_add]

/-- So many digits of a number, from the lowest. -/
def tab (b x n : Nat) : List Nat := (List.range n).map fun i => x / b ^ i % b

theorem tab_length (b x n : Nat) : (tab b x n).length = n := by simp [tab]
theorem tab_succ (b x n : Nat) : tab b x (n + 1) = tab b x n ++ [x / b ^ n % b] := by simp [tab, List.range_succ]
theorem ok_tab {b : Nat} (hb : 0 < b) (x n : Nat) : Ok b (tab b x n) := fun d hd => by
  simp only [tab, List.mem_map] at hd
  obtain ⟨i, _, rfl⟩ := hd
  exact Nat.mod_lt _ hb
theorem dv_tab {b : Nat} (x n : Nat) : dv b (tab b x n) = x % b ^ n := by
  induction n with
  | zero => simp [tab, dv, Nat.mod_one]
  | succ n ih => rw [tab_succ, dv_append, ih, tab_length, Nat.pow_succ, Nat.mod_mul]; simp [dv]
theorem strip_tab {b : Nat} (hb : 2 ≤ b) {x n : Nat} (h : x < b ^ n) : strip (tab b x n) = dg b x := by
  rw [strip_eq hb _ (ok_tab (by omega) x n), dv_tab, Nat.mod_eq_of_lt h]

/-- A row that is filled from its start. -/
theorem fill_set {b x n i : Nat} (h : i < n) : (tab b x i ++ List.replicate (n - i) 0).set i (x / b ^ i % b) = tab b x (i + 1) ++ List.replicate (n - (i + 1)) 0 := by
  obtain ⟨k, rfl⟩ : ∃ k, n = i + 1 + k := ⟨n - (i + 1), by omega⟩
  rw [show i + 1 + k - i = k + 1 by omega, show i + 1 + k - (i + 1) = k by omega, List.replicate_succ, tab_succ, List.set_append_right _ _ (by rw [tab_length]; omega), tab_length]
  simp

/-! ### Sums and differences, digit by digit -/
def carry (A B M : Nat) : Nat := (A % M + B % M) / M

theorem carry_digit {A B M W : Nat} (hM : 0 < M) : (A / M % W + B / M % W + carry A B M) % W = (A + B) / M % W := by
  have h : (A + B) / M = A / M + B / M + carry A B M := by
    have e : A + B = (A % M + B % M) + M * (A / M + B / M) := by
      have := Nat.mod_add_div A M
      have := Nat.mod_add_div B M
      rw [Nat.mul_add]
      omega
    rw [e, Nat.add_mul_div_left _ _ hM]
    unfold carry
    omega
  rw [h, Nat.add_mod (A / M + B / M), Nat.add_mod (A / M), Nat.add_mod (A / M % W + B / M % W)]

theorem carry_next {A B M W : Nat} (hM : 0 < M) : (A / M % W + B / M % W + carry A B M) / W = carry A B (M * W) := by
  unfold carry
  rw [Nat.mod_mul, Nat.mod_mul, ← Nat.div_div_eq_div_mul]
  rw [show A % M + M * (A / M % W) + (B % M + M * (B / M % W)) = (A % M + B % M) + M * (A / M % W + B / M % W) by rw [Nat.mul_add]; omega, Nat.add_mul_div_left _ _ hM]
  congr 1
  omega

theorem carry_le {A B M : Nat} (hM : 0 < M) : carry A B M ≤ 1 := by
  unfold carry
  have h1 := Nat.mod_lt A hM
  have h2 := Nat.mod_lt B hM
  have : (A % M + B % M) / M < 2 := (Nat.div_lt_iff_lt_mul hM).2 (by omega)
  omega

theorem carry_one (A B : Nat) : carry A B 1 = 0 := by simp [carry, Nat.mod_one]

def borrow (A B M : Nat) : Nat := if A % M < B % M then 1 else 0

theorem borrow_spec {A B M : Nat} (hM : 0 < M) (h : B ≤ A) : A / M = (A - B) / M + B / M + borrow A B M := by
  have ea := Nat.mod_add_div A M
  have eb := Nat.mod_add_div B M
  have ha := Nat.mod_lt A hM
  have hb := Nat.mod_lt B hM
  unfold borrow
  split
  · rename_i hlt
    have hq : B / M < A / M := by
      rcases Nat.lt_or_ge (B / M) (A / M) with h' | h'
      · exact h'
      · have := Nat.mul_le_mul_left M h'
        omega
    have e : A - B = (A % M + M - B % M) + M * (A / M - B / M - 1) := by
      obtain ⟨k, hk⟩ : ∃ k, A / M = B / M + 1 + k := ⟨A / M - B / M - 1, by omega⟩
      rw [hk] at ea ⊢
      rw [show B / M + 1 + k - B / M - 1 = k by omega]
      rw [Nat.mul_add, Nat.mul_add] at ea
      omega
    rw [e, Nat.add_mul_div_left _ _ hM, Nat.div_eq_of_lt (show A % M + M - B % M < M by omega)]
    omega
  · rename_i hge
    have hq : B / M ≤ A / M := Nat.div_le_div_right h
    have e : A - B = (A % M - B % M) + M * (A / M - B / M) := by
      obtain ⟨k, hk⟩ : ∃ k, A / M = B / M + k := ⟨A / M - B / M, by omega⟩
      rw [hk] at ea ⊢
      rw [show B / M + k - B / M = k by omega]
      rw [Nat.mul_add] at ea
      omega
    rw [e, Nat.add_mul_div_left _ _ hM, Nat.div_eq_of_lt (show A % M - B % M < M by omega)]
    omega

theorem borrow_digit {A B M W : Nat} (hM : 0 < M) (h : B ≤ A) (hW : 0 < W) : (A / M % W + W + W - B / M % W - borrow A B M) % W = (A - B) / M % W := by
  have e := borrow_spec hM h
  have ha := Nat.mod_add_div (A / M) W
  have hb := Nat.mod_add_div (B / M) W
  have hc := Nat.mod_add_div ((A - B) / M) W
  have h1 := Nat.mod_lt (A / M) hW
  have h2 := Nat.mod_lt (B / M) hW
  have h3 := Nat.mod_lt ((A - B) / M) hW
  have h4 : borrow A B M ≤ 1 := by unfold borrow; split <;> omega
  generalize hx : (A - B) / M % W = x at *
  generalize A / M % W = a at *
  generalize B / M % W = bb at *
  generalize borrow A B M = br at *
  generalize (A - B) / M / W = r at *
  generalize A / M / W = p at *
  generalize B / M / W = q at *
  -- a + W p = x + W r + bb + W q + br
  have e2 : a + W * p = x + W * r + (bb + W * q) + br := by omega
  have : a + W + W - bb - br + W * p = x + W * (r + q + 2) := by rw [Nat.mul_add, Nat.mul_add]; omega
  have h5 := congrArg (· % W) this
  simp only [Nat.add_mul_mod_self_left] at h5
  rw [h5]
  exact Nat.mod_eq_of_lt h3

theorem borrow_next {A B M W : Nat} (hM : 0 < M) : borrow A B (M * W) = if A / M % W < B / M % W + borrow A B M then 1 else 0 := by
  have ha := Nat.mod_lt A hM
  have hb := Nat.mod_lt B hM
  unfold borrow
  rw [Nat.mod_mul, Nat.mod_mul]
  generalize A % M = a0 at *
  generalize B % M = b0 at *
  generalize A / M % W = a1 at *
  generalize B / M % W = b1 at *
  have key : a0 + M * a1 < b0 + M * b1 ↔ a1 < b1 + (if a0 < b0 then 1 else 0) := by
    rcases Nat.lt_trichotomy a1 b1 with h | h | h
    · have := Nat.mul_le_mul_left M (show a1 + 1 ≤ b1 from h)
      rw [Nat.mul_add] at this
      constructor
      · intro _; split <;> omega
      · intro _; omega
    · subst h
      split <;> omega
    · have := Nat.mul_le_mul_left M (show b1 + 1 ≤ a1 from h)
      rw [Nat.mul_add] at this
      constructor
      · intro _; omega
      · intro h'; split at h' <;> omega
  by_cases hk : a0 + M * a1 < b0 + M * b1
  · rw [if_pos hk, if_pos (key.1 hk)]
  · rw [if_neg hk, if_neg (fun h => hk (key.2 h))]

theorem borrow_one (A B : Nat) : borrow A B 1 = 0 := by simp [borrow, Nat.mod_one]
end PG
end

/- What the operators on bits do to numbers below 2^64: no program stands here. -/
section
set_option linter.unusedVariables false
set_option linter.unusedSimpArgs false
namespace PG
open Go

/-- The base of limbs. -/
abbrev W : Nat := 18446744073709551616
theorem W2 : 2 ≤ W := by decide
theorem W0 : 0 < W := by decide

theorem b_and {a b : Nat} (ha : a < W) (hb : b < W) : bits .and .u64 (a : Int) (b : Int) = ((a &&& b : Nat) : Int) := bits_and_u64_nat a b ha hb
theorem b_or {a b : Nat} (ha : a < W) (hb : b < W) : bits .or .u64 (a : Int) (b : Int) = ((a ||| b : Nat) : Int) := bits_or_u64_nat a b ha hb
theorem b_xor {a b : Nat} (ha : a < W) (hb : b < W) : bits .xor .u64 (a : Int) (b : Int) = ((a ^^^ b : Nat) : Int) := by
  have hx : a ^^^ b < 2 ^ 64 := Nat.xor_lt_two_pow (by omega) (by omega)
  have h1 : (BitVec.ofInt 64 (a : Int)).toNat = a := by
    rw [BitVec.ofInt_natCast, BitVec.toNat_ofNat]; exact Nat.mod_eq_of_lt (by omega)
  have h2 : (BitVec.ofInt 64 (b : Int)).toNat = b := by
    rw [BitVec.ofInt_natCast, BitVec.toNat_ofNat]; exact Nat.mod_eq_of_lt (by omega)
  show IntKind.u64.wrap ((BitVec.ofInt 64 (a : Int) ^^^ BitVec.ofInt 64 (b : Int)).toNat : Int) = _
  rw [BitVec.toNat_xor, h1, h2, IntKind.wrap_u64]
  omega
theorem b_shl (a k : Nat) : IntKind.wrap .u64 ((a : Int) * 2 ^ (min k 64)) = ((a * 2 ^ k % W : Nat) : Int) := by
  rw [IntKind.wrap_u64]
  rcases Nat.le_total k 64 with h | h
  · rw [Nat.min_eq_left h]
    simp
  · rw [Nat.min_eq_right h]
    obtain ⟨j, rfl⟩ : ∃ j, k = 64 + j := ⟨k - 64, by omega⟩
    rw [Nat.pow_add, show W = 2 ^ 64 from rfl, ← Nat.mul_assoc, Nat.mul_right_comm, Nat.mul_mod_left]
    omega
theorem b_shr {a : Nat} (ha : a < W) (k : Nat) : (a : Int).fdiv (2 ^ (min k 64)) = ((a / 2 ^ k : Nat) : Int) := by
  have key : ∀ m : Nat, (a : Int).fdiv (2 ^ m) = ((a / 2 ^ m : Nat) : Int) := fun m => by
    rw [Int.fdiv_eq_ediv_of_nonneg _ (Int.pow_nonneg (by decide))]
    simp
  rcases Nat.le_total k 64 with h | h
  · rw [Nat.min_eq_left h, key]
  · rw [Nat.min_eq_right h, key]
    rw [Nat.div_eq_of_lt (show a < 2 ^ 64 from ha), Nat.div_eq_of_lt (Nat.lt_of_lt_of_le (show a < 2 ^ 64 from ha) (Nat.pow_le_pow_right (by decide) h))]

theorem wrap_nat64 {a : Nat} (ha : a < W) : IntKind.wrap .u64 (a : Int) = (a : Int) := by
  have ha : a < 18446744073709551616 := ha
  rw [IntKind.wrap_u64]; omega
theorem wrap64 {i : Int} (h0 : -9223372036854775808 ≤ i) (h1 : i < 9223372036854775808) : IntKind.wrap .i64 i = i := by
  unfold IntKind.wrap
  simp [IntKind.bits, IntKind.signed]
  omega
theorem wrap8 {a : Nat} (ha : a < 256) : IntKind.wrap .u8 (a : Int) = (a : Int) := by
  unfold IntKind.wrap
  simp [IntKind.bits, IntKind.signed]
  omega

/-- How many bits a number has: told by what it lies below. -/
theorem bitLen_le (x m : Nat) : bitLen x ≤ m ↔ x < 2 ^ m := by
  unfold bitLen
  split
  · rename_i h; subst h; simp [Nat.two_pow_pos]
  · rename_i h; rw [← Nat.log2_lt h]; omega
theorem bitLen_zero : bitLen 0 = 0 := rfl
theorem bitLen_pos {x : Nat} (h : x ≠ 0) : 0 < bitLen x := by unfold bitLen; rw [if_neg h]; omega
theorem bitLen_div {x k : Nat} (h : 2 ^ k ≤ x) : bitLen x = k + bitLen (x / 2 ^ k) :=
  bitLen_shift x k (by have := Nat.div_pos h (Nat.two_pow_pos k); omega)
end PG
end

/- More on digits: which places a number has; doubling; what is put together digit by digit. No program stands here. -/
section
set_option linter.unusedVariables false
set_option linter.unusedSimpArgs false
namespace PG
open Go

theorem dg_lt {b : Nat} (hb : 2 ≤ b) {x i : Nat} : i < (dg b x).length ↔ b ^ i ≤ x := by
  have := dg_length_le hb i x
  omega

theorem tab_dg {b : Nat} (hb : 2 ≤ b) (x : Nat) : tab b x (dg b x).length = dg b x := by
  apply List.ext_getElem
  · simp [tab_length]
  · intro i h1 h2
    have h := dv_get (show 0 < b by omega) (dg b x) (ok_dg hb x) i
    rw [dv_dg hb, List.getD_eq_getElem?_getD, List.getElem?_eq_getElem h2] at h
    simp only [tab, List.getElem_map, List.getElem_range]
    exact h.symm

theorem dg_eq_tab {b : Nat} (hb : 2 ≤ b) {x n : Nat} (h1 : n ≤ (dg b x).length) (h2 : x < b ^ n) : tab b x n = dg b x := by
  have : (dg b x).length ≤ n := (dg_length_le hb n x).2 h2
  rw [show n = (dg b x).length by omega]
  exact tab_dg hb x

def dcarry (x m M : Nat) : Nat := (2 * (x % M) + m) / M

theorem dcarry_div {x m M : Nat} (hM : 0 < M) : (2 * x + m) / M = 2 * (x / M) + dcarry x m M := by
  unfold dcarry
  have e : 2 * x + m = (2 * (x % M) + m) + M * (2 * (x / M)) := by
    have := Nat.mod_add_div x M
    rw [show M * (2 * (x / M)) = 2 * (M * (x / M)) by rw [Nat.mul_left_comm]]
    omega
  rw [e, Nat.add_mul_div_left _ _ hM, Nat.add_comm]

theorem dcarry_digit {x m M b : Nat} (hM : 0 < M) : (2 * (x / M % b) + dcarry x m M) % b = (2 * x + m) / M % b := by
  rw [dcarry_div hM, Nat.add_mod, Nat.mul_mod, Nat.mod_mod, ← Nat.mul_mod, ← Nat.add_mod]

theorem dcarry_next {x m M b : Nat} (hM : 0 < M) (hb : 0 < b) : (2 * (x / M % b) + dcarry x m M) / b = dcarry x m (M * b) := by
  have h1 : (2 * x + m) / (M * b) = 2 * (x / (M * b)) + dcarry x m (M * b) := dcarry_div (Nat.mul_pos hM hb)
  have h2 : (2 * x + m) / M = 2 * (x / M) + dcarry x m M := dcarry_div hM
  have h3 : (2 * x + m) / (M * b) = (2 * x + m) / M / b := (Nat.div_div_eq_div_mul _ _ _).symm
  have h4 : x / (M * b) = x / M / b := (Nat.div_div_eq_div_mul _ _ _).symm
  rw [h3, h2, h4] at h1
  have e : 2 * (x / M) + dcarry x m M = (2 * (x / M % b) + dcarry x m M) + b * (2 * (x / M / b)) := by
    have := Nat.mod_add_div (x / M) b
    rw [show b * (2 * (x / M / b)) = 2 * (b * (x / M / b)) by rw [Nat.mul_left_comm]]
    omega
  rw [e, Nat.add_mul_div_left _ _ hb] at h1
  omega

theorem dcarry_le {x m M : Nat} (hM : 0 < M) (hm : m ≤ 1) : dcarry x m M ≤ 1 := by
  unfold dcarry
  have h1 := Nat.mod_lt x hM
  have : (2 * (x % M) + m) / M < 2 := (Nat.div_lt_iff_lt_mul hM).2 (by omega)
  omega

theorem dcarry_one (x m : Nat) : dcarry x m 1 = m := by simp [dcarry, Nat.mod_one]

/-- Of a limb's digits, those from place k on. -/
def ofl (b x k j : Nat) : Nat := if 4 * j + 4 ≤ k then 0 else x / b ^ (max k (4 * j)) % b ^ (4 * j + 4 - max k (4 * j))

theorem ofl_zero (b x j : Nat) : ofl b x 0 j = x / (b ^ 4) ^ j % b ^ 4 := by
  unfold ofl
  rw [if_neg (by omega), Nat.max_eq_right (by omega), ← Nat.pow_mul, show 4 * j + 4 - 4 * j = 4 by omega]

theorem ofl_other {b x k j : Nat} (h : k / 4 ≠ j) : ofl b x k j = ofl b x (k + 1) j := by
  unfold ofl
  by_cases h1 : 4 * j + 4 ≤ k
  · rw [if_pos h1, if_pos (by omega)]
  · rw [if_neg h1, if_neg (by omega)]
    rw [Nat.max_eq_right (show k ≤ 4 * j by omega), Nat.max_eq_right (show k + 1 ≤ 4 * j by omega)]

theorem ofl_here {b x k : Nat} : ofl b x k (k / 4) = ofl b x (k + 1) (k / 4) * b + x / b ^ k % b := by
  unfold ofl
  rw [if_neg (by omega), Nat.max_eq_left (by omega)]
  by_cases h1 : 4 * (k / 4) + 4 ≤ k + 1
  · rw [if_pos h1, Nat.zero_mul, Nat.zero_add, show 4 * (k / 4) + 4 - k = 1 by omega, Nat.pow_one]
  · rw [if_neg h1, Nat.max_eq_left (by omega), show 4 * (k / 4) + 4 - k = (4 * (k / 4) + 4 - (k + 1)) + 1 by omega]
    generalize 4 * (k / 4) + 4 - (k + 1) = e
    rw [Nat.pow_succ b k, ← Nat.div_div_eq_div_mul, Nat.pow_succ b e]
    generalize x / b ^ k = y
    rw [Nat.mul_comm (b ^ e) b, Nat.mod_mul, Nat.mul_comm, Nat.add_comm]

theorem ofl_top {b x k j : Nat} (hb : 1 < b) (hx : x < b ^ k) : ofl b x k j = 0 := by
  unfold ofl
  split
  · rfl
  · have h0 : x / b ^ max k (4 * j) = 0 := Nat.div_eq_of_lt (Nat.lt_of_lt_of_le hx (Nat.pow_le_pow_right (by omega) (Nat.le_max_left _ _)))
    rw [h0, Nat.zero_mod]

theorem ofl_lt {b x k j : Nat} (hb : 0 < b) : ofl b x k j < b ^ 4 := by
  unfold ofl
  split
  · exact Nat.pow_pos hb
  · exact Nat.lt_of_lt_of_le (Nat.mod_lt _ (Nat.pow_pos hb)) (Nat.pow_le_pow_right hb (by omega))

theorem bitLen_topB {b k x m : Nat} (hbk : b = 2 ^ k) (hk : 1 ≤ k) (h : (dg b x).length = m + 1) : bitLen x = k * m + bitLen (x / b ^ m % b) := by
  have hb : 2 ≤ b := by
    rw [hbk]
    calc 2 = 2 ^ 1 := rfl
      _ ≤ 2 ^ k := Nat.pow_le_pow_right (by decide) hk
  have h1 : b ^ m ≤ x := (dg_lt hb).1 (by omega)
  have h2 : x < b ^ (m + 1) := (dg_length_le hb _ _).1 (by omega)
  have h3 : x / b ^ m < b := by
    rw [Nat.div_lt_iff_lt_mul (Nat.pow_pos (by omega)), ← Nat.pow_succ']
    exact h2
  have e : b ^ m = 2 ^ (k * m) := by rw [hbk, ← Nat.pow_mul]
  rw [Nat.mod_eq_of_lt h3]
  rw [e] at h1 ⊢
  exact bitLen_div h1

theorem bit_digit {k x i : Nat} (hk : 0 < k) : x / (2 ^ k) ^ (i / k) % 2 ^ k / 2 ^ (i % k) % 2 = x / 2 ^ i % 2 := by
  have hr : i % k < k := Nat.mod_lt _ hk
  have e1 : 2 ^ i = 2 ^ (k * (i / k)) * 2 ^ (i % k) := by rw [← Nat.pow_add, Nat.div_add_mod]
  have e2 : 2 ^ k = 2 ^ (i % k) * 2 ^ (k - i % k) := by rw [← Nat.pow_add]; congr 1; omega
  rw [← Nat.pow_mul, e1, ← Nat.div_div_eq_div_mul]
  generalize x / 2 ^ (k * (i / k)) = y
  rw [e2, Nat.mod_mul_right_div_self]
  obtain ⟨j, hj⟩ : ∃ j, k - i % k = j + 1 := ⟨k - i % k - 1, by omega⟩
  rw [hj, Nat.pow_succ]
  exact Nat.mod_mod_of_dvd _ ⟨2 ^ j, Nat.mul_comm _ _⟩
end PG
end

/- Shifts of numbers, limb by limb; how many bits; how often a number can be halved. No program stands here. -/
section
set_option linter.unusedVariables false
set_option linter.unusedSimpArgs false
namespace PG
open Go

theorem W_pow (k : Nat) : W ^ k = 2 ^ (64 * k) := by rw [show W = 2 ^ 64 from rfl, ← Nat.pow_mul]

/-- The limb at a place, out of the number. -/
def lb (x : Nat) (i : Int) : Nat := if i < 0 then 0 else x / W ^ i.toNat % W

theorem lb_lt (x : Nat) (i : Int) : lb x i < W := by
  unfold lb
  split
  · exact W0
  · exact Nat.mod_lt _ W0

theorem lb_nat (x i : Nat) : lb x (i : Int) = x / W ^ i % W := by
  unfold lb
  rw [if_neg (by omega), Int.toNat_natCast]

theorem lb_neg (x : Nat) (i : Int) (h : i < 0) : lb x i = 0 := if_pos h

theorem limb_bit (x k j : Nat) : (x / W ^ k % W).testBit j = (decide (j < 64) && x.testBit (64 * k + j)) := by
  rw [W_pow, show W = 2 ^ 64 from rfl, Nat.testBit_mod_two_pow, Nat.testBit_div_two_pow, Nat.add_comm]

theorem shr_digit (x w p i : Nat) (hp : p < 64) : x / W ^ (i + w) % W / 2 ^ p ||| (x / W ^ (i + w + 1) % W * 2 ^ (64 - p) % W) = x / 2 ^ (64 * w + p) / W ^ i % W := by
  apply Nat.eq_of_testBit_eq
  intro j
  rw [limb_bit, Nat.testBit_or, Nat.testBit_div_two_pow, limb_bit, show W = 2 ^ 64 from rfl, Nat.testBit_mod_two_pow, Nat.mul_comm _ (2 ^ (64 - p)), Nat.testBit_two_pow_mul, ← show W = 2 ^ 64 from rfl, limb_bit, Nat.testBit_div_two_pow]
  by_cases h : j + p < 64
  · have h1 : ¬ (j ≥ 64 - p) := by omega
    have h2 : j < 64 := by omega
    simp only [h, h1, h2, decide_true, decide_false, Bool.true_and, Bool.false_and, Bool.and_false, Bool.or_false]
    congr 1; omega
  · by_cases h2 : j < 64
    · have h1 : j ≥ 64 - p := by omega
      have h3 : j - (64 - p) < 64 := by omega
      simp only [h, h1, h2, h3, decide_true, decide_false, Bool.true_and, Bool.false_and, Bool.false_or]
      congr 1; omega
    · simp only [h, h2, decide_false, Bool.false_and, Bool.or_false]

theorem shl_digit (x w p i : Nat) (hp : p < 64) : (lb x ((i : Int) - w) * 2 ^ p % W) ||| lb x ((i : Int) - w - 1) / 2 ^ (64 - p) = x * 2 ^ (64 * w + p) / W ^ i % W := by
  apply Nat.eq_of_testBit_eq
  intro j
  rw [limb_bit, Nat.testBit_or, Nat.testBit_div_two_pow, show W = 2 ^ 64 from rfl, Nat.testBit_mod_two_pow, Nat.mul_comm _ (2 ^ p), Nat.testBit_two_pow_mul, Nat.mul_comm x, Nat.testBit_two_pow_mul]
  by_cases hw : w ≤ i
  · obtain ⟨k, rfl⟩ : ∃ k, i = w + k := ⟨i - w, by omega⟩
    rw [show ((w + k : Nat) : Int) - w = (k : Int) by omega, lb_nat, limb_bit]
    by_cases hk : k = 0
    · subst hk
      rw [lb_neg _ _ (by omega), Nat.zero_testBit]
      by_cases h2 : j < 64
      · by_cases h1 : j ≥ p
        · have h3 : j - p < 64 := by omega
          have h4 : 64 * (w + 0) + j ≥ 64 * w + p := by omega
          simp only [h1, h2, h3, h4, decide_true, Bool.true_and, Bool.or_false]
          congr 1; omega
        · have h4 : ¬ (64 * (w + 0) + j ≥ 64 * w + p) := by omega
          simp only [h1, h2, h4, decide_true, decide_false, Bool.true_and, Bool.false_and, Bool.or_false]
      · simp only [h2, decide_false, Bool.false_and, Bool.or_false]
    · obtain ⟨k', rfl⟩ : ∃ k', k = k' + 1 := ⟨k - 1, by omega⟩
      rw [show ((k' + 1 : Nat) : Int) - 1 = (k' : Int) by omega, lb_nat, limb_bit]
      by_cases h2 : j < 64
      · by_cases h1 : j ≥ p
        · have h3 : j - p < 64 := by omega
          have h4 : 64 * (w + (k' + 1)) + j ≥ 64 * w + p := by omega
          have h5 : ¬ (j + (64 - p) < 64) := by omega
          simp only [h1, h2, h3, h4, h5, decide_true, decide_false, Bool.true_and, Bool.false_and, Bool.or_false]
          congr 1; omega
        · have h4 : 64 * (w + (k' + 1)) + j ≥ 64 * w + p := by omega
          have h5 : j + (64 - p) < 64 := by omega
          simp only [h1, h2, h4, h5, decide_true, decide_false, Bool.true_and, Bool.false_and, Bool.false_or]
          congr 1; omega
      · have h5 : ¬ (j + (64 - p) < 64) := by omega
        simp only [h2, h5, decide_false, Bool.false_and, Bool.or_false]
  · rw [lb_neg _ _ (by omega), lb_neg _ _ (by omega), Nat.zero_testBit, Nat.zero_testBit]
    by_cases h2 : j < 64
    · have h4 : ¬ (64 * i + j ≥ 64 * w + p) := by omega
      simp only [h4, decide_false, Bool.false_and, Bool.and_false, Bool.or_false]
    · simp only [h2, decide_false, Bool.false_and, Bool.and_false, Bool.or_false]

/-! ### Bits -/
theorem bitLen_top {x m : Nat} (h : (dg W x).length = m + 1) : bitLen x = 64 * m + bitLen (x / W ^ m % W) := by
  have h1 : x < W ^ (m + 1) := (dg_length_le W2 (m + 1) x).1 (by omega)
  have h2 : ¬ x < W ^ m := fun h2 => by have := (dg_length_le W2 m x).2 h2; omega
  have h3 : x / W ^ m < W := by rw [Nat.div_lt_iff_lt_mul (Nat.pow_pos W0), Nat.mul_comm, ← Nat.pow_succ]; exact h1
  rw [Nat.mod_eq_of_lt h3]
  rw [W_pow] at h2 ⊢
  exact bitLen_div (by omega)

theorem bitLen_le_limbs (x : Nat) : bitLen x ≤ 64 * (dg W x).length := by
  rw [bitLen_le, ← W_pow]
  exact (dg_length_le W2 _ x).1 (Nat.le_refl _)

theorem dg_length_bits (x : Nat) (h : x ≠ 0) : 64 * (dg W x).length < bitLen x + 64 := by
  match hm : (dg W x).length with
  | 0 => have := bitLen_pos h; omega
  | m + 1 =>
    have h2 : ¬ x < 2 ^ (64 * m) := fun h2 => by
      rw [← W_pow] at h2
      have := (dg_length_le W2 m x).2 h2
      omega
    rw [← bitLen_le] at h2
    omega

/-! ### Halving -/
theorem odd_unique {a b m n : Nat} (h : 2 ^ a * (2 * m + 1) = 2 ^ b * (2 * n + 1)) : a = b := by
  rcases Nat.lt_trichotomy a b with hl | rfl | hl
  · exfalso
    obtain ⟨k, rfl⟩ : ∃ k, b = a + 1 + k := ⟨b - a - 1, by omega⟩
    rw [show 2 ^ (a + 1 + k) * (2 * n + 1) = 2 ^ a * (2 * (2 ^ k * (2 * n + 1))) by rw [Nat.pow_add, Nat.pow_succ]; simp only [Nat.mul_assoc, Nat.mul_comm, Nat.mul_left_comm]] at h
    have := Nat.eq_of_mul_eq_mul_left (Nat.two_pow_pos a) h
    omega
  · rfl
  · exfalso
    obtain ⟨k, rfl⟩ : ∃ k, a = b + 1 + k := ⟨a - b - 1, by omega⟩
    rw [show 2 ^ (b + 1 + k) * (2 * m + 1) = 2 ^ b * (2 * (2 ^ k * (2 * m + 1))) by rw [Nat.pow_add, Nat.pow_succ]; simp only [Nat.mul_assoc, Nat.mul_comm, Nat.mul_left_comm]] at h
    have := Nat.eq_of_mul_eq_mul_left (Nat.two_pow_pos b) h
    omega

/-- How often a number can be halved; 0 at 0. -/
def tz (x : Nat) : Nat := if x = 0 then 0 else Lib.ctzFrom x x

theorem tz_spec {x : Nat} (h : x ≠ 0) : ∃ m, x = 2 ^ tz x * (2 * m + 1) := by
  unfold tz
  rw [if_neg h]
  obtain ⟨m, hm, _⟩ := Lib.ctzFrom_spec x x (by omega) Nat.lt_two_pow_self
  exact ⟨m, hm⟩

theorem tz_of {x k m : Nat} (h : x = 2 ^ k * (2 * m + 1)) : tz x = k := by
  have h0 : x ≠ 0 := by
    have := Nat.mul_pos (Nat.two_pow_pos k) (show 0 < 2 * m + 1 by omega)
    omega
  obtain ⟨n, hn⟩ := tz_spec h0
  exact odd_unique (hn.symm.trans h)

theorem tz_lt {x n : Nat} (h : x ≠ 0) : tz x < n ↔ x % 2 ^ n ≠ 0 := by
  obtain ⟨m, hm⟩ := tz_spec h
  generalize tz x = t at hm ⊢
  constructor
  · intro hl h0
    obtain ⟨k, rfl⟩ : ∃ k, n = t + 1 + k := ⟨n - t - 1, by omega⟩
    obtain ⟨c, hc⟩ := Nat.dvd_of_mod_eq_zero h0
    rw [hc, show 2 ^ (t + 1 + k) * c = 2 ^ t * (2 * (2 ^ k * c)) by rw [Nat.pow_add, Nat.pow_succ]; simp only [Nat.mul_assoc, Nat.mul_comm, Nat.mul_left_comm]] at hm
    have := Nat.eq_of_mul_eq_mul_left (Nat.two_pow_pos t) hm
    omega
  · intro h1
    rcases Nat.lt_or_ge t n with h2 | h2
    · exact h2
    · exfalso
      apply h1
      obtain ⟨k, rfl⟩ : ∃ k, t = n + k := ⟨t - n, by omega⟩
      rw [hm, Nat.pow_add, Nat.mul_assoc]
      exact Nat.mul_mod_right _ _

/-- The first limb that isn't 0 tells it. -/
theorem tz_limb {x i : Nat} (h0 : x % W ^ i = 0) (hd : x / W ^ i % W ≠ 0) : tz x = 64 * i + Lib.ctz 64 (x / W ^ i % W) := by
  have hlt : x / W ^ i % W < 2 ^ 64 := Nat.mod_lt _ W0
  have e1 := Nat.mod_add_div x (W ^ i)
  have e2 := Nat.mod_add_div (x / W ^ i) W
  generalize x / W ^ i % W = d at *
  generalize x / W ^ i / W = r at *
  obtain ⟨m, hm, hk⟩ := Lib.ctzFrom_spec 64 d (by omega) hlt
  have ec : Lib.ctz 64 d = Lib.ctzFrom 64 d := by simp [Lib.ctz, hd]
  rw [ec]
  generalize Lib.ctzFrom 64 d = c at *
  obtain ⟨q, hq⟩ : ∃ q, 64 = c + 1 + q := ⟨64 - c - 1, by omega⟩
  refine tz_of (m := m + 2 ^ q * r) ?_
  rw [← e1, h0, Nat.zero_add, ← e2, hm, W_pow, show W = 2 ^ c * (2 * 2 ^ q) by rw [show W = 2 ^ (c + 1 + q) by rw [← hq], Nat.pow_add, Nat.pow_succ, Nat.mul_assoc], Nat.pow_add]
  rw [show 2 ^ c * (2 * m + 1) + 2 ^ c * (2 * 2 ^ q) * r = 2 ^ c * (2 * (m + 2 ^ q * r) + 1) by
    rw [Nat.mul_assoc (2 ^ c), ← Nat.mul_add]
    congr 1
    rw [Nat.mul_assoc 2]
    omega]
  rw [Nat.mul_assoc]
end PG
end

/- Numbers as lists of limbs: what nat.limb, slices.Clone and nat.Bare hand back. -/
section
open Go PG Go.Proofs
set_option maxRecDepth 100000
set_option linter.unusedSimpArgs false
set_option linter.unusedVariables false
namespace Go.Proofs.YtejmlngnpekagaaDoor
attribute [local go_sem] Lay2 Lay3 Lay4 Lay5 Lay6 Lay7 Lay8 Lay9 Lay10 Lay11 Lay12 Lay13 Lay14 Lay15 Lay16 Lay17 Lay18 Lay19 Lay21 Lay22 Lay23 Lay24 Lay25 Lay30 Lay33 Lay36 Lay37 Lay46 Lay47 Lay48 Lay53 Lay54 Lay55 Lay59 Lay100 Lay101 Lay127 Lay146 Lay162 Lay168 Lay169 Lay173 Lay185 Lay186 Lay187 Lay188 Lay189 Lay191 Lay192 Lay194 Lay195 Lay196 Lay199 qexec_seq qexec_skip qexec_exit qexec_ret qexec_block qexec_loop qexec_range qexec_cond qexec_region qexec_drawn qops_nil qops_none qops_some put_some put_none pblk_exit pblk_other newDsts_nil inlDsts_nil isInl sget_cons sget_nil qval_some qbool_some qgs_bool qgs_und qfree_some qgrd_true qgrd_false qif_true qif_false qval_ite qval_itn qand_true map_ite map_some' map_none' qdo_move qdo_assign qdo_binOp qdo_pick qdo_unOp qdo_convert qdo_extract qdo_field qdo_fieldAddr qdo_alloc qdo_box qdo_build qdo_buildSlice qdo_load qdo_store qdo_nilCheck qdo_makeFunc qdo_makeSlice qdo_slice qdo_indexAddr qdo_call qcont_val qcont_new qcont_st qcont_app0 qcont_app qcont_inl qcont_call njSV_val njSV_nil njSV_row njSV_ptr njSV_sub binV_val binV_nil binV_nn binV_ptr bin_np bin_nnp nilCmp bin_add bin_sub bin_mul bin_quo bin_rem bin_and bin_or bin_xor bin_andNot bin_eql bin_neq bin_lss bin_leq bin_gtr bin_geq bin_shl bin_shr bin_seql bin_sneq bin_sadd bin_beql bin_aeql bin_aneq eqAnd_some eqCells_nil eqCells_cons fieldTypes isStruct eqCell bin_bneq un_not un_neg nj_ite Nat.beq stepA stepR isNew opSV constSV RV.sv allSome E_mu E_own qkeyIn_none qkeyIn_some qkeyAt_none qkeyAt_some Bool.or_false Bool.false_or Bool.or_true Bool.true_or cst setB res resSV pstart startL killL kill1 eraL frzL svPV rvPV rvInt rvSlice frzOf close closeL pconv pbuiltin pmax2 partPV setCells fillPV zrow bound newSV PV.cells Bk.cells Bk.with SV.key pres presL_nil presL_tmp presL_cell presC2_some cellPV_ptr presC List.toList_toArray List.size_toArray List.getElem?_drop Nat.mul_one Int.toNat_natCast Nat.not_lt_zero Nat.lt_irrefl decide_true decide_false Nat.not_lt Option.some.injEq PV.lst.injEq PV.int.injEq PV.bool.injEq PV.tuple.injEq List.cons.injEq Option.map_some Option.map_none Option.bind_some Option.toList List.map_cons List.map_nil List.nil_append List.cons_append List.append_nil List.zip_cons_cons List.zip_nil_left List.zip_nil_right List.getElem?_cons_zero List.getElem?_cons_succ List.drop_zero List.drop_succ_cons List.take_succ_cons List.take_zero List.set_cons_zero List.set_cons_succ List.length_cons List.length_nil List.length_set List.replicate_one List.replicate_zero bne_self_eq_false beq_self_eq_true Nat.zero_add Nat.add_zero Nat.zero_mul Bool.false_eq_true Bool.true_eq_false Bool.not_true Bool.not_false and_true true_and false_and and_false or_false false_or or_true true_or not_true_eq_false not_false_eq_true ne_eq gt_iff_lt List.mem_cons List.not_mem_nil
attribute [local go_sem ↓] pseq_normal pseq_ret pseq_exit pblk_normal pblk_ret newDsts_cons inlDsts_cons gdst_zero gdst_succ retQ_normal retQ_ret qneed_nil qneed_cons retM_normal retM_ret endR_normal endR_ret endR_exit
attribute [local go_sem] Int.reduceToNat Int.reduceEq Int.reduceNe Int.reduceLT Int.reduceLE Int.reduceNeg Int.reduceAdd Nat.reduceEqDiff Nat.reduceAdd Nat.reduceSub Nat.reduceMul Nat.reduceLeDiff Nat.reduceLT
attribute [local go_sem ↓] reduceIte reduceCtorEq

/-- A limb; limbs; a list of limbs as a slice. -/
def u (d : Nat) : PV := .int .u64 d
def U (l : List Nat) : List PV := l.map u
def NL (l : List Nat) : PV := .lst l.length (U l)

theorem U_length (l : List Nat) : (U l).length = l.length := by simp [U]
theorem U_get (l : List Nat) (i : Nat) : (U l)[i]? = (l[i]?).map u := by simp [U]
theorem U_take (l : List Nat) (i : Nat) : (U l).take i = U (l.take i) := by simp [U, List.map_take]
theorem U_drop (l : List Nat) (i : Nat) : (U l).drop i = U (l.drop i) := by simp [U, List.map_drop]
theorem U_append (l r : List Nat) : U l ++ U r = U (l ++ r) := by simp [U]

def limbAt (l : List Nat) (i : Int) : Nat := if i < 0 then 0 else l.getD i.toNat 0

theorem c_limb (l : List Nat) (i : Int) : PC E 132 [NL l, .int .i64 i] (u (limbAt l i)) := by
  refine PC.of_body follows Tryd.func132 (by decide +kernel) rfl (by kernel_rfl) (Nat.le_of_ble_eq_true rfl) (walk ?_)
  simp only [NL]
  simp only [Tryd.f132, go_sem]
  refine qif_d (fun h => ?_) (fun h => ?_)
  · simp only [Tryd.f132, go_sem]
    simp [limbAt, h, u]
  · simp only [Tryd.f132, go_sem]
    refine qif_d (fun h' => ?_) (fun h' => ?_)
    · simp only [Tryd.f132, go_sem]
      have : l[i.toNat]? = none := List.getElem?_eq_none (by omega)
      simp [limbAt, h, u, List.getD_eq_getElem?_getD, this]
    · simp only [Tryd.f132, go_sem]
      have hx : (U l)[i.toNat]? = some (u (l.getD i.toNat 0)) := by
        rw [U_get, List.getD_eq_getElem?_getD, List.getElem?_eq_getElem (show i.toNat < l.length by omega)]; rfl
      refine qand_i (by omega) ?_
      simp only [Tryd.f132, hx, go_sem]
      simp [limbAt, h]

/-- slices.Clone hands back the same elements. -/
theorem c_Clone (n : Nat) (cs : List PV) (hl : cs.length = n) (hn : n ≤ 17592186044416) : PC E 121 [.lst n cs] (.lst n cs) := by
  refine PC.of_slice follows Tryd.func121 (by decide +kernel) rfl (by kernel_rfl) (Nat.le_of_ble_eq_true rfl) (fun h0 hc => walk ?_) (walk ?_)
  · subst h0; subst hc
    simp only [Tryd.f121, go_sem]
  · simp only [Tryd.f121, hl, go_sem]
    refine qand_i (by simp only [maxLen]; omega) ?_
    simp only [Tryd.f121, hl, go_sem]

theorem c_Bare (l : List Nat) (hl : l.length ≤ 17592186044416) : PC E 76 [NL l] (NL (strip l)) := by
  refine PC.of_body follows Tryd.func76 (by decide +kernel) rfl (by kernel_rfl) (Nat.le_of_ble_eq_true rfl) (walk ?_)
  simp only [NL]
  simp only [Tryd.f76, go_sem]
  refine PLoop.intro (fun k : Nat => ⟨[(0, .val (NL l)), (3, .val (.int .i64 k))], []⟩) (fun k => k ≤ l.length ∧ strip l = strip (l.take k)) id l.length (by simp) (by simp [Wk, sget, NL]) fun k hk => walk ?_
  obtain ⟨hk, hs⟩ := hk
  simp only [NL]
  simp only [Tryd.f76, go_sem]
  refine qif_d (fun h => ?_) (fun h => ?_)
  · have hw : IntKind.wrap .i64 ((k : Int) - 1) = ((k - 1 : Nat) : Int) := by rw [wrap64 (by omega) (by omega)]; omega
    have hx : (U l)[k - 1]? = some (u (l[k - 1]'(by omega))) := by
      rw [U_get, List.getElem?_eq_getElem (show k - 1 < l.length by omega)]; rfl
    simp only [Tryd.f76, hw, go_sem]
    refine qand_i (by omega) ?_
    simp only [Tryd.f76, hx, u, go_sem]
    refine qif_d (fun h0 => ?_) (fun h0 => ?_)
    · simp only [Tryd.f76, hw, go_sem]
      refine ⟨k - 1, ⟨by omega, ?_⟩, by simp only [id]; omega, by simp [Wk, sget, NL]⟩
      rw [hs]
      obtain ⟨j, rfl⟩ : ∃ j, k = j + 1 := ⟨k - 1, by omega⟩
      rw [List.take_succ_eq_append_getElem (by omega), Nat.add_sub_cancel, show l[j] = 0 by simpa using h0, strip_snoc0]
    · simp only [Tryd.f76, hw, go_sem]
      refine qand_i (by simp [U]; omega) ?_
      simp only [Tryd.f76, U_take, go_sem]
      refine qcall_i (c_Clone _ _ (by simp [U]; omega) (by omega)) ?_
      simp only [Tryd.f76, go_sem]
      have e : strip l = l.take k := by
        rw [hs]
        obtain ⟨j, rfl⟩ : ∃ j, k = j + 1 := ⟨k - 1, by omega⟩
        rw [List.take_succ_eq_append_getElem (by omega), strip_snoc]
        intro h1
        apply h0
        simpa using h1
      rw [e]
      simp only [NL, List.length_take, Nat.min_eq_left hk, Int.toNat_natCast, Nat.sub_zero, Nat.mul_one, Int.toNat_zero, List.drop_zero, U_take]
  · simp only [Tryd.f76, go_sem]
    refine qand_i (by simp [U]; omega) ?_
    have hk0 : k = 0 := by omega
    subst hk0
    simp only [Tryd.f76, U_take, go_sem]
    refine qcall_i (c_Clone _ _ (by simp [U]) (by omega)) ?_
    simp only [Tryd.f76, go_sem]
    simp [hs, strip, U, NL]
end Go.Proofs.YtejmlngnpekagaaDoor
end

/- What math/bits.Add64 and Sub64, nat.Add, nat.Of and nat.Small hand back, told in numbers. -/
section
open Go PG Go.Proofs
set_option maxRecDepth 100000
set_option linter.unusedSimpArgs false
set_option linter.unusedVariables false
namespace Go.Proofs.YtejmlngnpekagaaDoor
attribute [local go_sem] Lay2 Lay3 Lay4 Lay5 Lay6 Lay7 Lay8 Lay9 Lay10 Lay11 Lay12 Lay13 Lay14 Lay15 Lay16 Lay17 Lay18 Lay19 Lay21 Lay22 Lay23 Lay24 Lay25 Lay30 Lay33 Lay36 Lay37 Lay46 Lay47 Lay48 Lay53 Lay54 Lay55 Lay59 Lay100 Lay101 Lay127 Lay146 Lay162 Lay168 Lay169 Lay173 Lay185 Lay186 Lay187 Lay188 Lay189 Lay191 Lay192 Lay194 Lay195 Lay196 Lay199 qexec_seq qexec_skip qexec_exit qexec_ret qexec_block qexec_loop qexec_range qexec_cond qexec_region qexec_drawn qops_nil qops_none qops_some put_some put_none pblk_exit pblk_other newDsts_nil inlDsts_nil isInl sget_cons sget_nil qval_some qbool_some qgs_bool qgs_und qfree_some qgrd_true qgrd_false qif_true qif_false qval_ite qval_itn qand_true map_ite map_some' map_none' qdo_move qdo_assign qdo_binOp qdo_pick qdo_unOp qdo_convert qdo_extract qdo_field qdo_fieldAddr qdo_alloc qdo_box qdo_build qdo_buildSlice qdo_load qdo_store qdo_nilCheck qdo_makeFunc qdo_makeSlice qdo_slice qdo_indexAddr qdo_call qcont_val qcont_new qcont_st qcont_app0 qcont_app qcont_inl qcont_call njSV_val njSV_nil njSV_row njSV_ptr njSV_sub binV_val binV_nil binV_nn binV_ptr bin_np bin_nnp nilCmp bin_add bin_sub bin_mul bin_quo bin_rem bin_and bin_or bin_xor bin_andNot bin_eql bin_neq bin_lss bin_leq bin_gtr bin_geq bin_shl bin_shr bin_seql bin_sneq bin_sadd bin_beql bin_aeql bin_aneq eqAnd_some eqCells_nil eqCells_cons fieldTypes isStruct eqCell bin_bneq un_not un_neg nj_ite Nat.beq stepA stepR isNew opSV constSV RV.sv allSome E_mu E_own qkeyIn_none qkeyIn_some qkeyAt_none qkeyAt_some Bool.or_false Bool.false_or Bool.or_true Bool.true_or cst setB res resSV pstart startL killL kill1 eraL frzL svPV rvPV rvInt rvSlice frzOf close closeL pconv pbuiltin pmax2 partPV setCells fillPV zrow bound newSV PV.cells Bk.cells Bk.with SV.key pres presL_nil presL_tmp presL_cell presC2_some cellPV_ptr presC List.toList_toArray List.size_toArray List.getElem?_drop Nat.mul_one Int.toNat_natCast Nat.not_lt_zero Nat.lt_irrefl decide_true decide_false Nat.not_lt Option.some.injEq PV.lst.injEq PV.int.injEq PV.bool.injEq PV.tuple.injEq List.cons.injEq Option.map_some Option.map_none Option.bind_some Option.toList List.map_cons List.map_nil List.nil_append List.cons_append List.append_nil List.zip_cons_cons List.zip_nil_left List.zip_nil_right List.getElem?_cons_zero List.getElem?_cons_succ List.drop_zero List.drop_succ_cons List.take_succ_cons List.take_zero List.set_cons_zero List.set_cons_succ List.length_cons List.length_nil List.length_set List.replicate_one List.replicate_zero bne_self_eq_false beq_self_eq_true Nat.zero_add Nat.add_zero Nat.zero_mul Bool.false_eq_true Bool.true_eq_false Bool.not_true Bool.not_false and_true true_and false_and and_false or_false false_or or_true true_or not_true_eq_false not_false_eq_true ne_eq gt_iff_lt List.mem_cons List.not_mem_nil
attribute [local go_sem ↓] pseq_normal pseq_ret pseq_exit pblk_normal pblk_ret newDsts_cons inlDsts_cons gdst_zero gdst_succ retQ_normal retQ_ret qneed_nil qneed_cons retM_normal retM_ret endR_normal endR_ret endR_exit
attribute [local go_sem] Int.reduceToNat Int.reduceEq Int.reduceNe Int.reduceLT Int.reduceLE Int.reduceNeg Int.reduceAdd Nat.reduceEqDiff Nat.reduceAdd Nat.reduceSub Nat.reduceMul Nat.reduceLeDiff Nat.reduceLT
attribute [local go_sem ↓] reduceIte reduceCtorEq

/-- A number as a slice of limbs; the worth of a list of limbs. -/
def NN (x : Nat) : PV := NL (dg W x)
abbrev vl (l : List Nat) : Nat := dv W l

theorem NN_zero : NN 0 = .lst 0 [] := rfl

theorem PC.cast {f : FuncId} {args : List PV} {r r' : PV} (h : PC E f args r) (e : r = r') : PC E f args r' := e ▸ h

theorem n_Bare (l : List Nat) (hl : l.length ≤ 17592186044416) (ho : Ok W l) : PC E 76 [NL l] (NN (vl l)) :=
  PC.cast (c_Bare l hl) (by rw [strip_eq W2 l ho]; rfl)

theorem lb_eq (l : List Nat) (ho : Ok W l) (i : Int) : limbAt l i = lb (vl l) i := by
  unfold limbAt lb
  split
  · rfl
  · exact dv_get W0 l ho _

theorem n_limb (l : List Nat) (ho : Ok W l) (i : Int) : PC E 132 [NL l, .int .i64 i] (u (lb (vl l) i)) :=
  PC.cast (c_limb l i) (by rw [lb_eq l ho])

theorem three_args {g : Addr → Option Value} {a b c : Nat} {vs : Array Value} (hs : vs.size = 3) (h : ∀ (j : Nat) p x, [u a, u b, u c][j]? = some p → vs[j]? = some x → Rep g p x) :
    vs = #[.int .u64 a, .int .u64 b, .int .u64 c] := by
  have h0 := (h 0 _ _ rfl (Array.getElem?_eq_getElem (by omega)) : Rep g (u a) vs[0]).int_inv
  have h1 := (h 1 _ _ rfl (Array.getElem?_eq_getElem (by omega)) : Rep g (u b) vs[1]).int_inv
  have h2 := (h 2 _ _ rfl (Array.getElem?_eq_getElem (by omega)) : Rep g (u c) vs[2]).int_inv
  refine Array.ext (by simp [hs]) fun i hi hj => ?_
  have : i = 0 ∨ i = 1 ∨ i = 2 := by omega
  rcases this with rfl | rfl | rfl <;> simp [h0, h1, h2]

theorem c_Add64 (a b c : Nat) (hc : c ≤ 1) : PC E 133 [u a, u b, u c] (.tuple [u ((a + b + c) % W), u ((a + b + c) / W)]) := by
  refine PC.of_value (xs := #[.int .u64 a, .int .u64 b, .int .u64 c]) (v := .tuple #[.int .u64 (((a + b + c) % W : Nat) : Int), .int .u64 (((a + b + c) / W : Nat) : Int)]) (fun g vs hs h => three_args hs h) (fun w => ?_)
    (fun g => Rep.tuple _ _ rfl fun j p x hp hx => ?_)
  · rw [run_callFunc_extern (P := E.P) Tryd.func133 (by kernel_rfl) (by kernel_rfl) (by kernel_rfl) (e := add64Entry) (by kernel_rfl), run_add64 a b c (by omega) (by omega) (by omega) (by omega)]
    simp only [Result.andThen, W]
    congr 5 <;> omega
  · match j with
    | 0 => cases hp; cases hx; exact .int _ _
    | 1 => cases hp; cases hx; exact .int _ _
    | j + 2 => simp at hp

theorem c_Sub64 (a b c : Nat) (hc : c ≤ 1) : PC E 141 [u a, u b, u c] (.tuple [u ((a + W - b - c) % W), u (if a < b + c then 1 else 0)]) := by
  refine PC.of_value (xs := #[.int .u64 a, .int .u64 b, .int .u64 c]) (v := .tuple #[.int .u64 (((a + W - b - c) % W : Nat) : Int), .int .u64 ((if a < b + c then 1 else 0 : Nat) : Int)]) (fun g vs hs h => three_args hs h) (fun w => ?_)
    (fun g => Rep.tuple _ _ rfl fun j p x hp hx => ?_)
  · rw [run_callFunc_extern (P := E.P) Tryd.func141 (by kernel_rfl) (by kernel_rfl) (by kernel_rfl) (e := sub64Entry) (by kernel_rfl), run_sub64 a b c hc]
    rfl
  · match j with
    | 0 => cases hp; cases hx; exact .int _ _
    | 1 => cases hp; cases hx; exact .int _ _
    | j + 2 => simp at hp

theorem U_set (l : List Nat) (i d : Nat) : (U l).set i (u d) = U (l.set i d) := by simp [U, List.map_set]

/-- A contract at a list whose length and worth are known otherwise. -/
theorem PC.at_list {f : FuncId} {l : List Nat} {n x y : Nat} (h : PC E f [NL l] (NN x)) (hn : l.length = n) (e : x = y) : PC E f [.lst n (U l)] (NN y) := by
  subst hn; subst e; exact h

theorem c_Of (n : Nat) (hn : n < W) : PC E 93 [u n] (NN n) := by
  refine PC.of_body follows Tryd.func93 (by decide +kernel) rfl (by kernel_rfl) (Nat.le_of_ble_eq_true rfl) (walk ?_)
  simp only [Tryd.f93, u, List.replicate_succ, List.replicate_zero, go_sem]
  refine qcall_i (n_Bare [n] (by simp) (Ok.cons hn Ok.nil)) ?_
  simp only [Tryd.f93, go_sem]
  simp [dv]

theorem c_Small (l : List Nat) (hl : l.length ≤ 17592186044416) (ho : Ok W l) : PC E 95 [NL l] (.tuple [u (if vl l < W then vl l else 0), .bool (decide (vl l < W))]) := by
  refine PC.of_body follows Tryd.func95 (by decide +kernel) rfl (by kernel_rfl) (Nat.le_of_ble_eq_true rfl) (walk ?_)
  simp only [Tryd.f95, go_sem]
  refine qcall_i (n_Bare l hl ho) ?_
  simp only [NN, NL]
  simp only [Tryd.f95, go_sem]
  have h1 := dg_length_le W2 1 (vl l)
  rw [Nat.pow_one] at h1
  refine qif_d (fun h => ?_) (fun h => ?_)
  · have h0 : vl l = 0 := by
      have := (dg_length_le W2 0 (vl l)).1 (by omega)
      rw [Nat.pow_zero] at this
      omega
    simp only [Tryd.f95, go_sem]
    simp [h0, u]
  · simp only [Tryd.f95, go_sem]
    refine qif_d (fun h' => ?_) (fun h' => ?_)
    · have hlt : vl l < W := h1.1 (by omega)
      have h0 : vl l ≠ 0 := fun h0 => h (by rw [h0]; rfl)
      have hx : (U (dg W (vl l)))[0]? = some (u (vl l)) := by
        rw [dg_pos W2 h0, Nat.mod_eq_of_lt hlt]; rfl
      simp only [Tryd.f95, hx, go_sem]
      refine qand_i (by omega) ?_
      simp only [Tryd.f95, go_sem]
      refine qval_i (congrArg (Option.map _) hx) ?_
      simp only [Tryd.f95, go_sem]
      simp [hlt]
    · have hlt : ¬ vl l < W := fun h2 => by have := h1.2 h2; omega
      simp only [Tryd.f95, go_sem]
      simp [hlt, u]

theorem c_Add (a b : List Nat) (ha : a.length ≤ 1048576) (hb : b.length ≤ 1048576) (oa : Ok W a) (ob : Ok W b) : PC E 92 [NL a, NL b] (NN (vl a + vl b)) := by
  refine PC.of_body follows Tryd.func92 (by decide +kernel) rfl (by kernel_rfl) (Nat.le_of_ble_eq_true rfl) (walk ?_)
  have hw : IntKind.wrap .i64 (max (a.length : Int) (b.length : Int) + 1) = ((max a.length b.length + 1 : Nat) : Int) := by rw [wrap64 (by omega) (by omega)]; omega
  have hA := dv_lt a oa
  have hB := dv_lt b ob
  have hA' : vl a < W ^ max a.length b.length := Nat.lt_of_lt_of_le hA (Nat.pow_le_pow_right W0 (by omega))
  have hB' : vl b < W ^ max a.length b.length := Nat.lt_of_lt_of_le hB (Nat.pow_le_pow_right W0 (by omega))
  have hAB : vl a + vl b < W ^ (max a.length b.length + 1) := by
    rw [Nat.pow_succ]
    have : W ^ max a.length b.length * 2 ≤ W ^ max a.length b.length * W := Nat.mul_le_mul_left _ (by decide)
    omega
  simp only [NL]
  simp only [Tryd.f92, hw, go_sem]
  generalize hn : max a.length b.length + 1 = n at *
  generalize hA0 : vl a = A at *
  generalize hB0 : vl b = B at *
  refine qand_i (by omega) ?_
  simp only [Tryd.f92, hw, go_sem]
  refine PLoop.intro (fun i : Nat => ⟨[(0, .val (NL a)), (1, .val (NL b)), (5, .row 14), (6, .val (u (carry A B (W ^ i)))), (16, .val (.int .i64 n)), (17, .val (.int .i64 i))],
    [(14, (.row 22 1 n (U (tab W (A + B) i ++ List.replicate (n - i) 0)), false))]⟩) (fun i => i ≤ n) (fun i => n - i) 0 (by omega) ?_ fun i hi => walk ?_
  · simp [Wk, sget, NL, carry_one, u, U, tab]
  simp only [Tryd.f92, go_sem]
  refine qif_d (fun h => ?_) (fun h => ?_)
  · have hMi : 0 < W ^ i := Nat.pow_pos W0
    have hwi : IntKind.wrap .i64 ((i : Int) + 1) = ((i + 1 : Nat) : Int) := by rw [wrap64 (by omega) (by omega)]; omega
    simp only [Tryd.f92, go_sem]
    refine qcall_i (n_limb a oa i) ?_
    simp only [Tryd.f92, go_sem]
    refine qcall_i (n_limb b ob i) ?_
    simp only [Tryd.f92, go_sem]
    rw [hA0, hB0, lb_nat, lb_nat]
    refine qcall_i (c_Add64 _ _ _ (carry_le hMi)) ?_
    simp only [Tryd.f92, go_sem]
    refine qand_i (by omega) ?_
    simp only [Tryd.f92, u, go_sem]
    refine qand_i (by simp [U, tab]; omega) ?_
    simp only [Tryd.f92, hwi, go_sem]
    refine ⟨i + 1, by omega, by omega, ?_⟩
    rw [carry_digit hMi, carry_next hMi, ← Nat.pow_succ]
    simp [Wk, sget, u, NL]
    rw [← fill_set (by omega), ← U_set]
    rfl
  · have e : i = n := by omega
    subst e
    simp only [Tryd.f92, go_sem]
    rw [Nat.sub_self, List.replicate_zero, List.append_nil]
    refine qcall_i (r := NN (A + B)) (PC.at_list (n_Bare (tab W (A + B) i) (by rw [tab_length]; omega) (ok_tab W0 _ _)) (tab_length _ _ _) ((dv_tab _ _).trans (Nat.mod_eq_of_lt hAB))) ?_
    simp only [Tryd.f92, go_sem]
end Go.Proofs.YtejmlngnpekagaaDoor
end

/- What math/bits.Len64 and TrailingZeros64, nat.Bits, nat.Low and nat.Odd hand back. -/
section
open Go PG Go.Proofs
set_option maxRecDepth 100000
set_option linter.unusedSimpArgs false
set_option linter.unusedVariables false
namespace Go.Proofs.YtejmlngnpekagaaDoor
attribute [local go_sem] Lay2 Lay3 Lay4 Lay5 Lay6 Lay7 Lay8 Lay9 Lay10 Lay11 Lay12 Lay13 Lay14 Lay15 Lay16 Lay17 Lay18 Lay19 Lay21 Lay22 Lay23 Lay24 Lay25 Lay30 Lay33 Lay36 Lay37 Lay46 Lay47 Lay48 Lay53 Lay54 Lay55 Lay59 Lay100 Lay101 Lay127 Lay146 Lay162 Lay168 Lay169 Lay173 Lay185 Lay186 Lay187 Lay188 Lay189 Lay191 Lay192 Lay194 Lay195 Lay196 Lay199 qexec_seq qexec_skip qexec_exit qexec_ret qexec_block qexec_loop qexec_range qexec_cond qexec_region qexec_drawn qops_nil qops_none qops_some put_some put_none pblk_exit pblk_other newDsts_nil inlDsts_nil isInl sget_cons sget_nil qval_some qbool_some qgs_bool qgs_und qfree_some qgrd_true qgrd_false qif_true qif_false qval_ite qval_itn qand_true map_ite map_some' map_none' qdo_move qdo_assign qdo_binOp qdo_pick qdo_unOp qdo_convert qdo_extract qdo_field qdo_fieldAddr qdo_alloc qdo_box qdo_build qdo_buildSlice qdo_load qdo_store qdo_nilCheck qdo_makeFunc qdo_makeSlice qdo_slice qdo_indexAddr qdo_call qcont_val qcont_new qcont_st qcont_app0 qcont_app qcont_inl qcont_call njSV_val njSV_nil njSV_row njSV_ptr njSV_sub binV_val binV_nil binV_nn binV_ptr bin_np bin_nnp nilCmp bin_add bin_sub bin_mul bin_quo bin_rem bin_and bin_or bin_xor bin_andNot bin_eql bin_neq bin_lss bin_leq bin_gtr bin_geq bin_shl bin_shr bin_seql bin_sneq bin_sadd bin_beql bin_aeql bin_aneq eqAnd_some eqCells_nil eqCells_cons fieldTypes isStruct eqCell bin_bneq un_not un_neg nj_ite Nat.beq stepA stepR isNew opSV constSV RV.sv allSome E_mu E_own qkeyIn_none qkeyIn_some qkeyAt_none qkeyAt_some Bool.or_false Bool.false_or Bool.or_true Bool.true_or cst setB res resSV pstart startL killL kill1 eraL frzL svPV rvPV rvInt rvSlice frzOf close closeL pconv pbuiltin pmax2 partPV setCells fillPV zrow bound newSV PV.cells Bk.cells Bk.with SV.key pres presL_nil presL_tmp presL_cell presC2_some cellPV_ptr presC List.toList_toArray List.size_toArray List.getElem?_drop Nat.mul_one Int.toNat_natCast Nat.not_lt_zero Nat.lt_irrefl decide_true decide_false Nat.not_lt Option.some.injEq PV.lst.injEq PV.int.injEq PV.bool.injEq PV.tuple.injEq List.cons.injEq Option.map_some Option.map_none Option.bind_some Option.toList List.map_cons List.map_nil List.nil_append List.cons_append List.append_nil List.zip_cons_cons List.zip_nil_left List.zip_nil_right List.getElem?_cons_zero List.getElem?_cons_succ List.drop_zero List.drop_succ_cons List.take_succ_cons List.take_zero List.set_cons_zero List.set_cons_succ List.length_cons List.length_nil List.length_set List.replicate_one List.replicate_zero bne_self_eq_false beq_self_eq_true Nat.zero_add Nat.add_zero Nat.zero_mul Bool.false_eq_true Bool.true_eq_false Bool.not_true Bool.not_false and_true true_and false_and and_false or_false false_or or_true true_or not_true_eq_false not_false_eq_true ne_eq gt_iff_lt List.mem_cons List.not_mem_nil
attribute [local go_sem ↓] pseq_normal pseq_ret pseq_exit pblk_normal pblk_ret newDsts_cons inlDsts_cons gdst_zero gdst_succ retQ_normal retQ_ret qneed_nil qneed_cons retM_normal retM_ret endR_normal endR_ret endR_exit
attribute [local go_sem] Int.reduceToNat Int.reduceEq Int.reduceNe Int.reduceLT Int.reduceLE Int.reduceNeg Int.reduceAdd Nat.reduceEqDiff Nat.reduceAdd Nat.reduceSub Nat.reduceMul Nat.reduceLeDiff Nat.reduceLT
attribute [local go_sem ↓] reduceIte reduceCtorEq

theorem c_Len64 (x : Nat) (hx : x < W) : PC E 131 [u x] (.int .i64 (bitLen x)) := by
  refine PC.of_body follows Tryd.func131 (by decide +kernel) rfl (by kernel_rfl) (Nat.le_of_ble_eq_true rfl) (walk ?_)
  have d8 : ∀ a : Nat, ((a : Int) ≥ 256 ↔ 2 ^ 8 ≤ a) := fun a => by omega
  have d16 : ∀ a : Nat, ((a : Int) ≥ 65536 ↔ 2 ^ 16 ≤ a) := fun a => by omega
  have d32 : ∀ a : Nat, ((a : Int) ≥ 4294967296 ↔ 2 ^ 32 ≤ a) := fun a => by omega
  have lt : ∀ a k : Nat, a < W → a / 2 ^ k < W := fun a k h => Nat.lt_of_le_of_lt (Nat.div_le_self _ _) h
  have a1 := b_shr hx 32
  have a2 := b_shr hx 16
  have a3 := b_shr (lt _ 32 hx) 16
  have a4 := b_shr hx 8
  have a5 := b_shr (lt _ 32 hx) 8
  have a6 := b_shr (lt _ 16 hx) 8
  have a7 := b_shr (lt _ 16 (lt _ 32 hx)) 8
  have fin : ∀ (a : Nat) (c : Int), (a < 256) → 0 ≤ c → c ≤ 56 → (bitLen x : Int) = c + bitLen a → ∀ b : Int, b = bitLen a → IntKind.wrap .i64 (c + IntKind.wrap .i64 b) = bitLen x := by
    intro a c ha hc hc' he b hb
    have := (bitLen_le a 8).2 ha
    subst hb
    have e1 := wrap64 (i := (bitLen a : Int)) (by omega) (by omega)
    rw [e1, wrap64 (by omega) (by omega)]
    omega
  have hxb : (bitLen x : Int) = 0 + bitLen x := by omega
  simp only [Tryd.f131, u, go_sem]
  have big : x < 2 ^ 64 := hx
  refine qif_d (fun h1 => ?_) (fun h1 => ?_)
  all_goals rw [d32] at h1
  · simp only [Tryd.f131, u, a1, go_sem]
    refine qif_d (fun h2 => ?_) (fun h2 => ?_)
    all_goals rw [d16] at h2
    · simp only [Tryd.f131, u, a2, a3, wrap64, go_sem]
      refine qif_d (fun h3 => ?_) (fun h3 => ?_)
      all_goals rw [d8] at h3
      · simp only [Tryd.f131, u, a4, a5, a6, a7, wrap64, go_sem]
        have hlt : x / 2 ^ 32 / 2 ^ 16 / 2 ^ 8 < 256 := by omega
        have e8 := wrap8 hlt
        refine qdo_indexS (by simp only [Lay9]) rfl rfl ?_
        refine qval_i (idx_tab bitLen 256 (by kernel_rfl) ?_ ?_) ?_
        · rw [e8]; omega
        · rw [e8, Int.toNat_natCast]; exact hlt
        simp only [Tryd.f131, u, e8, go_sem]
        exact fin _ _ hlt (by decide) (by decide) (by rw [bitLen_div h1, bitLen_div h2, bitLen_div h3]; omega) _ rfl
      · simp only [Tryd.f131, u, a4, a5, a6, a7, wrap64, go_sem]
        have hlt : x / 2 ^ 32 / 2 ^ 16 < 256 := by omega
        have e8 := wrap8 hlt
        refine qdo_indexS (by simp only [Lay9]) rfl rfl ?_
        refine qval_i (idx_tab bitLen 256 (by kernel_rfl) ?_ ?_) ?_
        · rw [e8]; omega
        · rw [e8, Int.toNat_natCast]; exact hlt
        simp only [Tryd.f131, u, e8, go_sem]
        exact fin _ _ hlt (by decide) (by decide) (by rw [bitLen_div h1, bitLen_div h2]; omega) _ rfl
    · simp only [Tryd.f131, u, a2, a3, wrap64, go_sem]
      refine qif_d (fun h3 => ?_) (fun h3 => ?_)
      all_goals rw [d8] at h3
      · simp only [Tryd.f131, u, a4, a5, a6, a7, wrap64, go_sem]
        have hlt : x / 2 ^ 32 / 2 ^ 8 < 256 := by omega
        have e8 := wrap8 hlt
        refine qdo_indexS (by simp only [Lay9]) rfl rfl ?_
        refine qval_i (idx_tab bitLen 256 (by kernel_rfl) ?_ ?_) ?_
        · rw [e8]; omega
        · rw [e8, Int.toNat_natCast]; exact hlt
        simp only [Tryd.f131, u, e8, go_sem]
        exact fin _ _ hlt (by decide) (by decide) (by rw [bitLen_div h1, bitLen_div h3]; omega) _ rfl
      · simp only [Tryd.f131, u, a4, a5, a6, a7, wrap64, go_sem]
        have hlt : x / 2 ^ 32 < 256 := by omega
        have e8 := wrap8 hlt
        refine qdo_indexS (by simp only [Lay9]) rfl rfl ?_
        refine qval_i (idx_tab bitLen 256 (by kernel_rfl) ?_ ?_) ?_
        · rw [e8]; omega
        · rw [e8, Int.toNat_natCast]; exact hlt
        simp only [Tryd.f131, u, e8, go_sem]
        exact fin _ _ hlt (by decide) (by decide) (by rw [bitLen_div h1]; omega) _ rfl
  · simp only [Tryd.f131, u, a1, go_sem]
    refine qif_d (fun h2 => ?_) (fun h2 => ?_)
    all_goals rw [d16] at h2
    · simp only [Tryd.f131, u, a2, a3, wrap64, go_sem]
      refine qif_d (fun h3 => ?_) (fun h3 => ?_)
      all_goals rw [d8] at h3
      · simp only [Tryd.f131, u, a4, a5, a6, a7, wrap64, go_sem]
        have hlt : x / 2 ^ 16 / 2 ^ 8 < 256 := by omega
        have e8 := wrap8 hlt
        refine qdo_indexS (by simp only [Lay9]) rfl rfl ?_
        refine qval_i (idx_tab bitLen 256 (by kernel_rfl) ?_ ?_) ?_
        · rw [e8]; omega
        · rw [e8, Int.toNat_natCast]; exact hlt
        simp only [Tryd.f131, u, e8, go_sem]
        exact fin _ _ hlt (by decide) (by decide) (by rw [bitLen_div h2, bitLen_div h3]; omega) _ rfl
      · simp only [Tryd.f131, u, a4, a5, a6, a7, wrap64, go_sem]
        have hlt : x / 2 ^ 16 < 256 := by omega
        have e8 := wrap8 hlt
        refine qdo_indexS (by simp only [Lay9]) rfl rfl ?_
        refine qval_i (idx_tab bitLen 256 (by kernel_rfl) ?_ ?_) ?_
        · rw [e8]; omega
        · rw [e8, Int.toNat_natCast]; exact hlt
        simp only [Tryd.f131, u, e8, go_sem]
        exact fin _ _ hlt (by decide) (by decide) (by rw [bitLen_div h2]; omega) _ rfl
    · simp only [Tryd.f131, u, a2, a3, wrap64, go_sem]
      refine qif_d (fun h3 => ?_) (fun h3 => ?_)
      all_goals rw [d8] at h3
      · simp only [Tryd.f131, u, a4, a5, a6, a7, wrap64, go_sem]
        have hlt : x / 2 ^ 8 < 256 := by omega
        have e8 := wrap8 hlt
        refine qdo_indexS (by simp only [Lay9]) rfl rfl ?_
        refine qval_i (idx_tab bitLen 256 (by kernel_rfl) ?_ ?_) ?_
        · rw [e8]; omega
        · rw [e8, Int.toNat_natCast]; exact hlt
        simp only [Tryd.f131, u, e8, go_sem]
        exact fin _ _ hlt (by decide) (by decide) (by rw [bitLen_div h3]; omega) _ rfl
      · simp only [Tryd.f131, u, a4, a5, a6, a7, wrap64, go_sem]
        have hlt : x < 256 := by omega
        have e8 := wrap8 hlt
        refine qdo_indexS (by simp only [Lay9]) rfl rfl ?_
        refine qval_i (idx_tab bitLen 256 (by kernel_rfl) ?_ ?_) ?_
        · rw [e8]; omega
        · rw [e8, Int.toNat_natCast]; exact hlt
        simp only [Tryd.f131, u, e8, go_sem]
        exact fin _ _ hlt (by decide) (by decide) hxb _ rfl

theorem tz_core (x a b c j k : Nat) (h0 : x ≠ 0) (hk : k < 64) (e1 : IntKind.wrap .u64 (0 - (x : Int)) = (c : Int)) (e2 : bits .and .u64 (x : Int) (c : Int) = (a : Int)) (e3 : IntKind.wrap .u64 ((a : Int) * 285870213051353865) = (b : Int))
    (e4 : (b : Int).fdiv (2 ^ min 58 64) = (j : Int)) (hi : j < 64) (hd : deBruijn[j]? = some (.int .u8 (k : Int))) : PC E 146 [u x] (.int .i64 k) := by
  refine PC.of_body follows Tryd.func146 (by decide +kernel) rfl (by kernel_rfl) (Nat.le_of_ble_eq_true rfl) (walk ?_)
  have hG : E.G 0 = some deBruijn := rfl
  generalize deBruijn = D at hG hd
  simp only [Tryd.f146, u, go_sem]
  refine qif_df (by omega) ?_
  simp only [Tryd.f146, e1, e2, e3, e4, hG, go_sem]
  refine qand_i (by omega) ?_
  simp only [Tryd.f146, e1, e2, e3, e4, hG, go_sem]
  refine qval_i (congrArg (Option.map _) hd) ?_
  simp only [Tryd.f146, go_sem]
  exact wrap64 (by omega) (by omega)

theorem c_TrailingZeros64 (x : Nat) (hx : x < W) : PC E 146 [u x] (.int .i64 (Lib.ctz 64 x)) := by
  by_cases h0 : x = 0
  · subst h0
    refine PC.of_body follows Tryd.func146 (by decide +kernel) rfl (by kernel_rfl) (Nat.le_of_ble_eq_true rfl) (walk ?_)
    simp only [Tryd.f146, u, go_sem]
    refine qif_dt rfl ?_
    simp only [Tryd.f146, go_sem]
    rfl
  · obtain ⟨hlow, hk⟩ := Lib.lowest_bit 64 x h0 hx
    obtain ⟨hi, htab⟩ := Lib.deBruijn64_at _ hk
    have hx' : x < 18446744073709551616 := hx
    have e1 : IntKind.wrap .u64 (0 - (x : Int)) = ((18446744073709551616 - x : Nat) : Int) := by
      rw [IntKind.wrap_u64]; omega
    have e2 := b_and (a := x) (b := 18446744073709551616 - x) hx (by show 18446744073709551616 - x < 18446744073709551616; omega)
    rw [show (2 : Nat) ^ 64 = 18446744073709551616 from by decide] at hlow
    rw [hlow] at e2
    have e3 : IntKind.wrap .u64 (((2 ^ Lib.ctz 64 x : Nat) : Int) * 285870213051353865) = ((2 ^ Lib.ctz 64 x * 285870213051353865 % 18446744073709551616 : Nat) : Int) := by
      rw [IntKind.wrap_u64]; omega
    have e4 := b_shr (a := 2 ^ Lib.ctz 64 x * 285870213051353865 % 18446744073709551616) (Nat.mod_lt _ (by decide)) 58
    rw [show (2 : Nat) ^ 58 = 288230376151711744 from by decide] at e4
    refine tz_core x _ _ _ _ _ h0 hk e1 e2 e3 e4 hi ?_
    unfold deBruijn
    rw [List.getElem?_map, List.getElem?_eq_getElem (show _ < Lib.deBruijn64tab.length from hi)]
    rw [List.getD_eq_getElem?_getD, List.getElem?_eq_getElem (show _ < Lib.deBruijn64tab.length from hi), Option.getD_some] at htab
    rw [Option.map_some, htab]
end Go.Proofs.YtejmlngnpekagaaDoor
end

/- What nat.Bits, nat.Low, nat.Odd, nat.Shr and nat.Shl hand back. -/
section
open Go PG Go.Proofs
set_option maxRecDepth 100000
set_option linter.unusedSimpArgs false
set_option linter.unusedVariables false
namespace Go.Proofs.YtejmlngnpekagaaDoor
attribute [local go_sem] Lay2 Lay3 Lay4 Lay5 Lay6 Lay7 Lay8 Lay9 Lay10 Lay11 Lay12 Lay13 Lay14 Lay15 Lay16 Lay17 Lay18 Lay19 Lay21 Lay22 Lay23 Lay24 Lay25 Lay30 Lay33 Lay36 Lay37 Lay46 Lay47 Lay48 Lay53 Lay54 Lay55 Lay59 Lay100 Lay101 Lay127 Lay146 Lay162 Lay168 Lay169 Lay173 Lay185 Lay186 Lay187 Lay188 Lay189 Lay191 Lay192 Lay194 Lay195 Lay196 Lay199 qexec_seq qexec_skip qexec_exit qexec_ret qexec_block qexec_loop qexec_range qexec_cond qexec_region qexec_drawn qops_nil qops_none qops_some put_some put_none pblk_exit pblk_other newDsts_nil inlDsts_nil isInl sget_cons sget_nil qval_some qbool_some qgs_bool qgs_und qfree_some qgrd_true qgrd_false qif_true qif_false qval_ite qval_itn qand_true map_ite map_some' map_none' qdo_move qdo_assign qdo_binOp qdo_pick qdo_unOp qdo_convert qdo_extract qdo_field qdo_fieldAddr qdo_alloc qdo_box qdo_build qdo_buildSlice qdo_load qdo_store qdo_nilCheck qdo_makeFunc qdo_makeSlice qdo_slice qdo_indexAddr qdo_call qcont_val qcont_new qcont_st qcont_app0 qcont_app qcont_inl qcont_call njSV_val njSV_nil njSV_row njSV_ptr njSV_sub binV_val binV_nil binV_nn binV_ptr bin_np bin_nnp nilCmp bin_add bin_sub bin_mul bin_quo bin_rem bin_and bin_or bin_xor bin_andNot bin_eql bin_neq bin_lss bin_leq bin_gtr bin_geq bin_shl bin_shr bin_seql bin_sneq bin_sadd bin_beql bin_aeql bin_aneq eqAnd_some eqCells_nil eqCells_cons fieldTypes isStruct eqCell bin_bneq un_not un_neg nj_ite Nat.beq stepA stepR isNew opSV constSV RV.sv allSome E_mu E_own qkeyIn_none qkeyIn_some qkeyAt_none qkeyAt_some Bool.or_false Bool.false_or Bool.or_true Bool.true_or cst setB res resSV pstart startL killL kill1 eraL frzL svPV rvPV rvInt rvSlice frzOf close closeL pconv pbuiltin pmax2 partPV setCells fillPV zrow bound newSV PV.cells Bk.cells Bk.with SV.key pres presL_nil presL_tmp presL_cell presC2_some cellPV_ptr presC List.toList_toArray List.size_toArray List.getElem?_drop Nat.mul_one Int.toNat_natCast Nat.not_lt_zero Nat.lt_irrefl decide_true decide_false Nat.not_lt Option.some.injEq PV.lst.injEq PV.int.injEq PV.bool.injEq PV.tuple.injEq List.cons.injEq Option.map_some Option.map_none Option.bind_some Option.toList List.map_cons List.map_nil List.nil_append List.cons_append List.append_nil List.zip_cons_cons List.zip_nil_left List.zip_nil_right List.getElem?_cons_zero List.getElem?_cons_succ List.drop_zero List.drop_succ_cons List.take_succ_cons List.take_zero List.set_cons_zero List.set_cons_succ List.length_cons List.length_nil List.length_set List.replicate_one List.replicate_zero bne_self_eq_false beq_self_eq_true Nat.zero_add Nat.add_zero Nat.zero_mul Bool.false_eq_true Bool.true_eq_false Bool.not_true Bool.not_false and_true true_and false_and and_false or_false false_or or_true true_or not_true_eq_false not_false_eq_true ne_eq gt_iff_lt List.mem_cons List.not_mem_nil
attribute [local go_sem ↓] pseq_normal pseq_ret pseq_exit pblk_normal pblk_ret newDsts_cons inlDsts_cons gdst_zero gdst_succ retQ_normal retQ_ret qneed_nil qneed_cons retM_normal retM_ret endR_normal endR_ret endR_exit
attribute [local go_sem] Int.reduceToNat Int.reduceEq Int.reduceNe Int.reduceLT Int.reduceLE Int.reduceNeg Int.reduceAdd Nat.reduceEqDiff Nat.reduceAdd Nat.reduceSub Nat.reduceMul Nat.reduceLeDiff Nat.reduceLT
attribute [local go_sem ↓] reduceIte reduceCtorEq

theorem c_Bits (l : List Nat) (hl : l.length ≤ 1048576) (ho : Ok W l) : PC E 87 [NL l] (.int .i64 (bitLen (vl l))) := by
  refine PC.of_body follows Tryd.func87 (by decide +kernel) rfl (by kernel_rfl) (Nat.le_of_ble_eq_true rfl) (walk ?_)
  simp only [Tryd.f87, go_sem]
  refine qcall_i (n_Bare l (by omega) ho) ?_
  have hlen : (dg W (vl l)).length ≤ l.length := (dg_length_le W2 _ _).2 (dv_lt l ho)
  simp only [NN, NL]
  simp only [Tryd.f87, go_sem]
  generalize vl l = x at *
  refine qif_d (fun h => ?_) (fun h => ?_)
  · have h0 : x = 0 := by
      have := (dg_length_le W2 0 x).1 (by omega)
      rw [Nat.pow_zero] at this
      omega
    simp only [Tryd.f87, go_sem]
    subst h0
    rfl
  · obtain ⟨m, hm⟩ : ∃ m, (dg W x).length = m + 1 := ⟨(dg W x).length - 1, by omega⟩
    have e1 : IntKind.wrap .i64 (((m + 1 : Nat) : Int) - 1) = (m : Int) := by rw [wrap64 (by omega) (by omega)]; omega
    have e2 : IntKind.wrap .i64 (64 * (m : Int)) = ((64 * m : Nat) : Int) := by rw [wrap64 (by omega) (by omega)]; omega
    have hx : (U (dg W x))[m]? = some (u (x / W ^ m % W)) := by
      rw [U_get, ← dv_dg W2 x, ← dv_get W0 _ (ok_dg W2 x) m, dv_dg W2, List.getD_eq_getElem?_getD, List.getElem?_eq_getElem (show m < (dg W x).length by omega)]; rfl
    simp only [Tryd.f87, hm, e1, e2, go_sem]
    refine qand_i (by omega) ?_
    simp only [Tryd.f87, hm, e1, e2, go_sem]
    refine qval_i (congrArg (Option.map _) hx) ?_
    simp only [Tryd.f87, go_sem]
    refine qcall_i (c_Len64 _ (Nat.mod_lt _ W0)) ?_
    simp only [Tryd.f87, go_sem]
    have := (bitLen_le (x / W ^ m % W) 64).2 (Nat.mod_lt _ W0)
    rw [wrap64 (by omega) (by omega), bitLen_top hm]
    simp

theorem c_Odd (l : List Nat) (ho : Ok W l) : PC E 91 [NL l] (.bool (decide (vl l % 2 = 1))) := by
  refine PC.of_body follows Tryd.func91 (by decide +kernel) rfl (by kernel_rfl) (Nat.le_of_ble_eq_true rfl) (walk ?_)
  simp only [Tryd.f91, go_sem]
  refine qcall_i (n_limb l ho 0) ?_
  have e := b_and (a := lb (vl l) 0) (b := 1) (lb_lt _ _) (by decide)
  simp only [Tryd.f91, u, go_sem]
  have e2 : lb (vl l) 0 &&& 1 = vl l % 2 := by
    rw [Nat.and_one_is_mod]
    show (vl l / W ^ 0 % W) % 2 = _
    rw [Nat.pow_zero, Nat.div_one, Nat.mod_mod_of_dvd _ (by decide)]
  rw [e2] at e
  rw [show (1 : Int) = ((1 : Nat) : Int) from rfl, e]
  simp
  omega

theorem c_Low (l : List Nat) (hl : l.length ≤ 1048576) (ho : Ok W l) : PC E 118 [NL l] (.int .i64 (tz (vl l))) := by
  refine PC.of_body follows Tryd.func118 (by decide +kernel) rfl (by kernel_rfl) (Nat.le_of_ble_eq_true rfl) (walk ?_)
  simp only [NL]
  simp only [Tryd.f118, go_sem]
  refine PLoop.intro (fun i : Nat => ⟨[(0, .val (NL l)), (5, .val (NL l)), (6, .val (.int .i64 l.length)), (7, .val (.int .i64 i))], []⟩) (fun i => i ≤ l.length ∧ vl l % W ^ i = 0) (fun i => l.length - i) 0 (by simp [Nat.mod_one]) (by simp [Wk, sget, NL]) fun i hi => walk ?_
  obtain ⟨hi, hz⟩ := hi
  have hlt := dv_lt l ho
  simp only [NL]
  simp only [Tryd.f118, go_sem]
  refine qif_d (fun h => ?_) (fun h => ?_)
  · have hwi : IntKind.wrap .i64 ((i : Int) + 1) = ((i + 1 : Nat) : Int) := by rw [wrap64 (by omega) (by omega)]; omega
    have e2 : IntKind.wrap .i64 (64 * (i : Int)) = ((64 * i : Nat) : Int) := by rw [wrap64 (by omega) (by omega)]; omega
    have hx : (U l)[i]? = some (u (vl l / W ^ i % W)) := by
      rw [U_get, ← dv_get W0 _ ho i, List.getD_eq_getElem?_getD, List.getElem?_eq_getElem (show i < l.length by omega)]; rfl
    simp only [Tryd.f118, go_sem]
    refine qand_i (by omega) ?_
    simp only [Tryd.f118, go_sem]
    refine qval_i (congrArg (Option.map _) hx) ?_
    simp only [Tryd.f118, u, go_sem]
    refine qif_d (fun h0 => ?_) (fun h0 => ?_)
    · simp only [Tryd.f118, e2, go_sem]
      refine qcall_i (c_TrailingZeros64 _ (Nat.mod_lt _ W0)) ?_
      simp only [Tryd.f118, e2, go_sem]
      have hd : vl l / W ^ i % W ≠ 0 := by omega
      have hk := (Lib.lowest_bit 64 _ hd (Nat.mod_lt _ W0)).2
      rw [wrap64 (by omega) (by omega), tz_limb hz hd]
      simp
    · simp only [Tryd.f118, hwi, go_sem]
      refine ⟨i + 1, ⟨by omega, ?_⟩, by omega, by simp [Wk, sget, NL]⟩
      have hd : vl l / W ^ i % W = 0 := by
        generalize vl l / W ^ i % W = d at h0
        omega
      rw [Nat.pow_succ, Nat.mod_mul, hz, hd]
      rfl
  · have e : i = l.length := by omega
    subst e
    simp only [Tryd.f118, go_sem]
    rw [Nat.mod_eq_of_lt hlt] at hz
    rw [show vl l = 0 from hz]
    rfl

theorem U_replicate (n : Nat) : U (List.replicate n 0) = List.replicate n (.int .u64 0) := by simp [U, u]

theorem c_Shr (l : List Nat) (hl : l.length ≤ 1048576) (ho : Ok W l) (n : Int) : PC E 119 [NL l, .int .i64 n] (.tuple [NN (vl l / 2 ^ n.toNat), .bool (decide (vl l % 2 ^ n.toNat ≠ 0))]) := by
  refine PC.of_body follows Tryd.func119 (by decide +kernel) rfl (by kernel_rfl) (Nat.le_of_ble_eq_true rfl) (walk ?_)
  simp only [Tryd.f119, go_sem]
  refine qcall_i (n_Bare l (by omega) ho) ?_
  have hlen : (dg W (vl l)).length ≤ l.length := (dg_length_le W2 _ _).2 (dv_lt l ho)
  have hbl := bitLen_le_limbs (vl l)
  have hv := dv_dg W2 (vl l)
  have od := ok_dg W2 (vl l)
  simp only [NN]
  generalize hx : vl l = x at *
  have hmx : max n 0 = (n.toNat : Int) := by omega
  generalize n.toNat = k at *
  simp only [Tryd.f119, hmx, go_sem]
  refine qcall_i (c_Bits (dg W x) (by omega) od) ?_
  rw [show vl (dg W x) = x from hv]
  simp only [Tryd.f119, hmx, go_sem]
  refine qif_d (fun h => ?_) (fun h => ?_)
  · simp only [NL]
    simp only [Tryd.f119, go_sem]
    have hlt : x < 2 ^ k := (bitLen_le x k).1 (by omega)
    rw [Nat.div_eq_of_lt hlt, Nat.mod_eq_of_lt hlt]
    refine ⟨rfl, ?_⟩
    have := (dg_length_le W2 0 x)
    rw [Nat.pow_zero] at this
    rw [decide_eq_decide]
    omega
  · have hk : k < bitLen x := by omega
    have e1 : IntKind.wrap .i64 ((k : Int).tdiv 64) = ((k / 64 : Nat) : Int) := by
      rw [Int.tdiv_eq_ediv_of_nonneg (by omega), wrap64 (by omega) (by omega)]; omega
    have e2 : (k : Int).tmod 64 = ((k % 64 : Nat) : Int) := by
      rw [Int.tmod_eq_emod_of_nonneg (by omega)]; omega
    have e3 : IntKind.wrap .i64 (((dg W x).length : Int) - ((k / 64 : Nat) : Int)) = (((dg W x).length - k / 64 : Nat) : Int) := by
      rw [wrap64 (by omega) (by omega)]; omega
    have hlx := (dg_length_le W2 _ x).1 (Nat.le_refl _)
    simp only [NL]
    simp only [Tryd.f119, hmx, e1, e2, e3, go_sem]
    refine qand_i (by omega) ?_
    simp only [Tryd.f119, hmx, e1, e2, e3, go_sem]
    generalize hm : (dg W x).length - k / 64 = m at *
    generalize hw : k / 64 = w at *
    generalize hp : k % 64 = p at *
    have hkk : k = 64 * w + p := by omega
    have hp64 : p < 64 := by omega
    have hy : x / 2 ^ k < W ^ m := by
      rw [Nat.div_lt_iff_lt_mul (Nat.two_pow_pos k), W_pow, ← Nat.pow_add]
      refine Nat.lt_of_lt_of_le hlx ?_
      rw [W_pow]
      exact Nat.pow_le_pow_right (by decide) (by omega)
    refine PLoop.intro (fun i : Nat => ⟨[(0, .val (NL (dg W x))), (1, .val (.int .i64 k)), (6, .val (.int .i64 w)), (7, .val (.int .i64 p)), (8, .row 30), (32, .val (.int .i64 m)), (33, .val (.int .i64 i))],
      [(30, (.row 22 1 m (U (tab W (x / 2 ^ k) i ++ List.replicate (m - i) 0)), false))]⟩) (fun i => i ≤ m) (fun i => m - i) 0 (by omega) (by simp [Wk, sget, NL, tab, U_replicate]) fun i hi => walk ?_
    simp only [Tryd.f119, go_sem]
    refine qif_d (fun h => ?_) (fun h => ?_)
    · have f1 : IntKind.wrap .i64 ((i : Int) + (w : Int)) = ((i + w : Nat) : Int) := by rw [wrap64 (by omega) (by omega)]; omega
      have f2 : IntKind.wrap .i64 (((i + w : Nat) : Int) + 1) = ((i + w + 1 : Nat) : Int) := by rw [wrap64 (by omega) (by omega)]; omega
      have f3 : IntKind.wrap .i64 (64 - (p : Int)) = ((64 - p : Nat) : Int) := by rw [wrap64 (by omega) (by omega)]; omega
      have f4 : IntKind.wrap .i64 ((i : Int) + 1) = ((i + 1 : Nat) : Int) := by rw [wrap64 (by omega) (by omega)]; omega
      have g1 := n_limb (dg W x) od ((i + w : Nat) : Int)
      have g2 := n_limb (dg W x) od ((i + w + 1 : Nat) : Int)
      rw [show vl (dg W x) = x from hv, lb_nat] at g1 g2
      have l1 : x / W ^ (i + w) % W < W := Nat.mod_lt _ W0
      have f5 := b_shr l1 p
      have f6 := b_shl (x / W ^ (i + w + 1) % W) (64 - p)
      have f7 := b_or (a := x / W ^ (i + w) % W / 2 ^ p) (b := x / W ^ (i + w + 1) % W * 2 ^ (64 - p) % W) (Nat.lt_of_le_of_lt (Nat.div_le_self _ _) l1) (Nat.mod_lt _ W0)
      rw [shr_digit x w p i hp64, ← hkk] at f7
      simp only [Tryd.f119, f1, f2, f3, go_sem]
      refine qcall_i g1 ?_
      simp only [Tryd.f119, f1, f2, f3, u, f5, go_sem]
      refine qand_i (by omega) ?_
      simp only [Tryd.f119, f1, f2, f3, u, f5, go_sem]
      refine qcall_i g2 ?_
      simp only [Tryd.f119, f1, f2, f3, u, f5, f6, f7, go_sem]
      refine qand_i (by omega) ?_
      simp only [Tryd.f119, f1, f2, f3, u, f5, f6, f7, go_sem]
      refine qand_i (by omega) ?_
      simp only [Tryd.f119, f1, f2, f3, u, f5, f6, f7, go_sem]
      refine qand_i (by simp [U, tab]; omega) ?_
      simp only [Tryd.f119, f4, hmx, go_sem]
      refine ⟨i + 1, by omega, by omega, ?_⟩
      simp [Wk, sget, u, NL]
      rw [← fill_set (by omega), ← U_set]
      rfl
    · have e : i = m := by omega
      subst e
      simp only [Tryd.f119, go_sem]
      rw [Nat.sub_self, List.replicate_zero, List.append_nil]
      refine qcall_i (r := NN (x / 2 ^ k)) (PC.at_list (n_Bare (tab W (x / 2 ^ k) i) (by rw [tab_length]; omega) (ok_tab W0 _ _)) (tab_length _ _ _) ((dv_tab _ _).trans (Nat.mod_eq_of_lt hy))) ?_
      simp only [Tryd.f119, go_sem]
      refine qcall_i (c_Low (dg W x) (by omega) od) ?_
      rw [show vl (dg W x) = x from hv]
      simp only [Tryd.f119, go_sem]
      have h0 : x ≠ 0 := fun h0 => by subst h0; rw [bitLen_zero] at hk; omega
      rw [decide_eq_decide, Int.ofNat_lt]
      exact tz_lt h0

/-- What Shl hands back. -/
def shlV (x : Nat) (n : Int) : PV :=
  if n < 0 then .tuple [.lst 0 [], .int .i64 1] else if x = 0 then .tuple [.lst 0 [], .int .i64 0] else if n > 65536 - bitLen x then .tuple [.lst 0 [], .int .i64 2] else .tuple [NN (x * 2 ^ n.toNat), .int .i64 0]

theorem c_Shl (l : List Nat) (hl : l.length ≤ 1048576) (ho : Ok W l) (n : Int) (hn : -9223372036854775808 ≤ n) : PC E 94 [NL l, .int .i64 n] (shlV (vl l) n) := by
  refine PC.of_body follows Tryd.func94 (by decide +kernel) rfl (by kernel_rfl) (Nat.le_of_ble_eq_true rfl) (walk ?_)
  simp only [Tryd.f94, go_sem]
  refine qcall_i (n_Bare l (by omega) ho) ?_
  have hlen : (dg W (vl l)).length ≤ l.length := (dg_length_le W2 _ _).2 (dv_lt l ho)
  have hbl := bitLen_le_limbs (vl l)
  have hv := dv_dg W2 (vl l)
  have od := ok_dg W2 (vl l)
  simp only [NN]
  generalize hx : vl l = x at *
  simp only [Tryd.f94, go_sem]
  refine qif_d (fun h => ?_) (fun h => ?_)
  · simp only [Tryd.f94, go_sem]
    simp [shlV, h]
  simp only [Tryd.f94, go_sem]
  simp only [NL]
  simp only [Tryd.f94, go_sem]
  refine qif_d (fun h0 => ?_) (fun h0 => ?_)
  · have hx0 : x = 0 := by
      have := (dg_length_le W2 0 x).1 (by omega)
      rw [Nat.pow_zero] at this
      omega
    simp only [Tryd.f94, go_sem]
    simp [shlV, h, hx0]
  have hx0 : x ≠ 0 := fun hx0 => h0 (by subst hx0; rfl)
  simp only [Tryd.f94, go_sem]
  have hB := c_Bits (dg W x) (by omega) od
  rw [show vl (dg W x) = x from hv] at hB
  refine qcall_i hB ?_
  have e0 : IntKind.wrap .i64 (65536 - (bitLen x : Int)) = 65536 - (bitLen x : Int) := wrap64 (by omega) (by omega)
  simp only [Tryd.f94, e0, go_sem]
  refine qif_d (fun h1 => ?_) (fun h1 => ?_)
  · simp only [Tryd.f94, go_sem]
    simp [shlV, h, hx0, h1]
  obtain ⟨k, rfl⟩ : ∃ k : Nat, n = k := ⟨n.toNat, by omega⟩
  have hk : k ≤ 65536 := by omega
  have hbp := bitLen_pos hx0
  have e1 : IntKind.wrap .i64 ((k : Int).tdiv 64) = ((k / 64 : Nat) : Int) := by
    rw [Int.tdiv_eq_ediv_of_nonneg (by omega), wrap64 (by omega) (by omega)]; omega
  have e2 : (k : Int).tmod 64 = ((k % 64 : Nat) : Int) := by
    rw [Int.tmod_eq_emod_of_nonneg (by omega)]; omega
  have e3 : IntKind.wrap .i64 (((dg W x).length : Int) + ((k / 64 : Nat) : Int)) = (((dg W x).length + k / 64 : Nat) : Int) := by
    rw [wrap64 (by omega) (by omega)]; omega
  have e4 : IntKind.wrap .i64 ((((dg W x).length + k / 64 : Nat) : Int) + 1) = (((dg W x).length + k / 64 + 1 : Nat) : Int) := by
    rw [wrap64 (by omega) (by omega)]; omega
  have hlx := (dg_length_le W2 _ x).1 (Nat.le_refl _)
  have hr : shlV x k = .tuple [NN (x * 2 ^ k), .int .i64 0] := by
    unfold shlV
    rw [if_neg h, if_neg hx0, if_neg h1, Int.toNat_natCast]
  rw [hr]
  simp only [Tryd.f94, NL, e1, e2, e3, e4, go_sem]
  refine qand_i (by omega) ?_
  simp only [Tryd.f94, NL, e1, e2, e3, e4, go_sem]
  generalize hm : (dg W x).length + k / 64 + 1 = m at *
  generalize hw : k / 64 = w at *
  generalize hp : k % 64 = p at *
  have hkk : k = 64 * w + p := by omega
  have hp64 : p < 64 := by omega
  have hy : x * 2 ^ k < W ^ m := by
    have h2 : x * 2 ^ k < W ^ (dg W x).length * 2 ^ k := Nat.mul_lt_mul_of_pos_right hlx (Nat.two_pow_pos k)
    refine Nat.lt_of_lt_of_le h2 ?_
    rw [W_pow, W_pow, ← Nat.pow_add]
    exact Nat.pow_le_pow_right (by decide) (by omega)
  refine PLoop.intro (fun i : Nat => ⟨[(0, .val (NL (dg W x))), (1, .val (.int .i64 k)), (6, .val (.int .i64 w)), (7, .val (.int .i64 p)), (8, .row 35), (37, .val (.int .i64 m)), (38, .val (.int .i64 i))],
    [(35, (.row 22 1 m (U (tab W (x * 2 ^ k) i ++ List.replicate (m - i) 0)), false))]⟩) (fun i => i ≤ m) (fun i => m - i) 0 (by omega) (by simp [Wk, sget, NL, tab, U_replicate]) fun i hi => walk ?_
  simp only [Tryd.f94, go_sem]
  refine qif_d (fun h => ?_) (fun h => ?_)
  · have f1 : IntKind.wrap .i64 ((i : Int) - (w : Int)) = (i : Int) - w := wrap64 (by omega) (by omega)
    have f2 : IntKind.wrap .i64 ((i : Int) - (w : Int) - 1) = (i : Int) - w - 1 := wrap64 (by omega) (by omega)
    have f3 : IntKind.wrap .i64 (64 - (p : Int)) = ((64 - p : Nat) : Int) := by rw [wrap64 (by omega) (by omega)]; omega
    have f4 : IntKind.wrap .i64 ((i : Int) + 1) = ((i + 1 : Nat) : Int) := by rw [wrap64 (by omega) (by omega)]; omega
    have g1 := n_limb (dg W x) od ((i : Int) - w)
    have g2 := n_limb (dg W x) od ((i : Int) - w - 1)
    rw [show vl (dg W x) = x from hv] at g1 g2
    have f5 := b_shl (lb x ((i : Int) - w)) p
    have f6 := b_shr (lb_lt x ((i : Int) - w - 1)) (64 - p)
    have f7 := b_or (a := lb x ((i : Int) - w) * 2 ^ p % W) (b := lb x ((i : Int) - w - 1) / 2 ^ (64 - p)) (Nat.mod_lt _ W0) (Nat.lt_of_le_of_lt (Nat.div_le_self _ _) (lb_lt _ _))
    rw [shl_digit x w p i hp64, ← hkk] at f7
    simp only [Tryd.f94, f1, f2, f3, go_sem]
    refine qcall_i g1 ?_
    simp only [Tryd.f94, f1, f2, f3, u, f5, go_sem]
    refine qand_i (by omega) ?_
    simp only [Tryd.f94, f1, f2, f3, u, f5, go_sem]
    refine qcall_i g2 ?_
    simp only [Tryd.f94, f1, f2, f3, u, f5, f6, f7, go_sem]
    refine qand_i (by omega) ?_
    simp only [Tryd.f94, f1, f2, f3, u, f5, f6, f7, go_sem]
    refine qand_i (by omega) ?_
    simp only [Tryd.f94, f1, f2, f3, u, f5, f6, f7, go_sem]
    refine qand_i (by simp [U, tab]; omega) ?_
    simp only [Tryd.f94, f4, go_sem]
    refine ⟨i + 1, by omega, by omega, ?_⟩
    simp [Wk, sget, u, NL]
    rw [← fill_set (by omega), ← U_set]
    rfl
  · have e : i = m := by omega
    subst e
    simp only [Tryd.f94, go_sem]
    rw [Nat.sub_self, List.replicate_zero, List.append_nil]
    refine qcall_i (r := NN (x * 2 ^ k)) (PC.at_list (n_Bare (tab W (x * 2 ^ k) i) (by rw [tab_length]; omega) (ok_tab W0 _ _)) (tab_length _ _ _) ((dv_tab _ _).trans (Nat.mod_eq_of_lt hy))) ?_
    simp only [Tryd.f94, go_sem]
end Go.Proofs.YtejmlngnpekagaaDoor
end

/- slices.Backward over a slice of limbs: its closure hands out the places from the last to the first, whatever the loop's body does that keeps the slice. -/
section
open Go PG Go.Proofs Go.RowKit
set_option maxRecDepth 100000
set_option linter.unusedSimpArgs false
set_option linter.unusedVariables false
namespace Go.Proofs.YtejmlngnpekagaaDoor
attribute [local go_sem] Lay2 Lay3 Lay4 Lay5 Lay6 Lay7 Lay8 Lay9 Lay10 Lay11 Lay12 Lay13 Lay14 Lay15 Lay16 Lay17 Lay18 Lay19 Lay21 Lay22 Lay23 Lay24 Lay25 Lay30 Lay33 Lay36 Lay37 Lay46 Lay47 Lay48 Lay53 Lay54 Lay55 Lay59 Lay100 Lay101 Lay127 Lay146 Lay162 Lay168 Lay169 Lay173 Lay185 Lay186 Lay187 Lay188 Lay189 Lay191 Lay192 Lay194 Lay195 Lay196 Lay199 qexec_seq qexec_skip qexec_exit qexec_ret qexec_block qexec_loop qexec_range qexec_cond qexec_region qexec_drawn qops_nil qops_none qops_some put_some put_none pblk_exit pblk_other newDsts_nil inlDsts_nil isInl sget_cons sget_nil qval_some qbool_some qgs_bool qgs_und qfree_some qgrd_true qgrd_false qif_true qif_false qval_ite qval_itn qand_true map_ite map_some' map_none' qdo_move qdo_assign qdo_binOp qdo_pick qdo_unOp qdo_convert qdo_extract qdo_field qdo_fieldAddr qdo_alloc qdo_box qdo_build qdo_buildSlice qdo_load qdo_store qdo_nilCheck qdo_makeFunc qdo_makeSlice qdo_slice qdo_indexAddr qdo_call qcont_val qcont_new qcont_st qcont_app0 qcont_app qcont_inl qcont_call njSV_val njSV_nil njSV_row njSV_ptr njSV_sub binV_val binV_nil binV_nn binV_ptr bin_np bin_nnp nilCmp bin_add bin_sub bin_mul bin_quo bin_rem bin_and bin_or bin_xor bin_andNot bin_eql bin_neq bin_lss bin_leq bin_gtr bin_geq bin_shl bin_shr bin_seql bin_sneq bin_sadd bin_beql bin_aeql bin_aneq eqAnd_some eqCells_nil eqCells_cons fieldTypes isStruct eqCell bin_bneq un_not un_neg nj_ite Nat.beq stepA stepR isNew opSV constSV RV.sv allSome E_mu E_own qkeyIn_none qkeyIn_some qkeyAt_none qkeyAt_some Bool.or_false Bool.false_or Bool.or_true Bool.true_or cst setB res resSV pstart startL killL kill1 eraL frzL svPV rvPV rvInt rvSlice frzOf close closeL pconv pbuiltin pmax2 partPV setCells fillPV zrow bound newSV PV.cells Bk.cells Bk.with SV.key pres presL_nil presL_tmp presL_cell presC2_some cellPV_ptr presC List.toList_toArray List.size_toArray List.getElem?_drop Nat.mul_one Int.toNat_natCast Nat.not_lt_zero Nat.lt_irrefl decide_true decide_false Nat.not_lt Option.some.injEq PV.lst.injEq PV.int.injEq PV.bool.injEq PV.tuple.injEq List.cons.injEq Option.map_some Option.map_none Option.bind_some Option.toList List.map_cons List.map_nil List.nil_append List.cons_append List.append_nil List.zip_cons_cons List.zip_nil_left List.zip_nil_right List.getElem?_cons_zero List.getElem?_cons_succ List.drop_zero List.drop_succ_cons List.take_succ_cons List.take_zero List.set_cons_zero List.set_cons_succ List.length_cons List.length_nil List.length_set List.replicate_one List.replicate_zero bne_self_eq_false beq_self_eq_true Nat.zero_add Nat.add_zero Nat.zero_mul Bool.false_eq_true Bool.true_eq_false Bool.not_true Bool.not_false and_true true_and false_and and_false or_false false_or or_true true_or not_true_eq_false not_false_eq_true ne_eq gt_iff_lt List.mem_cons List.not_mem_nil
attribute [local go_sem ↓] pseq_normal pseq_ret pseq_exit pblk_normal pblk_ret newDsts_cons inlDsts_cons gdst_zero gdst_succ retQ_normal retQ_ret qneed_nil qneed_cons retM_normal retM_ret endR_normal endR_ret endR_exit
attribute [local go_sem] Int.reduceToNat Int.reduceEq Int.reduceNe Int.reduceLT Int.reduceLE Int.reduceNeg Int.reduceAdd Nat.reduceEqDiff Nat.reduceAdd Nat.reduceSub Nat.reduceMul Nat.reduceLeDiff Nat.reduceLT
attribute [local go_sem ↓] reduceIte reduceCtorEq

attribute [local go_sem] Oper.semAt_some

set_option maxRecDepth 100000 in
set_option maxHeartbeats 2000000 in
theorem back_in (F : Fence) (n : Nat) (hfn : F.fn 142) (hro : F.round = none) (hn : 1 ≤ n) (q len cap : Nat) (ad b : Addr) (l : List Nat) (hreach : len ≤ 17592186044416) (Kp : World → World → Prop) (J Jx : List (Fin len) → World → Prop) (Lies : World → Prop) (hKp : ∀ A B, Kp A B → Lies A → Lies B)
    (hL : ∀ A, Lies A → A.cell? ad = some (.slice (some b) len cap) ∧ ∀ j, j < len → A.cell? (b.add j) = some (.int .u64 (l.getD j 0 : Nat)))
    (hY : ∀ pre x W, J pre W → pre.length < len → YieldAt F (n - 1) Tryd.prog q #[.int .i64 (x.1 : Int), .int .u64 (l.getD x.1 0 : Nat)] W fun e W' =>
      (e = .returned (.bool true) ∧ J (pre ++ [x]) W' ∧ Kp W W') ∨ (e = .returned (.bool false) ∧ Jx (pre ++ [x]) W'))
    (W : World) (hlies : Lies W) (h0 : J [] W) :
    CallsIn F n Tryd.prog 142 #[.func (.yield q) #[] #[], .pointer (some ad)] W fun e W' => (∃ v, e = .returned v) ∧
      ((∃ ys, ys = back len ∧ J ys W') ∨ (∃ pre, (∃ k, k ≤ len ∧ pre = back k) ∧ Jx pre W')) := by
  refine callsIn_of_wp Tryd.func142 rfl hfn ?_ hro
  simp only [Tryd.ntmps142, List.size_toArray, List.length_cons, List.length_nil, Nat.reduceAdd, Nat.reduceSub, Array.replicate_succ, Array.replicate_zero, List.push_toArray, List.append_toArray, List.nil_append, List.cons_append]
  obtain ⟨hc0, _⟩ := hL W hlies
  gi_wp2
  gi_loopw [3] (fun i wr => ∃ k : Nat, k ≤ len ∧ i = .int .i64 ((len : Int) - 1 - k) ∧ J (back k) wr ∧ Lies wr)
    (fun i _ => (intOf i + 1).toNat)
  case atStart =>
    refine ⟨0, Nat.zero_le _, ?_, h0, hlies⟩
    simp
  case round =>
    obtain ⟨k, hk, rfl, hJs, hnx⟩ := hrel
    obtain ⟨hc1, hc2⟩ := hL wr hnx
    by_cases hlt : k < len
    · obtain ⟨fn, tmps, assign, body, hy, hR⟩ := hY _ ⟨len - 1 - k, by omega⟩ wr hJs (by rw [back_length _ hk]; exact hlt)
      dsimp only at hy
      have hcx := hc2 (len - 1 - k) (by omega)
      have hi0 : (0 : Int) ≤ (len : Int) - 1 - k := by omega
      have hi1 : (len : Int) - 1 - k < len := by omega
      have hi2 : ((len : Int) - 1 - k).toNat = len - 1 - k := by omega
      have hi3 : ((len - 1 - k : Nat) : Int) = (len : Int) - 1 - k := by omega
      rw [hi3] at hy
      simp only [List.getD_eq_getElem?_getD] at hy hcx
      gi_wp2
      refine hR.mono ?_
      rintro e W3 (⟨rfl, hJ3, hk3⟩ | ⟨rfl, hJx3⟩)
      · gi_wp2
        go_roundw
        case rel =>
          refine ⟨k + 1, by omega, ?_, by rw [back_succ hlt]; exact hJ3, hKp _ _ hk3 hnx⟩
          congr 1; omega
        case measure => simp only [intOf]; omega
      · gi_wp2
        refine bodyPost_ret (results_none rfl _ _ _) rfl ?_
        exact ⟨⟨_, rfl⟩, .inr ⟨_, ⟨k + 1, by omega, (back_succ hlt).symm⟩, hJx3⟩⟩
    · obtain rfl : k = len := by omega
      have hneg : ¬ ((0 : Int) ≤ (k : Int) - 1 - k) := by omega
      gi_wp2
      go_end0
      first | exact ⟨⟨_, rfl⟩, .inl ⟨_, rfl, hJs⟩⟩ | exact ⟨⟨_, rfl⟩, .inl hJs⟩

set_option maxRecDepth 100000 in
set_option maxHeartbeats 1000000 in
theorem back_nil (F : Fence) (n : Nat) (hfn : F.fn 142) (hro : F.round = none) (q : Nat) (ad : Addr) (J : List (Fin 0) → World → Prop) (W : World) (hc0 : W.cell? ad = some (.slice none 0 0)) (h0 : J [] W) :
    CallsIn F n Tryd.prog 142 #[.func (.yield q) #[] #[], .pointer (some ad)] W fun e W' => (∃ v, e = .returned v) ∧ J [] W' := by
  refine callsIn_of_wp Tryd.func142 rfl hfn ?_ hro
  simp only [Tryd.ntmps142, List.size_toArray, List.length_cons, List.length_nil, Nat.reduceAdd, Nat.reduceSub, Array.replicate_succ, Array.replicate_zero, List.push_toArray, List.append_toArray, List.nil_append, List.cons_append]
  gi_wp2
  gi_loopw [3] (fun i wr => i = .int .i64 (-1) ∧ J [] wr) (fun _ _ => 0)
  case atStart => exact ⟨by simp, h0⟩
  case round =>
    obtain ⟨rfl, hJs⟩ := hrel
    gi_wp2
    go_end0
    first | exact ⟨⟨_, rfl⟩, hJs⟩ | exact hJs

theorem iter_back (l : List Nat) (hlen : l.length ≤ 17592186044416) : PIter E 142 [.ref [NL l]] l.length (fun j => u (l.getD j 0)) := by
  refine ⟨fun args w => ?_, fun w Pr lb hPr hsz hreps => ?_⟩
  · have h1 : (Tryd.f142).name ≠ "runtime.NumGoroutine" := by decide +kernel
    have hb : (Tryd.f142).body.isSome = true := by kernel_rfl
    obtain ⟨c, hc⟩ := Option.isSome_iff_exists.1 hb
    simp [callFunc, show E.P.funcs[142]? = some Tryd.f142 from Tryd.func142, h1, hc]
  · obtain ⟨v, rfl⟩ : ∃ v, lb = #[v] := by
      have h2 : lb.toList.length = 1 := by simpa using hsz
      match hv : lb.toList, h2 with
      | [x], _ => exact ⟨x, by apply Array.toList_inj.1; rw [hv]⟩
    obtain ⟨ad, xs, rfl, hall, hm⟩ := (hreps 0 _ v rfl rfl).ref_inv
    obtain ⟨sv, hsv, hrep, _⟩ := hall.at_ (j := 0) rfl
    have hm0 := hm 0 sv hsv
    rw [Addr.add_zero'] at hm0
    refine ⟨fun j => .int .u64 (l.getD j 0 : Nat), fun j hj => Rep.int _ _, fun q J Jx W hW hJ hJx hY h0 => ?_⟩
    have hb : ∀ p x, rd w Pr p = some x → W.cell? p = some x := fun p x hx => by
      obtain ⟨h1, h2⟩ := rd_some.1 hx
      rw [hW.cell (hPr _ _ h1)]; exact h2
    rcases hrep.lst_inv with ⟨rfl, h0l, _⟩ | ⟨b, cap, us, rfl, hn, _, hus, hmu⟩
    · have hl0 : l = [] := List.eq_nil_of_length_eq_zero h0l
      subst hl0
      refine (back_nil (RF none) 3 trivial rfl q ad J W (hb _ _ hm0) h0).mono fun e W' ⟨he, hj⟩ => ⟨he, .inl ⟨[], rfl, hj⟩⟩
    · refine back_in (RF none) 3 trivial rfl (by decide) q l.length cap ad b l hlen (Kg (rd w Pr)) J Jx
        (fun A => ∀ p x, rd w Pr p = some x → A.cell? p = some x) (fun A B hk hA p x hx => hk p x hx (hA p x hx)) (fun A hA => ⟨hA _ _ hm0, fun j hj => ?_⟩) hY W hb h0
      obtain ⟨x, hx, hrx, _⟩ := hus.at_ (j := j) (c := u (l.getD j 0)) (by rw [U_get, List.getD_eq_getElem?_getD, List.getElem?_eq_getElem hj]; rfl)
      have := hA _ _ (hmu j x hx)
      rw [this, hrx.int_inv]

theorem c_Backward (n : Nat) (cs : List PV) : PC E 114 [.lst n cs] (.clo 142 [.ref [.lst n cs]]) := by
  refine PC.of_body follows Tryd.func114 (by decide +kernel) rfl (by kernel_rfl) (Nat.le_of_ble_eq_true rfl) (walk ?_)
  simp only [Tryd.f114, go_sem]
end Go.Proofs.YtejmlngnpekagaaDoor
end

/- What cmp.Compare, nat.Cmp and nat.Sub hand back. -/
section
open Go PG Go.Proofs
set_option maxRecDepth 100000
set_option linter.unusedSimpArgs false
set_option linter.unusedVariables false
namespace Go.Proofs.YtejmlngnpekagaaDoor
attribute [local go_sem] Lay2 Lay3 Lay4 Lay5 Lay6 Lay7 Lay8 Lay9 Lay10 Lay11 Lay12 Lay13 Lay14 Lay15 Lay16 Lay17 Lay18 Lay19 Lay21 Lay22 Lay23 Lay24 Lay25 Lay30 Lay33 Lay36 Lay37 Lay46 Lay47 Lay48 Lay53 Lay54 Lay55 Lay59 Lay100 Lay101 Lay127 Lay146 Lay162 Lay168 Lay169 Lay173 Lay185 Lay186 Lay187 Lay188 Lay189 Lay191 Lay192 Lay194 Lay195 Lay196 Lay199 qexec_seq qexec_skip qexec_exit qexec_ret qexec_block qexec_loop qexec_range qexec_cond qexec_region qexec_drawn qops_nil qops_none qops_some put_some put_none pblk_exit pblk_other newDsts_nil inlDsts_nil isInl sget_cons sget_nil qval_some qbool_some qgs_bool qgs_und qfree_some qgrd_true qgrd_false qif_true qif_false qval_ite qval_itn qand_true map_ite map_some' map_none' qdo_move qdo_assign qdo_binOp qdo_pick qdo_unOp qdo_convert qdo_extract qdo_field qdo_fieldAddr qdo_alloc qdo_box qdo_build qdo_buildSlice qdo_load qdo_store qdo_nilCheck qdo_makeFunc qdo_makeSlice qdo_slice qdo_indexAddr qdo_call qcont_val qcont_new qcont_st qcont_app0 qcont_app qcont_inl qcont_call njSV_val njSV_nil njSV_row njSV_ptr njSV_sub binV_val binV_nil binV_nn binV_ptr bin_np bin_nnp nilCmp bin_add bin_sub bin_mul bin_quo bin_rem bin_and bin_or bin_xor bin_andNot bin_eql bin_neq bin_lss bin_leq bin_gtr bin_geq bin_shl bin_shr bin_seql bin_sneq bin_sadd bin_beql bin_aeql bin_aneq eqAnd_some eqCells_nil eqCells_cons fieldTypes isStruct eqCell bin_bneq un_not un_neg nj_ite Nat.beq stepA stepR isNew opSV constSV RV.sv allSome E_mu E_own qkeyIn_none qkeyIn_some qkeyAt_none qkeyAt_some Bool.or_false Bool.false_or Bool.or_true Bool.true_or cst setB res resSV pstart startL killL kill1 eraL frzL svPV rvPV rvInt rvSlice frzOf close closeL pconv pbuiltin pmax2 partPV setCells fillPV zrow bound newSV PV.cells Bk.cells Bk.with SV.key pres presL_nil presL_tmp presL_cell presC2_some cellPV_ptr presC List.toList_toArray List.size_toArray List.getElem?_drop Nat.mul_one Int.toNat_natCast Nat.not_lt_zero Nat.lt_irrefl decide_true decide_false Nat.not_lt Option.some.injEq PV.lst.injEq PV.int.injEq PV.bool.injEq PV.tuple.injEq List.cons.injEq Option.map_some Option.map_none Option.bind_some Option.toList List.map_cons List.map_nil List.nil_append List.cons_append List.append_nil List.zip_cons_cons List.zip_nil_left List.zip_nil_right List.getElem?_cons_zero List.getElem?_cons_succ List.drop_zero List.drop_succ_cons List.take_succ_cons List.take_zero List.set_cons_zero List.set_cons_succ List.length_cons List.length_nil List.length_set List.replicate_one List.replicate_zero bne_self_eq_false beq_self_eq_true Nat.zero_add Nat.add_zero Nat.zero_mul Bool.false_eq_true Bool.true_eq_false Bool.not_true Bool.not_false and_true true_and false_and and_false or_false false_or or_true true_or not_true_eq_false not_false_eq_true ne_eq gt_iff_lt List.mem_cons List.not_mem_nil
attribute [local go_sem ↓] pseq_normal pseq_ret pseq_exit pblk_normal pblk_ret newDsts_cons inlDsts_cons gdst_zero gdst_succ retQ_normal retQ_ret qneed_nil qneed_cons retM_normal retM_ret endR_normal endR_ret endR_exit
attribute [local go_sem] Int.reduceToNat Int.reduceEq Int.reduceNe Int.reduceLT Int.reduceLE Int.reduceNeg Int.reduceAdd Nat.reduceEqDiff Nat.reduceAdd Nat.reduceSub Nat.reduceMul Nat.reduceLeDiff Nat.reduceLT
attribute [local go_sem ↓] reduceIte reduceCtorEq

/-- -1, 0, 1. -/
def sgn (a b : Int) : Int := if a < b then -1 else if b < a then 1 else 0

theorem c_isNaN_int (x : Int) : PC E 117 [.int .i64 x] (.bool false) := by
  refine PC.of_body follows Tryd.func117 (by decide +kernel) rfl (by kernel_rfl) (Nat.le_of_ble_eq_true rfl) (walk ?_)
  simp only [Tryd.f117, go_sem]

theorem c_isNaN_u64 (x : Nat) : PC E 154 [u x] (.bool false) := by
  refine PC.of_body follows Tryd.func154 (by decide +kernel) rfl (by kernel_rfl) (Nat.le_of_ble_eq_true rfl) (walk ?_)
  simp only [Tryd.f154, u, go_sem]

theorem c_Compare_int (x y : Int) : PC E 72 [.int .i64 x, .int .i64 y] (.int .i64 (sgn x y)) := by
  refine PC.of_body follows Tryd.func72 (by decide +kernel) rfl (by kernel_rfl) (Nat.le_of_ble_eq_true rfl) (walk ?_)
  simp only [Tryd.f72, go_sem]
  refine qcall_i (c_isNaN_int x) ?_
  simp only [Tryd.f72, go_sem]
  refine qcall_i (c_isNaN_int y) ?_
  simp only [Tryd.f72, go_sem]
  refine qif_d (fun h => ?_) (fun h => ?_)
  · simp only [Tryd.f72, go_sem]
    simp [sgn, h]
  · simp only [Tryd.f72, go_sem]
    refine qif_d (fun h' => ?_) (fun h' => ?_)
    · simp only [Tryd.f72, go_sem]
      simp [sgn, h, h']
    · simp only [Tryd.f72, go_sem]
      simp [sgn, h, h']

theorem c_Compare_u64 (x y : Nat) : PC E 140 [u x, u y] (.int .i64 (sgn x y)) := by
  refine PC.of_body follows Tryd.func140 (by decide +kernel) rfl (by kernel_rfl) (Nat.le_of_ble_eq_true rfl) (walk ?_)
  simp only [Tryd.f140, u, go_sem]
  refine qcall_i (c_isNaN_u64 x) ?_
  simp only [Tryd.f140, u, go_sem]
  refine qcall_i (c_isNaN_u64 y) ?_
  simp only [Tryd.f140, u, go_sem]
  refine qif_d (fun h => ?_) (fun h => ?_)
  · simp only [Tryd.f140, u, go_sem]
    simp [sgn, h]
  · simp only [Tryd.f140, u, go_sem]
    refine qif_d (fun h' => ?_) (fun h' => ?_)
    · simp only [Tryd.f140, u, go_sem]
      simp [sgn, h, h']
    · simp only [Tryd.f140, u, go_sem]
      simp [sgn, h, h']

theorem dv_eq_of {b : Nat} : ∀ (l r : List Nat), l.length = r.length → (∀ i, i < l.length → l.getD i 0 = r.getD i 0) → dv b l = dv b r
  | [], [], _, _ => rfl
  | [], _ :: _, h, _ => by simp at h
  | _ :: _, [], h, _ => by simp at h
  | d :: l, e :: r, h, ha => by
    have h0 := ha 0 (by simp)
    simp at h0
    simp only [dv]
    rw [h0, dv_eq_of l r (by simpa using h) fun i hi => by have := ha (i + 1) (by simpa using hi); simpa using this]

theorem dv_lt_of {b : Nat} : ∀ (l r : List Nat) (i : Nat), Ok b l → l.length = r.length → i < l.length → l.getD i 0 < r.getD i 0 → (∀ j, i < j → j < l.length → l.getD j 0 = r.getD j 0) → dv b l < dv b r
  | [], _, i, _, _, hi, _, _ => by simp at hi
  | _ :: _, [], _, _, h, _, _, _ => by simp at h
  | d :: l, e :: r, 0, ho, h, hi, hlt, ha => by
    simp at hlt
    simp only [dv]
    rw [dv_eq_of l r (by simpa using h) fun i hi => by have := ha (i + 1) (by omega) (by simpa using hi); simpa using this]
    omega
  | d :: l, e :: r, i + 1, ho, h, hi, hlt, ha => by
    have ih := dv_lt_of l r i ho.tail (by simpa using h) (by simpa using hi) (by simpa using hlt) fun j hj hjl => by have := ha (j + 1) (by omega) (by simpa using hjl); simpa using this
    have hd := ho.head
    simp only [dv]
    have : b * (dv b l + 1) ≤ b * dv b r := Nat.mul_le_mul_left _ ih
    rw [Nat.mul_add, Nat.mul_one] at this
    omega

theorem mem_back {n : Nat} {j : Nat} : ∀ k, k ≤ n → (j ∈ (back (n := n) k).map (·.1) ↔ n - k ≤ j ∧ j < n)
  | 0, _ => by simp [back]
  | k + 1, h => by
    rw [back_succ h, List.map_append, List.mem_append, mem_back k (by omega)]
    simp only [List.map_cons, List.map_nil, List.mem_singleton]
    omega

theorem sgn_of_len {x y : Nat} (h : (dg W x).length ≠ (dg W y).length) : sgn ((dg W x).length : Int) ((dg W y).length : Int) = sgn x y := by
  have hx := (dg_length_le W2 _ x).1 (Nat.le_refl _)
  have hy := (dg_length_le W2 _ y).1 (Nat.le_refl _)
  unfold sgn
  rcases Nat.lt_or_gt_of_ne h with hlt | hlt
  · have hxy : x < y := by
      refine Nat.lt_of_not_le fun hle => ?_
      have := (dg_length_le W2 (dg W x).length y).2 (Nat.lt_of_le_of_lt hle hx)
      omega
    rw [if_pos (by omega), if_pos (by omega)]
  · have hxy : y < x := by
      refine Nat.lt_of_not_le fun hle => ?_
      have := (dg_length_le W2 (dg W y).length x).2 (Nat.lt_of_le_of_lt hle hy)
      omega
    rw [if_neg (by omega), if_pos (by omega), if_neg (by omega), if_pos (by omega)]

theorem c_Cmp (a b : List Nat) (ha : a.length ≤ 1048576) (hb : b.length ≤ 1048576) (oa : Ok W a) (ob : Ok W b) : PC E 112 [NL a, NL b] (.int .i64 (sgn (vl a) (vl b))) := by
  refine PC.of_body follows Tryd.func112 (by decide +kernel) rfl (by kernel_rfl) (Nat.le_of_ble_eq_true rfl) (walk ?_)
  simp only [NL]
  simp only [Tryd.f112, go_sem]
  refine qcall_i (n_Bare a (by omega) oa) ?_
  simp only [Tryd.f112, go_sem]
  refine qcall_i (n_Bare b (by omega) ob) ?_
  have hla : (dg W (vl a)).length ≤ a.length := (dg_length_le W2 _ _).2 (dv_lt a oa)
  have hlb : (dg W (vl b)).length ≤ b.length := (dg_length_le W2 _ _).2 (dv_lt b ob)
  generalize vl a = x at *
  generalize vl b = y at *
  have hx := dv_dg W2 x
  have hy := dv_dg W2 y
  have ox := ok_dg W2 x
  have oy := ok_dg W2 y
  have hlen := @sgn_of_len x y
  simp only [NN, NL]
  generalize dg W x = l at *
  generalize dg W y = r at *
  simp only [Tryd.f112, go_sem]
  refine qcall_i (c_Compare_int _ _) ?_
  simp only [Tryd.f112, go_sem]
  refine qif_d (fun h => ?_) (fun h => ?_)
  · have hne : l.length ≠ r.length := fun e => h (by simp [sgn, e])
    simp only [Tryd.f112, go_sem]
    rw [hlen hne]
  · have hll : l.length = r.length := by
      unfold sgn at h
      split at h
      · simp at h
      · split at h
        · simp at h
        · omega
    simp only [Tryd.f112, go_sem]
    refine qcall_i (c_Backward _ _) ?_
    simp only [Tryd.f112, go_sem]
    let St : Int → List (Nat × (Bk × Bool)) := fun c => [(2, (.box [.lst l.length (U l)], false)), (3, (.box [.lst r.length (U r)], false)), (4, (.box [.int .i64 c], false))]
    refine PRange.intro (iter_back l (by omega)) rfl (by decide) (by decide) (by decide) (by decide) (.inl rfl) (by omega) (fun _ => St 0) (fun pre => ∀ i ∈ pre, l.getD i 0 = r.getD i 0)
      (fun pre e σ => e = .ret ∧ ∃ p0 i, pre = p0 ++ [i] ∧ i < l.length ∧ (∀ i ∈ p0, l.getD i 0 = r.getD i 0) ∧ l.getD i 0 ≠ r.getD i 0 ∧ σ = St (sgn (l.getD i 0 : Nat) (r.getD i 0 : Nat))) (by simp) ?_ (fun pre i hJ hp hi => walk ?_) (fun hJ => ?_) (fun k e σx hk hq => ?_)
    · simp [St, sget]
    · have hxl : (U l)[i]? = some (u (l.getD i 0)) := by
        rw [U_get, List.getD_eq_getElem?_getD, List.getElem?_eq_getElem hi]; rfl
      have hxr : (U r)[i]? = some (u (r.getD i 0)) := by
        rw [U_get, List.getD_eq_getElem?_getD, List.getElem?_eq_getElem (show i < r.length by omega)]; rfl
      simp only [St, shiftT, shiftSV, shiftB]
      simp only [Tryd.f112, go_sem]
      refine qand_i (by omega) ?_
      simp only [Tryd.f112, hxl, go_sem]
      refine qand_i (by omega) ?_
      simp only [Tryd.f112, hxr, go_sem]
      refine qcall_i (c_Compare_u64 _ _) ?_
      simp only [Tryd.f112, go_sem]
      refine qif_d (fun hc => ?_) (fun hc => ?_)
      · simp only [Tryd.f112, go_sem]
        refine ⟨St (sgn (l.getD i 0 : Nat) (r.getD i 0 : Nat)), ⟨pre, i, rfl, hi, hJ, fun e => hc (by rw [e]; simp [sgn]), rfl⟩, by simp [St, sget]⟩
      · simp only [Tryd.f112, go_sem]
        refine ⟨fun j hj => ?_, by simp [St, sget]⟩
        rcases List.mem_append.1 hj with hj | hj
        · exact hJ j hj
        · simp only [List.mem_singleton] at hj
          subst hj
          unfold sgn at hc
          split at hc
          · simp at hc
          · split at hc
            · simp at hc
            · omega
    · have e : x = y := by
        rw [← hx, ← hy]
        exact dv_eq_of l r hll fun i hi => hJ i ((mem_back _ (Nat.le_refl _)).2 (by omega))
      subst e
      simp only [St]
      simp only [Tryd.f112, go_sem]
      simp [sgn]
    · obtain ⟨rfl, p0, i, hpre, hi, hJ, hne, rfl⟩ := hq
      have hk0 : 0 < k := by
        cases k with
        | zero => simp [back] at hpre
        | succ k => omega
      obtain ⟨k, rfl⟩ : ∃ j, k = j + 1 := ⟨k - 1, by omega⟩
      rw [back_succ hk, List.map_append] at hpre
      obtain ⟨rfl, hi'⟩ := List.append_inj' hpre rfl
      simp only [List.map_cons, List.map_nil, List.cons.injEq, and_true] at hi'
      have hup : ∀ j, i < j → j < l.length → l.getD j 0 = r.getD j 0 := fun j h1 h2 => hJ j ((mem_back _ (by omega)).2 (by omega))
      have e : sgn (l.getD i 0 : Nat) (r.getD i 0 : Nat) = sgn x y := by
        unfold sgn
        rcases Nat.lt_or_gt_of_ne hne with hlt | hlt
        · have := dv_lt_of (b := W) l r i ox hll hi hlt hup
          rw [hx, hy] at this
          rw [if_pos (by omega), if_pos (by omega)]
        · have := dv_lt_of (b := W) r l i oy hll.symm (by omega) hlt (fun j h1 h2 => (hup j h1 (by omega)).symm)
          rw [hx, hy] at this
          rw [if_neg (by omega), if_pos (by omega), if_neg (by omega), if_pos (by omega)]
      rw [e]
      simp only [St]
      simp only [Tryd.f112, go_sem]


theorem borrow_le (A B M : Nat) : borrow A B M ≤ 1 := by unfold borrow; split <;> omega

theorem c_Sub (a b : List Nat) (ha : a.length ≤ 1048576) (hb : b.length ≤ 1048576) (oa : Ok W a) (ob : Ok W b) :
    PC E 113 [NL a, NL b] (if vl a < vl b then .tuple [.lst 0 [], .int .i64 1] else .tuple [NN (vl a - vl b), .int .i64 0]) := by
  refine PC.of_body follows Tryd.func113 (by decide +kernel) rfl (by kernel_rfl) (Nat.le_of_ble_eq_true rfl) (walk ?_)
  simp only [Tryd.f113, go_sem]
  refine qcall_i (c_Cmp a b ha hb oa ob) ?_
  simp only [NL]
  simp only [Tryd.f113, go_sem]
  refine qif_d (fun h => ?_) (fun h => ?_)
  · have hlt : vl a < vl b := by
      unfold sgn at h
      split at h
      · omega
      · split at h <;> simp at h
    simp only [Tryd.f113, go_sem]
    rw [if_pos hlt]
  · have hge : ¬ vl a < vl b := fun hlt => h (by unfold sgn; rw [if_pos (by omega)]; decide)
    rw [if_neg hge]
    have hA : vl a < W ^ a.length := dv_lt a oa
    simp only [Tryd.f113, go_sem]
    refine qand_i (by omega) ?_
    simp only [Tryd.f113, go_sem]
    generalize hA0 : vl a = A at *
    generalize hB0 : vl b = B at *
    have hM1 : A - B < W ^ a.length := by omega
    refine PLoop.intro (fun i : Nat => ⟨[(0, .val (NL a)), (1, .val (NL b)), (6, .row 15), (7, .val (u (borrow A B (W ^ i)))), (17, .val (.int .i64 a.length)), (18, .val (.int .i64 i))],
      [(15, (.row 22 1 a.length (U (tab W (A - B) i ++ List.replicate (a.length - i) 0)), false))]⟩) (fun i => i ≤ a.length) (fun i => a.length - i) 0 (by omega) ?_ fun i hi => walk ?_
    · simp [Wk, sget, NL, borrow_one, u, U, tab]
    · simp only [NL]
      simp only [Tryd.f113, go_sem]
      refine qif_d (fun h => ?_) (fun h => ?_)
      · have hMi : 0 < W ^ i := Nat.pow_pos W0
        have hwi : IntKind.wrap .i64 ((i : Int) + 1) = ((i + 1 : Nat) : Int) := by rw [wrap64 (by omega) (by omega)]; omega
        have hx : (U a)[i]? = some (u (A / W ^ i % W)) := by
          rw [U_get, ← hA0, ← dv_get W0 _ oa i, List.getD_eq_getElem?_getD, List.getElem?_eq_getElem (show i < a.length by omega)]; rfl
        simp only [Tryd.f113, go_sem]
        refine qand_i (by omega) ?_
        simp only [Tryd.f113, go_sem]
        refine qval_i (congrArg (Option.map _) hx) ?_
        simp only [Tryd.f113, go_sem]
        refine qcall_i (n_limb b ob i) ?_
        simp only [Tryd.f113, go_sem]
        rw [hB0, lb_nat]
        refine qcall_i (c_Sub64 _ _ _ (borrow_le _ _ _)) ?_
        simp only [Tryd.f113, go_sem]
        refine qand_i (by omega) ?_
        simp only [Tryd.f113, u, go_sem]
        refine qand_i (by simp [U, tab]; omega) ?_
        simp only [Tryd.f113, hwi, go_sem]
        refine ⟨i + 1, by omega, by omega, ?_⟩
        have e1 := borrow_digit (W := W) hMi (show B ≤ A by omega) W0
        have e2 : (A / W ^ i % W + W - B / W ^ i % W - borrow A B (W ^ i)) % W = (A - B) / W ^ i % W := by
          rw [← e1]
          have h1 : B / W ^ i % W < W := Nat.mod_lt _ W0
          have h2 := borrow_le A B (W ^ i)
          have : A / W ^ i % W + W + W - B / W ^ i % W - borrow A B (W ^ i) = (A / W ^ i % W + W - B / W ^ i % W - borrow A B (W ^ i)) + W := by omega
          rw [this, Nat.add_mod_right]
        rw [e2, ← borrow_next hMi, ← Nat.pow_succ]
        simp [Wk, sget, u, NL]
        rw [← fill_set (by omega), ← U_set]
        rfl
      · have e : i = a.length := by omega
        subst e
        simp only [Tryd.f113, go_sem]
        rw [Nat.sub_self, List.replicate_zero, List.append_nil]
        refine qcall_i (r := NN (A - B)) (PC.at_list (n_Bare (tab W (A - B) a.length) (by rw [tab_length]; omega) (ok_tab W0 _ _)) (tab_length _ _ _) ((dv_tab _ _).trans (Nat.mod_eq_of_lt hM1))) ?_
        simp only [Tryd.f113, go_sem]
end Go.Proofs.YtejmlngnpekagaaDoor
end
